/- Ythocajnpofdbmaa: a text of our own, by an AI agent: Ef16G -/
import Derived.Test.YthocajnpofdbmaaEf15G
set_option linter.unusedSimpArgs false
set_option linter.unusedVariables false
set_option maxRecDepth 100000
namespace Go.Proofs.Ythocajnpofdbmaa.S
open Go Go.RowKit Go.Alog Go.Proofs.Ythocajnpofdbmaa.T Go.Proofs.Ythocajnpofdbmaa.V

theorem wf_u8 {n : Int} (h : (Lit.int .u8 n).wf = true) : 0 ≤ n ∧ n ≤ 255 := by
  have e1 : IntKind.min .u8 = 0 := by decide
  have e2 : IntKind.max .u8 = 255 := by decide
  simpa [Lit.wf, e1, e2] using h
theorem two_ext {l r : List Int} (hl : Two l) (hr : Two r) (h : ∀ n, n ∈ l ↔ n ∈ r) : l = r := by
  have h1 := fun n => (h n).1
  have h2 := fun n => (h n).2
  cases hl with
  | none => cases hr with
    | none => rfl
    | one x => exact absurd (h2 x (by simp)) (by simp)
    | two x y => exact absurd (h2 x (by simp)) (by simp)
  | one a => cases hr with
    | none => exact absurd (h1 a (by simp)) (by simp)
    | one x => have := h1 a (by simp); simp at this; rw [this]
    | two x y => have q1 := h2 x (by simp); have q2 := h2 y (by simp); simp at q1 q2; omega
  | two a b => cases hr with
    | none => exact absurd (h1 a (by simp)) (by simp)
    | one x => have q1 := h1 a (by simp); have q2 := h1 b (by simp); simp at q1 q2; omega
    | two x y =>
      have q1 := h1 a (by simp); have q2 := h1 b (by simp); have q3 := h2 x (by simp); have q4 := h2 y (by simp)
      simp at q1 q2 q3 q4
      have : a = x := by omega
      have : b = y := by omega
      subst a; subst b; rfl
theorem right_reg3 {op a b c : Int} (h : 1 ≤ op ∧ op ≤ 9) (ha : 0 ≤ a ∧ a ≤ 31) (hb : 0 ≤ b ∧ b ≤ 31) (hc : 0 ≤ c ∧ c ≤ 31) : rightR ⟨op, a, b, c, 0⟩ = true := by
  rw [← rightI_eq]
  unfold rightI pOk pA pB pC regI
  simp only [Bool.and_eq_true, decide_eq_true_eq, Bool.or_eq_true]
  refine ⟨⟨⟨⟨by omega, by omega⟩, by omega⟩, by omega⟩, .inl rfl⟩
theorem reads_swap {op a b c a' : Int} (h : 1 ≤ op ∧ op ≤ 9) (ha : 0 ≤ a ∧ a ≤ 31) (ha' : 0 ≤ a' ∧ a' ≤ 31) (hb : 0 ≤ b ∧ b ≤ 31) (hc : 0 ≤ c ∧ c ≤ 31) : readsL ⟨op, a, b, c, 0⟩ = readsL ⟨op, a', c, b, 0⟩ := by
  refine two_ext (readsL_two _) (readsL_two _) fun n => ?_
  rw [← List.contains_iff_mem, ← List.contains_iff_mem, readsL_c, readsL_c]
  unfold readsR fieldL
  rw [right_reg3 h ha hb hc, right_reg3 h ha' hc hb]
  simp only [if_pos h, Bool.true_and, List.contains_cons, List.contains_nil, Bool.or_false]
  rw [Bool.or_comm (n == b)]

theorem law_EffectNone (W : World) (x0 : Int) (w0 : (Lit.int .u8 x0).wf = true) (x1 : Int) (w1 : (Lit.int .u8 x1).wf = true) (x2 : Int) (w2 : (Lit.int .u8 x2).wf = true) (x3 : Int) (w3 : (Lit.int .u8 x3).wf = true) :
    CallsA Try.prog W 6 #[.int .u8 x0, .int .u8 x1, .int .u8 x2, .int .u8 x3] (mOf W) (fun r _ => r = .bool true) := by
  have g0 := wf_u8 w0
  have g1 := wf_u8 w1
  have g2 := wf_u8 w2
  have g3 := wf_u8 w3
  have t : ∀ x k : Int, 0 ≤ x → x ≤ 255 → 0 < k → k ≤ 255 → IntKind.wrap .i64 (Int.tmod x k) = x % k := by
    intro x k h0 h1 h2 h3
    rw [Int.tmod_eq_emod_of_nonneg h0, IntKind.wrap_i64]
    have := Int.emod_nonneg x (by omega : k ≠ 0)
    have := Int.emod_lt_of_pos x h2
    omega
  have e0 : IntKind.wrap .i64 (1 + (IntKind.wrap .i64 (Int.tmod x0 9))) = 1 + x0 % 9 := by rw [t _ _ (by omega) (by omega) (by omega) (by omega), IntKind.wrap_i64]; omega
  have e1 := t x1 32 (by omega) (by omega) (by omega) (by omega)
  have e2 := t x2 32 (by omega) (by omega) (by omega) (by omega)
  have e3 := t x3 32 (by omega) (by omega) (by omega) (by omega)
  refine cf6 W _ x0 x1 x2 x3 _ ?_
  rw [e0, e1, e2, e3]
  have ho : 1 ≤ 1 + x0 % 9 ∧ 1 + x0 % 9 ≤ 9 := by omega
  have hx : 0 ≤ x1 % 32 ∧ x1 % 32 ≤ 31 := by omega
  have hy : 0 ≤ x2 % 32 ∧ x2 % 32 ≤ 31 := by omega
  have hz : 0 ≤ x3 % 32 ∧ x3 % 32 ≤ 31 := by omega
  generalize 1 + x0 % 9 = op at ho ⊢
  generalize hA : x1 % 32 = a at hx e1 ⊢
  generalize x2 % 32 = bb at hy ⊢
  generalize x3 % 32 = cc at hz ⊢
  refine ⟨rfl, by decide, rfl, rfl, by decide, rfl, by decide, rfl, blk5 fun b1 M1 l1 n1 hb1 p1 => ⟨_, cel p1 rfl, rfl, by decide, _, cel p1 rfl, _, cel p1 rfl, rfl, blk5 fun b2 M2 l2 n2 hb2 p2 => ?_⟩⟩
  replace p1 : M2 b1 = some (.cells (Ins.cells ⟨op, 0, bb, cc, 0⟩).toArray 23) := l2 _ _ p1
  replace p2 : M2 b2 = some (.cells (Ins.cells ⟨op, a, cc, bb, 0⟩).toArray 23) := p2
  have sw : readsL ⟨op, 0, bb, cc, 0⟩ = readsL ⟨op, a, cc, bb, 0⟩ := reads_swap ho (by omega) hx hy hz
  have wi : writesP ⟨op, 0, bb, cc, 0⟩ = 0 := by
    unfold writesP fieldW; rw [if_pos (right_reg3 ho (by omega) hy hz), if_pos ⟨ho.1, Int.le_trans ho.2 (by decide)⟩]
  have wj : writesP ⟨op, a, cc, bb, 0⟩ = a := by
    unfold writesP fieldW; rw [if_pos (right_reg3 ho hx hz hy), if_pos ⟨ho.1, Int.le_trans ho.2 (by decide)⟩]
  have tl := two_len (readsL_two ⟨op, a, cc, bb, 0⟩)
  generalize (⟨op, 0, bb, cc, 0⟩ : Ins) = i at p1 sw wi
  generalize (⟨op, a, cc, bb, 0⟩ : Ins) = j at p2 sw wj tl
  refine vr6_1110 W M2 _ _ x1 b1 b2 (fun A n c A' n' c' m' => n = (readsL j).length ∧ n' = (readsL j).length ∧ Reads m' 1 A n (intCells .i64 (readsL j)) ∧ Reads m' 1 A' n' (intCells .i64 (readsL j)) ∧ M2.le m') rfl rfl rfl ?_ ?_
  · refine ldIns p1 ⟨callReads fun A c m3 l3 r3 => ?_, ldIns p2 (callReads fun A c m3 l3 r3 => ?_)⟩
    · refine ldIns (l3 _ _ p2) (callReads fun A' c' m4 l4 r4 => ⟨rfl, rfl, rfl, rfl, rfl, rfl, ?_⟩)
      rw [sw] at r3 ⊢
      exact ⟨rfl, rfl, r3.le l4, r4, AM.le_trans l3 l4⟩
    · refine callReads fun A' c' m4 l4 r4 => ⟨rfl, rfl, rfl, rfl, rfl, rfl, ?_⟩
      rw [sw] at r3 ⊢
      exact ⟨rfl, rfl, r3.le l4, r4, AM.le_trans l3 l4⟩
  · rintro σ A n c A' n' c' m ⟨rfl, rfl, r3, r4, l4⟩
    refine ⟨rfl, bcEF (by simp) ?_⟩
    refine vl6_11111010 W m _ _ _ _ _ _ _ _ _ _ _ _ _ (fun k i m' => m' = m ∧ 0 ≤ i ∧ i ≤ (readsL j).length ∧ (k : Int) = (readsL j).length - i) (fun m' => m' = m) (readsL j).length rfl rfl rfl rfl rfl rfl rfl ⟨rfl, by omega, by omega, by omega⟩ ?_ ?_
    · rintro k σ i m' ⟨rfl, i0', i1, hk⟩
      refine ⟨rfl, bcP (fun c1 => ⟨⟨i0', c1⟩, ?_⟩) fun c1 => ⟨rfl, rfl, rfl, rfl, rfl, rfl, rfl⟩⟩
      obtain ⟨ad, rfl, hc⟩ := r3.ex (by omega)
      obtain ⟨bd, rfl, hd⟩ := r4.ex (by omega)
      rw [nilO_some]
      refine ⟨_, cell_k hc i0' c1, ⟨i0', c1⟩, ?_⟩
      rw [nilO_some]
      have w : IntKind.wrap .i64 (i + 1) = i + 1 := by rw [IntKind.wrap_i64]; omega
      refine ⟨_, cell_k hd i0' c1, rfl, bcEF (by simp) ⟨rfl, rfl, rfl, rfl, rfl, rfl, rfl, rfl, k - 1, by omega, ?_⟩⟩
      rw [w]
      exact ⟨rfl, by omega, by omega, by omega⟩
    · rintro σ m' rfl
      refine ldIns (l4 _ _ p1) (callI (writes_e W m' i) ?_)
      rw [wi]
      refine ⟨rfl, bcT (ldIns (l4 _ _ p2) (callI (writes_e W m' j) ?_))⟩
      rw [wj, e1]
      have e : (bif (0 : Int) == 0 then a == a else false) = true := by simp
      exact ⟨rfl, by decide, rfl, bcET e (aw3 W m' e)⟩
end Go.Proofs.Ythocajnpofdbmaa.S
