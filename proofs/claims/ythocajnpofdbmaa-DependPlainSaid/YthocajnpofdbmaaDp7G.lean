/- Ythocajnpofdbmaa: a text of our own, by an AI agent: Dp7G -/
import Derived.Test.YthocajnpofdbmaaDp6G
set_option linter.unusedSimpArgs false
set_option linter.unusedVariables false
set_option maxRecDepth 100000
namespace Go.Proofs.Ythocajnpofdbmaa.S
open Go Go.RowKit Go.Alog Go.Proofs.Ythocajnpofdbmaa.T Go.Proofs.Ythocajnpofdbmaa.V

/-- 0, 1, .. -/
def ordI (n : Nat) : List Int := (List.range n).map (fun k : Nat => (k : Int))
/-- 0, -1, 1, -1, .. -/
def wideI (n : Nat) : List Int := (List.range n).flatMap (fun k : Nat => [(k : Int), -1])
theorem ordI_len (n : Nat) : (ordI n).length = n := by simp [ordI]
theorem ordI_succ (n : Nat) : ordI (n + 1) = ordI n ++ [(n : Int)] := by simp [ordI, List.range_succ]
theorem wideI_succ (n : Nat) : wideI (n + 1) = wideI n ++ [(n : Int), -1] := by simp [wideI, List.range_succ]
theorem wideI_len : ∀ n : Nat, (wideI n).length = 2 * n
  | 0 => rfl
  | n + 1 => by rw [wideI_succ, List.length_append, wideI_len n]; simp; omega
theorem ordI_mem {n : Nat} {x : Int} : x ∈ ordI n ↔ 0 ≤ x ∧ x < n := by
  unfold ordI
  rw [List.mem_map]
  constructor
  · rintro ⟨k, h, rfl⟩; have := List.mem_range.1 h; omega
  · rintro ⟨h0, h1⟩; exact ⟨x.toNat, List.mem_range.2 (by omega), by omega⟩
theorem wideI_mem {n : Nat} {x : Int} : x ∈ wideI n → x = -1 ∨ (0 ≤ x ∧ x < n) := by
  unfold wideI
  rw [List.mem_flatMap]
  rintro ⟨k, h, hx⟩
  have := List.mem_range.1 h
  simp at hx
  omega
theorem ordI_get {n k : Nat} (h : k < n) : (ordI n).getD k 0 = k := by simp [ordI, List.getD, h]
theorem ordI_take {n k : Nat} (h : k ≤ n) : (ordI n).take k = ordI k := by
  unfold ordI
  rw [← List.map_take, List.take_range, Nat.min_eq_left h]
theorem ordI_wh {n : Nat} {k : Nat} (h : k < n) : whP (ordI n) k = k := by
  refine whP_at (by rw [ordI_len]; exact h) (ordI_get h) ?_
  rw [ordI_take (by omega), ordI_mem]
  omega
theorem wideI_get : ∀ {n k : Nat}, k < n → (wideI n).getD (2 * k) 0 = k ∧ (wideI n).getD (2 * k + 1) 0 = -1 ∧ (wideI n).take (2 * k) = wideI k
  | 0, k, h => by omega
  | n + 1, k, h => by
    have hlen := wideI_len n
    by_cases e : k = n
    · subst e
      rw [wideI_succ]
      refine ⟨?_, ?_, ?_⟩
      · simp [List.getD, List.getElem?_append_right, hlen]
      · simp [List.getD, List.getElem?_append_right, hlen]
      · rw [← hlen]; exact List.take_left
    · obtain ⟨h1, h2, h3⟩ := wideI_get (n := n) (k := k) (by omega)
      rw [wideI_succ]
      refine ⟨?_, ?_, ?_⟩
      · rw [← h1]; simp [List.getD, List.getElem?_append_left (show 2 * k < (wideI n).length by omega)]
      · rw [← h2]; simp [List.getD, List.getElem?_append_left (show 2 * k + 1 < (wideI n).length by omega)]
      · rw [List.take_append_of_le_length (by omega), h3]
theorem wideI_wh {n : Nat} {k : Nat} (h : k < n) : whP (wideI n) k = 2 * k := by
  obtain ⟨h1, h2, h3⟩ := wideI_get h
  have := whP_at (l := wideI n) (n := (k : Int)) (i := 2 * k) (by rw [wideI_len]; omega) h1 (by
    rw [h3]; intro hm; have := wideI_mem hm; omega)
  rw [this]; omega
/-- Is something late read by the next one, ahead of a place? -/
def LateQ (l : List Ins) (n : Nat) : Prop := ∃ k : Nat, 1 ≤ k ∧ k < n ∧ lateP (l.getD (k - 1) default) = true ∧ readsR (l.getD k default) (writesP (l.getD (k - 1) default)) = true
theorem plain_keeps (l : List Ins) : KeepsQ l (ordI l.length) ↔ ¬ LateQ l l.length := by
  constructor
  · rintro ⟨_, _, h⟩ ⟨k, h1, h2, h3, h4⟩
    have hf : farP (l.getD (k - 1) default) (l.getD k default) = 2 := by
      have := far_two (l.getD (k - 1) default) (l.getD k default)
      rw [h3, h4] at this
      simpa using this
    have := h (k - 1) k (by omega) h2
    unfold PairQ at this
    rw [hf, ordI_wh h2, ordI_wh (by omega)] at this
    have := this (by omega)
    omega
  · intro h
    refine ⟨fun k hk => ?_, fun n hn => ?_, fun i j hij hj hf => ?_⟩
    · rw [ordI_len] at hk
      refine .inr ?_
      rw [ordI_get hk, ordI_take (by omega), ordI_mem]
      omega
    · rw [ordI_mem]; omega
    · rw [ordI_wh hj, ordI_wh (by omega)]
      have hf2 := farP_in (l.getD i default) (l.getD j default)
      by_cases e : farP (l.getD i default) (l.getD j default) = 2
      · by_cases e2 : j = i + 1
        · exfalso
          apply h
          have := far_two (l.getD i default) (l.getD j default)
          rw [e] at this
          have : (lateP (l.getD i default) && readsR (l.getD j default) (writesP (l.getD i default))) = true := by rw [← this]; rfl
          simp only [Bool.and_eq_true] at this
          refine ⟨j, by omega, hj, ?_⟩
          rw [show j - 1 = i by omega]
          exact this
        · omega
      · omega
theorem wide_keeps (l : List Ins) : KeepsQ l (wideI l.length) := by
  refine ⟨fun k hk => ?_, fun n hn => ?_, fun i j hij hj hf => ?_⟩
  · rw [wideI_len] at hk
    rcases (show k = 2 * (k / 2) ∨ k = 2 * (k / 2) + 1 by omega) with e | e
    · obtain ⟨h1, h2, h3⟩ := wideI_get (n := l.length) (k := k / 2) (by omega)
      refine .inr ?_
      rw [e, h1, h3]
      refine ⟨by omega, by omega, fun hm => ?_⟩
      have := wideI_mem hm
      omega
    · obtain ⟨h1, h2, h3⟩ := wideI_get (n := l.length) (k := k / 2) (by omega)
      left
      rw [e, h2]
  · obtain ⟨h1, h2, h3⟩ := wideI_get hn
    rw [← h1]; exact getD_in (by rw [wideI_len]; omega)
  · rw [wideI_wh hj, wideI_wh (by omega)]
    have hf2 := farP_in (l.getD i default) (l.getD j default)
    omega
theorem int_one (k : IntKind) (l : List Int) : ∀ u ∈ intCells k l, u.oneCell' = true := by
  intro u hu; simp [intCells] at hu; obtain ⟨x, _, rfl⟩ := hu; rfl
theorem intCells_app (l r : List Int) : intCells .i64 (l ++ r) = intCells .i64 l ++ intCells .i64 r := by simp [intCells]

theorem law_DependPlain (W : World) (A0 : Option Addr) (n0 c0 : Nat) (l0 : List Ins) (z0 : l0.length = n0) (hlc0 : n0 ≤ c0) (rd0 : Reads (mOf W) 5 A0 n0 (insCells l0)) (y0 : n0 * 40 ≤ 140737488351232) (hw0 : ∀ i ∈ l0, i.wf) :
    CallsA Try.prog W 17 #[.slice A0 n0 c0] (mOf W) (fun r _ => r = .bool true) := by
  subst z0
  refine cf17 W _ A0 _ c0 _ ⟨rfl, bcP (fun h => aw10' W _) fun h => ?_⟩
  generalize hM : mOf W = M at rd0 ⊢
  let B := W.heap.size
  refine vl17_1111010 W M _ _ A0 _ c0 l0.length none 0 0 none 0 0 true 0
    (fun k A n c A2 n2 c2 t i m' => M.le m' ∧ 0 ≤ i ∧ i ≤ l0.length ∧ (k : Int) = l0.length - i ∧ n = i.toNat ∧ n2 = 2 * i.toNat ∧ Own m' W.heap.size 3 1 A n c (intCells .i64 (ordI i.toNat)) ∧ Own m' W.heap.size 3 1 A2 n2 c2 (intCells .i64 (wideI i.toNat)) ∧ (∀ x ∈ obl A, M x = none) ∧ (∀ x ∈ obl A2, M x = none) ∧ (∀ x ∈ obl A, x ∉ obl A2) ∧ (t = false ↔ LateQ l0 i.toNat))
    (fun A n c A2 n2 c2 t m' => M.le m' ∧ n = l0.length ∧ n2 = 2 * l0.length ∧ Own m' W.heap.size 3 1 A n c (intCells .i64 (ordI l0.length)) ∧ Own m' W.heap.size 3 1 A2 n2 c2 (intCells .i64 (wideI l0.length)) ∧ (t = false ↔ LateQ l0 l0.length)) l0.length rfl rfl rfl rfl rfl rfl ⟨AM.le_refl _, by omega, by omega, by omega, rfl, rfl, Own.nil _ _ _ _, Own.nil _ _ _ _, by simp [obl], by simp [obl], by simp [obl], ?_⟩ ?_ ?_
  · constructor
    · intro h; cases h
    · rintro ⟨k, h1, h2, _⟩; exact absurd h2 (by simp)
  · rintro k σ A n c A2 n2 c2 t i m' ⟨L, i0, i1, hk, rfl, rfl, ho, ho2, hn, hn2, hd, ht⟩
    refine ⟨rfl, bcP (fun c1 => ⟨rfl, ?_⟩) fun c1 => ?_⟩
    · have w : IntKind.wrap .i64 (i + 1) = i + 1 := wrap_s (by omega) (by omega)
      have wm : IntKind.wrap .i64 (i - 1) = i - 1 := wrap_s (by omega) (by omega)
      rw [w, wm]
      intro b4 hb4 hm4 m3
      have l3 : m'.le m3 := le_new hm4 _
      have r3 : Reads m3 1 (some ⟨b4, 0, none⟩) 1 (intCells .i64 [i]) := Reads.lit rfl
      clear_value m3
      refine awp_append_loc (m0 := M) el24 (AM.le_trans L l3) (ho.le l3) hn r3 (int_one _ _) (by omega) (by omega) (fun A' c' m6 l6 f6 o6 n6 k6 => ?_)
      rw [← intCells_app, show ordI i.toNat ++ [i] = ordI (i + 1).toNat by rw [show (i + 1).toNat = i.toNat + 1 by omega, ordI_succ, Int.toNat_of_nonneg i0], show i.toNat + 1 = (i + 1).toNat by omega] at o6
      rw [show i.toNat + 1 = (i + 1).toNat by omega]
      have ho2 := (ho2.le l3).fr f6 (fun x hx hx2 => hd x hx2 hx)
      have hd6 : ∀ x ∈ obl A', x ∉ obl A2 := fun x hx hx2 => by
        rcases k6 x hx with h | h
        · exact hd x h hx2
        · obtain ⟨_, cur, hc⟩ := (ho2).obl_some hx2
          have hx3 : m' x ≠ none := by
            intro hnone
            have := hn2 x hx2
            rcases Classical.em (x = b4) with e | e
            · subst e
              -- the literal's block is no block of the second row
              obtain ⟨_, cur2, hc2⟩ := (‹Own m' _ _ _ A2 _ _ _›).obl_some hx2
              rw [hnone] at hc2; cases hc2
            · obtain ⟨_, cur2, hc2⟩ := (‹Own m' _ _ _ A2 _ _ _›).obl_some hx2
              rw [hnone] at hc2; cases hc2
          cases hv : m' x with
          | none => exact hx3 hv
          | some o => rw [l3 _ _ hv] at h; cases h
      refine ⟨A', _, c', rfl, rfl, ?_⟩
      intro b11 hb11 hm11 m7
      have l7 : m6.le m7 := le_new hm11 _
      have r7 : Reads m7 1 (some ⟨b11, 0, none⟩) 2 (intCells .i64 [i, -1]) := Reads.lit rfl
      clear_value m7
      refine awp_append_loc (m0 := M) el24 (AM.le_trans l6 l7) (ho2.le l7) hn2 r7 (int_one _ _) (by omega) (by omega) (fun A3 c3 m8 l8 f8 o8 n8 k8 => ?_)
      rw [← intCells_app, show wideI i.toNat ++ [i, -1] = wideI (i + 1).toNat by rw [show (i + 1).toNat = i.toNat + 1 by omega, wideI_succ, Int.toNat_of_nonneg i0], show 2 * i.toNat + 2 = 2 * (i + 1).toNat by omega] at o8
      rw [show 2 * i.toNat + 2 = 2 * (i + 1).toNat by omega]
      have o6' := (o6.le l7).fr f8 hd6
      have hd8 : ∀ x ∈ obl A', x ∉ obl A3 := fun x hx hx3 => by
        rcases k8 x hx3 with h | h
        · exact hd6 x hx h
        · obtain ⟨_, cur, hc⟩ := o6.obl_some hx
          rw [l7 _ _ hc] at h; cases h
      have rd := rd0.le l8
      have nx : ∀ t' : Bool, (t' = false ↔ LateQ l0 (i.toNat + 1)) → ∃ n' : Nat, n' < k ∧ (M.le m8 ∧ 0 ≤ i + 1 ∧ i + 1 ≤ l0.length ∧ (n' : Int) = l0.length - (i + 1) ∧ (i + 1).toNat = (i + 1).toNat ∧ 2 * (i + 1).toNat = 2 * (i + 1).toNat ∧ Own m8 W.heap.size 3 1 A' (i + 1).toNat c' (intCells .i64 (ordI (i + 1).toNat)) ∧ Own m8 W.heap.size 3 1 A3 (2 * (i + 1).toNat) c3 (intCells .i64 (wideI (i + 1).toNat)) ∧ (∀ x ∈ obl A', M x = none) ∧ (∀ x ∈ obl A3, M x = none) ∧ (∀ x ∈ obl A', x ∉ obl A3) ∧ (t' = false ↔ LateQ l0 (i + 1).toNat)) :=
        fun t' h' => ⟨k - 1, by omega, l8, by omega, by omega, by omega, rfl, rfl, o6', o8, n6, n8, hd8, by rw [show (i + 1).toNat = i.toNat + 1 by omega]; exact h'⟩
      -- what stands at the place decides
      have same : (¬ (i > 0) ∨ lateP (cAt l0 (i - 1)) = false ∨ readsR (cAt l0 i) (writesP (cAt l0 (i - 1))) = false) → (t = false ↔ LateQ l0 (i.toNat + 1)) := by
        intro hx
        rw [ht]
        constructor
        · rintro ⟨q, h1, h2, h3⟩; exact ⟨q, h1, by omega, h3⟩
        · rintro ⟨q, h1, h2, h3, h4⟩
          by_cases e : q = i.toNat
          · exfalso
            have e1 : l0.getD (q - 1) default = cAt l0 (i - 1) := by unfold cAt; rw [show (i - 1).toNat = q - 1 by omega]
            have e2 : l0.getD q default = cAt l0 i := by unfold cAt; rw [e]
            rw [e1] at h3 h4
            rw [e2] at h4
            rcases hx with hx | hx | hx
            · omega
            · rw [hx] at h3; cases h3
            · rw [hx] at h4; cases h4
          · exact ⟨q, h1, by omega, h3, h4⟩
      refine ⟨A3, _, c3, rfl, rfl, bcP (fun c2 => ⟨rfl, ldAt rd rfl (by omega) (by omega) fun a => callB (refLate_e W m8 (cAt l0 (i - 1))) ?_⟩) fun c2 => ⟨decide_eq_false c2, ?_⟩⟩
      · rw [decide_eq_true c2]
        cases hl : lateP (cAt l0 (i - 1))
        · refine bcF ⟨rfl, ?_⟩
          repeat refine ⟨rfl, ?_⟩
          exact nx t (same (.inr (.inl hl)))
        · refine bcT (ldAt rd rfl i0 c1 fun a2 => ⟨rfl, ldAt rd rfl (by omega) (by omega) fun a3 => ⟨_, refWrites_e W m8 (cAt l0 (i - 1)), callB (refReads_e W m8 (cAt l0 i) _) ?_⟩⟩)
          cases hr : readsR (cAt l0 i) (writesP (cAt l0 (i - 1)))
          · refine bcF ?_
            repeat refine ⟨rfl, ?_⟩
            exact nx t (same (.inr (.inr hr)))
          · refine bcT ?_
            repeat refine ⟨rfl, ?_⟩
            refine nx false ⟨fun _ => ⟨i.toNat, by omega, by omega, ?_, ?_⟩, fun _ => rfl⟩
            · rw [← hl]; unfold cAt; rw [show (i - 1).toNat = i.toNat - 1 by omega]
            · rw [← hr]; unfold cAt; rw [show (i - 1).toNat = i.toNat - 1 by omega]
      · repeat refine ⟨rfl, ?_⟩
        exact nx t (same (.inl c2))
    · repeat refine ⟨rfl, ?_⟩
      have e : i.toNat = l0.length := by omega
      rw [e] at ho ho2 ht
      rw [e]
      exact ⟨L, rfl, rfl, ho, ho2, ht⟩
  · rintro σ A n c A2 n2 c2 t m' ⟨L, rfl, rfl, ho, ho2, ht⟩
    have e1 : keepsB l0 (ordI l0.length) = t := by
      cases t
      · exact keepsB_f fun h => (plain_keeps l0).1 h (ht.1 rfl)
      · refine keepsB_t ((plain_keeps l0).2 fun h => ?_)
        have := ht.2 h; cases this
    refine callB (keeps_e W m' A0 _ c0 l0 A _ c (ordI l0.length) rfl (ordI_len _) (by omega) (by rw [ordI_len]; omega) (rd0.le L) ho.reads) ?_
    rw [e1, bEq]
    refine bcT (callB (keeps_e W m' A0 _ c0 l0 A2 _ c2 (wideI l0.length) rfl (wideI_len _) (by omega) (by rw [wideI_len]; omega) (rd0.le L) ho2.reads) ?_)
    rw [keepsB_t (wide_keeps l0)]
    exact bcT (aw10 W m' rfl)
end Go.Proofs.Ythocajnpofdbmaa.S
