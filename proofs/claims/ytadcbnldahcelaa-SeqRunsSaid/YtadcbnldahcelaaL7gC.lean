/- Ytadcbnldahcelaa: a text of our own, by an AI agent: L7gC -/
import Derived.Test.YtadcbnldahcelaaL7fC
set_option linter.unusedSimpArgs false
set_option linter.unusedVariables false
set_option maxRecDepth 100000
namespace Go.Proofs.Ytadcbnldahcelaa.S
open Go Go.RowKit Go.Alog Go.Proofs.Ytadcbnldahcelaa.T Go.Proofs.Ytadcbnldahcelaa.V

theorem wf_i32 {n : Int} (h : (Lit.int .i32 n).wf = true) : -2147483648 ≤ n ∧ n ≤ 2147483647 := by
  unfold Lit.wf at h
  simp only [Bool.and_eq_true, decide_eq_true_eq] at h
  exact h
theorem law_SeqTells (W : World) (A0 : Option Addr) (n0 c0 : Nat) (l0 : List Int) (z0 : l0.length = n0) (hlc0 : n0 ≤ c0) (rd0 : Reads (mOf W) 1 A0 n0 (intCells .i32 l0)) (y0 : n0 * 4 ≤ 140737488351232) (hw0 : ∀ i ∈ l0, (Lit.int .i32 i).wf = true) :
    CallsA Try.prog W 6 #[.slice A0 n0 c0] (mOf W) (fun r _ => r = .bool true) := by
  refine cf6 W _ A0 n0 c0 _ ?_
  refine ⟨rfl, ?_⟩
  by_cases hbig : ((n0 : Nat) : Int) > 100
  · exact bcET (decide_eq_true hbig) (aw7 W _)
  refine bcEF (decide_eq_false hbig) ?_
  refine vl6_111010 W _ _ _ A0 n0 c0 A0 n0 c0 n0 none 0 0 0
    (fun k A n c i m' => (mOf W).le m' ∧ 0 ≤ i ∧ i ≤ n0 ∧ (k : Int) = n0 - i ∧ (n : Int) = i ∧ Own m' W.heap.size 3 1 A n c (intCells .i64 ((l0.take n).map (· + 4294967296))) ∧ ∀ x ∈ obl A, mOf W x = none)
    (fun A n c m' => (mOf W).le m' ∧ n = n0 ∧ Own m' W.heap.size 3 1 A n0 c (intCells .i64 (l0.map (· + 4294967296)))) n0 rfl rfl rfl rfl rfl ⟨AM.le_refl _, by omega, by omega, by omega, by omega, by simpa [intCells] using Own.nil (mOf W) W.heap.size 3 1, by simp [obl]⟩ ?_ ?_
  · rintro k σ A n c i m' ⟨L, h0, h1, hk, hn, ho, hnew⟩
    refine ⟨rfl, ?_⟩
    by_cases c1 : i < n0
    · refine bcET (decide_eq_true c1) ⟨⟨h0, c1⟩, ?_⟩
      obtain ⟨ad, hA, hc⟩ := (rd0.le L).ex (by omega)
      rw [hA]
      have hlt : i.toNat < l0.length := by omega
      have hx := wf_i32 (hw0 _ (List.getElem_mem hlt))
      have hd : l0.getD i.toNat 0 = l0[i.toNat] := by simp [List.getD, hlt]
      refine ⟨_, cell_k hc h0 (by omega), rfl, rfl, ?_⟩
      rw [hd]
      have w1 : IntKind.wrap .i64 (IntKind.wrap .i64 l0[i.toNat] + 4294967296) = l0[i.toNat] + 4294967296 := by rw [IntKind.wrap_i64, IntKind.wrap_i64]; omega
      rw [w1]
      intro b hb hmb m7
      have l7 : m'.le m7 := le_new hmb _
      have r7 : Reads m7 1 (some ⟨b, 0, none⟩) 1 [Value.int .i64 (l0[i.toNat] + 4294967296)] := Reads.lit rfl
      refine awp_append_loc (m0 := mOf W) el23 (AM.le_trans L l7) (ho.le l7) hnew r7 (by intro u hu; simp at hu; subst hu; rfl) (by omega) (by omega) (fun A' c' m9 l9 f9 o9 n9 _ => ?_)
      have w : IntKind.wrap .i64 (i + 1) = i + 1 := by rw [IntKind.wrap_i64]; omega
      refine ⟨A', n + 1, c', rfl, rfl, rfl, rfl, rfl, rfl, rfl, k - 1, by omega, ?_⟩
      rw [w]
      refine ⟨l9, by omega, by omega, by omega, by omega, ?_, n9⟩
      have e : l0.take (n + 1) = l0.take n ++ [l0[i.toNat]] := by
        have h2 : n = i.toNat := by omega
        subst h2
        exact List.take_succ_eq_append_getElem hlt
      rw [e]
      simpa [intCells] using o9
    · refine bcEF (decide_eq_false c1) ⟨rfl, rfl, rfl, rfl, L, by omega, ?_⟩
      have h2 : n = n0 := by omega
      rw [h2, List.take_of_length_le (by omega)] at ho
      exact ho
  · rintro σ A n c m' ⟨L, hn, ho⟩
    rw [hn]
    refine ⟨rfl, rfl, rfl, rfl, ?_⟩
    intro b hb hmb m14
    have l14 : m'.le m14 := le_new hmb _
    have hrc : Reads m14 5 (some ⟨b, 0, none⟩) 3 (insCells tellC) := Reads.lit rfl
    have hrun := run_of W m14 (some ⟨b, 0, none⟩) 3 3 tellC 0 A n0 c (l0.map (· + 4294967296)) 1000 rfl (by simp [z0]) (by constructor <;> decide) hrc (ho.le l14).reads (by omega)
    obtain ⟨h1, h2, h3⟩ := runP_tells (l0.map (· + 4294967296)) (by simp; omega)
    rw [List.length_map] at h2
    have hmm : (l0.map (· + 4294967296)).map w32 = l0 := by
      rw [List.map_map]
      conv => rhs; rw [← List.map_id l0]
      refine List.map_congr_left fun x hx => ?_
      have := wf_i32 (hw0 x hx)
      show w32 (x + 4294967296) = x
      rw [w32_eq]; omega
    rw [hmm] at h3
    generalize runP tellC 0 (l0.map (· + 4294967296)) 1000 = ra at hrun h1 h2 h3
    refine CallsA.mono hrun ?_
    rintro r m24 ⟨l24, Ao, co, Am, cm, rfl, hao, ham⟩
    refine ⟨_, _, _, _, _, _, _, _, rfl, ?_⟩
    refine blk4 fun b2 M lM nb hb2 pb => ?_
    have hao' := hao.le lM
    rw [h3] at pb hao'
    have d1 : ((((l0.length : Nat) : Int)) != ((n0 : Nat) : Int)) = false := by rw [z0]; simp
    have d2 : (ra.trap != 6) = false := by rw [h1]; rfl
    have w3 : IntKind.wrap .i64 (IntKind.wrap .i64 (3 * ((n0 : Nat) : Int)) + 1) = 3 * n0 + 1 := by rw [w64_id (n := 3 * ((n0 : Nat) : Int)) (by omega), w64_id (by omega)]
    have d3 : (ra.steps != IntKind.wrap .i64 (IntKind.wrap .i64 (3 * ((n0 : Nat) : Int)) + 1)) = false := by rw [h2, w3, z0]; simp
    refine ⟨_, _, _, cel pb rfl, rfl, ?_⟩
    refine bcEF d1 ⟨_, cel pb rfl, rfl, ?_⟩
    refine bcEF (by rw [d1, d2]; rfl) ⟨_, cel pb rfl, rfl, rfl, rfl, ?_⟩
    refine bcEF (by rw [d1, d2, d3]; rfl) ?_
    have L' := AM.le_trans (AM.le_trans (AM.le_trans L l14) l24) lM
    refine vl6_111111010 W M _ _ A0 n0 c0 b2 n0 0 (fun k i m' => m' = M ∧ 0 ≤ i ∧ i ≤ n0 ∧ (k : Int) = n0 - i) (fun m' => True) n0 rfl rfl rfl rfl ⟨rfl, by omega, by omega, by omega⟩ ?_ ?_
    · rintro k σ i m3 ⟨hm, h0, h1, hk⟩
      subst hm
      refine ⟨rfl, ?_⟩
      by_cases c1 : i < n0
      · obtain ⟨ad, hA, hc⟩ := hao'.ex (by omega)
        obtain ⟨ad0, hA0, hc0⟩ := (rd0.le L').ex (by omega)
        subst hA
        rw [hA0]
        refine bcET (decide_eq_true c1) ⟨_, _, _, cel pb rfl, ⟨h0, by omega⟩, ?_⟩
        refine ⟨_, cell_k hc h0 (by omega), ⟨h0, c1⟩, ?_⟩
        refine ⟨_, cell_k hc0 h0 (by omega), rfl, ?_⟩
        have hlt : i.toNat < l0.length := by omega
        have hx := wf_i32 (hw0 _ (List.getElem_mem hlt))
        have hd : l0.getD i.toNat 0 = l0[i.toNat] := by simp [List.getD, hlt]
        have w1 : IntKind.wrap .i64 (l0.getD i.toNat 0) = l0.getD i.toNat 0 := by rw [IntKind.wrap_i64]; omega
        have w : IntKind.wrap .i64 (i + 1) = i + 1 := by rw [IntKind.wrap_i64]; omega
        refine bcEF (by rw [w1]; simp) ⟨rfl, rfl, rfl, rfl, rfl, k - 1, by omega, rfl, ?_⟩
        rw [w]
        exact ⟨by omega, by omega, by omega⟩
      · exact bcEF (decide_eq_false c1) ⟨rfl, rfl, rfl, trivial⟩
    · rintro σ m3 _
      exact aw7 W m3

theorem regOf_same (regs : List Int) (r v : Int) (h : regs.length = 32) (hr : 1 ≤ r ∧ r ≤ 31) : regOf (setR regs r v) r = w32 v := by
  unfold regOf setR
  rw [if_neg (by omega)]
  have : r.toNat < 32 := by omega
  simp [List.getD, h, this]
theorem regOf_other (regs : List Int) (r k v : Int) (hr : 0 ≤ r) (hk : 0 ≤ k) (hne : r ≠ k) : regOf (setR regs r v) k = regOf regs k := by
  unfold regOf setR
  split
  · rfl
  · have : ¬ r.toNat = k.toNat := by omega
    simp [List.getD, List.getElem?_set_ne this]
/-- The sum of the numbers up to one. -/
def tri : Nat → Int
  | 0 => 0
  | n + 1 => tri n + (n + 1)
theorem tri_eq (n : Nat) : 2 * tri n = (n : Int) * (n + 1) := by
  induction n with
  | zero => rfl
  | succ n ih =>
    show 2 * (tri n + ((n : Int) + 1)) = _
    rw [Int.mul_add, ih]
    rw [← Int.add_mul, Int.mul_comm]
    have e : ((n + 1 : Nat) : Int) = (n : Int) + 1 := by omega
    rw [e]
    have e2 : (n : Int) + 1 + 1 = n + 2 := by omega
    rw [e2]
theorem tri_le (n : Nat) (h : n ≤ 100) : 0 ≤ tri n ∧ tri n ≤ 100 * n := by
  induction n with
  | zero => simp [tri]
  | succ n ih =>
    have := ih (by omega)
    show 0 ≤ tri n + ((n : Int) + 1) ∧ tri n + ((n : Int) + 1) ≤ 100 * ((n : Int) + 1)
    omega
/-- One round. -/
theorem loop_round (k : Int) (n : Nat) (regs : List Int) (c j acc : Int) (hl : regs.length = 32) (h1 : regOf regs 1 = j) (h4 : regOf regs 4 = acc) (h0 : regOf regs 0 = 0) (hj : 1 ≤ j ∧ j ≤ 100) (ha : 0 ≤ acc ∧ acc ≤ 100000) :
    ∃ regs', regs'.length = 32 ∧ regOf regs' 1 = j - 1 ∧ regOf regs' 4 = acc + j ∧ regOf regs' 0 = 0 ∧ runG (loopC k) (n + 3) (⟨regs, [], 1, [], []⟩, 0, c) = runG (loopC k) n (⟨regs', [], if j = 1 then 4 else 1, [], []⟩, 0, c + 3) := by
  have v1 : w32 (acc + j) = acc + j := w32_id (by omega)
  have v2 : w32 (j - 1) = j - 1 := w32_id (by omega)
  have wj : w32 j = j := w32_id (by omega)
  have wa : w32 acc = acc := w32_id (by omega)
  have e1 : IntKind.wrap .i64 (acc + j) = acc + j := w64_id (by omega)
  have e2 : IntKind.wrap .i64 (j + -1) = j - 1 := by rw [w64_id (by omega)]; omega
  have s1 : stepP (loopC k) ⟨regs, [], 1, [], []⟩ = (⟨setR regs 4 (acc + j), [], 2, [], []⟩, 0) := by
    have hk : reckonP ⟨1, 4, 4, 1, 0⟩ (regOf regs 4) (regOf regs 1) = (acc + j, 0, true) := by
      rw [h4, h1]
      unfold reckonP
      rw [show rightR ⟨1, 4, 4, 1, 0⟩ = true by decide +kernel, if_neg (by decide)]
      show (w32 (IntKind.wrap .i64 (w32 acc + w32 j)), (0 : Int), true) = _
      rw [wj, wa, e1, v1]
    rw [stepP_go (loopC k) _ ⟨regs, [], 1, [], []⟩ ⟨1, 4, 4, 1, 0⟩ _ true (show (0 : Int) ≤ 1 by decide) (show (1 : Int) < 6 by decide) rfl (by decide +kernel) rfl hk]
    rfl
  have g1 : regOf (setR regs 4 (acc + j)) 1 = j := by rw [regOf_other _ _ _ _ (by omega) (by omega) (by omega)]; exact h1
  have g4 : regOf (setR regs 4 (acc + j)) 4 = acc + j := by rw [regOf_same _ _ _ hl (by omega), v1]
  have g0 : regOf (setR regs 4 (acc + j)) 0 = 0 := by rw [regOf_other _ _ _ _ (by omega) (by omega) (by omega)]; exact h0
  have gl : (setR regs 4 (acc + j)).length = 32 := by rw [setR_len]; exact hl
  generalize setR regs 4 (acc + j) = r1 at s1 g1 g4 g0 gl
  have s2 : stepP (loopC k) ⟨r1, [], 2, [], []⟩ = (⟨setR r1 1 (j - 1), [], 3, [], []⟩, 0) := by
    have hk : reckonP ⟨10, 1, 1, 0, -1⟩ (regOf r1 1) (regOf r1 0) = (j - 1, 0, true) := by
      rw [g1, g0]
      unfold reckonP
      rw [show rightR ⟨10, 1, 1, 0, -1⟩ = true by decide +kernel, if_neg (by decide)]
      show (w32 (IntKind.wrap .i64 (w32 j + -1)), (0 : Int), true) = _
      rw [wj, e2, v2]
    rw [stepP_go (loopC k) _ ⟨r1, [], 2, [], []⟩ ⟨10, 1, 1, 0, -1⟩ _ true (show (0 : Int) ≤ 2 by decide) (show (2 : Int) < 6 by decide) rfl (by decide +kernel) rfl hk]
    rfl
  have k1 : regOf (setR r1 1 (j - 1)) 1 = j - 1 := by rw [regOf_same _ _ _ gl (by omega), v2]
  have k4 : regOf (setR r1 1 (j - 1)) 4 = acc + j := by rw [regOf_other _ _ _ _ (by omega) (by omega) (by omega)]; exact g4
  have k0 : regOf (setR r1 1 (j - 1)) 0 = 0 := by rw [regOf_other _ _ _ _ (by omega) (by omega) (by omega)]; exact g0
  have kl : (setR r1 1 (j - 1)).length = 32 := by rw [setR_len]; exact gl
  generalize setR r1 1 (j - 1) = r2 at s2 k1 k4 k0 kl
  have s3 : stepP (loopC k) ⟨r2, [], 3, [], []⟩ = (⟨r2, [], if j = 1 then 4 else 1, [], []⟩, 0) := by
    have hk : reckonP ⟨16, 1, 0, 0, -3⟩ (regOf r2 0) (regOf r2 0) = (0, 0, false) := by
      unfold reckonP
      rw [show rightR ⟨16, 1, 0, 0, -3⟩ = true by decide +kernel, if_neg (by decide)]
      rfl
    rw [stepP_go (loopC k) _ ⟨r2, [], 3, [], []⟩ ⟨16, 1, 0, 0, -3⟩ _ false (show (0 : Int) ≤ 3 by decide) (show (3 : Int) < 6 by decide) rfl (by decide +kernel) rfl hk]
    simp only [Bool.false_eq_true, if_false]
    unfold nextP
    simp only [k1, k0]
    rw [if_pos (by decide)]
    by_cases hj1 : j = 1
    · subst hj1; rfl
    · rw [if_neg hj1]
      have : (j - 1 == 0) = false := by simp; omega
      rw [this]; rfl
  refine ⟨r2, kl, k1, k4, k0, ?_⟩
  show runG (loopC k) (n + 2 + 1) _ = _
  rw [runG_one, s1]
  show runG (loopC k) (n + 1 + 1) _ = _
  rw [runG_one, s2, runG_one, s3]
  simp only [Int.add_assoc]
  rfl
theorem loop_rounds (k : Int) : ∀ (j : Nat) (n : Nat) (regs : List Int) (c acc : Int), regs.length = 32 → regOf regs 1 = j → regOf regs 4 = acc → regOf regs 0 = 0 → 1 ≤ j → j ≤ 100 → 0 ≤ acc → acc + 100 * j ≤ 100000 →
    ∃ regs', regOf regs' 4 = acc + tri j ∧ runG (loopC k) (n + 3 * j) (⟨regs, [], 1, [], []⟩, 0, c) = runG (loopC k) n (⟨regs', [], 4, [], []⟩, 0, c + 3 * j)
  | 0, _, _, _, _, _, _, _, _, h, _, _, _ => by omega
  | j + 1, n, regs, c, acc, hl, h1, h4, h0, hj, hj2, ha, hb => by
    obtain ⟨r, g0, g1, g2, g3, hr⟩ := loop_round k (n + 3 * j) regs c ((j : Int) + 1) acc hl (by rw [h1]; omega) h4 h0 (by omega) (by omega)
    have e : n + 3 * (j + 1) = n + 3 * j + 3 := by omega
    rw [e, hr]
    cases j with
    | zero =>
      refine ⟨r, by rw [g2]; simp [tri], ?_⟩
      rw [if_pos (by rfl)]
      rfl
    | succ j =>
      rw [if_neg (by omega)]
      obtain ⟨r', f1, f2⟩ := loop_rounds k (j + 1) n r (c + 3) (acc + ((j + 1 : Nat) + 1)) g0 (by rw [g1]; omega) g2 g3 (by omega) (by omega) (by omega) (by omega)
      refine ⟨r', ?_, ?_⟩
      · rw [f1]; show _ = acc + (tri (j + 1) + (((j + 1 : Nat) : Int) + 1)); omega
      · rw [f2]
        have : c + 3 + 3 * ((j + 1 : Nat) : Int) = c + 3 * ((j + 1 + 1 : Nat) : Int) := by omega
        rw [this]
theorem half_of {p q : Int} (h : 2 * q = p) : 0 + q = p / 2 := by omega
theorem loop_all (k : Nat) (hk : k < 100) : (runP (loopC ((k : Int) + 1)) 0 [] 1000).trap = 1 ∧ (runP (loopC ((k : Int) + 1)) 0 [] 1000).steps = 3 * ((k : Int) + 1) + 3 ∧ (runP (loopC ((k : Int) + 1)) 0 [] 1000).out = [((k : Int) + 1) * ((k : Int) + 2) / 2] := by
  unfold runP
  rw [if_neg (by simp [loopC])]
  simp only
  have e0 : beginS 0 [] = ⟨List.replicate 32 0, [], 0, [], []⟩ := rfl
  rw [e0]
  have ew : w32 ((k : Int) + 1) = (k : Int) + 1 := w32_id (by omega)
  have s0 : stepP (loopC ((k : Int) + 1)) ⟨List.replicate 32 0, [], 0, [], []⟩ = (⟨setR (List.replicate 32 0) 1 ((k : Int) + 1), [], 1, [], []⟩, 0) := by
    have hR : rightR ⟨10, 1, 0, 0, (k : Int) + 1⟩ = true := by
      have h5 : (k : Int) + 1 ≥ -32768 := by omega
      have h6 : (k : Int) + 1 ≤ 32767 := by omega
      have e1 : shapeR 10 = 11 := by decide
      have e2 : (11 : Int).tdiv 2 = 5 := by decide
      have e3 : (5 : Int).tdiv 2 = 2 := by decide
      have e4 : (2 : Int).tdiv 2 = 1 := by decide
      simp [rightR, e1, e2, e3, e4, partR, rangeR, h5, h6]
    have hv : reckonP ⟨10, 1, 0, 0, (k : Int) + 1⟩ (regOf (List.replicate 32 0) 0) (regOf (List.replicate 32 0) 0) = ((k : Int) + 1, 0, true) := by
      unfold reckonP
      rw [hR, if_neg (by decide)]
      show (w32 (IntKind.wrap .i64 (w32 0 + ((k : Int) + 1))), (0 : Int), true) = _
      rw [w32_w64, show w32 0 = 0 from rfl, Int.zero_add, ew]
    rw [stepP_go (loopC ((k : Int) + 1)) _ ⟨List.replicate 32 0, [], 0, [], []⟩ ⟨10, 1, 0, 0, (k : Int) + 1⟩ _ true (show (0 : Int) ≤ 0 by decide) (show (0 : Int) < 6 by decide) rfl hR rfl hv]
    rfl
  have hr1 : regOf (setR (List.replicate 32 0) 1 ((k : Int) + 1)) 1 = ((k + 1 : Nat) : Int) := by rw [regOf_same _ _ _ (by simp) (by omega), ew]; omega
  have hr4 : regOf (setR (List.replicate 32 0) 1 ((k : Int) + 1)) 4 = 0 := by rw [regOf_other _ _ _ _ (by omega) (by omega) (by omega)]; decide
  have hr0 : regOf (setR (List.replicate 32 0) 1 ((k : Int) + 1)) 0 = 0 := by rw [regOf_other _ _ _ _ (by omega) (by omega) (by omega)]; decide
  obtain ⟨n, hn⟩ : ∃ n, 999 = (n + 2) + 3 * (k + 1) := ⟨999 - 2 - 3 * (k + 1), by omega⟩
  obtain ⟨r', f1, f2⟩ := loop_rounds ((k : Int) + 1) (k + 1) (n + 2) (setR (List.replicate 32 0) 1 ((k : Int) + 1)) 1 0 (by rw [setR_len]; simp) hr1 hr4 hr0 (by omega) (by omega) (by omega) (by omega)
  have s4 : stepP (loopC ((k : Int) + 1)) ⟨r', [], 4, [], []⟩ = (⟨r', [], 5, [], [regOf r' 4]⟩, 0) := by
    rw [stepP_go (loopC ((k : Int) + 1)) _ ⟨r', [], 4, [], [regOf r' 4]⟩ ⟨20, 0, 0, 0, 2⟩ 0 false (show (0 : Int) ≤ 4 by decide) (show (4 : Int) < 6 by decide) rfl (by decide +kernel) rfl (by rfl)]
    rfl
  have s5 : stepP (loopC ((k : Int) + 1)) ⟨r', [], 5, [], [regOf r' 4]⟩ = (⟨r', [], 5, [], [regOf r' 4]⟩, 1) :=
    stepP_trap _ _ _ ⟨20, 0, 0, 0, 0⟩ 1 (show (0 : Int) ≤ 5 by decide) (show (5 : Int) < 6 by decide) rfl (by decide +kernel) rfl (by decide)
  have hrun : runG (loopC ((k : Int) + 1)) (1000 : Int).toNat (⟨List.replicate 32 0, [], 0, [], []⟩, 0, 0) = (⟨r', [], 5, [], [regOf r' 4]⟩, 1, 3 * ((k : Int) + 1) + 3) := by
    show runG (loopC ((k : Int) + 1)) (999 + 1) _ = _
    rw [runG_one, s0]
    show runG (loopC ((k : Int) + 1)) 999 (⟨setR (List.replicate 32 0) 1 ((k : Int) + 1), [], 1, [], []⟩, 0, 1) = _
    rw [hn, f2]
    show runG (loopC ((k : Int) + 1)) (n + 1 + 1) _ = _
    rw [runG_one, s4, runG_one, s5, runG_stop _ n (by show (1 : Int) ≠ 0; decide)]
    have : (1 : Int) + 3 * ((k + 1 : Nat) : Int) + 1 + 1 = 3 * ((k : Int) + 1) + 3 := by omega
    rw [this]
  rw [hrun]
  refine ⟨rfl, rfl, ?_⟩
  show [regOf r' 4] = _
  rw [f1]
  have h2 := tri_eq (k + 1)
  have h3 : (((k + 1 : Nat) : Int)) * (((k + 1 : Nat) : Int) + 1) = ((k : Int) + 1) * ((k : Int) + 2) := by
    have a : (((k + 1 : Nat) : Int)) = (k : Int) + 1 := by omega
    rw [a]
    have b : (k : Int) + 1 + 1 = (k : Int) + 2 := by omega
    rw [b]
  rw [h3] at h2
  rw [half_of h2]

theorem law_SeqLoop (W : World) (a0 : Int) (w0 : (Lit.int .u8 a0).wf = true) : CallsA Try.prog W 12 #[.int .u8 a0] (mOf W) (fun r _ => r = .bool true) := by
  have hb := wf_u8 w0
  refine cf12 W _ a0 _ ?_
  have t1 : Int.tmod a0 100 = a0 % 100 := Int.tmod_eq_emod_of_nonneg hb.1
  have t2 : IntKind.wrap .i64 (a0 % 100) = a0 % 100 := by rw [IntKind.wrap_i64]; omega
  have t3 : IntKind.wrap .i64 (1 + a0 % 100) = a0 % 100 + 1 := by rw [IntKind.wrap_i64]; omega
  rw [t1, t2, t3]
  obtain ⟨k, hk⟩ : ∃ k : Nat, a0 % 100 = k := ⟨(a0 % 100).toNat, by omega⟩
  have hk2 : k < 100 := by omega
  rw [hk]
  refine ⟨rfl, by decide, rfl, rfl, rfl, rfl, rfl, rfl, rfl, rfl, ?_⟩
  intro b hb hmb m2
  have hrc : Reads m2 5 (some ⟨b, 0, none⟩) 6 (insCells (loopC ((k : Int) + 1))) := Reads.lit rfl
  have hrun := run_of W m2 (some ⟨b, 0, none⟩) 6 6 (loopC ((k : Int) + 1)) 0 none 0 0 [] 1000 rfl rfl (by constructor <;> decide) hrc (Reads.nil _ 1) (by decide)
  obtain ⟨r1, r2, r3⟩ := loop_all k hk2
  generalize runP (loopC ((k : Int) + 1)) 0 [] 1000 = ra at hrun r1 r2 r3
  refine CallsA.mono hrun ?_
  rintro r m12 ⟨l12, Ao, co, Am, cm, rfl, hao, ham⟩
  refine ⟨_, _, _, _, _, _, _, _, rfl, ?_⟩
  refine blk4 fun b2 M lM nb hb2 pb => ?_
  have hao' := hao.le lM
  have u1 : IntKind.wrap .i64 (IntKind.wrap .i64 (3 * ((k : Int) + 1)) + 3) = 3 * ((k : Int) + 1) + 3 := by rw [w64_id (n := 3 * ((k : Int) + 1)) (by omega), w64_id (by omega)]
  have hmul : 0 ≤ ((k : Int) + 1) * ((k : Int) + 2) ∧ ((k : Int) + 1) * ((k : Int) + 2) ≤ 101 * 102 := by
    constructor
    · exact Int.mul_nonneg (by omega) (by omega)
    · exact Int.mul_le_mul (by omega) (by omega) (by omega) (by omega)
  have u2 : IntKind.wrap .i64 ((k : Int) + 1 + 1) = (k : Int) + 2 := by rw [IntKind.wrap_i64]; omega
  have u3 : IntKind.wrap .i64 (((k : Int) + 1) * ((k : Int) + 2)) = ((k : Int) + 1) * ((k : Int) + 2) := w64_id (by omega)
  have u4 : IntKind.wrap .i64 (Int.tdiv (((k : Int) + 1) * ((k : Int) + 2)) 2) = ((k : Int) + 1) * ((k : Int) + 2) / 2 := by rw [Int.tdiv_eq_ediv_of_nonneg hmul.1]; exact w64_id (by omega)
  rw [u1, u2, u3, u4]
  rw [r3] at hao' pb
  have e1 : (ra.trap == 1) = true := by rw [r1]; rfl
  have e2 : (ra.steps == (3 * ((k : Int) + 1) + 3)) = true := by rw [r2]; simp
  have e3 : (((([((k : Int) + 1) * ((k : Int) + 2) / 2] : List Int).length : Nat) : Int) == 1) = true := rfl
  have e4 : ((((k : Int) + 1) * ((k : Int) + 2) / 2) == (((k : Int) + 1) * ((k : Int) + 2) / 2)) = true := by simp
  refine ⟨_, cel pb rfl, rfl, ?_⟩
  refine bcET e1 ⟨_, cel pb rfl, rfl, rfl, rfl, ?_⟩
  refine bcET (by rw [e1, e2]; rfl) ⟨_, _, _, cel pb rfl, rfl, ?_⟩
  refine bcET (by rw [e1, e2]; rfl) ⟨_, _, _, cel pb rfl, ⟨by decide, by simp⟩, ?_⟩
  obtain ⟨ad, hA, hc⟩ := hao'.ex (by simp)
  subst hA
  have hx := hc 0 _ rfl
  refine ⟨_, hx, rfl, rfl, rfl, by decide, rfl, ?_⟩
  refine bcET (by rw [e1, e2, e4]; rfl) ?_
  exact awB W _ (by rw [e1, e2, e4]; rfl)
end Go.Proofs.Ytadcbnldahcelaa.S
