/- Ytadcbnldahcelaa: a text of our own, by an AI agent: P7C -/
import Derived.Test.YtadcbnldahcelaaL7bC
set_option linter.unusedSimpArgs false
set_option linter.unusedVariables false
set_option maxRecDepth 100000
namespace Go.Proofs.Ytadcbnldahcelaa.S
open Go Go.RowKit Go.Alog Go.Proofs.Ytadcbnldahcelaa.T Go.Proofs.Ytadcbnldahcelaa.V

/-! Plain laws of runs. -/
theorem runG_stop (code : List Ins) (n : Nat) {x : MS × Int × Int} (h : x.2.1 ≠ 0) : runG code n x = x := by
  obtain ⟨s, t, k⟩ := x
  cases n with
  | zero => rfl
  | succ n => simp only [runG]; rw [if_neg h]
theorem runG_add (code : List Ins) : ∀ (n k : Nat) (x : MS × Int × Int), runG code (n + k) x = runG code k (runG code n x)
  | 0, k, x => by rw [Nat.zero_add]; rfl
  | n + 1, k, (s, t, j) => by
    rw [show n + 1 + k = (n + k) + 1 by omega]
    by_cases h : t = 0
    · simp only [runG, if_pos h]; exact runG_add code n k _
    · rw [runG_stop code _ h, runG_stop code (n + 1) h, runG_stop code k h]
theorem actP_out (s : MS) (i : Ins) : s.out <+: (actP s i).1.out := by
  unfold actP
  simp only
  split
  · split <;> exact List.prefix_refl _
  split
  · split <;> exact List.prefix_refl _
  split
  · split <;> exact List.prefix_refl _
  split
  · unfold sysP
    split
    · exact List.prefix_refl _
    split
    · cases s.inp <;> exact List.prefix_refl _
    split
    · split
      · exact List.prefix_refl _
      · exact List.prefix_append _ _
    · exact List.prefix_refl _
  · exact List.prefix_refl _
theorem nextP_out (s : MS) (i : Ins) : (nextP s i).1.out = s.out := by
  unfold nextP
  simp only
  repeat' split
  all_goals rfl
theorem stepP_out (code : List Ins) (s : MS) : s.out <+: (stepP code s).1.out := by
  unfold stepP
  simp only
  split
  · exact List.prefix_refl _
  split
  · exact List.prefix_refl _
  split
  · exact List.prefix_refl _
  split
  · exact actP_out _ _
  split
  · exact actP_out _ _
  · show _ <+: ((nextP _ _).1.out)
    rw [nextP_out]
    split <;> exact actP_out _ _
theorem runG_out (code : List Ins) : ∀ (n : Nat) (x : MS × Int × Int), x.1.out <+: (runG code n x).1.out
  | 0, x => List.prefix_refl _
  | n + 1, (s, t, k) => by
    unfold runG
    split
    · exact (stepP_out code s).trans (runG_out code n ((stepP code s).1, (stepP code s).2, k + 1))
    · exact List.prefix_refl _
theorem runG_steps (code : List Ins) : ∀ (n : Nat) (x : MS × Int × Int), x.2.2 ≤ (runG code n x).2.2 ∧ (runG code n x).2.2 ≤ x.2.2 + n ∧ ((runG code n x).2.1 = 0 → (runG code n x).2.2 = x.2.2 + n)
  | 0, x => ⟨Int.le_refl _, by simp [runG], fun _ => by simp [runG]⟩
  | n + 1, (s, t, k) => by
    unfold runG
    split
    · obtain ⟨h1, h2, h3⟩ := runG_steps code n ((stepP code s).1, (stepP code s).2, k + 1)
      simp only at h1 h2 h3 ⊢
      exact ⟨by omega, by omega, fun h => by rw [h3 h]; omega⟩
    · rename_i h
      exact ⟨Int.le_refl _, by simp only; omega, fun h' => absurd h' h⟩

theorem stepP_behind (code more : List Ins) (s : MS) (h : (stepP code s).2 ≠ 2) : stepP (code ++ more) s = stepP code s := by
  have h1 : ¬ s.at_ < 0 := fun e => by unfold stepP at h; rw [if_pos e] at h; exact h rfl
  have h2 : ¬ s.at_ ≥ code.length := fun e => by unfold stepP at h; rw [if_neg h1, if_pos e] at h; exact h rfl
  have e1 : (code ++ more).getD s.at_.toNat default = code.getD s.at_.toNat default := by
    have : s.at_.toNat < code.length := by omega
    simp [List.getD, List.getElem?_append_left this]
  unfold stepP
  rw [if_neg h1, if_neg h2, if_neg h1, if_neg (by rw [List.length_append]; omega), e1]
theorem runG_behind (code more : List Ins) : ∀ (n : Nat) (x : MS × Int × Int), (runG code n x).2.1 ≠ 2 → runG (code ++ more) n x = runG code n x
  | 0, x, _ => rfl
  | n + 1, (s, t, k), h => by
    unfold runG at h ⊢
    split
    · rename_i ht
      rw [if_pos ht] at h
      have hs : (stepP code s).2 ≠ 2 := fun e => by
        rw [runG_stop code n (x := ((stepP code s).1, (stepP code s).2, k + 1)) (by show (stepP code s).2 ≠ 0; rw [e]; decide)] at h
        exact h e
      rw [stepP_behind code more s hs]
      exact runG_behind code more n _ h
    · rfl

/-- The same machine with more input. -/
def addIn (more : List Int) (s : MS) : MS := { s with inp := s.inp ++ more }
theorem sysP_in (more : List Int) (s : MS) (n : Int) (h : (sysP s n).2 ≠ 6) : sysP (addIn more s) n = (addIn more (sysP s n).1, (sysP s n).2) := by
  unfold sysP at h ⊢
  split
  · rfl
  · rename_i h0
    rw [if_neg h0] at h
    split
    · rename_i h1
      rw [if_pos h1] at h
      cases hin : s.inp with
      | nil => rw [hin] at h; exact absurd rfl h
      | cons x r => simp [addIn, hin]
    · split
      · by_cases hl : s.out.length ≥ 10000
        · rw [if_pos hl]; rw [if_pos (show (addIn more s).out.length ≥ 10000 from hl)]
        · rw [if_neg hl]; rw [if_neg (show ¬ (addIn more s).out.length ≥ 10000 from hl)]; rfl
      · rfl
theorem actP_in (more : List Int) (s : MS) (i : Ins) (h : (actP s i).2 ≠ 6) : actP (addIn more s) i = (addIn more (actP s i).1, (actP s i).2) := by
  have e1 : (addIn more s).regs = s.regs := rfl
  have e2 : (addIn more s).mem = s.mem := rfl
  unfold actP at h ⊢
  simp only [e1, e2] at h ⊢
  split
  · split <;> rfl
  · rename_i h12
    rw [if_neg h12] at h
    split
    · split <;> rfl
    · rename_i h13
      rw [if_neg h13] at h
      split
      · split <;> rfl
      · rename_i h14
        rw [if_neg h14] at h
        split
        · rename_i h20
          rw [if_pos h20] at h
          exact sysP_in more s _ h
        · rfl
theorem nextP_in (more : List Int) (s : MS) (i : Ins) : nextP (addIn more s) i = (addIn more (nextP s i).1, (nextP s i).2) := by
  unfold nextP
  simp only [show (addIn more s).regs = s.regs from rfl, show (addIn more s).at_ = s.at_ from rfl]
  repeat' split
  all_goals rfl

theorem stepP_in (code : List Ins) (more : List Int) (s : MS) (h : (stepP code s).2 ≠ 6) : stepP code (addIn more s) = (addIn more (stepP code s).1, (stepP code s).2) := by
  unfold stepP at h ⊢
  simp only [show (addIn more s).at_ = s.at_ from rfl] at h ⊢
  split
  · rfl
  · rename_i h1
    rw [if_neg h1] at h
    split
    · rfl
    · rename_i h2
      rw [if_neg h2] at h
      split
      · rfl
      · rename_i h3
        rw [if_neg h3] at h
        have ha : (actP s (code.getD s.at_.toNat default)).2 ≠ 6 := fun e => by
          rw [if_pos (by rw [e]; decide)] at h
          exact h e
        rw [actP_in more s _ ha]
        generalize actP s (code.getD s.at_.toNat default) = A at h ha
        obtain ⟨s1, t1⟩ := A
        simp only [show (addIn more s1).regs = s1.regs from rfl] at h ⊢
        split
        · rfl
        · split
          · rfl
          · generalize reckonP (code.getD s.at_.toNat default) (regOf s1.regs (code.getD s.at_.toNat default).b) (regOf s1.regs (code.getD s.at_.toNat default).c) = rk
            obtain ⟨v, t2, ok⟩ := rk
            cases ok
            · simp only [Bool.false_eq_true, if_false, nextP_in]; rfl
            · simp only [if_true]
              have := nextP_in more { s1 with regs := setR s1.regs (code.getD s.at_.toNat default).a v } (code.getD s.at_.toNat default)
              unfold addIn at this ⊢
              simp only at this ⊢
              rw [this]
theorem runG_in (code : List Ins) (more : List Int) : ∀ (n : Nat) (s : MS) (t k : Int), (runG code n (s, t, k)).2.1 ≠ 6 → runG code n (addIn more s, t, k) = (addIn more (runG code n (s, t, k)).1, (runG code n (s, t, k)).2)
  | 0, s, t, k, _ => rfl
  | n + 1, s, t, k, h => by
    unfold runG at h ⊢
    split
    · rename_i ht
      rw [if_pos ht] at h
      have hs : (stepP code s).2 ≠ 6 := fun e => by
        rw [runG_stop code n (x := ((stepP code s).1, (stepP code s).2, k + 1)) (by show (stepP code s).2 ≠ 0; rw [e]; decide)] at h
        exact h e
      rw [stepP_in code more s hs]
      exact runG_in code more n _ _ _ h
    · rfl

/-- The same machine with more memory. -/
def addMem (z : List Int) (s : MS) : MS := { s with mem := s.mem ++ z }
theorem sysP_mem2 (z : List Int) (s : MS) (n : Int) : sysP (addMem z s) n = (addMem z (sysP s n).1, (sysP s n).2) := by
  unfold sysP
  split
  · rfl
  split
  · cases hin : s.inp with
    | nil => simp [addMem, hin]
    | cons x r => simp [addMem, hin]
  split
  · by_cases hl : s.out.length ≥ 10000
    · rw [if_pos hl]; rw [if_pos (show (addMem z s).out.length ≥ 10000 from hl)]
    · rw [if_neg hl]; rw [if_neg (show ¬ (addMem z s).out.length ≥ 10000 from hl)]; rfl
  · rfl
theorem actP_mem2 (z : List Int) (s : MS) (i : Ins) (h : (actP s i).2 ≠ 3) : actP (addMem z s) i = (addMem z (actP s i).1, (actP s i).2) := by
  have e1 : (addMem z s).regs = s.regs := rfl
  unfold actP at h ⊢
  simp only [e1] at h ⊢
  generalize w32 (regOf s.regs i.b + i.imm) = ad at h ⊢
  have hm : (addMem z s).mem = s.mem ++ z := rfl
  split
  · rename_i h12
    rw [if_pos h12] at h
    by_cases hin : 0 ≤ ad ∧ ad < s.mem.length
    · have hlt : ad.toNat < s.mem.length := by omega
      rw [if_pos hin, if_pos (by rw [hm, List.length_append]; omega), hm]
      simp [addMem, List.getD, List.getElem?_append_left hlt]
    · rw [if_neg hin] at h; exact absurd rfl h
  · rename_i h12
    rw [if_neg h12] at h
    split
    · rename_i h13
      rw [if_pos h13] at h
      by_cases hin : 0 ≤ ad ∧ ad < s.mem.length
      · have hlt : ad.toNat < s.mem.length := by omega
        rw [if_pos hin, if_pos (by rw [hm, List.length_append]; omega), hm]
        simp [addMem, List.set_append_left _ _ hlt]
      · rw [if_neg hin] at h; exact absurd rfl h
    · rename_i h13
      rw [if_neg h13] at h
      split
      · split <;> rfl
      · rename_i h14
        rw [if_neg h14] at h
        split
        · exact sysP_mem2 z s _
        · rfl
theorem nextP_mem2 (z : List Int) (s : MS) (i : Ins) : nextP (addMem z s) i = (addMem z (nextP s i).1, (nextP s i).2) := by
  unfold nextP
  simp only [show (addMem z s).regs = s.regs from rfl, show (addMem z s).at_ = s.at_ from rfl]
  repeat' split
  all_goals rfl
theorem stepP_mem2 (code : List Ins) (z : List Int) (s : MS) (h : (stepP code s).2 ≠ 3) : stepP code (addMem z s) = (addMem z (stepP code s).1, (stepP code s).2) := by
  unfold stepP at h ⊢
  simp only [show (addMem z s).at_ = s.at_ from rfl] at h ⊢
  split
  · rfl
  · rename_i h1
    rw [if_neg h1] at h
    split
    · rfl
    · rename_i h2
      rw [if_neg h2] at h
      split
      · rfl
      · rename_i h3
        rw [if_neg h3] at h
        have ha : (actP s (code.getD s.at_.toNat default)).2 ≠ 3 := fun e => by
          rw [if_pos (by rw [e]; decide)] at h
          exact h e
        rw [actP_mem2 z s _ ha]
        generalize actP s (code.getD s.at_.toNat default) = A at h ha
        obtain ⟨s1, t1⟩ := A
        simp only [show (addMem z s1).regs = s1.regs from rfl] at h ⊢
        split
        · rfl
        · split
          · rfl
          · generalize reckonP (code.getD s.at_.toNat default) (regOf s1.regs (code.getD s.at_.toNat default).b) (regOf s1.regs (code.getD s.at_.toNat default).c) = rk
            obtain ⟨v, t2, ok⟩ := rk
            cases ok
            · simp only [Bool.false_eq_true, if_false, nextP_mem2]; rfl
            · simp only [if_true]
              have := nextP_mem2 z { s1 with regs := setR s1.regs (code.getD s.at_.toNat default).a v } (code.getD s.at_.toNat default)
              unfold addMem at this ⊢
              simp only at this ⊢
              rw [this]
theorem runG_mem2 (code : List Ins) (z : List Int) : ∀ (n : Nat) (s : MS) (t k : Int), (runG code n (s, t, k)).2.1 ≠ 3 → runG code n (addMem z s, t, k) = (addMem z (runG code n (s, t, k)).1, (runG code n (s, t, k)).2)
  | 0, s, t, k, _ => rfl
  | n + 1, s, t, k, h => by
    unfold runG at h ⊢
    split
    · rename_i ht
      rw [if_pos ht] at h
      have hs : (stepP code s).2 ≠ 3 := fun e => by
        rw [runG_stop code n (x := ((stepP code s).1, (stepP code s).2, k + 1)) (by show (stepP code s).2 ≠ 0; rw [e]; decide)] at h
        exact h e
      rw [stepP_mem2 code z s hs]
      exact runG_mem2 code z n _ _ _ h
    · rfl
theorem usedP_zeros (l : List Int) (n : Nat) : usedP (l ++ List.replicate n 0) = usedP l := by
  induction n with
  | zero => simp
  | succ n ih => rw [List.replicate_succ', ← List.append_assoc, usedP_snoc0, ih]
end Go.Proofs.Ytadcbnldahcelaa.S
