/- Ytadcbnldahcelaa: a text of our own, by an AI agent: P8iC -/
import Derived.Test.YtadcbnldahcelaaP8hC
import Derived.Test.YtadcbnldahcelaaL7dC
import Derived.Test.YtadcbnldahcelaaL7mC
set_option linter.unusedSimpArgs false
set_option linter.unusedVariables false
set_option maxRecDepth 100000
namespace Go.Proofs.Ytadcbnldahcelaa.S
open Go Go.RowKit Go.Alog Go.Proofs.Ytadcbnldahcelaa.T Go.Proofs.Ytadcbnldahcelaa.V

theorem runPG_stop (code : List Ins) (n : Nat) {x : PS × Int × Int} (h : x.2.1 ≠ 0) : runPG code n x = x := by
  obtain ⟨s, t, k⟩ := x
  cases n with
  | zero => rfl
  | succ n => simp only [runPG]; rw [if_neg h]
theorem runPG_add (code : List Ins) : ∀ (n k : Nat) (x : PS × Int × Int), runPG code (n + k) x = runPG code k (runPG code n x)
  | 0, k, x => by rw [Nat.zero_add]; rfl
  | n + 1, k, (s, t, j) => by
    rw [show n + 1 + k = (n + k) + 1 by omega]
    by_cases h : t = 0
    · simp only [runPG, if_pos h]; exact runPG_add code n k _
    · rw [runPG_stop code _ h, runPG_stop code (n + 1) h, runPG_stop code k h]
theorem runPG_one (code : List Ins) (n : Nat) (s : PS) (k : Int) : runPG code (n + 1) (s, 0, k) = runPG code n ((cycleP code s).1, (cycleP code s).2, k + 1) := by simp [runPG]

theorem sysL_out (s : PS) (l : La) : s.out <+: (sysL s l).1.out ∧ (s.out.length ≤ 10000 → (sysL s l).1.out.length ≤ 10000) := by
  unfold sysL
  split
  · exact ⟨List.prefix_refl _, id⟩
  split
  · cases s.inp <;> exact ⟨List.prefix_refl _, id⟩
  split
  · split
    · exact ⟨List.prefix_refl _, id⟩
    · refine ⟨List.prefix_append _ _, fun _ => ?_⟩
      show (s.out ++ [l.stored]).length ≤ 10000
      rw [List.length_append, List.length_singleton]; omega
  · exact ⟨List.prefix_refl _, id⟩
theorem cycle_out (code : List Ins) (s : PS) : s.out <+: (cycleP code s).1.out ∧ (s.out.length ≤ 10000 → (cycleP code s).1.out.length ≤ 10000) := by
  show s.out <+: (pactP (writeP s)).1.out ∧ (s.out.length ≤ 10000 → (pactP (writeP s)).1.out.length ≤ 10000)
  unfold pactP; simp only []
  split
  · exact ⟨List.prefix_refl _, id⟩
  split
  · split <;> exact ⟨List.prefix_refl _, id⟩
  split
  · split <;> exact ⟨List.prefix_refl _, id⟩
  split
  · exact sysL_out { writeP s with k := La0 } (writeP s).k
  · exact ⟨List.prefix_refl _, id⟩
theorem runPG_out (code : List Ins) : ∀ (n : Nat) (x : PS × Int × Int), x.1.out <+: (runPG code n x).1.out ∧ (x.1.out.length ≤ 10000 → (runPG code n x).1.out.length ≤ 10000)
  | 0, x => ⟨List.prefix_refl _, id⟩
  | n + 1, (s, t, k) => by
    unfold runPG
    split
    · obtain ⟨h1, h2⟩ := cycle_out code s
      obtain ⟨h3, h4⟩ := runPG_out code n ((cycleP code s).1, (cycleP code s).2, k + 1)
      exact ⟨h1.trans h3, fun h => h4 (h2 h)⟩
    · exact ⟨List.prefix_refl _, id⟩
theorem runPG_steps (code : List Ins) : ∀ (n : Nat) (x : PS × Int × Int), x.2.2 ≤ (runPG code n x).2.2 ∧ (runPG code n x).2.2 ≤ x.2.2 + n ∧ ((runPG code n x).2.1 = 0 → (runPG code n x).2.2 = x.2.2 + n)
  | 0, x => ⟨Int.le_refl _, by simp [runPG], fun _ => by simp [runPG]⟩
  | n + 1, (s, t, k) => by
    unfold runPG
    split
    · obtain ⟨h1, h2, h3⟩ := runPG_steps code n ((cycleP code s).1, (cycleP code s).2, k + 1)
      simp only at h1 h2 h3 ⊢
      refine ⟨by omega, by omega, fun h => ?_⟩
      have := h3 h
      omega
    · rename_i h
      simp only
      exact ⟨by omega, by omega, fun h2 => absurd h2 h⟩
theorem runPP_len (code : List Ins) (mem : Int) (inp : List Int) (fuel : Int) : (runPP code mem inp fuel).out.length ≤ 1000000 ∧ (runPP code mem inp fuel).mem.length ≤ 1000000 := by
  unfold runPP
  split
  · simp
  · rename_i h
    have h1 := (runPG_out code fuel.toNat (beginPS mem inp, 0, 0)).2 (by simp [beginPS])
    have h2 := runPG_mem code fuel.toNat (beginPS mem inp, 0, 0)
    have h3 := usedP_len (runPG code fuel.toNat (beginPS mem inp, 0, 0)).1.mem
    simp only [beginPS, List.length_replicate] at h1 h2 h3 ⊢
    omega
theorem runPP_more (code : List Ins) (mem : Int) (inp : List Int) (few more : Int) (h : few ≤ more) :
    ((runPP code mem inp few).trap ≠ 0 → runPP code mem inp few = runPP code mem inp more) ∧ ((runPP code mem inp few).trap = 0 → (runPP code mem inp few).out <+: (runPP code mem inp more).out) := by
  unfold runPP
  by_cases hbad : code.length > 4096 ∨ mem < 0 ∨ mem > 32000
  · rw [if_pos hbad, if_pos hbad]
    exact ⟨fun _ => rfl, fun _ => List.prefix_refl _⟩
  rw [if_neg hbad, if_neg hbad]
  simp only
  have e : more.toNat = few.toNat + (more.toNat - few.toNat) := by omega
  rw [e, runPG_add]
  exact ⟨fun ht => by rw [runPG_stop code _ ht], fun ht => (runPG_out code (more.toNat - few.toNat) (runPG code few.toNat (beginPS mem inp, 0, 0))).1⟩

/-! With more memory, more input. -/
def addMemP (z : List Int) (s : PS) : PS := { s with mem := s.mem ++ z }
def addInP (z : List Int) (s : PS) : PS := { s with inp := s.inp ++ z }
theorem sysL_addMem (z : List Int) (s : PS) (l : La) : sysL (addMemP z s) l = (addMemP z (sysL s l).1, (sysL s l).2) := by
  obtain ⟨regs, mem, at_, inp, out, f, r, k, a⟩ := s
  unfold sysL addMemP
  simp only
  split
  · rfl
  split
  · cases inp <;> rfl
  split
  · split <;> rfl
  · rfl
theorem pact_addMem (z : List Int) (s : PS) (h : (pactP s).2 ≠ 3) : pactP (addMemP z s) = (addMemP z (pactP s).1, (pactP s).2) := by
  unfold pactP at h ⊢
  simp only [] at h ⊢
  have e1 : (addMemP z s).k = s.k := rfl
  have e2 : (addMemP z s).mem = s.mem ++ z := rfl
  rw [e1, e2]
  split
  · rfl
  rename_i h1
  rw [if_neg h1] at h
  split
  · rename_i h2
    rw [if_pos h2] at h
    by_cases hin : 0 ≤ s.k.where_ ∧ s.k.where_ < s.mem.length
    · rw [if_pos hin, if_pos (show 0 ≤ s.k.where_ ∧ s.k.where_ < ((s.mem ++ z).length : Nat) by rw [List.length_append]; omega)]
      have : s.k.where_.toNat < s.mem.length := by omega
      rw [show (s.mem ++ z).getD s.k.where_.toNat 0 = s.mem.getD s.k.where_.toNat 0 by simp [List.getD, List.getElem?_append_left this]]
      rfl
    · rw [if_neg hin] at h; exact absurd rfl h
  rename_i h2
  rw [if_neg h2] at h
  split
  · rename_i h3
    rw [if_pos h3] at h
    by_cases hin : 0 ≤ s.k.where_ ∧ s.k.where_ < s.mem.length
    · rw [if_pos hin, if_pos (show 0 ≤ s.k.where_ ∧ s.k.where_ < ((s.mem ++ z).length : Nat) by rw [List.length_append]; omega)]
      have : s.k.where_.toNat < s.mem.length := by omega
      rw [List.set_append_left _ _ this]
      rfl
    · rw [if_neg hin] at h; exact absurd rfl h
  split
  · have := sysL_addMem z { s with k := La0 } s.k
    show (({ (sysL (addMemP z { s with k := La0 }) s.k).1 with a := (sysL (addMemP z { s with k := La0 }) s.k).2 } : PS), (sysL (addMemP z { s with k := La0 }) s.k).2.trap) = _
    rw [this]
    rfl
  · rfl
theorem cycle_addMem (code : List Ins) (z : List Int) (s : PS) (h : (cycleP code s).2 ≠ 3) : cycleP code (addMemP z s) = (addMemP z (cycleP code s).1, (cycleP code s).2) := by
  have e := pact_addMem z (writeP s) h
  unfold cycleP
  simp only []
  rw [show writeP (addMemP z s) = addMemP z (writeP s) from rfl, e]
  rfl
theorem runPG_addMem (code : List Ins) (z : List Int) : ∀ (n : Nat) (s : PS) (t k : Int), (runPG code n (s, t, k)).2.1 ≠ 3 → runPG code n (addMemP z s, t, k) = (addMemP z (runPG code n (s, t, k)).1, (runPG code n (s, t, k)).2)
  | 0, s, t, k, _ => rfl
  | n + 1, s, t, k, h => by
    unfold runPG at h ⊢
    split
    · rename_i ht
      rw [if_pos ht] at h
      have h3 : (cycleP code s).2 ≠ 3 := by
        intro e
        rw [runPG_stop code n (x := ((cycleP code s).1, (cycleP code s).2, k + 1)) (by show (cycleP code s).2 ≠ 0; rw [e]; decide)] at h
        exact h e
      rw [cycle_addMem code z s h3]
      exact runPG_addMem code z n _ _ _ h
    · rfl
theorem sysL_addIn (z : List Int) (s : PS) (l : La) (h : (sysL s l).2.trap ≠ 6 ∨ l.i.imm ≠ 1) : sysL (addInP z s) l = (addInP z (sysL s l).1, (sysL s l).2) := by
  obtain ⟨regs, mem, at_, inp, out, f, r, k, a⟩ := s
  unfold sysL addInP at *
  simp only at *
  split
  · rfl
  rename_i h0
  rw [if_neg h0] at h
  split
  · rename_i h1
    rw [if_pos h1] at h
    cases inp with
    | nil =>
      rcases h with h | h
      · exact absurd rfl h
      · exact absurd h1 h
    | cons x r => rfl
  split
  · split <;> rfl
  · rfl
theorem pact_addIn (z : List Int) (s : PS) (h : (pactP s).2 ≠ 6) : pactP (addInP z s) = (addInP z (pactP s).1, (pactP s).2) := by
  unfold pactP at h ⊢
  simp only [] at h ⊢
  have e1 : (addInP z s).k = s.k := rfl
  have e2 : (addInP z s).mem = s.mem := rfl
  rw [e1, e2]
  split
  · rfl
  rename_i h1
  rw [if_neg h1] at h
  split
  · split <;> rfl
  rename_i h2
  rw [if_neg h2] at h
  split
  · split <;> rfl
  rename_i h3
  rw [if_neg h3] at h
  split
  · rename_i h4
    rw [if_pos h4] at h
    have := sysL_addIn z { s with k := La0 } s.k (.inl h)
    show (({ (sysL (addInP z { s with k := La0 }) s.k).1 with a := (sysL (addInP z { s with k := La0 }) s.k).2 } : PS), (sysL (addInP z { s with k := La0 }) s.k).2.trap) = _
    rw [this]
    rfl
  · rfl
theorem cycle_addIn (code : List Ins) (z : List Int) (s : PS) (h : (cycleP code s).2 ≠ 6) : cycleP code (addInP z s) = (addInP z (cycleP code s).1, (cycleP code s).2) := by
  have e := pact_addIn z (writeP s) h
  unfold cycleP
  simp only []
  rw [show writeP (addInP z s) = addInP z (writeP s) from rfl, e]
  rfl
theorem runPG_addIn (code : List Ins) (z : List Int) : ∀ (n : Nat) (s : PS) (t k : Int), (runPG code n (s, t, k)).2.1 ≠ 6 → runPG code n (addInP z s, t, k) = (addInP z (runPG code n (s, t, k)).1, (runPG code n (s, t, k)).2)
  | 0, s, t, k, _ => rfl
  | n + 1, s, t, k, h => by
    unfold runPG at h ⊢
    split
    · rename_i ht
      rw [if_pos ht] at h
      have h3 : (cycleP code s).2 ≠ 6 := by
        intro e
        rw [runPG_stop code n (x := ((cycleP code s).1, (cycleP code s).2, k + 1)) (by show (cycleP code s).2 ≠ 0; rw [e]; decide)] at h
        exact h e
      rw [cycle_addIn code z s h3]
      exact runPG_addIn code z n _ _ _ h
    · rfl
theorem runPP_room (code : List Ins) (mem : Int) (inp : List Int) (fuel k : Int) (h : code.length ≤ 4096) (h0 : 0 ≤ mem) (hk : 0 ≤ k) (h1 : mem + k ≤ 32000) : (runPP code mem inp fuel).trap = 3 ∨ runPP code mem inp fuel = runPP code (mem + k) inp fuel := by
  have hb : beginPS (mem + k) inp = addMemP (List.replicate k.toNat 0) (beginPS mem inp) := by
    unfold beginPS addMemP
    simp only [PS.mk.injEq, true_and, and_true]
    rw [show (mem + k).toNat = mem.toNat + k.toNat by omega, ← List.replicate_append_replicate]
  unfold runPP
  rw [if_neg (by omega), if_neg (by omega)]
  simp only
  by_cases ht : (runPG code fuel.toNat (beginPS mem inp, 0, 0)).2.1 = 3
  · exact .inl ht
  · right
    rw [hb, runPG_addMem code _ _ _ _ _ ht]
    simp only [addMemP, usedP_zeros]
theorem runPP_input (code : List Ins) (mem : Int) (inp more : List Int) (fuel : Int) : (runPP code mem inp fuel).trap = 6 ∨ runPP code mem inp fuel = runPP code mem (inp ++ more) fuel := by
  have hb : beginPS mem (inp ++ more) = addInP more (beginPS mem inp) := rfl
  unfold runPP
  by_cases hbad : code.length > 4096 ∨ mem < 0 ∨ mem > 32000
  · rw [if_pos hbad, if_pos hbad]; exact .inr rfl
  rw [if_neg hbad, if_neg hbad]
  simp only
  by_cases ht : (runPG code fuel.toNat (beginPS mem inp, 0, 0)).2.1 = 6
  · exact .inl ht
  · right
    rw [hb, runPG_addIn code _ _ _ _ _ ht]
    simp only [addInP]

/-! Ahead of the fourth cycle. -/
theorem cycle_empty (code : List Ins) (s : PS) (ha : s.a = La0) (hk : s.k = La0) : cycleP code s = ({ s with r := s.f, k := if s.r.full = true ∧ s.r.trap = 0 then stage3 s.r La0 s.regs else s.r, f := fetchL code s.at_, at_ := nextF { s with f := La0, r := s.f, k := if s.r.full = true ∧ s.r.trap = 0 then stage3 s.r La0 s.regs else s.r } s.f }, 0) := by
  obtain ⟨regs, mem, at_, inp, out, f, r, k, a⟩ := s
  simp only at ha hk
  subst ha hk
  rfl
theorem nextF_empty (s : PS) (l : La) (h : l = La0) : nextF s l = IntKind.wrap .i64 (s.at_ + 1) := by subst h; rfl
theorem run3 (code : List Ins) (regs mem inp out : List Int) (n : Nat) (hn : n ≤ 3) : ∃ s : PS, runPG code n (⟨regs, mem, 0, inp, out, La0, La0, La0, La0⟩, 0, 0) = (s, 0, (n : Int)) ∧ s.out = out ∧ s.mem = mem := by
  match n, hn with
  | 0, _ => exact ⟨_, rfl, rfl, rfl⟩
  | 1, _ => rw [runPG_one, cycle_empty code _ rfl rfl]; exact ⟨_, rfl, rfl, rfl⟩
  | 2, _ => rw [runPG_one, cycle_empty code _ rfl rfl, runPG_one, cycle_empty code _ rfl rfl]; exact ⟨_, rfl, rfl, rfl⟩
  | 3, _ => rw [runPG_one, cycle_empty code _ rfl rfl, runPG_one, cycle_empty code _ rfl rfl, runPG_one, cycle_empty code _ rfl rfl]; exact ⟨_, rfl, rfl, rfl⟩
theorem usedP_repl (n : Nat) : usedP (List.replicate n 0) = [] := usedP_rep n
theorem runPP_four (code : List Ins) (mem : Int) (inp : List Int) (c : Int) (h : code.length ≤ 4096) (h0 : 0 ≤ mem) (h1 : mem ≤ 32000) :
    (c ≤ 3 → (runPP code mem inp c).trap = 0 ∧ (runPP code mem inp c).out = [] ∧ (runPP code mem inp c).mem = [] ∧ (runPP code mem inp c).steps = max c 0) ∧
    ((runPP code mem inp c).trap = 0 → (runPP code mem inp c).steps = max c 0) ∧ ((runPP code mem inp c).trap ≠ 0 → 4 ≤ (runPP code mem inp c).steps ∧ (runPP code mem inp c).steps ≤ c) := by
  unfold runPP
  rw [if_neg (by omega)]
  simp only
  have hs := runPG_steps code c.toNat (beginPS mem inp, 0, 0)
  have early : c ≤ 3 → (runPG code c.toNat (beginPS mem inp, 0, 0)).2.1 = 0 ∧ (runPG code c.toNat (beginPS mem inp, 0, 0)).1.out = [] ∧ usedP (runPG code c.toNat (beginPS mem inp, 0, 0)).1.mem = [] ∧ (runPG code c.toNat (beginPS mem inp, 0, 0)).2.2 = max c 0 := by
    intro hc
    obtain ⟨s, e, e1, e2⟩ := run3 code (List.replicate 32 0) (List.replicate mem.toNat 0) inp [] c.toNat (by omega)
    have e : runPG code c.toNat (beginPS mem inp, 0, 0) = (s, 0, (c.toNat : Int)) := e
    rw [e]
    refine ⟨rfl, e1, ?_, ?_⟩
    · show usedP s.mem = []
      rw [e2]; exact usedP_repl _
    · show (c.toNat : Int) = max c 0
      omega
  refine ⟨early, fun ht => ?_, fun ht => ?_⟩
  · have := hs.2.2 ht
    rw [this]; show (0 : Int) + c.toNat = _; omega
  · have hc : ¬ c ≤ 3 := fun hc => ht (early hc).1
    obtain ⟨s, e, e1, e2⟩ := run3 code (List.replicate 32 0) (List.replicate mem.toNat 0) inp [] 3 (by omega)
    have e : runPG code 3 (beginPS mem inp, 0, 0) = (s, 0, 3) := e
    obtain ⟨n, hn⟩ : ∃ n, c.toNat = 3 + (n + 1) := ⟨c.toNat - 4, by omega⟩
    have h2 := hs.2.1
    refine ⟨?_, by simp only at h2; omega⟩
    rw [hn, runPG_add, e, runPG_one]
    have := (runPG_steps code n ((cycleP code s).1, (cycleP code s).2, (3 : Int) + 1)).1
    simpa using this
end Go.Proofs.Ytadcbnldahcelaa.S
