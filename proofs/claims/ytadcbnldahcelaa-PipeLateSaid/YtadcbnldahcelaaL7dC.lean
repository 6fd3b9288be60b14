/- Ytadcbnldahcelaa: a text of our own, by an AI agent: L7dC -/
import Derived.Test.YtadcbnldahcelaaP7C
import Derived.Test.YtadcbnldahcelaaL7tC
set_option linter.unusedSimpArgs false
set_option linter.unusedVariables false
set_option maxRecDepth 100000
namespace Go.Proofs.Ytadcbnldahcelaa.S
open Go Go.RowKit Go.Alog Go.Proofs.Ytadcbnldahcelaa.T Go.Proofs.Ytadcbnldahcelaa.V

theorem wf_u16 {n : Int} (h : (Lit.int .u16 n).wf = true) : 0 ≤ n ∧ n ≤ 65535 := by
  unfold Lit.wf at h
  simp only [Bool.and_eq_true, decide_eq_true_eq] at h
  exact h
theorem wf_u8 {n : Int} (h : (Lit.int .u8 n).wf = true) : 0 ≤ n ∧ n ≤ 255 := by
  unfold Lit.wf at h
  simp only [Bool.and_eq_true, decide_eq_true_eq] at h
  exact h

/-! With more memory, input, code, fuel. -/
theorem runP_room (code : List Ins) (mem : Int) (inp : List Int) (fuel k : Int) (h : code.length ≤ 4096) (h0 : 0 ≤ mem) (hk : 0 ≤ k) (h1 : mem + k ≤ 32000) : (runP code mem inp fuel).trap = 3 ∨ runP code mem inp fuel = runP code (mem + k) inp fuel := by
  have hb : beginS (mem + k) inp = addMem (List.replicate k.toNat 0) (beginS mem inp) := by
    unfold beginS addMem
    simp only [MS.mk.injEq, true_and, and_true]
    rw [show (mem + k).toNat = mem.toNat + k.toNat by omega, ← List.replicate_append_replicate]
  unfold runP
  rw [if_neg (by omega), if_neg (by omega)]
  simp only
  by_cases ht : (runG code fuel.toNat (beginS mem inp, 0, 0)).2.1 = 3
  · exact .inl ht
  · right
    rw [hb, runG_mem2 code _ _ _ _ _ ht]
    simp only [addMem, usedP_zeros]
theorem runP_input (code : List Ins) (mem : Int) (inp more : List Int) (fuel : Int) : (runP code mem inp fuel).trap = 6 ∨ runP code mem inp fuel = runP code mem (inp ++ more) fuel := by
  have hb : beginS mem (inp ++ more) = addIn more (beginS mem inp) := rfl
  unfold runP
  by_cases hbad : code.length > 4096 ∨ mem < 0 ∨ mem > 32000
  · rw [if_pos hbad, if_pos hbad]; exact .inr rfl
  rw [if_neg hbad, if_neg hbad]
  simp only
  by_cases ht : (runG code fuel.toNat (beginS mem inp, 0, 0)).2.1 = 6
  · exact .inl ht
  · right
    rw [hb, runG_in code _ _ _ _ _ ht]
    simp only [addIn]
theorem runP_behind (code more : List Ins) (mem : Int) (inp : List Int) (fuel : Int) (hl : code.length + more.length ≤ 4096) : (runP code mem inp fuel).trap = 2 ∨ runP code mem inp fuel = runP (code ++ more) mem inp fuel := by
  unfold runP
  by_cases hbad : mem < 0 ∨ mem > 32000
  · rw [if_pos (Or.inr hbad), if_pos (Or.inr hbad)]; exact .inr rfl
  rw [if_neg (by omega), if_neg (by rw [List.length_append]; omega)]
  simp only
  by_cases ht : (runG code fuel.toNat (beginS mem inp, 0, 0)).2.1 = 2
  · exact .inl ht
  · right
    rw [runG_behind code more _ _ ht]
theorem runP_more (code : List Ins) (mem : Int) (inp : List Int) (few more : Int) (h : few ≤ more) :
    ((runP code mem inp few).trap ≠ 0 → runP code mem inp few = runP code mem inp more) ∧
    ((runP code mem inp few).trap = 0 → (runP code mem inp few).out <+: (runP code mem inp more).out ∧ (runP code mem inp few).steps ≤ (runP code mem inp more).steps ∧ ((runP code mem inp few).steps = max few 0 ∨ ((runP code mem inp more).out = [] ∧ (runP code mem inp more).steps = 0))) := by
  unfold runP
  by_cases hbad : code.length > 4096 ∨ mem < 0 ∨ mem > 32000
  · rw [if_pos hbad, if_pos hbad]
    exact ⟨fun _ => rfl, fun _ => ⟨List.prefix_refl _, Int.le_refl _, .inr ⟨rfl, rfl⟩⟩⟩
  rw [if_neg hbad, if_neg hbad]
  simp only
  have e : more.toNat = few.toNat + (more.toNat - few.toNat) := by omega
  rw [e, runG_add]
  have h1 := runG_out code (more.toNat - few.toNat) (runG code few.toNat (beginS mem inp, 0, 0))
  have h2 := runG_steps code (more.toNat - few.toNat) (runG code few.toNat (beginS mem inp, 0, 0))
  have h3 := runG_steps code few.toNat (beginS mem inp, 0, 0)
  refine ⟨fun ht => by rw [runG_stop code _ ht], fun ht => ⟨h1, h2.1, .inl ?_⟩⟩
  have := h3.2.2 ht
  simp only at this
  rw [this]
  omega

/-! Steps of instructions that only reckon. -/
theorem stepP_go (code : List Ins) (s s1 : MS) (i : Ins) (v : Int) (ok : Bool) (h0 : 0 ≤ s.at_) (h1 : s.at_ < code.length) (hi : code.getD s.at_.toNat default = i) (hr : rightR i = true) (ha : actP s i = (s1, 0)) (hk : reckonP i (regOf s1.regs i.b) (regOf s1.regs i.c) = (v, 0, ok)) :
    stepP code s = ({ (nextP (if ok then { s1 with regs := setR s1.regs i.a v } else s1) i).1 with at_ := (nextP (if ok then { s1 with regs := setR s1.regs i.a v } else s1) i).2 }, 0) := by
  unfold stepP
  rw [if_neg (by omega), if_neg (by omega), hi]
  simp only [hr, ha, hk, Bool.true_eq_false, if_false, ne_eq, not_true_eq_false]
theorem stepP_trap (code : List Ins) (s s1 : MS) (i : Ins) (t : Int) (h0 : 0 ≤ s.at_) (h1 : s.at_ < code.length) (hi : code.getD s.at_.toNat default = i) (hr : rightR i = true) (ha : actP s i = (s1, t)) (ht : t ≠ 0) : stepP code s = (s1, t) := by
  unfold stepP
  rw [if_neg (by omega), if_neg (by omega), hi]
  simp only [hr, ha, Bool.true_eq_false, if_false]
  rw [if_pos ht]
theorem stepP_wrong (code : List Ins) (s : MS) (h0 : 0 ≤ s.at_) (h1 : s.at_ < code.length) (hr : rightR (code.getD s.at_.toNat default) = false) : stepP code s = (s, 8) := by
  unfold stepP
  rw [if_neg (by omega), if_neg (by omega)]
  simp only [hr, if_true]
theorem stepP_end (code : List Ins) (s : MS) (h1 : s.at_ ≥ code.length) : stepP code s = (s, 2) := by
  unfold stepP
  rw [if_neg (by omega), if_pos h1]

/-- What only reckons. -/
def plainI (i : Ins) : Prop := i.op ≤ 11 ∧ i.op ≠ 4 ∧ i.op ≠ 5
theorem reckonP_plain (i : Ins) (b c : Int) (h : plainI i) : ∃ v ok, reckonP i b c = (v, 0, ok) := by
  unfold reckonP
  by_cases hr : rightR i = false
  · rw [if_pos hr]; exact ⟨_, _, rfl⟩
  rw [if_neg hr]
  cases reckP i (w32 b) (w32 c) with
  | some v => exact ⟨_, _, rfl⟩
  | none => simp only; rw [if_pos ⟨h.2.1, h.2.2⟩]; exact ⟨_, _, rfl⟩
theorem actP_plain (s : MS) (i : Ins) (h : i.op ≠ 12 ∧ i.op ≠ 13 ∧ i.op ≠ 14 ∧ i.op ≠ 20) : actP s i = (s, 0) := by
  unfold actP
  simp only [h, if_false]
theorem nextP_plain (s : MS) (i : Ins) (h : i.op < 15 ∨ 19 < i.op) : nextP s i = (s, IntKind.wrap .i64 (s.at_ + 1)) := by
  unfold nextP
  simp only
  rw [if_neg (by omega), if_neg (by omega), if_neg (by omega), if_neg (by omega)]
theorem stepP_plain (code : List Ins) (s : MS) (i : Ins) (h0 : 0 ≤ s.at_) (h1 : s.at_ < code.length) (hl : code.length ≤ 4096) (hi : code.getD s.at_.toNat default = i) (hp : plainI i) :
    stepP code s = (s, 8) ∨ ∃ regs, stepP code s = ({ s with regs := regs, at_ := s.at_ + 1 }, 0) := by
  cases hr : rightR i with
  | false => left; exact stepP_wrong code s h0 h1 (by rw [hi]; exact hr)
  | true =>
    right
    obtain ⟨v, ok, hk⟩ := reckonP_plain i (regOf s.regs i.b) (regOf s.regs i.c) hp
    obtain ⟨p1, p2, p3⟩ := hp
    rw [stepP_go code s s i v ok h0 h1 hi hr (actP_plain s i (by omega)) hk, nextP_plain _ _ (by omega)]
    have w : IntKind.wrap .i64 (s.at_ + 1) = s.at_ + 1 := by rw [IntKind.wrap_i64]; omega
    cases ok
    · refine ⟨s.regs, ?_⟩
      simp only [Bool.false_eq_true, if_false, w]
    · refine ⟨setR s.regs i.a v, ?_⟩
      simp only [if_true, w]

theorem lines_run (code : List Ins) (hp : ∀ i ∈ code, plainI i) (hl : code.length ≤ 4096) : ∀ (d : Nat) (n : Nat) (s : MS), s.at_ = (code.length : Int) - d → d ≤ code.length → d < n →
    ((runG code n (s, 0, s.at_)).2.1 = 8 ∧ (runG code n (s, 0, s.at_)).2.2 ≤ code.length) ∨ ((runG code n (s, 0, s.at_)).2.1 = 2 ∧ (runG code n (s, 0, s.at_)).2.2 = code.length + 1 ∧ (runG code n (s, 0, s.at_)).1.out = s.out ∧ (runG code n (s, 0, s.at_)).1.mem = s.mem)
  | 0, n, s, ha, hd, hn => by
    obtain ⟨n, rfl⟩ : ∃ k, n = k + 1 := ⟨n - 1, by omega⟩
    right
    unfold runG
    rw [if_pos rfl, stepP_end code s (by omega), runG_stop code n (x := (s, 2, s.at_ + 1)) (show (2 : Int) ≠ 0 by decide)]
    exact ⟨rfl, by show s.at_ + 1 = _; omega, rfl, rfl⟩
  | d + 1, n, s, ha, hd, hn => by
    obtain ⟨n, rfl⟩ : ∃ k, n = k + 1 := ⟨n - 1, by omega⟩
    have hlt : s.at_.toNat < code.length := by omega
    have hi : code.getD s.at_.toNat default = code[s.at_.toNat] := by simp [List.getD, hlt]
    unfold runG
    rw [if_pos rfl]
    rcases stepP_plain code s _ (by omega) (by omega) hl hi (hp _ (List.getElem_mem hlt)) with h | ⟨regs, h⟩
    · left
      rw [h, runG_stop code n (x := (s, 8, s.at_ + 1)) (show (8 : Int) ≠ 0 by decide)]
      exact ⟨rfl, by show s.at_ + 1 ≤ _; omega⟩
    · rw [h]
      have := lines_run code hp hl d n { s with regs := regs, at_ := s.at_ + 1 } (by show s.at_ + 1 = _; omega) (by omega) (by omega)
      exact this

theorem usedP_rep (n : Nat) : usedP (List.replicate n 0) = [] := by
  have := usedP_zeros [] n
  rw [List.nil_append] at this
  rw [this]; rfl
theorem runP_lines (code : List Ins) (hp : ∀ i ∈ code, plainI i) (hl : code.length ≤ 200) :
    ((runP code 10 [] 1000).trap = 8 ∧ (runP code 10 [] 1000).steps ≤ code.length) ∨ ((runP code 10 [] 1000).trap = 2 ∧ (runP code 10 [] 1000).steps = code.length + 1 ∧ (runP code 10 [] 1000).out = [] ∧ (runP code 10 [] 1000).mem = []) := by
  unfold runP
  rw [if_neg (by omega)]
  simp only
  rcases lines_run code hp (by omega) code.length (1000 : Int).toNat (beginS 10 []) (by simp [beginS]) (Nat.le_refl _) (by show _ < 1000; omega) with h | ⟨h1, h2, h3, h4⟩
  · exact .inl h
  · right
    refine ⟨h1, h2, h3, ?_⟩
    show usedP (runG code (1000 : Int).toNat (beginS 10 [], 0, (beginS 10 []).at_)).1.mem = []
    rw [h4]
    exact usedP_rep _

/-! What is read and told. -/
abbrev tellC : List Ins := [⟨20, 0, 0, 0, 1⟩, ⟨20, 0, 0, 0, 2⟩, ⟨17, 0, 0, 0, 0⟩]
theorem setR_len (regs : List Int) (n v : Int) : (setR regs n v).length = regs.length := by
  unfold setR
  split
  · rfl
  · simp
theorem regOf_set4 (regs : List Int) (v : Int) (h : regs.length = 32) : regOf (setR regs 4 v) 4 = w32 v := by
  unfold regOf setR
  rw [if_neg (by decide)]
  simp [List.getD, h]
theorem runG_one (code : List Ins) (n : Nat) (s : MS) (k : Int) : runG code (n + 1) (s, 0, k) = runG code n ((stepP code s).1, (stepP code s).2, k + 1) := by simp [runG]
theorem tell_step (regs mem : List Int) (x : Int) (inp out : List Int) (ho : out.length < 10000) (hr : regs.length = 32) (n : Nat) (k : Int) :
    ∃ regs', regs'.length = 32 ∧ runG tellC (n + 3) (⟨regs, mem, 0, x :: inp, out⟩, 0, k) = runG tellC n (⟨regs', mem, 0, inp, out ++ [w32 x]⟩, 0, k + 3) := by
  have s1 : stepP tellC ⟨regs, mem, 0, x :: inp, out⟩ = (⟨setR regs 4 x, mem, 1, inp, out⟩, 0) := by
    rw [stepP_go tellC _ ⟨setR regs 4 x, mem, 0, inp, out⟩ ⟨20, 0, 0, 0, 1⟩ 0 false (show (0 : Int) ≤ 0 by decide) (show (0 : Int) < 3 by decide) rfl (by decide +kernel) rfl (by rfl)]
    rfl
  have s2 : stepP tellC ⟨setR regs 4 x, mem, 1, inp, out⟩ = (⟨setR regs 4 x, mem, 2, inp, out ++ [w32 x]⟩, 0) := by
    rw [stepP_go tellC _ ⟨setR regs 4 x, mem, 1, inp, out ++ [w32 x]⟩ ⟨20, 0, 0, 0, 2⟩ 0 false (show (0 : Int) ≤ 1 by decide) (show (1 : Int) < 3 by decide) rfl (by decide +kernel) ?_ (by rfl)]
    · rfl
    · unfold actP sysP
      simp only [show ¬ (20 : Int) = 12 by decide, show ¬ (20 : Int) = 13 by decide, show ¬ (20 : Int) = 14 by decide, if_false, if_true, show ¬ (2 : Int) = 0 by decide, show ¬ (2 : Int) = 1 by decide]
      rw [if_neg (by show ¬ out.length ≥ 10000; omega), regOf_set4 regs x hr]
  have s3 : stepP tellC ⟨setR regs 4 x, mem, 2, inp, out ++ [w32 x]⟩ = (⟨setR regs 4 x, mem, 0, inp, out ++ [w32 x]⟩, 0) := by
    rw [stepP_go tellC _ ⟨setR regs 4 x, mem, 2, inp, out ++ [w32 x]⟩ ⟨17, 0, 0, 0, 0⟩ 0 false (show (0 : Int) ≤ 2 by decide) (show (2 : Int) < 3 by decide) rfl (by decide +kernel) rfl (by rfl)]
    rfl
  refine ⟨setR regs 4 x, by rw [setR_len]; exact hr, ?_⟩
  show runG tellC (n + 2 + 1) _ = _
  rw [runG_one, s1]
  show runG tellC (n + 1 + 1) _ = _
  rw [runG_one, s2, runG_one, s3]
  simp only [Int.add_assoc]
  rfl
theorem tell_run : ∀ (inp : List Int) (n : Nat) (regs mem out : List Int) (k : Int), regs.length = 32 → out.length + inp.length < 10000 → 3 * inp.length < n →
    (runG tellC n (⟨regs, mem, 0, inp, out⟩, 0, k)).2.1 = 6 ∧ (runG tellC n (⟨regs, mem, 0, inp, out⟩, 0, k)).2.2 = k + 3 * inp.length + 1 ∧ (runG tellC n (⟨regs, mem, 0, inp, out⟩, 0, k)).1.out = out ++ inp.map w32
  | [], n, regs, mem, out, k, hr, ho, hn => by
    obtain ⟨n, rfl⟩ : ∃ j, n = j + 1 := ⟨n - 1, by omega⟩
    have s1 : stepP tellC ⟨regs, mem, 0, [], out⟩ = (⟨regs, mem, 0, [], out⟩, 6) := by
      exact stepP_trap tellC _ _ ⟨20, 0, 0, 0, 1⟩ 6 (show (0 : Int) ≤ 0 by decide) (show (0 : Int) < 3 by decide) rfl (by decide +kernel) rfl (by decide)
    unfold runG
    rw [if_pos rfl, s1, runG_stop tellC n (x := (⟨regs, mem, 0, [], out⟩, 6, k + 1)) (show (6 : Int) ≠ 0 by decide)]
    refine ⟨rfl, by simp, by simp⟩
  | x :: inp, n, regs, mem, out, k, hr, ho, hn => by
    simp only [List.length_cons] at ho hn
    obtain ⟨n, rfl⟩ : ∃ j, n = j + 3 := ⟨n - 3, by omega⟩
    obtain ⟨regs', hr', h⟩ := tell_step regs mem x inp out (by omega) hr n k
    rw [h]
    obtain ⟨h1, h2, h3⟩ := tell_run inp n regs' mem (out ++ [w32 x]) (k + 3) hr' (by simp; omega) (by omega)
    refine ⟨h1, ?_, ?_⟩
    · rw [h2]; simp only [List.length_cons]; omega
    · rw [h3]; simp
theorem runP_tells (inp : List Int) (hl : inp.length ≤ 100) : (runP tellC 0 inp 1000).trap = 6 ∧ (runP tellC 0 inp 1000).steps = 3 * inp.length + 1 ∧ (runP tellC 0 inp 1000).out = inp.map w32 := by
  unfold runP
  rw [if_neg (by simp)]
  simp only
  obtain ⟨h1, h2, h3⟩ := tell_run inp (1000 : Int).toNat (List.replicate 32 0) [] [] 0 (by simp) (by simp; omega) (by show _ < 1000; omega)
  refine ⟨h1, ?_, ?_⟩
  · show (runG tellC (1000 : Int).toNat (beginS 0 inp, 0, 0)).2.2 = _
    have : (runG tellC (1000 : Int).toNat (beginS 0 inp, 0, 0)).2.2 = _ := h2
    rw [this]; omega
  · have : (runG tellC (1000 : Int).toNat (beginS 0 inp, 0, 0)).1.out = _ := h3
    rw [this]; simp

/-! The loop. -/
def loopC (k : Int) : List Ins := [⟨10, 1, 0, 0, k⟩, ⟨1, 4, 4, 1, 0⟩, ⟨10, 1, 1, 0, -1⟩, ⟨16, 1, 0, 0, -3⟩, ⟨20, 0, 0, 0, 2⟩, ⟨20, 0, 0, 0, 0⟩]
end Go.Proofs.Ytadcbnldahcelaa.S
