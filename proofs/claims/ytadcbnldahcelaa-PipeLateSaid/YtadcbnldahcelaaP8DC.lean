/- Ytadcbnldahcelaa: a text of our own, by an AI agent: P8DC -/
import Derived.Test.YtadcbnldahcelaaP8iC

set_option linter.unusedSimpArgs false
set_option linter.unusedVariables false
set_option maxRecDepth 100000
namespace Go.Proofs.Ytadcbnldahcelaa.S
open Go Go.RowKit Go.Alog Go.Proofs.Ytadcbnldahcelaa.T Go.Proofs.Ytadcbnldahcelaa.V

/-! The machine whose jumps and loads come late: one instruction a step. -/
/-- What an instruction writes at once. -/
def wrL (l : La) (regs : List Int) : List Int := if l.full = true ∧ l.reg ≠ 0 ∧ lateP l.i = false then regs.set l.reg.toNat l.value else regs
/-- All that it writes. -/
def wrA (l : La) (regs : List Int) : List Int := if l.full = true ∧ l.reg ≠ 0 then regs.set l.reg.toNat l.value else regs
def stL (l a : La) (regs : List Int) : La := if l.full = true ∧ l.trap = 0 then stage3 l a regs else l
/-- The place behind the next one. -/
def nxtP (regs : List Int) (at_ : Int) (l : La) : Int :=
  let n := IntKind.wrap .i64 (at_ + 1)
  if l.full = false ∨ l.trap ≠ 0 then n
  else if l.i.op = 15 ∨ l.i.op = 16 then (if (regOf regs l.i.a == regOf regs l.i.b) == (l.i.op == 15) then IntKind.wrap .i64 (IntKind.wrap .i64 (l.at_ + 1) + l.i.imm) else n)
  else if l.i.op = 17 ∨ l.i.op = 18 then l.i.imm
  else if l.i.op = 19 then regOf regs l.i.a
  else n
structure DS where
  regs : List Int
  mem : List Int
  at_ : Int
  next : Int
  inp : List Int
  out : List Int
  late : La
/-- The fourth stage alone. -/
def actD (mem inp out : List Int) (l : La) : PS × Int := pactP ⟨[], mem, 0, inp, out, La0, La0, l, La0⟩
def stepD (code : List Ins) (d : DS) : DS × Int :=
  let l := stL (fetchL code d.at_) La0 d.regs
  let p := actD d.mem d.inp d.out l
  let regs1 := wrA d.late d.regs
  ({ regs := wrL l regs1, mem := p.1.mem, at_ := d.next, next := nxtP d.regs d.next (fetchL code d.at_), inp := p.1.inp, out := p.1.out, late := if lateP p.1.a.i = true then p.1.a else La0 }, p.2)

theorem pact_eq (regs mem inp out : List Int) (at_ : Int) (f r l : La) : pactP ⟨regs, mem, at_, inp, out, f, r, l, La0⟩ = (⟨regs, (actD mem inp out l).1.mem, at_, (actD mem inp out l).1.inp, (actD mem inp out l).1.out, f, r, La0, (actD mem inp out l).1.a⟩, (actD mem inp out l).2) := by
  unfold actD pactP
  simp only []
  split
  · rfl
  split
  · split <;> rfl
  split
  · split <;> rfl
  split
  · unfold sysL
    simp only []
    split
    · rfl
    split
    · cases inp <;> rfl
    split
    · split <;> rfl
    · rfl
  · rfl
theorem act0 {mem inp out : List Int} {l : La} (hf : l.full = true) (ht : (actD mem inp out l).2 = 0) (hr : l.trap = 0 → rightR l.i = true) : (actD mem inp out l).1.a.full = true ∧ (actD mem inp out l).1.a.reg = l.reg ∧ (actD mem inp out l).1.a.i = l.i ∧ (lateP l.i = false → (actD mem inp out l).1.a.value = l.value) ∧ l.trap = 0 := by
  unfold actD pactP at *
  simp only [] at *
  by_cases hg : l.full = false ∨ l.trap ≠ 0
  · rw [if_pos hg] at ht
    rcases hg with h | h
    · rw [hf] at h; cases h
    · exact absurd ht h
  have htr : l.trap = 0 := by
    by_cases h : l.trap = 0
    · exact h
    · exact absurd (Or.inr h) hg
  have hr := hr htr
  rw [if_neg hg] at ht ⊢
  split
  · rename_i h12
    rw [if_pos h12] at ht
    split
    · exact ⟨hf, rfl, rfl, fun h => by simp [lateP, hr, h12] at h, htr⟩
    · rename_i hin; rw [if_neg hin] at ht; cases ht
  rename_i h12
  rw [if_neg h12] at ht
  split
  · rename_i h13
    rw [if_pos h13] at ht
    split
    · exact ⟨hf, rfl, rfl, fun _ => rfl, htr⟩
    · rename_i hin; rw [if_neg hin] at ht; cases ht
  rename_i h13
  rw [if_neg h13] at ht
  split
  · rename_i h20
    rw [if_pos h20] at ht
    unfold sysL at *
    simp only [] at *
    split
    · exact ⟨hf, rfl, rfl, fun _ => rfl, htr⟩
    rename_i h0
    rw [if_neg h0] at ht
    split
    · rename_i h1
      rw [if_pos h1] at ht
      cases inp with
      | nil => exact ⟨hf, rfl, rfl, fun _ => rfl, htr⟩
      | cons x r => exact ⟨hf, rfl, rfl, fun h => by simp [lateP, hr, h20, h1] at h, htr⟩
    split
    · split <;> exact ⟨hf, rfl, rfl, fun _ => rfl, htr⟩
    · exact ⟨hf, rfl, rfl, fun _ => rfl, htr⟩
  · exact ⟨hf, rfl, rfl, fun _ => rfl, htr⟩

theorem wrL_len (l : La) (r : List Int) : (wrL l r).length = r.length := by unfold wrL; split <;> simp
theorem wrA_len (l : La) (r : List Int) : (wrA l r).length = r.length := by unfold wrA; split <;> simp
theorem regOf_set {r : List Int} {k n v : Int} (hk : 0 ≤ k ∧ k < r.length) (hn : 0 ≤ n) : regOf (r.set k.toNat v) n = if k = n then v else regOf r n := by
  unfold regOf
  by_cases e : k = n
  · subst e
    have : k.toNat < r.length := by omega
    simp [List.getD, this]
  · rw [if_neg e]
    have : k.toNat ≠ n.toNat := by omega
    simp [List.getD, List.getElem?_set_ne this]
theorem early_wr (n : Int) (hn : 0 ≤ n ∧ n < 32) (l : La) (hl : 0 ≤ l.reg ∧ l.reg < 32) (r : List Int) (hr : r.length = 32) : earlyP n l r = regOf (wrL l r) n := by
  unfold earlyP wrL
  by_cases h : l.full = true ∧ l.reg ≠ 0 ∧ lateP l.i = false
  · rw [if_pos h, regOf_set (by omega) hn.1]
    by_cases e : l.reg = n
    · rw [if_pos ⟨by omega, h.1, e, h.2.2⟩, if_pos e]
    · rw [if_neg (fun hh => e hh.2.2.1), if_neg e]
  · rw [if_neg h, if_neg (fun hh => h ⟨hh.2.1, by rw [hh.2.2.1]; exact hh.1, hh.2.2.2⟩)]
theorem early0 (n : Int) (r : List Int) : earlyP n La0 r = regOf r n := by
  unfold earlyP
  rw [if_neg]
  rintro ⟨_, h, _⟩
  cases h
theorem stage3_wr (l a : La) (hi : InR l.i) (ha : 0 ≤ a.reg ∧ a.reg < 32) (r : List Int) (hr : r.length = 32) : stage3 l a r = stage3 l La0 (wrL a r) := by
  unfold stage3
  simp only [early_wr _ hi.1 a ha r hr, early_wr _ hi.2.1 a ha r hr, early_wr _ hi.2.2 a ha r hr, early_wr 4 (by decide) a ha r hr, early0]
theorem stL_wr (l a : La) (hi : l.full = true → l.trap = 0 → InR l.i) (ha : 0 ≤ a.reg ∧ a.reg < 32) (r : List Int) (hr : r.length = 32) : stL l a r = stL l La0 (wrL a r) := by
  unfold stL
  split
  · rename_i h; rw [stage3_wr l a (hi h.1 h.2) ha r hr]
  · rfl
theorem wrL_congr {l : La} (hl : 0 ≤ l.reg ∧ l.reg < 32) {r r' : List Int} (hr : r.length = 32) (hr' : r'.length = 32) {n : Int} (hn : 0 ≤ n) (h : regOf r n = regOf r' n) : regOf (wrL l r) n = regOf (wrL l r') n := by
  unfold wrL
  split
  · rw [regOf_set (by omega) hn, regOf_set (by omega) hn]; split <;> first | rfl | exact h
  · exact h
/-- What the second stage sees. -/
theorem now_wr (s : PS) (n : Int) (hn : 0 ≤ n ∧ n < 32) (hw : WfP s) (hr : s.regs.length = 32) : nowP s n = regOf (wrL s.k (wrA s.a s.regs)) n := by
  obtain ⟨_, _, hk, ha⟩ := hw
  unfold nowP
  by_cases h : n ≠ 0 ∧ s.a.full = true ∧ s.a.reg = n
  · rw [if_pos h, early_wr n hn s.k hk.2 _ (by rw [List.length_set, hr])]
    unfold wrA
    rw [if_pos ⟨h.2.1, by rw [h.2.2]; exact h.1⟩, h.2.2]
  · rw [if_neg h, early_wr n hn s.k hk.2 _ hr]
    refine wrL_congr hk.2 hr (by rw [wrA_len, hr]) hn.1 ?_
    unfold wrA
    split
    · rename_i h2
      rw [regOf_set (by have := ha.2; omega) hn.1, if_neg]
      intro e
      exact h ⟨by rw [← e]; exact h2.2, h2.1, e⟩
    · rfl
theorem nextF_nxt (s : PS) (l : La) (hl : l.full = true → l.trap = 0 → InR l.i) (hw : WfP s) (hr : s.regs.length = 32) : nextF s l = nxtP (wrL s.k (wrA s.a s.regs)) s.at_ l := by
  unfold nextF nxtP
  simp only []
  split
  · rfl
  rename_i h
  have hg : l.full = true ∧ l.trap = 0 := by
    cases e : l.full <;> simp [e] at h ⊢
    exact h
  have hi := hl hg.1 hg.2
  rw [now_wr s _ hi.1 hw hr, now_wr s _ hi.2.1 hw hr]

/-! The pipeline, three cycles ahead. -/
structure Inv (code : List Ins) (d : DS) (s : PS) : Prop where
  hr : s.regs.length = 32
  hw : WfP s
  e1 : d.regs = wrL s.a s.regs
  e2 : wrA d.late d.regs = wrA s.a s.regs
  hk : s.k = stL (fetchL code d.at_) La0 d.regs
  hrr : s.r = fetchL code d.next
  hf : s.f = fetchL code (nxtP d.regs d.next (fetchL code d.at_))
  hat : s.at_ = nxtP (wrL s.k (wrA s.a s.regs)) (nxtP d.regs d.next (fetchL code d.at_)) s.r
  hm : s.mem = d.mem
  hi : s.inp = d.inp
  ho : s.out = d.out

theorem fetchL_full (code : List Ins) (a : Int) : (fetchL code a).full = true := by
  unfold fetchL; split
  · rfl
  split <;> rfl
theorem fetchL_right (code : List Ins) (a : Int) : (fetchL code a).trap = 0 → rightR (fetchL code a).i = true := by
  unfold fetchL; split
  · intro h; cases h
  split
  · intro _; assumption
  · intro h; cases h
theorem stL_full (l a : La) (r : List Int) : (stL l a r).full = l.full := by
  unfold stL; split
  · unfold stage3; simp only []
    split
    · split <;> rfl
    split
    · rfl
    split <;> rfl
  · rfl
theorem stL_i (l a : La) (r : List Int) : (stL l a r).i = l.i := by
  unfold stL; split
  · exact stage3_i l a r
  · rfl
theorem stL_trap {l a : La} {r : List Int} (hf : l.full = true) (h : (stL l a r).trap = 0) : l.trap = 0 := by
  unfold stL at h
  by_cases e : l.trap = 0
  · exact e
  · rw [if_neg (fun hh => e hh.2)] at h; exact h

theorem inv_step (code : List Ins) {d : DS} {s : PS} (h : Inv code d s) : (cycleP code s).2 = (stepD code d).2 ∧ (cycleP code s).1.mem = (stepD code d).1.mem ∧ (cycleP code s).1.inp = (stepD code d).1.inp ∧ (cycleP code s).1.out = (stepD code d).1.out ∧ ((stepD code d).2 = 0 → Inv code (stepD code d).1 (cycleP code s).1) := by
  have hwc := wf_cycle code h.hw
  obtain ⟨regs, mem, at_, inp, out, f, r, k, a⟩ := s
  obtain ⟨hr, hw, e1, e2, hk, hrr, hf, hat, hm, hi, ho⟩ := h
  simp only at hr e1 e2 hk hrr hf hat hm hi ho
  have hwr : writeP ⟨regs, mem, at_, inp, out, f, r, k, a⟩ = ⟨wrA a regs, mem, at_, inp, out, f, r, k, La0⟩ := rfl
  have hp := pact_eq (wrA a regs) mem inp out at_ f r k
  have hkf : k.full = true := by rw [hk, stL_full, fetchL_full]
  have hki : k.i = (fetchL code d.at_).i := by rw [hk, stL_i]
  have hkr : k.trap = 0 → rightR k.i = true := fun ht => by
    rw [hki]
    refine fetchL_right code _ ?_
    rw [hk] at ht
    exact stL_trap (fetchL_full _ _) ht
  have ec : cycleP code ⟨regs, mem, at_, inp, out, f, r, k, a⟩ = (fetchP code (decideP (reckP3 ⟨wrA a regs, (actD mem inp out k).1.mem, at_, (actD mem inp out k).1.inp, (actD mem inp out k).1.out, f, r, La0, (actD mem inp out k).1.a⟩ k)).1 (decideP (reckP3 ⟨wrA a regs, (actD mem inp out k).1.mem, at_, (actD mem inp out k).1.inp, (actD mem inp out k).1.out, f, r, La0, (actD mem inp out k).1.a⟩ k)).2, (actD mem inp out k).2) := by
    unfold cycleP
    simp only [hwr, hp]
  have ed : stepD code d = ({ regs := wrL k (wrA d.late d.regs), mem := (actD mem inp out k).1.mem, at_ := d.next, next := nxtP d.regs d.next (fetchL code d.at_), inp := (actD mem inp out k).1.inp, out := (actD mem inp out k).1.out, late := if lateP (actD mem inp out k).1.a.i = true then (actD mem inp out k).1.a else La0 }, (actD mem inp out k).2) := by
    unfold stepD
    simp only [← hm, ← hi, ← ho, ← hk]
  rw [ec] at hwc
  rw [ec, ed]
  refine ⟨rfl, rfl, rfl, rfl, fun ht => ?_⟩
  obtain ⟨a1, a2, a3, a4, a5⟩ := act0 hkf ht hkr
  generalize (actD mem inp out k).1 = p at *
  generalize (actD mem inp out k).2 = t at *
  have hrA : (wrA a regs).length = 32 := by rw [wrA_len, hr]
  have hkw := hw.2.2.1
  have hfw := hw.1
  have hrw := hw.2.1
  simp only at hkw hfw hrw
  have eL : wrL p.a (wrA a regs) = wrL k (wrA a regs) := by
    unfold wrL
    rw [a1, a2, a3, hkf]
    split
    · rename_i hh; rw [a4 hh.2.2]
    · rfl
  have ek : (if r.full = true ∧ r.trap = 0 then stage3 r k (wrA a regs) else r) = stL (fetchL code d.next) La0 (wrL k (wrA a regs)) := by
    rw [← hrr]
    exact stL_wr r k hrw.1 hkw.2 (wrA a regs) hrA
  refine ⟨hrA, hwc, ?_, ?_, ?_, ?_, ?_, ?_, rfl, rfl, rfl⟩
  · show wrL k (wrA d.late d.regs) = wrL p.a (wrA a regs)
    rw [eL, e2]
  · show wrA (if lateP p.a.i = true then p.a else La0) (wrL k (wrA d.late d.regs)) = wrA p.a (wrA a regs)
    rw [e2]
    by_cases hl : lateP p.a.i = true
    · rw [if_pos hl]
      have : wrL k (wrA a regs) = wrA a regs := by
        unfold wrL
        rw [if_neg]
        rintro ⟨_, _, h3⟩
        rw [← a3, hl] at h3; cases h3
      rw [this]
    · have hl' : lateP k.i = false := by rw [← a3]; simpa using hl
      rw [if_neg hl, ← eL]
      have : wrA La0 (wrL p.a (wrA a regs)) = wrL p.a (wrA a regs) := rfl
      rw [this]
      unfold wrL wrA
      by_cases c : p.a.full = true ∧ p.a.reg ≠ 0
      · rw [if_pos c, if_pos ⟨c.1, c.2, by rw [a3]; exact hl'⟩]
      · rw [if_neg c, if_neg (fun hh => c ⟨hh.1, hh.2.1⟩)]
  · show (if r.full = true ∧ r.trap = 0 then stage3 r k (wrA a regs) else r) = stL (fetchL code d.next) La0 (wrL k (wrA d.late d.regs))
    rw [e2]; exact ek
  · exact hf
  · show fetchL code at_ = fetchL code (nxtP (wrL k (wrA d.late d.regs)) (nxtP d.regs d.next (fetchL code d.at_)) (fetchL code d.next))
    rw [e2, hat, ← hrr]
  · have hwD : WfP ⟨wrA a regs, p.mem, at_, p.inp, p.out, La0, f, if r.full = true ∧ r.trap = 0 then stage3 r k (wrA a regs) else r, p.a⟩ := ⟨lw0, hfw, hwc.2.2.1, hwc.2.2.2⟩
    have hN := nextF_nxt ⟨wrA a regs, p.mem, at_, p.inp, p.out, La0, f, if r.full = true ∧ r.trap = 0 then stage3 r k (wrA a regs) else r, p.a⟩ f hfw.1 hwD hrA
    refine Eq.trans hN ?_
    show nxtP (wrL (if r.full = true ∧ r.trap = 0 then stage3 r k (wrA a regs) else r) (wrA p.a (wrA a regs))) at_ f = nxtP (wrL (if r.full = true ∧ r.trap = 0 then stage3 r k (wrA a regs) else r) (wrA p.a (wrA a regs))) (nxtP (wrL k (wrA d.late d.regs)) (nxtP d.regs d.next (fetchL code d.at_)) (fetchL code d.next)) f
    rw [e2, ← hrr, ← hat]

def runDG (code : List Ins) : Nat → DS × Int × Int → DS × Int × Int
  | 0, x => x
  | n + 1, (d, t, k) => if t = 0 then runDG code n ((stepD code d).1, (stepD code d).2, k + 1) else (d, t, k)
theorem runDG_stop (code : List Ins) (n : Nat) {x : DS × Int × Int} (h : x.2.1 ≠ 0) : runDG code n x = x := by
  obtain ⟨s, t, k⟩ := x
  cases n with
  | zero => rfl
  | succ n => simp only [runDG]; rw [if_neg h]
theorem runDG_one (code : List Ins) (n : Nat) (s : DS) (k : Int) : runDG code (n + 1) (s, 0, k) = runDG code n ((stepD code s).1, (stepD code s).2, k + 1) := by simp [runDG]
theorem runPG_D (code : List Ins) : ∀ (n : Nat) (d : DS) (s : PS) (k : Int), Inv code d s → (runPG code n (s, 0, k)).2 = (runDG code n (d, 0, k)).2 ∧ (runPG code n (s, 0, k)).1.mem = (runDG code n (d, 0, k)).1.mem ∧ (runPG code n (s, 0, k)).1.out = (runDG code n (d, 0, k)).1.out
  | 0, d, s, k, h => ⟨rfl, h.hm, h.ho⟩
  | n + 1, d, s, k, h => by
    obtain ⟨h1, h2, h3, h4, h5⟩ := inv_step code h
    rw [runPG_one, runDG_one, h1]
    by_cases ht : (stepD code d).2 = 0
    · rw [ht]
      exact runPG_D code n _ _ _ (h5 ht)
    · rw [runPG_stop code n (x := ((cycleP code s).1, (stepD code d).2, k + 1)) ht, runDG_stop code n (x := ((stepD code d).1, (stepD code d).2, k + 1)) ht]
      exact ⟨rfl, h2, h4⟩
def beginD (mem : Int) (inp : List Int) : DS := ⟨List.replicate 32 0, List.replicate mem.toNat 0, 0, 1, inp, [], La0⟩
theorem inv_begin (code : List Ins) (mem : Int) (inp : List Int) : ∃ s, runPG code 3 (beginPS mem inp, 0, 0) = (s, 0, 3) ∧ Inv code (beginD mem inp) s := by
  have w0 := wf_begin mem inp
  have w1 := wf_cycle code w0
  have w2 := wf_cycle code w1
  have w3 := wf_cycle code w2
  have c1 : cycleP code (beginPS mem inp) = (⟨List.replicate 32 0, List.replicate mem.toNat 0, 1, inp, [], fetchL code 0, La0, La0, La0⟩, 0) := rfl
  rw [c1] at w1 w2 w3
  have n2 : nextF ⟨List.replicate 32 0, List.replicate mem.toNat 0, 1, inp, [], La0, fetchL code 0, La0, La0⟩ (fetchL code 0) = nxtP (List.replicate 32 0) 1 (fetchL code 0) := nextF_nxt _ _ w1.1.1 ⟨lw0, w1.1, lw0, lw0⟩ (by simp)
  have c2 : cycleP code ⟨List.replicate 32 0, List.replicate mem.toNat 0, 1, inp, [], fetchL code 0, La0, La0, La0⟩ = (⟨List.replicate 32 0, List.replicate mem.toNat 0, nxtP (List.replicate 32 0) 1 (fetchL code 0), inp, [], fetchL code 1, fetchL code 0, La0, La0⟩, 0) := by
    rw [cycle_empty code _ rfl rfl]
    rw [← n2]
    rfl
  rw [c2] at w2 w3
  have hk : (if (fetchL code 0).full = true ∧ (fetchL code 0).trap = 0 then stage3 (fetchL code 0) La0 (List.replicate 32 0) else fetchL code 0) = stL (fetchL code 0) La0 (List.replicate 32 0) := rfl
  generalize hX : nxtP (List.replicate 32 0) 1 (fetchL code 0) = x2 at *
  have e3 := cycle_empty code ⟨List.replicate 32 0, List.replicate mem.toNat 0, x2, inp, [], fetchL code 1, fetchL code 0, La0, La0⟩ rfl rfl
  rw [e3] at w3
  have n3 : nextF ⟨List.replicate 32 0, List.replicate mem.toNat 0, x2, inp, [], La0, fetchL code 1, stL (fetchL code 0) La0 (List.replicate 32 0), La0⟩ (fetchL code 1) = nxtP (wrL (stL (fetchL code 0) La0 (List.replicate 32 0)) (List.replicate 32 0)) x2 (fetchL code 1) := nextF_nxt _ _ w2.1.1 ⟨lw0, w2.1, w3.2.2.1, lw0⟩ (by simp)
  refine ⟨⟨List.replicate 32 0, List.replicate mem.toNat 0, nxtP (wrL (stL (fetchL code 0) La0 (List.replicate 32 0)) (List.replicate 32 0)) x2 (fetchL code 1), inp, [], fetchL code x2, fetchL code 1, stL (fetchL code 0) La0 (List.replicate 32 0), La0⟩, ?_, ?_⟩
  · rw [runPG_one, c1, runPG_one, c2, runPG_one, e3, ← n3]
    rfl
  · refine ⟨by simp, ⟨fetchL_wf _ _, fetchL_wf _ _, w3.2.2.1, lw0⟩, rfl, rfl, rfl, rfl, ?_, ?_, rfl, rfl, rfl⟩
    · show fetchL code x2 = fetchL code (nxtP (List.replicate 32 0) 1 (fetchL code 0))
      rw [hX]
    · show nxtP (wrL (stL (fetchL code 0) La0 (List.replicate 32 0)) (List.replicate 32 0)) x2 (fetchL code 1) = nxtP (wrL (stL (fetchL code 0) La0 (List.replicate 32 0)) (List.replicate 32 0)) (nxtP (List.replicate 32 0) 1 (fetchL code 0)) (fetchL code 1)
      rw [hX]
/-- The machine of five stages, by the one whose jumps and loads come late. -/
theorem runPP_D (code : List Ins) (mem : Int) (inp : List Int) (c : Int) (n : Nat) (hc : c = n + 3) (h : code.length ≤ 4096) (h0 : 0 ≤ mem) (h1 : mem ≤ 32000) : runPP code mem inp c = ⟨(runDG code n (beginD mem inp, 0, 3)).2.1, (runDG code n (beginD mem inp, 0, 3)).2.2, (runDG code n (beginD mem inp, 0, 3)).1.out, usedP (runDG code n (beginD mem inp, 0, 3)).1.mem⟩ := by
  unfold runPP
  rw [if_neg (by omega)]
  obtain ⟨s, e, hI⟩ := inv_begin code mem inp
  have : c.toNat = 3 + n := by omega
  simp only [this]
  rw [runPG_add, e]
  obtain ⟨q1, q2, q3⟩ := runPG_D code n _ s 3 hI
  rw [q1, q2, q3]
end Go.Proofs.Ytadcbnldahcelaa.S

set_option linter.unusedSimpArgs false
set_option linter.unusedVariables false
set_option maxRecDepth 100000
namespace Go.Proofs.Ytadcbnldahcelaa.S
open Go Go.RowKit Go.Alog Go.Proofs.Ytadcbnldahcelaa.T Go.Proofs.Ytadcbnldahcelaa.V

/-! A step of the late machine, by those of layer 7's. -/
theorem fetchL_ok {code : List Ins} {a : Int} (h0 : 0 ≤ a) (h1 : a < code.length) {i : Ins} (hi : code.getD a.toNat default = i) (hr : rightR i = true) : fetchL code a = { La0 with full := true, at_ := a, i := i } := by
  unfold fetchL
  rw [if_neg (by omega), hi, if_pos hr]
theorem fetchL_bad {code : List Ins} {a : Int} (h0 : 0 ≤ a) (h1 : a < code.length) (hr : rightR (code.getD a.toNat default) = false) : fetchL code a = { La0 with full := true, at_ := a, trap := 8 } := by
  unfold fetchL
  rw [if_neg (by omega), if_neg (by rw [hr]; exact Bool.false_ne_true)]
theorem fetchL_end {code : List Ins} {a : Int} (h : a < 0 ∨ a ≥ code.length) : fetchL code a = { La0 with full := true, at_ := a, trap := 2 } := by
  unfold fetchL
  rw [if_pos h]
/-- What a place that stops tells. -/
theorem stepD_stop (code : List Ins) (d : DS) {t : Int} (ht : t ≠ 0) (h : fetchL code d.at_ = { La0 with full := true, at_ := d.at_, trap := t }) : (stepD code d).2 = t ∧ (stepD code d).1.mem = d.mem ∧ (stepD code d).1.out = d.out := by
  unfold stepD
  simp only []
  rw [h]
  have e : stL { La0 with full := true, at_ := d.at_, trap := t } La0 d.regs = { La0 with full := true, at_ := d.at_, trap := t } := by
    unfold stL
    rw [if_neg (fun hh => ht hh.2)]
  rw [e]
  have e2 : ∀ l : La, l.trap ≠ 0 → actD d.mem d.inp d.out l = (⟨[], d.mem, 0, d.inp, d.out, La0, La0, La0, La0⟩, l.trap) := by
    intro l hl
    unfold actD pactP
    simp only []
    rw [if_pos (.inr hl)]
  rw [e2 _ ht]
  exact ⟨rfl, rfl, rfl⟩

theorem tmod_w32 (b c : Int) : w32 ((w32 b).tmod (w32 c)) = (w32 b).tmod (w32 c) := by
  apply w32_id
  have hb := w32_le b
  generalize w32 b = x at *
  generalize w32 c = y at *
  have hn : (x.tmod y).natAbs ≤ x.natAbs := by rw [Int.natAbs_tmod]; exact Nat.mod_le _ _
  rcases Int.le_total 0 x with h | h
  · have h1 := Int.tmod_nonneg y h
    omega
  · have e : x.tmod y = -((-x).tmod y) := by rw [Int.neg_tmod]; omega
    have h1 := Int.tmod_nonneg y (show 0 ≤ -x by omega)
    omega
theorem reck_w32 (i : Ins) (b c : Int) : w32 (reckonP i b c).1 = (reckonP i b c).1 := by
  unfold reckonP
  split
  · rfl
  split
  · exact w32_w32 _
  split
  · rfl
  split
  · rfl
  split
  · exact tmod_w32 b c
  · exact w32_w32 _
theorem reck_no (i : Ins) (b c : Int) (h : ¬ (1 ≤ i.op ∧ i.op ≤ 11)) : reckonP i b c = (0, 0, false) := by
  unfold reckonP
  split
  · rfl
  have : reckP i (w32 b) (w32 c) = none := by
    unfold reckP
    rw [if_neg (by omega), if_neg (by omega), if_neg (by omega), if_neg (by omega), if_neg (by omega), if_neg (by omega), if_neg (by omega), if_neg (by omega), if_neg (by omega)]
  rw [this]
  simp only
  rw [if_pos (by omega)]
theorem reck_yes (i : Ins) (b c : Int) (h : 1 ≤ i.op ∧ i.op ≤ 11) (hr : rightR i = true) : (reckonP i b c).2.2 = true := by
  unfold reckonP
  rw [if_neg (by rw [hr]; exact Bool.noConfusion)]
  cases hk : reckP i (w32 b) (w32 c) with
  | some v => rfl
  | none =>
    simp only
    rw [if_neg]
    · split
      · rfl
      split <;> rfl
    · intro hh
      unfold reckP at hk
      by_cases c1 : i.op = 1
      · rw [if_pos c1] at hk; cases hk
      rw [if_neg c1] at hk
      by_cases c2 : i.op = 2
      · rw [if_pos c2] at hk; cases hk
      rw [if_neg c2] at hk
      by_cases c3 : i.op = 3
      · rw [if_pos c3] at hk; cases hk
      rw [if_neg c3] at hk
      by_cases c6 : i.op = 6
      · rw [if_pos c6] at hk; cases hk
      rw [if_neg c6] at hk
      by_cases c7 : i.op = 7
      · rw [if_pos c7] at hk; cases hk
      rw [if_neg c7] at hk
      by_cases c8 : i.op = 8
      · rw [if_pos c8] at hk; cases hk
      rw [if_neg c8] at hk
      by_cases c9 : i.op = 9
      · rw [if_pos c9] at hk; cases hk
      rw [if_neg c9] at hk
      by_cases c10 : i.op = 10
      · rw [if_pos c10] at hk; cases hk
      rw [if_neg c10] at hk
      by_cases c11 : i.op = 11
      · rw [if_pos c11] at hk; cases hk
      · omega

/-- What layer 7's machine does with an instruction that goes nowhere. -/
def doP (s : MS) (i : Ins) : MS × Int :=
  let s1 := (actP s i).1
  if (actP s i).2 ≠ 0 then (s1, (actP s i).2) else
    let r := reckonP i (regOf s1.regs i.b) (regOf s1.regs i.c)
    if r.2.1 ≠ 0 then (s1, r.2.1) else (if r.2.2 then { s1 with regs := setR s1.regs i.a r.1 } else s1, 0)

structure DoD (d d' : DS) (t : Int) (q : MS × Int) : Prop where
  ht : t = q.2
  hm : d'.mem = q.1.mem
  ho : d'.out = q.1.out
  hi : t = 0 → d'.inp = q.1.inp
  hr : t = 0 → wrA d'.late d'.regs = q.1.regs
  ha : d'.at_ = d.next

theorem stepD_do (code : List Ins) (d : DS) (i : Ins) (x : Int) (hf : fetchL code d.at_ = { La0 with full := true, at_ := d.at_, i := i }) (hr : rightR i = true) (hl : d.late = La0) (hm : ∀ v ∈ d.mem, w32 v = v) (h18 : i.op ≠ 18) (hlen : d.regs.length = 32) :
    DoD d (stepD code d).1 (stepD code d).2 (doP ⟨d.regs, d.mem, x, d.inp, d.out⟩ i) ∧ ((stepD code d).2 = 0 → lateP i = false → (stepD code d).1.late = La0) := by
  obtain ⟨regs, mem, at_, next, inp, out, late⟩ := d
  simp only at hl hm hf hlen
  subst hl
  have hI := right_regs hr
  have hst : stepD code ⟨regs, mem, at_, next, inp, out, La0⟩ = (let l := stage3 { La0 with full := true, at_ := at_, i := i } La0 regs
    let p := actD mem inp out l
    (⟨wrL l regs, p.1.mem, next, nxtP regs next (fetchL code at_), p.1.inp, p.1.out, if lateP p.1.a.i = true then p.1.a else La0⟩, p.2)) := by
    unfold stepD
    simp only []
    rw [hf]
    rfl
  rw [hst]
  simp only []
  have ew : writesP i = fieldW i := by unfold writesP; rw [if_pos hr]
  have eS : stage3 { La0 with full := true, at_ := at_, i := i } La0 regs =
    (let l1 : La := ⟨true, i, at_, fieldW i, 0, regOf regs i.a, w32 (regOf regs i.b + i.imm), 0⟩
     if i.op = 14 then (if regOf regs i.a < 0 ∨ regOf regs i.a ≥ i.imm then { l1 with trap := if i.b ≠ 0 then i.b else 5 } else l1)
     else if i.op = 18 then { l1 with value := IntKind.wrap .i64 (at_ + 2) }
     else if i.op = 20 then { l1 with stored := regOf regs 4 }
     else { l1 with value := (reckonP i (regOf regs i.b) (regOf regs i.c)).1, trap := (reckonP i (regOf regs i.b) (regOf regs i.c)).2.1 }) := by
    unfold stage3
    simp only [early0, ew]
    rfl
  rw [eS]
  simp only []
  rw [if_neg h18]
  unfold doP actP
  simp only []
  by_cases h14 : i.op = 14
  · have fw : fieldW i = 0 := by unfold fieldW; rw [if_neg (by omega), if_neg (by omega), if_neg (by omega)]
    rw [if_pos h14, if_neg (show ¬ i.op = 12 by omega), if_neg (show ¬ i.op = 13 by omega), if_pos h14, fw]
    by_cases hc : regOf regs i.a < 0 ∨ regOf regs i.a ≥ i.imm
    · rw [if_pos hc, if_pos hc]
      have hne : (if i.b ≠ 0 then i.b else 5) ≠ 0 := by
        split
        · assumption
        · decide
      have e5 : (if i.b = 0 then (5 : Int) else i.b) = (if i.b ≠ 0 then i.b else 5) := by
        by_cases e : i.b = 0 <;> simp [e]
      simp only []
      rw [e5]
      rw [if_pos hne]
      have ea : ∀ l : La, l.trap ≠ 0 → actD mem inp out l = (⟨[], mem, 0, inp, out, La0, La0, La0, La0⟩, l.trap) := by
        intro l hl
        unfold actD pactP
        simp only []
        rw [if_pos (.inr hl)]
      rw [ea _ hne]
      exact ⟨⟨rfl, rfl, rfl, fun h => absurd h hne, fun h => absurd h hne, rfl⟩, fun h => absurd h hne⟩
    · rw [if_neg hc, if_neg hc, reck_no i _ _ (by omega)]
      have ea : ∀ l : La, l.full = true → l.trap = 0 → l.i = i → actD mem inp out l = (⟨[], mem, 0, inp, out, La0, La0, La0, l⟩, l.trap) := by
        intro l h1 h2 h3
        unfold actD pactP
        simp only [h3]
        rw [if_neg (by rw [h1, h2]; simp), if_neg (by omega), if_neg (by omega), if_neg (by omega)]
      rw [ea _ rfl rfl rfl]
      have hL : lateP i = false := by unfold lateP; simp [h14]
      simp only [hL]
      refine ⟨⟨rfl, rfl, rfl, fun _ => rfl, fun _ => rfl, rfl⟩, fun _ _ => rfl⟩
  rw [if_neg h14]
  by_cases h20 : i.op = 20
  · rw [if_pos h20, if_neg (show ¬ i.op = 12 by omega), if_neg (show ¬ i.op = 13 by omega), if_neg h14, if_pos h20]
    have ea : ∀ l : La, l.full = true → l.trap = 0 → l.i = i → actD mem inp out l = ({ (sysL ⟨[], mem, 0, inp, out, La0, La0, La0, La0⟩ l).1 with a := (sysL ⟨[], mem, 0, inp, out, La0, La0, La0, La0⟩ l).2 }, (sysL ⟨[], mem, 0, inp, out, La0, La0, La0, La0⟩ l).2.trap) := by
      intro l h1 h2 h3
      unfold actD pactP
      simp only [h3]
      rw [if_neg (by rw [h1, h2]; simp), if_neg (by omega), if_neg (by omega), if_pos h20]
    rw [ea _ rfl rfl rfl]
    unfold sysL sysP
    simp only []
    rw [reck_no i _ _ (by omega)]
    by_cases c0 : i.imm = 0
    · rw [if_pos c0, if_pos c0]
      exact ⟨⟨rfl, rfl, rfl, fun h => (by cases h), fun h => (by cases h), rfl⟩, fun h => by cases h⟩
    rw [if_neg c0, if_neg c0]
    by_cases c1 : i.imm = 1
    · rw [if_pos c1, if_pos c1]
      have fw : fieldW i = 4 := by unfold fieldW; rw [if_neg (by omega), if_neg (by omega), if_pos ⟨h20, c1⟩]
      have hL : lateP i = true := by unfold lateP; simp [h20, c1, hr]
      cases inp with
      | nil => exact ⟨⟨rfl, rfl, rfl, fun h => (by cases h), fun h => (by cases h), rfl⟩, fun h => by cases h⟩
      | cons y r =>
        simp only [hL, fw]
        refine ⟨⟨rfl, rfl, rfl, fun _ => rfl, fun _ => ?_, rfl⟩, fun _ h => by cases h⟩
        have e1 : wrL ⟨true, i, at_, 4, 0, regOf regs 4, w32 (regOf regs i.b + i.imm), 0⟩ regs = regs := by
          unfold wrL; rw [if_neg]; rintro ⟨_, _, h⟩; simp only [hL] at h; cases h
        rw [e1]
        unfold wrA setR
        simp
    rw [if_neg c1, if_neg c1]
    have fw : fieldW i = 0 := by unfold fieldW; rw [if_neg (by omega), if_neg (by omega), if_neg (by omega)]
    have hL : lateP i = false := by unfold lateP; simp [h20, c1]
    by_cases c2 : i.imm = 2
    · rw [if_pos c2, if_pos c2]
      by_cases ho : out.length ≥ 10000
      · rw [if_pos ho, if_pos ho]
        exact ⟨⟨rfl, rfl, rfl, fun h => (by cases h), fun h => (by cases h), rfl⟩, fun h => by cases h⟩
      · rw [if_neg ho, if_neg ho]
        simp only [hL, fw]
        exact ⟨⟨rfl, rfl, rfl, fun _ => rfl, fun _ => rfl, rfl⟩, fun _ _ => rfl⟩
    · rw [if_neg c2, if_neg c2]
      simp only [hL, fw]
      exact ⟨⟨rfl, rfl, rfl, fun _ => rfl, fun _ => rfl, rfl⟩, fun _ _ => rfl⟩
  rw [if_neg h20, if_neg h20]
  by_cases h12 : i.op = 12
  · rw [if_pos h12, reck_no i _ _ (by omega)]
    have fw : fieldW i = i.a := by unfold fieldW; rw [if_pos (by omega)]
    have hL : lateP i = true := by unfold lateP; simp [h12, hr]
    have ea : ∀ l : La, l.full = true → l.trap = 0 → l.i = i → actD mem inp out l = (if 0 ≤ l.where_ ∧ l.where_ < mem.length then (⟨[], mem, 0, inp, out, La0, La0, La0, { l with value := mem.getD l.where_.toNat 0 }⟩, l.trap) else (⟨[], mem, 0, inp, out, La0, La0, La0, La0⟩, 3)) := by
      intro l h1 h2 h3
      unfold actD pactP
      simp only [h3]
      rw [if_neg (by rw [h1, h2]; simp), if_pos h12]
    rw [ea _ rfl rfl rfl]
    simp only []
    by_cases hin : 0 ≤ w32 (regOf regs i.b + i.imm) ∧ w32 (regOf regs i.b + i.imm) < mem.length
    · rw [if_pos hin, if_pos hin]
      simp only [reck_no i _ _ (show ¬ (1 ≤ i.op ∧ i.op ≤ 11) by omega), hL, fw]
      refine ⟨⟨rfl, rfl, rfl, fun _ => rfl, fun _ => ?_, rfl⟩, fun _ h => by cases h⟩
      have e1 : wrL ⟨true, i, at_, i.a, 0, regOf regs i.a, w32 (regOf regs i.b + i.imm), 0⟩ regs = regs := by
        unfold wrL; rw [if_neg]; rintro ⟨_, _, h⟩; simp only [hL] at h; cases h
      rw [e1]
      have hx : w32 (mem.getD (w32 (regOf regs i.b + i.imm)).toNat 0) = mem.getD (w32 (regOf regs i.b + i.imm)).toNat 0 := by
        have : (w32 (regOf regs i.b + i.imm)).toNat < mem.length := by omega
        rw [show mem.getD (w32 (regOf regs i.b + i.imm)).toNat 0 = mem[(w32 (regOf regs i.b + i.imm)).toNat] by simp [List.getD, this]]
        exact hm _ (List.getElem_mem this)
      unfold wrA setR
      simp only [if_true]
      rw [hx]
      by_cases e : i.a = 0
      · rw [if_pos e, if_neg (fun hh => hh.2 e)]; rfl
      · rw [if_neg e, if_pos ⟨trivial, e⟩]; rfl
    · rw [if_neg hin, if_neg hin]
      exact ⟨⟨rfl, rfl, rfl, fun h => (by cases h), fun h => (by cases h), rfl⟩, fun h => by cases h⟩
  rw [if_neg h12]
  have hL : lateP i = false := by unfold lateP; simp [h12, h20]
  by_cases h13 : i.op = 13
  · rw [if_pos h13, reck_no i _ _ (by omega)]
    have fw : fieldW i = 0 := by unfold fieldW; rw [if_neg (by omega), if_neg (by omega), if_neg (by omega)]
    have ea : ∀ l : La, l.full = true → l.trap = 0 → l.i = i → actD mem inp out l = (if 0 ≤ l.where_ ∧ l.where_ < mem.length then (⟨[], mem.set l.where_.toNat (w32 l.stored), 0, inp, out, La0, La0, La0, l⟩, l.trap) else (⟨[], mem, 0, inp, out, La0, La0, La0, La0⟩, 3)) := by
      intro l h1 h2 h3
      unfold actD pactP
      simp only [h3]
      rw [if_neg (by rw [h1, h2]; simp), if_neg h12, if_pos h13]
    rw [ea _ rfl rfl rfl]
    simp only []
    by_cases hin : 0 ≤ w32 (regOf regs i.b + i.imm) ∧ w32 (regOf regs i.b + i.imm) < mem.length
    · rw [if_pos hin, if_pos hin]
      simp only [reck_no i _ _ (show ¬ (1 ≤ i.op ∧ i.op ≤ 11) by omega), hL, fw]
      exact ⟨⟨rfl, rfl, rfl, fun _ => rfl, fun _ => rfl, rfl⟩, fun _ _ => rfl⟩
    · rw [if_neg hin, if_neg hin]
      exact ⟨⟨rfl, rfl, rfl, fun h => (by cases h), fun h => (by cases h), rfl⟩, fun h => by cases h⟩
  rw [if_neg h13, if_neg h14]
  have ea : ∀ l : La, l.full = true → l.i = i → actD mem inp out l = (if l.trap ≠ 0 then (⟨[], mem, 0, inp, out, La0, La0, La0, La0⟩, l.trap) else (⟨[], mem, 0, inp, out, La0, La0, La0, l⟩, 0)) := by
    intro l h1 h3
    unfold actD pactP
    simp only [h3]
    by_cases h2 : l.trap = 0
    · rw [if_neg (by rw [h1, h2]; simp), if_neg h12, if_neg h13, if_neg h20, if_neg (by simp [h2]), h2]
    · rw [if_pos (.inr h2), if_pos h2]
  rw [ea _ rfl rfl]
  have hv := reck_w32 i (regOf regs i.b) (regOf regs i.c)
  have hy := fun h => reck_yes i (regOf regs i.b) (regOf regs i.c) h hr
  have hn := reck_no i (regOf regs i.b) (regOf regs i.c)
  generalize reckonP i (regOf regs i.b) (regOf regs i.c) = R at hv hy hn ⊢
  obtain ⟨v, t, ok⟩ := R
  simp only at hv hy hn
  by_cases hT : t = 0
  · subst hT
    simp only [ne_eq, not_true_eq_false, if_false, hL, Bool.false_eq_true]
    refine ⟨⟨rfl, ?_, ?_, fun _ => ?_, fun _ => ?_, rfl⟩, fun _ _ => trivial⟩
    · split <;> rfl
    · split <;> rfl
    · split <;> rfl
    show wrL _ regs = _
    by_cases h1 : 1 ≤ i.op ∧ i.op ≤ 11
    · have fw : fieldW i = i.a := by unfold fieldW; rw [if_pos (by omega)]
      unfold wrL setR
      rw [if_pos (hy h1)]
      simp only [hL, fw, hv]
      by_cases e : i.a = 0
      · rw [if_pos e, if_neg (fun hh => hh.2.1 e)]
      · rw [if_neg e, if_pos ⟨trivial, e, trivial⟩]
    · have fw : fieldW i = 0 := by unfold fieldW; rw [if_neg (by omega), if_neg h18, if_neg (fun hh => h20 hh.1)]
      have hok : ok = false := by have := hn h1; injection this with _ h; injection h
      subst hok
      unfold wrL
      simp only [fw]
      rfl
  · simp only [ne_eq, hT, not_true_eq_false, not_false_eq_true, if_true, if_false]
    exact ⟨⟨rfl, rfl, rfl, fun h => absurd h hT, fun h => absurd h hT, rfl⟩, fun h => h.elim⟩
end Go.Proofs.Ytadcbnldahcelaa.S

set_option linter.unusedSimpArgs false
set_option linter.unusedVariables false
set_option maxRecDepth 100000
namespace Go.Proofs.Ytadcbnldahcelaa.S
open Go Go.RowKit Go.Alog Go.Proofs.Ytadcbnldahcelaa.T Go.Proofs.Ytadcbnldahcelaa.V

theorem sysP_at (s : MS) (n : Int) : (sysP s n).1.at_ = s.at_ := by
  unfold sysP
  split
  · rfl
  split
  · cases s.inp <;> rfl
  split
  · split <;> rfl
  · rfl
theorem actP_at (s : MS) (i : Ins) : (actP s i).1.at_ = s.at_ := by
  unfold actP; simp only []
  split
  · split <;> rfl
  split
  · split <;> rfl
  split
  · split <;> rfl
  split
  · exact sysP_at s _
  · rfl
theorem doP_at (s : MS) (i : Ins) : (doP s i).1.at_ = s.at_ := by
  unfold doP; simp only []
  split
  · exact actP_at s i
  split
  · exact actP_at s i
  split
  · exact actP_at s i
  · exact actP_at s i
theorem setRl (r : List Int) (n v : Int) : (setR r n v).length = r.length := by unfold setR; split <;> simp
theorem sysP_keep (s : MS) (n : Int) : (sysP s n).1.regs.length = s.regs.length ∧ (sysP s n).1.mem = s.mem := by
  unfold sysP
  split
  · exact ⟨rfl, rfl⟩
  split
  · cases s.inp with
    | nil => exact ⟨rfl, rfl⟩
    | cons x r => exact ⟨setRl s.regs 4 x, rfl⟩
  split
  · split <;> exact ⟨rfl, rfl⟩
  · exact ⟨rfl, rfl⟩
theorem actP_keep (s : MS) (i : Ins) (hm : ∀ v ∈ s.mem, w32 v = v) : (actP s i).1.regs.length = s.regs.length ∧ ∀ v ∈ (actP s i).1.mem, w32 v = v := by
  unfold actP; simp only []
  split
  · split
    · exact ⟨setRl _ _ _, hm⟩
    · exact ⟨rfl, hm⟩
  split
  · split
    · refine ⟨rfl, fun v hv => ?_⟩
      rcases List.mem_or_eq_of_mem_set hv with h | h
      · exact hm v h
      · rw [h]; exact w32_w32 _
    · exact ⟨rfl, hm⟩
  split
  · split <;> exact ⟨rfl, hm⟩
  split
  · obtain ⟨h1, h2⟩ := sysP_keep s i.imm
    exact ⟨h1, by rw [h2]; exact hm⟩
  · exact ⟨rfl, hm⟩
theorem doP_keep (s : MS) (i : Ins) (hm : ∀ v ∈ s.mem, w32 v = v) : (doP s i).1.regs.length = s.regs.length ∧ ∀ v ∈ (doP s i).1.mem, w32 v = v := by
  have h := actP_keep s i hm
  unfold doP; simp only []
  split
  · exact h
  split
  · exact h
  split
  · exact ⟨by rw [setRl]; exact h.1, h.2⟩
  · exact h
theorem stepP_do (code : List Ins) (s : MS) (h0 : 0 ≤ s.at_) (h1 : s.at_ < code.length) {i : Ins} (hi : code.getD s.at_.toNat default = i) (hr : rightR i = true) :
    stepP code s = if (doP s i).2 ≠ 0 then doP s i else ({ (nextP (doP s i).1 i).1 with at_ := (nextP (doP s i).1 i).2 }, 0) := by
  unfold stepP
  rw [if_neg (by omega), if_neg (by omega), hi]
  simp only [hr, Bool.true_eq_false, if_false]
  unfold doP
  simp only []
  generalize actP s i = A
  obtain ⟨s1, t1⟩ := A
  simp only
  by_cases c1 : t1 = 0
  · subst c1
    simp only [ne_eq, not_true_eq_false, if_false]
    generalize reckonP i (regOf s1.regs i.b) (regOf s1.regs i.c) = R
    obtain ⟨v, t2, ok⟩ := R
    simp only
    by_cases c2 : t2 = 0
    · subst c2
      simp only [not_true_eq_false, if_false]
    · simp only [c2, not_false_eq_true, if_true]
  · simp only [ne_eq, c1, not_false_eq_true, if_true]
theorem stepP_out2 (code : List Ins) (s : MS) (h : s.at_ < 0 ∨ s.at_ ≥ code.length) : stepP code s = (s, 2) := by
  unfold stepP
  by_cases h0 : s.at_ < 0
  · rw [if_pos h0]
  · rw [if_neg h0, if_pos (by omega)]
theorem stepP_wrong2 (code : List Ins) (s : MS) (h0 : 0 ≤ s.at_) (h1 : s.at_ < code.length) (hr : rightR (code.getD s.at_.toNat default) = false) : stepP code s = (s, 8) := by
  unfold stepP
  rw [if_neg (by omega), if_neg (by omega)]
  simp only [hr, if_true]
theorem stepD_next (code : List Ins) (d : DS) : (stepD code d).1.next = nxtP d.regs d.next (fetchL code d.at_) := rfl

/-- What comes at once, and goes nowhere. -/
def calmI (i : Ins) : Prop := i.op ≤ 11 ∨ i.op = 13 ∨ (i.op = 20 ∧ i.imm = 0)
theorem calm_late {i : Ins} (h : calmI i) : lateP i = false := by
  unfold lateP
  have a : (i.op == 12) = false := by
    rw [beq_eq_false_iff_ne]; rcases h with h | h | h <;> omega
  have b : (i.op == 20 && i.imm == 1) = false := by
    rcases h with h | h | h
    · rw [beq_eq_false_iff_ne.2 (by omega : i.op ≠ 20)]; rfl
    · rw [beq_eq_false_iff_ne.2 (by omega : i.op ≠ 20)]; rfl
    · rw [h.2]; simp
  rw [a, b]; simp
theorem nxt_plain (regs : List Int) (a : Int) (l : La) (h : l.i.op < 15 ∨ 19 < l.i.op) : nxtP regs a l = IntKind.wrap .i64 (a + 1) := by
  unfold nxtP; simp only []
  split
  · rfl
  rw [if_neg (by omega), if_neg (by omega), if_neg (by omega)]
theorem nextP_calm (s : MS) (i : Ins) (h : i.op < 15 ∨ 19 < i.op) : nextP s i = (s, IntKind.wrap .i64 (s.at_ + 1)) := by
  unfold nextP
  simp only
  rw [if_neg (by omega), if_neg (by omega), if_neg (by omega), if_neg (by omega)]

structure Rel1 (s : MS) (d : DS) : Prop where
  r : d.regs = s.regs
  m : d.mem = s.mem
  i : d.inp = s.inp
  o : d.out = s.out
  a : d.at_ = s.at_
  n : d.next = s.at_ + 1
  l : d.late = La0
  w : ∀ v ∈ s.mem, w32 v = v
  len : s.regs.length = 32

theorem calm_step (code : List Ins) (hc : ∀ i ∈ code, calmI i) (hl : code.length ≤ 4096) (s : MS) (d : DS) (h0 : 0 ≤ s.at_) (h1 : s.at_ ≤ code.length) (h : Rel1 s d) :
    (stepD code d).2 = (stepP code s).2 ∧ (stepD code d).1.mem = (stepP code s).1.mem ∧ (stepD code d).1.out = (stepP code s).1.out ∧ ((stepP code s).2 = 0 → Rel1 (stepP code s).1 (stepD code d).1 ∧ (stepP code s).1.at_ = s.at_ + 1 ∧ s.at_ < code.length) := by
  obtain ⟨e1, e2, e3, e4, e5, e6, e7, hw, hlen⟩ := h
  by_cases hend : s.at_ ≥ code.length
  · rw [stepP_out2 code s (.inr hend)]
    obtain ⟨a1, a2, a3⟩ := stepD_stop code d (t := 2) (by decide) (fetchL_end (.inr (by rw [e5]; exact hend)))
    exact ⟨a1, by rw [a2, e2], by rw [a3, e4], fun h => by cases h⟩
  have hlt : s.at_.toNat < code.length := by omega
  have hi : code.getD s.at_.toNat default = code[s.at_.toNat] := by simp [List.getD, hlt]
  have hcal := hc _ (List.getElem_mem hlt)
  rw [← hi] at hcal
  generalize hX : code.getD s.at_.toNat default = i at hcal
  cases hr : rightR i with
  | false =>
    rw [stepP_wrong2 code s h0 (by omega) (by rw [hX]; exact hr)]
    obtain ⟨a1, a2, a3⟩ := stepD_stop code d (t := 8) (by decide) (fetchL_bad (by omega) (by omega) (by rw [e5, hX]; exact hr))
    exact ⟨a1, by rw [a2, e2], by rw [a3, e4], fun h => by cases h⟩
  | true =>
    have hF := fetchL_ok (code := code) (a := d.at_) (by omega) (by omega) (i := i) (by rw [e5]; exact hX) hr
    obtain ⟨hD, hLa⟩ := stepD_do code d i s.at_ hF hr e7 (by rw [e2]; exact hw) (by rcases hcal with h | h | h <;> omega) (by rw [e1]; exact hlen)
    have hs : (⟨d.regs, d.mem, s.at_, d.inp, d.out⟩ : MS) = s := by rw [e1, e2, e3, e4]
    rw [hs] at hD
    obtain ⟨g1, g2, g3, g4, g5, g6⟩ := hD
    rw [stepP_do code s h0 (by omega) hX hr]
    have hk := doP_keep s i hw
    have hat := doP_at s i
    by_cases ht : (doP s i).2 = 0
    · rw [if_neg (by simp [ht]), nextP_calm _ _ (by rcases hcal with h | h | h <;> omega)]
      rw [ht] at g1
      have hL := hLa g1 (calm_late hcal)
      have w1 : IntKind.wrap .i64 (s.at_ + 1) = s.at_ + 1 := by rw [IntKind.wrap_i64]; omega
      have w2 : IntKind.wrap .i64 (s.at_ + 1 + 1) = s.at_ + 1 + 1 := by rw [IntKind.wrap_i64]; omega
      have g5 := g5 g1
      rw [hL] at g5
      refine ⟨g1, g2, g3, fun _ => ⟨⟨g5, g2, g4 g1, g3, ?_, ?_, hL, hk.2, by rw [← hlen]; exact hk.1⟩, ?_, by omega⟩⟩
      · rw [g6, e6]; show _ = IntKind.wrap .i64 ((doP s i).1.at_ + 1); rw [hat, w1]
      · rw [stepD_next, hF, nxt_plain _ _ _ (by show i.op < 15 ∨ 19 < i.op; rcases hcal with h | h | h <;> omega), e6]
        show _ = IntKind.wrap .i64 ((doP s i).1.at_ + 1) + 1
        rw [hat, w1, w2]
      · show IntKind.wrap .i64 ((doP s i).1.at_ + 1) = _
        rw [hat, w1]
    · rw [if_pos ht]
      exact ⟨g1, g2, g3, fun h => absurd h ht⟩

theorem runG_stop2 (code : List Ins) (n : Nat) {x : MS × Int × Int} (h : x.2.1 ≠ 0) : runG code n x = x := by
  obtain ⟨s, t, k⟩ := x
  cases n with
  | zero => rfl
  | succ n => simp only [runG]; rw [if_neg h]
theorem calm_run (code : List Ins) (hc : ∀ i ∈ code, calmI i) (hl : code.length ≤ 4096) : ∀ (n : Nat) (s : MS) (d : DS) (k : Int), 0 ≤ s.at_ → s.at_ ≤ code.length → Rel1 s d →
    (runDG code n (d, 0, k + 3)).2.1 = (runG code n (s, 0, k)).2.1 ∧ (runDG code n (d, 0, k + 3)).2.2 = (runG code n (s, 0, k)).2.2 + 3 ∧ (runDG code n (d, 0, k + 3)).1.out = (runG code n (s, 0, k)).1.out ∧ (runDG code n (d, 0, k + 3)).1.mem = (runG code n (s, 0, k)).1.mem ∧ (code.length - s.at_ < n → (runG code n (s, 0, k)).2.1 ≠ 0)
  | 0, s, d, k, h0, h1, h => ⟨rfl, rfl, h.o, h.m, fun hh => by omega⟩
  | n + 1, s, d, k, h0, h1, h => by
    obtain ⟨a1, a2, a3, a4⟩ := calm_step code hc hl s d h0 h1 h
    rw [runDG_one, show runG code (n + 1) (s, 0, k) = runG code n ((stepP code s).1, (stepP code s).2, k + 1) by simp [runG], a1]
    by_cases ht : (stepP code s).2 = 0
    · obtain ⟨b1, b2, b3⟩ := a4 ht
      rw [ht, show k + 3 + 1 = (k + 1) + 3 by omega]
      obtain ⟨c1, c2, c3, c4, c5⟩ := calm_run code hc hl n (stepP code s).1 (stepD code d).1 (k + 1) (by omega) (by omega) b1
      exact ⟨c1, c2, c3, c4, fun hh => c5 (by omega)⟩
    · rw [runDG_stop code n (x := ((stepD code d).1, (stepP code s).2, k + 3 + 1)) ht, runG_stop2 code n (x := ((stepP code s).1, (stepP code s).2, k + 1)) ht]
      exact ⟨rfl, by show k + 3 + 1 = k + 1 + 3; omega, a3, a2, fun _ => ht⟩
theorem runDG_add (code : List Ins) : ∀ (n k : Nat) (x : DS × Int × Int), runDG code (n + k) x = runDG code k (runDG code n x)
  | 0, k, x => by rw [Nat.zero_add]; rfl
  | n + 1, k, (s, t, j) => by
    rw [show n + 1 + k = (n + k) + 1 by omega]
    by_cases h : t = 0
    · simp only [runDG, if_pos h]; exact runDG_add code n k _
    · rw [runDG_stop code _ h, runDG_stop code (n + 1) h, runDG_stop code k h]
theorem runG_add2 (code : List Ins) : ∀ (n k : Nat) (x : MS × Int × Int), runG code (n + k) x = runG code k (runG code n x)
  | 0, k, x => by rw [Nat.zero_add]; rfl
  | n + 1, k, (s, t, j) => by
    rw [show n + 1 + k = (n + k) + 1 by omega]
    by_cases h : t = 0
    · simp only [runG, if_pos h]; exact runG_add2 code n k _
    · rw [runG_stop2 code _ h, runG_stop2 code (n + 1) h, runG_stop2 code k h]
/-- Code that only reckons, and then stores: the same, three cycles more. -/
theorem runPP_straight (code : List Ins) (hc : ∀ i ∈ code, calmI i) (hl : code.length ≤ 900) : runPP code 9 [] 1000 = { runP code 9 [] 1000 with steps := (runP code 9 [] 1000).steps + 3 } := by
  rw [runPP_D code 9 [] 1000 997 (by decide) (by omega) (by decide) (by decide)]
  unfold runP
  rw [if_neg (by omega)]
  simp only
  obtain ⟨c1, c2, c3, c4, c5⟩ := calm_run code hc (by omega) 997 (beginS 9 []) (beginD 9 []) 0 (by decide) (by show (0 : Int) ≤ _; omega) ⟨rfl, rfl, rfl, rfl, rfl, rfl, rfl, by intro v hv; simp [beginS] at hv; rw [hv]; rfl, by simp [beginS]⟩
  have hn := c5 (by show (code.length : Int) - 0 < _; omega)
  have e : runG code (1000 : Int).toNat (beginS 9 [], 0, 0) = runG code 997 (beginS 9 [], 0, 0) := by
    rw [show (1000 : Int).toNat = 997 + 3 from rfl, runG_add2, runG_stop2 code 3 hn]
  rw [e]
  have c1 : (runDG code 997 (beginD 9 [], 0, 3)).2.1 = _ := c1
  have c2 : (runDG code 997 (beginD 9 [], 0, 3)).2.2 = _ := c2
  have c3 : (runDG code 997 (beginD 9 [], 0, 3)).1.out = _ := c3
  have c4 : (runDG code 997 (beginD 9 [], 0, 3)).1.mem = _ := c4
  rw [c1, c2, c3, c4]
end Go.Proofs.Ytadcbnldahcelaa.S

set_option linter.unusedSimpArgs false
set_option linter.unusedVariables false
set_option maxRecDepth 100000
namespace Go.Proofs.Ytadcbnldahcelaa.S
open Go Go.RowKit Go.Alog Go.Proofs.Ytadcbnldahcelaa.T Go.Proofs.Ytadcbnldahcelaa.V

theorem stepD_calm (code : List Ins) (d : DS) (i : Ins) (q : MS) (hf : fetchL code d.at_ = { La0 with full := true, at_ := d.at_, i := i }) (hr : rightR i = true) (hl : d.late = La0) (hm : ∀ v ∈ d.mem, w32 v = v) (h18 : i.op ≠ 18) (hlen : d.regs.length = 32) (hL : lateP i = false) (hq : doP ⟨d.regs, d.mem, 0, d.inp, d.out⟩ i = (q, 0)) :
    stepD code d = (⟨q.regs, q.mem, d.next, nxtP d.regs d.next { La0 with full := true, at_ := d.at_, i := i }, q.inp, q.out, La0⟩, 0) := by
  obtain ⟨⟨g1, g2, g3, g4, g5, g6⟩, hLa⟩ := stepD_do code d i 0 hf hr hl hm h18 hlen
  have hn := stepD_next code d
  rw [hq] at g1 g2 g3 g4 g5
  have hL2 := hLa g1 hL
  have g4 := g4 g1
  have g5 := g5 g1
  rw [hL2] at g5
  rw [hf] at hn
  generalize stepD code d = X at *
  obtain ⟨⟨a1, a2, a3, a4, a5, a6, a7⟩, t⟩ := X
  simp only at g1 g2 g3 g4 g5 g6 hn hL2
  have g5 : a1 = q.regs := g5
  rw [g1, g2, g3, g4, g5, g6, hn, hL2]

theorem doP_reck (s : MS) (i : Ins) (v : Int) (h : i.op ≤ 11) (hk : reckonP i (regOf s.regs i.b) (regOf s.regs i.c) = (v, 0, true)) : doP s i = ({ s with regs := setR s.regs i.a v }, 0) := by
  have ha : actP s i = (s, 0) := by
    unfold actP
    simp only []
    rw [if_neg (by omega), if_neg (by omega), if_neg (by omega), if_neg (by omega)]
  unfold doP
  simp only [ha, hk]
  simp
theorem doP_go (s : MS) (i : Ins) (h : 15 ≤ i.op ∧ i.op ≤ 19) : doP s i = (s, 0) := by
  have ha : actP s i = (s, 0) := by
    unfold actP
    simp only []
    rw [if_neg (by omega), if_neg (by omega), if_neg (by omega), if_neg (by omega)]
  unfold doP
  simp only [ha, reck_no i _ _ (show ¬ (1 ≤ i.op ∧ i.op ≤ 11) by omega)]
  simp
theorem doP_out (s : MS) (h : s.out.length < 10000) : doP s ⟨20, 0, 0, 0, 2⟩ = ({ s with out := s.out ++ [regOf s.regs 4] }, 0) := by
  have ha : actP s ⟨20, 0, 0, 0, 2⟩ = ({ s with out := s.out ++ [regOf s.regs 4] }, 0) := by
    show sysP s 2 = _
    unfold sysP
    rw [if_neg (by decide), if_neg (by decide), if_pos rfl, if_neg (by omega)]
  unfold doP
  simp only [ha, reck_no (⟨20, 0, 0, 0, 2⟩ : Ins) _ _ (show ¬ (1 ≤ (20 : Int) ∧ (20 : Int) ≤ 11) by decide)]
  simp
theorem right_addi (x : Int) (h : 0 ≤ x ∧ x < 32768) : rightR ⟨10, 4, 0, 0, x⟩ = true := by
  have : rangeR 10 x = true := by
    unfold rangeR
    rw [if_neg (by decide), if_neg (by decide), if_neg (by decide)]
    rw [decide_eq_true (by omega), decide_eq_true (by omega)]; rfl
  unfold rightR
  simp only [this]
  rfl
theorem right_jmp (x : Int) (h : 0 ≤ x ∧ x ≤ 4096) : rightR ⟨17, 0, 0, 0, x⟩ = true := by
  have : rangeR 17 x = true := by
    unfold rangeR
    rw [if_neg (by decide), if_pos (by decide)]
    rw [decide_eq_true (by omega), decide_eq_true (by omega)]; rfl
  unfold rightR
  simp only [this]
  rfl
theorem reck_addi (x c : Int) (h : 0 ≤ x ∧ x < 32768) : reckonP ⟨10, 4, 0, 0, x⟩ 0 c = (x, 0, true) := by
  unfold reckonP
  rw [if_neg (by rw [right_addi x h]; exact Bool.noConfusion)]
  have : reckP ⟨10, 4, 0, 0, x⟩ (w32 0) (w32 c) = some x := by
    show some (IntKind.wrap .i64 (w32 0 + x)) = some x
    rw [w32_id (by omega), w64_id (by omega)]; simp
  rw [this]
  simp only
  rw [w32_id (by omega)]

def slotsC (n : Nat) (x y : Int) : List Ins := [⟨17, 0, 0, 0, (n : Int) + 2⟩, ⟨10, 4, 0, 0, x⟩] ++ List.replicate n ⟨20, 0, 0, 0, 2⟩ ++ [⟨20, 0, 0, 0, 2⟩, ⟨10, 4, 0, 0, y⟩, ⟨20, 0, 0, 0, 2⟩, ⟨20, 0, 0, 0, 0⟩]
theorem slotsC_len (n : Nat) (x y : Int) : (slotsC n x y).length = n + 6 := by simp [slotsC]
theorem slotsC_hi (n : Nat) (x y : Int) (k : Nat) : (slotsC n x y).getD (n + 2 + k) default = ([⟨20, 0, 0, 0, 2⟩, ⟨10, 4, 0, 0, y⟩, ⟨20, 0, 0, 0, 2⟩, ⟨20, 0, 0, 0, 0⟩] : List Ins).getD k default := by
  unfold slotsC
  simp only [List.getD]
  rw [List.getElem?_append_right (by simp)]
  congr 2
  simp
theorem setR4 (regs : List Int) (v : Int) (hv : w32 v = v) (hl : regs.length = 32) : regOf (setR regs 4 v) 4 = v ∧ regOf (setR regs 4 v) 0 = regOf regs 0 ∧ (setR regs 4 v).length = 32 := by
  unfold setR
  rw [if_neg (by decide), hv]
  refine ⟨?_, ?_, by simp [hl]⟩
  · rw [regOf_set (by omega) (by decide)]; simp
  · rw [regOf_set (by omega) (by decide)]; simp

theorem runPP_slots (n : Nat) (hn : n ≤ 50) (x y : Int) (hx : 0 ≤ x ∧ x < 32768) (hy : 0 ≤ y ∧ y < 32768) : (runPP (slotsC n x y) 0 [] 50).trap = 1 ∧ (runPP (slotsC n x y) 0 [] 50).steps = 9 ∧ (runPP (slotsC n x y) 0 [] 50).out = [x, y] := by
  rw [runPP_D (slotsC n x y) 0 [] 50 47 (by decide) (by rw [slotsC_len]; omega) (by decide) (by decide)]
  have L := slotsC_len n x y
  have f0 : fetchL (slotsC n x y) 0 = { La0 with full := true, at_ := 0, i := ⟨17, 0, 0, 0, (n : Int) + 2⟩ } := fetchL_ok (by decide) (by rw [L]; omega) rfl (right_jmp _ (by omega))
  have f1 : fetchL (slotsC n x y) 1 = { La0 with full := true, at_ := 1, i := ⟨10, 4, 0, 0, x⟩ } := fetchL_ok (by decide) (by rw [L]; omega) rfl (right_addi x hx)
  have f2 : fetchL (slotsC n x y) ((n : Int) + 2) = { La0 with full := true, at_ := (n : Int) + 2, i := ⟨20, 0, 0, 0, 2⟩ } := fetchL_ok (by omega) (by rw [L]; omega) (by rw [show ((n : Int) + 2).toNat = n + 2 + 0 by omega, slotsC_hi]; rfl) (by decide +kernel)
  have f3 : fetchL (slotsC n x y) ((n : Int) + 3) = { La0 with full := true, at_ := (n : Int) + 3, i := ⟨10, 4, 0, 0, y⟩ } := fetchL_ok (by omega) (by rw [L]; omega) (by rw [show ((n : Int) + 3).toNat = n + 2 + 1 by omega, slotsC_hi]; rfl) (right_addi y hy)
  have f4 : fetchL (slotsC n x y) ((n : Int) + 4) = { La0 with full := true, at_ := (n : Int) + 4, i := ⟨20, 0, 0, 0, 2⟩ } := fetchL_ok (by omega) (by rw [L]; omega) (by rw [show ((n : Int) + 4).toNat = n + 2 + 2 by omega, slotsC_hi]; rfl) (by decide +kernel)
  have f5 : fetchL (slotsC n x y) ((n : Int) + 5) = { La0 with full := true, at_ := (n : Int) + 5, i := ⟨20, 0, 0, 0, 0⟩ } := fetchL_ok (by omega) (by rw [L]; omega) (by rw [show ((n : Int) + 5).toNat = n + 2 + 3 by omega, slotsC_hi]; rfl) (by decide +kernel)
  generalize slotsC n x y = code at *
  have hx3 : w32 x = x := w32_id (by omega)
  have hy3 : w32 y = y := w32_id (by omega)
  obtain ⟨x1, x2, x3⟩ := setR4 (List.replicate 32 0) x hx3 (by simp)
  obtain ⟨y1, y2, y3⟩ := setR4 (setR (List.replicate 32 0) 4 x) y hy3 x3
  have z0 : regOf (List.replicate 32 (0 : Int)) 0 = 0 := rfl
  have nil : ∀ v ∈ ([] : List Int), w32 v = v := fun v hv => by cases hv
  have s0 : stepD code (beginD 0 []) = (⟨List.replicate 32 0, [], 1, (n : Int) + 2, [], [], La0⟩, 0) :=
    stepD_calm code (beginD 0 []) ⟨17, 0, 0, 0, (n : Int) + 2⟩ ⟨List.replicate 32 0, [], 0, [], []⟩ f0 (right_jmp _ (by omega)) rfl nil (show (17 : Int) ≠ 18 by decide) (by simp [beginD]) (by simp [lateP]) (doP_go _ _ (show (15 : Int) ≤ 17 ∧ (17 : Int) ≤ 19 by decide))
  have s1 : stepD code ⟨List.replicate 32 0, [], 1, (n : Int) + 2, [], [], La0⟩ = (⟨setR (List.replicate 32 0) 4 x, [], (n : Int) + 2, (n : Int) + 3, [], [], La0⟩, 0) := by
    rw [stepD_calm code _ ⟨10, 4, 0, 0, x⟩ ⟨setR (List.replicate 32 0) 4 x, [], 0, [], []⟩ f1 (right_addi x hx) rfl nil (by simp) (by simp) (by simp [lateP]) (doP_reck _ _ x (show (10 : Int) ≤ 11 by decide) (by rw [z0]; exact reck_addi x _ hx))]
    rw [nxt_plain _ _ _ (.inl (show (10 : Int) < 15 by decide)), w64_id (by constructor <;> (simp only; omega))]
    simp only [Prod.mk.injEq, DS.mk.injEq, true_and, and_true]
    omega
  have s2 : stepD code ⟨setR (List.replicate 32 0) 4 x, [], (n : Int) + 2, (n : Int) + 3, [], [], La0⟩ = (⟨setR (List.replicate 32 0) 4 x, [], (n : Int) + 3, (n : Int) + 4, [], [x], La0⟩, 0) := by
    rw [stepD_calm code _ ⟨20, 0, 0, 0, 2⟩ ⟨setR (List.replicate 32 0) 4 x, [], 0, [], [x]⟩ f2 (by decide +kernel) rfl nil (by simp) x3 (by decide +kernel) (by rw [doP_out _ (by simp)]; simp only [x1]; rfl)]
    rw [nxt_plain _ _ _ (.inr (show (19 : Int) < 20 by decide)), w64_id (by constructor <;> (simp only; omega))]
    simp only [Prod.mk.injEq, DS.mk.injEq, true_and, and_true]
    omega
  have s3 : stepD code ⟨setR (List.replicate 32 0) 4 x, [], (n : Int) + 3, (n : Int) + 4, [], [x], La0⟩ = (⟨setR (setR (List.replicate 32 0) 4 x) 4 y, [], (n : Int) + 4, (n : Int) + 5, [], [x], La0⟩, 0) := by
    rw [stepD_calm code _ ⟨10, 4, 0, 0, y⟩ ⟨setR (setR (List.replicate 32 0) 4 x) 4 y, [], 0, [], [x]⟩ f3 (right_addi y hy) rfl nil (by simp) x3 (by simp [lateP]) (doP_reck _ _ y (show (10 : Int) ≤ 11 by decide) (by simp only [x2, z0]; exact reck_addi y _ hy))]
    rw [nxt_plain _ _ _ (.inl (show (10 : Int) < 15 by decide)), w64_id (by constructor <;> (simp only; omega))]
    simp only [Prod.mk.injEq, DS.mk.injEq, true_and, and_true]
    omega
  have s4 : stepD code ⟨setR (setR (List.replicate 32 0) 4 x) 4 y, [], (n : Int) + 4, (n : Int) + 5, [], [x], La0⟩ = (⟨setR (setR (List.replicate 32 0) 4 x) 4 y, [], (n : Int) + 5, (n : Int) + 6, [], [x, y], La0⟩, 0) := by
    rw [stepD_calm code _ ⟨20, 0, 0, 0, 2⟩ ⟨setR (setR (List.replicate 32 0) 4 x) 4 y, [], 0, [], [x, y]⟩ f4 (by decide +kernel) rfl nil (by simp) y3 (by decide +kernel) (by rw [doP_out _ (by simp)]; simp only [y1]; rfl)]
    rw [nxt_plain _ _ _ (.inr (show (19 : Int) < 20 by decide)), w64_id (by constructor <;> (simp only; omega))]
    simp only [Prod.mk.injEq, DS.mk.injEq, true_and, and_true]
    omega
  obtain ⟨⟨g1, g2, g3, g4, g5, g6⟩, _⟩ := stepD_do code ⟨setR (setR (List.replicate 32 0) 4 x) 4 y, [], (n : Int) + 5, (n : Int) + 6, [], [x, y], La0⟩ ⟨20, 0, 0, 0, 0⟩ 0 f5 (by decide +kernel) rfl nil (by simp) y3
  have g1 : _ = (1 : Int) := g1
  have g3 : _ = [x, y] := g3
  rw [show (47 : Nat) = 41 + 1 + 1 + 1 + 1 + 1 + 1 from rfl, runDG_one, s0, runDG_one, s1, runDG_one, s2, runDG_one, s3, runDG_one, s4, runDG_one]
  rw [runDG_stop code 41 (by rw [g1]; exact (show (1 : Int) ≠ 0 by decide))]
  exact ⟨g1, rfl, g3⟩
end Go.Proofs.Ytadcbnldahcelaa.S

set_option linter.unusedSimpArgs false
set_option linter.unusedVariables false
set_option maxRecDepth 100000
namespace Go.Proofs.Ytadcbnldahcelaa.S
open Go Go.RowKit Go.Alog Go.Proofs.Ytadcbnldahcelaa.T Go.Proofs.Ytadcbnldahcelaa.V

/-! Code with a Nop behind each instruction. -/
def spI (i : Ins) : Ins :=
  if i.op = 15 ∨ i.op = 16 then { i with imm := IntKind.wrap .i64 (IntKind.wrap .i64 (2 * i.imm) + 1) }
  else if i.op = 17 then { i with imm := IntKind.wrap .i64 (2 * i.imm) } else i
def nopI : Ins := ⟨0, 0, 0, 0, 0⟩
def spC (l : List Ins) : List Ins := l.flatMap fun i => [spI i, nopI]
theorem spC_len (l : List Ins) : (spC l).length = 2 * l.length := by
  induction l with
  | nil => rfl
  | cons x l ih => simp only [spC, List.flatMap_cons, List.length_append, List.length_cons, List.length_nil] at ih ⊢; omega
theorem spC_get : ∀ (l : List Ins) (k : Nat) (i : Ins), l[k]? = some i → (spC l)[2 * k]? = some (spI i) ∧ (spC l)[2 * k + 1]? = some nopI
  | [], k, i, h => by simp at h
  | x :: l, 0, i, h => by
    simp at h; subst h
    exact ⟨rfl, rfl⟩
  | x :: l, k + 1, i, h => by
    have := spC_get l k i (by simpa using h)
    rw [show 2 * (k + 1) = 2 * k + 1 + 1 by omega]
    exact this

/-- What the claim lets through. -/
def fitI (i : Ins) : Prop := i.op ≠ 18 ∧ i.op ≠ 19 ∧ (i.op = 15 ∨ i.op = 16 ∨ i.op = 17 → -1000 ≤ i.imm ∧ i.imm ≤ 1000)
theorem spI_op (i : Ins) : (spI i).op = i.op ∧ (spI i).a = i.a ∧ (spI i).b = i.b ∧ (spI i).c = i.c := by
  unfold spI
  split
  · exact ⟨rfl, rfl, rfl, rfl⟩
  split <;> exact ⟨rfl, rfl, rfl, rfl⟩
theorem spI_imm (i : Ins) (h : fitI i) : (spI i).imm = if i.op = 15 ∨ i.op = 16 then 2 * i.imm + 1 else if i.op = 17 then 2 * i.imm else i.imm := by
  unfold spI
  by_cases c : i.op = 15 ∨ i.op = 16
  · have := h.2.2 (by omega)
    rw [if_pos c, if_pos c]
    show IntKind.wrap .i64 (IntKind.wrap .i64 (2 * i.imm) + 1) = _
    rw [IntKind.wrap_i64, IntKind.wrap_i64]; omega
  · rw [if_neg c, if_neg c]
    by_cases c2 : i.op = 17
    · have := h.2.2 (by omega)
      rw [if_pos c2, if_pos c2]
      show IntKind.wrap .i64 (2 * i.imm) = _
      rw [IntKind.wrap_i64]; omega
    · rw [if_neg c2, if_neg c2]
theorem spI_right (i : Ins) (h : fitI i) : rightR (spI i) = rightR i := by
  obtain ⟨e1, e2, e3, e4⟩ := spI_op i
  have e5 := spI_imm i h
  by_cases c : i.op = 15 ∨ i.op = 16 ∨ i.op = 17
  · have hb := h.2.2 c
    have hs : ((((shapeR i.op).tdiv 2).tdiv 2).tdiv 2 == 1) = true := by
      rcases c with c | c | c <;> rw [c] <;> decide
    have hr : rangeR i.op (spI i).imm = rangeR i.op i.imm := by
      rcases c with c | c | c
      · rw [e5, if_pos (.inl c), c]
        show (decide (2 * i.imm + 1 ≥ -32768) && decide (2 * i.imm + 1 ≤ 32767)) = (decide (i.imm ≥ -32768) && decide (i.imm ≤ 32767))
        rw [decide_eq_true (by omega), decide_eq_true (by omega), decide_eq_true (by omega), decide_eq_true (by omega)]
      · rw [e5, if_pos (.inr c), c]
        show (decide (2 * i.imm + 1 ≥ -32768) && decide (2 * i.imm + 1 ≤ 32767)) = (decide (i.imm ≥ -32768) && decide (i.imm ≤ 32767))
        rw [decide_eq_true (by omega), decide_eq_true (by omega), decide_eq_true (by omega), decide_eq_true (by omega)]
      · rw [e5, if_neg (by omega), if_pos c, c]
        show (decide (2 * i.imm ≥ 0) && decide (2 * i.imm ≤ 4096)) = (decide (i.imm ≥ 0) && decide (i.imm ≤ 4096))
        rw [show decide (2 * i.imm ≥ 0) = decide (i.imm ≥ 0) from decide_eq_decide.2 (by omega), decide_eq_true (show 2 * i.imm ≤ 4096 by omega), decide_eq_true (show i.imm ≤ 4096 by omega)]
    unfold rightR
    simp only [hr, e1, e2, e3, e4, hs, Bool.true_or]
  · have : spI i = i := by
      unfold spI
      rw [if_neg (by omega), if_neg (by omega)]
    rw [this]
theorem spI_do (s : MS) (i : Ins) : doP s (spI i) = doP s i := by
  by_cases c : i.op = 15 ∨ i.op = 16 ∨ i.op = 17
  · rw [doP_go s i (by omega), doP_go s (spI i) (by rw [(spI_op i).1]; omega)]
  · have : spI i = i := by
      unfold spI
      rw [if_neg (by omega), if_neg (by omega)]
    rw [this]

theorem stepD_nop (code : List Ins) (d : DS) (hf : fetchL code d.at_ = { La0 with full := true, at_ := d.at_, i := nopI }) :
    stepD code d = (⟨wrA d.late d.regs, d.mem, d.next, IntKind.wrap .i64 (d.next + 1), d.inp, d.out, La0⟩, 0) := by
  have hR : rightR nopI = true := by decide +kernel
  have hL : lateP nopI = false := by decide +kernel
  unfold stepD
  simp only []
  rw [hf]
  have e : stL { La0 with full := true, at_ := d.at_, i := nopI } La0 d.regs = ⟨true, nopI, d.at_, 0, 0, regOf d.regs 0, w32 (regOf d.regs 0 + 0), 0⟩ := by
    unfold stL
    rw [if_pos ⟨rfl, rfl⟩]
    unfold stage3
    simp only [early0, reck_no nopI _ _ (show ¬ (1 ≤ (0 : Int) ∧ (0 : Int) ≤ 11) by decide)]
    rw [if_neg (show ¬ (nopI.op = 14) by decide), if_neg (show ¬ (nopI.op = 18) by decide), if_neg (show ¬ (nopI.op = 20) by decide)]
    have : writesP nopI = 0 := by decide +kernel
    rw [this]
    rfl
  rw [e]
  have ea : actD d.mem d.inp d.out ⟨true, nopI, d.at_, 0, 0, regOf d.regs 0, w32 (regOf d.regs 0 + 0), 0⟩ = (⟨[], d.mem, 0, d.inp, d.out, La0, La0, La0, ⟨true, nopI, d.at_, 0, 0, regOf d.regs 0, w32 (regOf d.regs 0 + 0), 0⟩⟩, 0) := rfl
  rw [ea]
  simp only [hL]
  rw [nxt_plain _ _ _ (.inl (show nopI.op < 15 by decide))]
  rfl

theorem nextP_br (s : MS) (i : Ins) (h : i.op = 15 ∨ i.op = 16) : nextP s i = (s, if (regOf s.regs i.a == regOf s.regs i.b) == (i.op == 15) then IntKind.wrap .i64 (IntKind.wrap .i64 (s.at_ + 1) + i.imm) else IntKind.wrap .i64 (s.at_ + 1)) := by
  unfold nextP
  simp only
  rw [if_pos h]
theorem nxt_br (regs : List Int) (a : Int) (l : La) (hf : l.full = true) (ht : l.trap = 0) (h : l.i.op = 15 ∨ l.i.op = 16) : nxtP regs a l = if (regOf regs l.i.a == regOf regs l.i.b) == (l.i.op == 15) then IntKind.wrap .i64 (IntKind.wrap .i64 (l.at_ + 1) + l.i.imm) else IntKind.wrap .i64 (a + 1) := by
  unfold nxtP
  simp only []
  rw [if_neg (by simp [hf, ht]), if_pos h]
theorem nextP_jmp (s : MS) (i : Ins) (h : i.op = 17) : nextP s i = (s, i.imm) := by
  unfold nextP
  simp only
  rw [if_neg (by omega), if_neg (by omega), if_pos h]
theorem nxt_jmp (regs : List Int) (a : Int) (l : La) (hf : l.full = true) (ht : l.trap = 0) (h : l.i.op = 17) : nxtP regs a l = l.i.imm := by
  unfold nxtP
  simp only []
  rw [if_neg (by simp [hf, ht]), if_neg (by omega), if_pos (.inl h)]

structure Rel2 (code : List Ins) (s : MS) (d : DS) : Prop where
  r : d.regs = s.regs
  m : d.mem = s.mem
  i : d.inp = s.inp
  o : d.out = s.out
  a : d.at_ = 2 * s.at_
  n : d.next = 2 * s.at_ + 1
  l : d.late = La0
  w : ∀ v ∈ s.mem, w32 v = v
  len : s.regs.length = 32
  bd : -100000 ≤ s.at_ ∧ s.at_ ≤ 100000

theorem sp_step (code : List Ins) (hc : ∀ i ∈ code, fitI i) (hl : code.length ≤ 100) (s : MS) (d : DS) (h : Rel2 code s d) :
    ((stepP code s).2 ≠ 0 → (stepD (spC code) d).2 = (stepP code s).2 ∧ (stepD (spC code) d).1.mem = (stepP code s).1.mem ∧ (stepD (spC code) d).1.out = (stepP code s).1.out) ∧
    ((stepP code s).2 = 0 → (stepD (spC code) d).2 = 0 ∧ (stepD (spC code) (stepD (spC code) d).1).2 = 0 ∧ Rel2 code (stepP code s).1 (stepD (spC code) (stepD (spC code) d).1).1) := by
  obtain ⟨e1, e2, e3, e4, e5, e6, e7, hw, hlen, hbd⟩ := h
  have hsl := spC_len code
  by_cases hend : s.at_ < 0 ∨ s.at_ ≥ code.length
  · rw [stepP_out2 code s hend]
    obtain ⟨a1, a2, a3⟩ := stepD_stop (spC code) d (t := 2) (by decide) (fetchL_end (by rw [e5, hsl]; omega))
    exact ⟨fun _ => ⟨a1, by rw [a2, e2], by rw [a3, e4]⟩, fun h => by cases h⟩
  have h0 : 0 ≤ s.at_ := by omega
  have h1 : s.at_ < code.length := by omega
  have hlt : s.at_.toNat < code.length := by omega
  have hX : code.getD s.at_.toNat default = code[s.at_.toNat] := by simp [List.getD, hlt]
  have hfit := hc _ (List.getElem_mem hlt)
  obtain ⟨sg1, sg2⟩ := spC_get code s.at_.toNat _ (List.getElem?_eq_getElem hlt)
  rw [← hX] at hfit sg1
  have g1 : (spC code).getD (2 * s.at_).toNat default = spI (code.getD s.at_.toNat default) := by
    rw [show (2 * s.at_).toNat = 2 * s.at_.toNat by omega]; unfold List.getD at sg1 ⊢; rw [sg1]; rfl
  have g2 : (spC code).getD (2 * s.at_ + 1).toNat default = nopI := by
    rw [show (2 * s.at_ + 1).toNat = 2 * s.at_.toNat + 1 by omega]; unfold List.getD; rw [sg2]; rfl
  generalize hi : code.getD s.at_.toNat default = i at hfit g1
  have hrr := spI_right i hfit
  cases hr : rightR i with
  | false =>
    rw [stepP_wrong2 code s h0 h1 (by rw [hi]; exact hr)]
    obtain ⟨a1, a2, a3⟩ := stepD_stop (spC code) d (t := 8) (by decide) (fetchL_bad (by omega) (by rw [e5, hsl]; omega) (by rw [e5, g1, hrr]; exact hr))
    exact ⟨fun _ => ⟨a1, by rw [a2, e2], by rw [a3, e4]⟩, fun h => by cases h⟩
  | true =>
    have hF := fetchL_ok (code := spC code) (a := d.at_) (by omega) (by rw [hsl]; omega) (i := spI i) (by rw [e5]; exact g1) (by rw [hrr]; exact hr)
    have hF2 := fetchL_ok (code := spC code) (a := 2 * s.at_ + 1) (by omega) (by rw [hsl]; omega) (i := nopI) g2 (by decide +kernel)
    obtain ⟨hD, _⟩ := stepD_do (spC code) d (spI i) s.at_ hF (by rw [hrr]; exact hr) e7 (by rw [e2]; exact hw) (by rw [(spI_op i).1]; exact hfit.1) (by rw [e1]; exact hlen)
    have hs : (⟨d.regs, d.mem, s.at_, d.inp, d.out⟩ : MS) = s := by rw [e1, e2, e3, e4]
    rw [hs, spI_do] at hD
    obtain ⟨q1, q2, q3, q4, q5, q6⟩ := hD
    have hnx := stepD_next (spC code) d
    rw [hF, e6, e1] at hnx
    rw [stepP_do code s h0 h1 hi hr]
    have hk := doP_keep s i hw
    have hat := doP_at s i
    by_cases ht : (doP s i).2 = 0
    · rw [if_neg (by simp [ht])]
      rw [ht] at q1
      refine ⟨fun h => absurd rfl h, fun _ => ⟨q1, ?_⟩⟩
      have q4 := q4 q1
      have q5 := q5 q1
      have hnop := stepD_nop (spC code) (stepD (spC code) d).1 (by rw [q6, e6]; exact hF2)
      rw [hnop, hnx, q2, q3, q4, q5]
      refine ⟨rfl, ?_⟩
      have w1 : IntKind.wrap .i64 (s.at_ + 1) = s.at_ + 1 := by rw [IntKind.wrap_i64]; omega
      -- the place
      have hNP : (nextP (doP s i).1 i).1 = (doP s i).1 ∧ 2 * (nextP (doP s i).1 i).2 = nxtP s.regs (2 * s.at_ + 1) { La0 with full := true, at_ := d.at_, i := spI i } ∧ -50000 ≤ (nextP (doP s i).1 i).2 ∧ (nextP (doP s i).1 i).2 ≤ 50000 := by
        have himm := spI_imm i hfit
        obtain ⟨p1, p2, p3, p4⟩ := spI_op i
        by_cases c : i.op = 15 ∨ i.op = 16
        · have hb := hfit.2.2 (by omega)
          have w5 : IntKind.wrap .i64 (s.at_ + 1 + i.imm) = s.at_ + 1 + i.imm := by rw [IntKind.wrap_i64]; omega
          have w6 : IntKind.wrap .i64 (IntKind.wrap .i64 (2 * s.at_ + 1) + (2 * i.imm + 1)) = 2 * (s.at_ + 1 + i.imm) := by rw [IntKind.wrap_i64, IntKind.wrap_i64]; omega
          have w7 : IntKind.wrap .i64 (2 * s.at_ + 1 + 1) = 2 * (s.at_ + 1) := by rw [IntKind.wrap_i64]; omega
          rw [doP_go s i (by omega), nextP_br s i c, nxt_br _ _ _ rfl rfl (by show (spI i).op = 15 ∨ (spI i).op = 16; rw [p1]; exact c)]
          simp only [p1, p2, p3, himm]
          rw [if_pos c, w1, e5, w5, w6, w7]
          refine ⟨trivial, ?_⟩
          by_cases cc : ((regOf s.regs i.a == regOf s.regs i.b) == (i.op == 15)) = true
          · rw [if_pos cc, if_pos cc]
            exact ⟨rfl, by omega, by omega⟩
          · rw [if_neg cc, if_neg cc]
            exact ⟨rfl, by omega, by omega⟩
        · by_cases c2 : i.op = 17
          · have hb := hfit.2.2 (by omega)
            rw [doP_go s i (by omega), nextP_jmp s i c2, nxt_jmp _ _ _ rfl rfl (by show (spI i).op = 17; rw [p1]; exact c2)]
            simp only [himm]
            rw [if_neg c, if_pos c2]
            exact ⟨trivial, rfl, by omega, by omega⟩
          · have hop : i.op < 15 ∨ 19 < i.op := by have := hfit.1; have := hfit.2.1; omega
            rw [nextP_calm _ _ hop, nxt_plain _ _ _ (by show (spI i).op < 15 ∨ 19 < (spI i).op; rw [p1]; exact hop), hat, w1]
            have w7 : IntKind.wrap .i64 (2 * s.at_ + 1 + 1) = 2 * (s.at_ + 1) := by rw [IntKind.wrap_i64]; omega
            rw [w7]
            exact ⟨rfl, rfl, by omega, by omega⟩
      obtain ⟨n1, n2, n3, n4⟩ := hNP
      rw [n1]
      rw [← n2]
      have w8 : IntKind.wrap .i64 (2 * (nextP (doP s i).1 i).2 + 1) = 2 * (nextP (doP s i).1 i).2 + 1 := by rw [IntKind.wrap_i64]; omega
      rw [w8]
      exact ⟨rfl, rfl, rfl, rfl, rfl, rfl, rfl, hk.2, by rw [← hlen]; exact hk.1, by simp only; omega⟩
    · rw [if_pos ht]
      exact ⟨fun _ => ⟨q1, q2, q3⟩, fun h => absurd h ht⟩

theorem sp_run (code : List Ins) (hc : ∀ i ∈ code, fitI i) (hl : code.length ≤ 100) : ∀ (n : Nat) (s : MS) (d : DS) (k j : Int), Rel2 code s d → (runG code n (s, 0, k)).2.1 ≠ 0 →
    ∃ m, m ≤ 2 * n ∧ (runDG (spC code) m (d, 0, j)).2.1 = (runG code n (s, 0, k)).2.1 ∧ (runDG (spC code) m (d, 0, j)).1.out = (runG code n (s, 0, k)).1.out ∧ (runDG (spC code) m (d, 0, j)).1.mem = (runG code n (s, 0, k)).1.mem
  | 0, s, d, k, j, h, hn => absurd rfl hn
  | n + 1, s, d, k, j, h, hn => by
    obtain ⟨a1, a2⟩ := sp_step code hc hl s d h
    rw [show runG code (n + 1) (s, 0, k) = runG code n ((stepP code s).1, (stepP code s).2, k + 1) by simp [runG]] at hn ⊢
    by_cases ht : (stepP code s).2 = 0
    · obtain ⟨b1, b2, b3⟩ := a2 ht
      rw [ht] at hn ⊢
      obtain ⟨m, hm, c1, c2, c3⟩ := sp_run code hc hl n _ _ (k + 1) (j + 1 + 1) b3 hn
      refine ⟨m + 1 + 1, by omega, ?_⟩
      rw [runDG_one, b1, runDG_one, b2]
      exact ⟨c1, c2, c3⟩
    · obtain ⟨b1, b2, b3⟩ := a1 ht
      rw [runG_stop2 code n (x := ((stepP code s).1, (stepP code s).2, k + 1)) ht]
      refine ⟨1, by omega, ?_⟩
      rw [show (1 : Nat) = 0 + 1 from rfl, runDG_one]
      exact ⟨b1, b3, b2⟩
/-- It does what layer 7's machine does. -/
theorem runPP_spaced (code : List Ins) (hc : ∀ i ∈ code, fitI i) (hl : code.length ≤ 100) (mem : Int) (inp : List Int) (fuel : Int) (h0 : 0 ≤ fuel) (h3 : fuel ≤ 300) (ht : (runP code mem inp fuel).trap ≠ 0) :
    runPP (spC code) mem inp (2 * fuel + 10) = { runP code mem inp fuel with steps := (runPP (spC code) mem inp (2 * fuel + 10)).steps } := by
  have hsl := spC_len code
  by_cases hbad : code.length > 4096 ∨ mem < 0 ∨ mem > 32000
  · unfold runP at ht
    rw [if_pos hbad] at ht
    exact absurd rfl ht
  rw [runPP_D (spC code) mem inp (2 * fuel + 10) (2 * fuel.toNat + 7) (by omega) (by omega) (by omega) (by omega)]
  unfold runP at ht ⊢
  rw [if_neg hbad] at ht ⊢
  simp only at ht ⊢
  obtain ⟨m, hm, c1, c2, c3⟩ := sp_run code hc hl fuel.toNat (beginS mem inp) (beginD mem inp) 0 3 ⟨rfl, rfl, rfl, rfl, rfl, rfl, rfl, by intro v hv; simp [beginS] at hv; rw [hv.2]; rfl, by simp [beginS], by show (-100000 : Int) ≤ 0 ∧ (0 : Int) ≤ 100000; decide⟩ ht
  have e : runDG (spC code) (2 * fuel.toNat + 7) (beginD mem inp, 0, 3) = runDG (spC code) m (beginD mem inp, 0, 3) := by
    rw [show 2 * fuel.toNat + 7 = m + (2 * fuel.toNat + 7 - m) by omega, runDG_add, runDG_stop (spC code) _ (by rw [c1]; exact ht)]
  rw [e, c1, c2, c3]
end Go.Proofs.Ytadcbnldahcelaa.S
