/- Ytadcbnldahcelaa: a text of our own, by an AI agent: MbC -/
import Derived.Test.YtadcbnldahcelaaMaC
set_option linter.unusedSimpArgs false
set_option linter.unusedVariables false
set_option maxRecDepth 100000
namespace Go.Proofs.Ytadcbnldahcelaa.S
open Go Go.RowKit Go.Alog Go.Proofs.Ytadcbnldahcelaa.T Go.Proofs.Ytadcbnldahcelaa.V

/-- The place behind an instruction; Jal writes register 31. -/
def nextP (s : MS) (i : Ins) : MS × Int :=
  let here := IntKind.wrap .i64 (s.at_ + 1)
  let a := regOf s.regs i.a
  let b := regOf s.regs i.b
  if i.op = 15 ∨ i.op = 16 then (s, if (a == b) == (i.op == 15) then IntKind.wrap .i64 (here + i.imm) else here)
  else if i.op = 18 then ({ s with regs := setR s.regs 31 here }, i.imm)
  else if i.op = 17 then (s, i.imm)
  else if i.op = 19 then (s, a)
  else (s, here)

theorem SeqR.cells {m : AM} {B g : Nat} {code : List Ins} {s : MS} {fp : List Nat} {Ac Ai Ao Aw : Option Addr} {cc gm ci co cw : Nat} (h : SeqR m B g code s fp Ac cc gm Ai ci Ao co Aw cw) :
    m.cell ⟨g, 0, none⟩ = some (.slice Ac code.length cc) ∧ m.cell ⟨g, 1, none⟩ = some (.pointer (some ⟨gm, 0, none⟩)) ∧ m.cell ⟨g, 34, none⟩ = some (.int .i64 s.at_) ∧ m.cell ⟨g, 35, none⟩ = some (.slice Ai s.inp.length ci) ∧ m.cell ⟨g, 36, none⟩ = some (.slice Ao s.out.length co) := by
  have := cell_of (k := 0) h.hg
  refine ⟨?_, ?_, ?_, ?_, ?_⟩ <;> rw [cell_of h.hg, List.getElem?_toArray]
  · rfl
  · rfl
  · exact machL_34 h.hr
  · exact machL_35 h.hr
  · exact machL_36 h.hr
theorem SeqR.reg {m : AM} {B g : Nat} {code : List Ins} {s : MS} {fp : List Nat} {Ac Ai Ao Aw : Option Addr} {cc gm ci co cw : Nat} (h : SeqR m B g code s fp Ac cc gm Ai ci Ao co Aw cw) {n : Int} (hn : 0 ≤ n ∧ n < 32) :
    m.cell ((⟨g, 2, none⟩ : Addr).add (n.toNat * 1)) = some (.int .i64 (regOf s.regs n)) := by
  rw [addn, Nat.mul_one, cell_of h.hg, List.getElem?_toArray]
  refine machL_reg ?_
  unfold regOf
  have : n.toNat < s.regs.length := by rw [h.hr]; omega
  simp [List.getD, this]

/-- The registers of a right instruction. -/
def InR (i : Ins) : Prop := (0 ≤ i.a ∧ i.a < 32) ∧ (0 ≤ i.b ∧ i.b < 32) ∧ (0 ≤ i.c ∧ i.c < 32)
theorem right_regs {i : Ins} (h : rightR i = true) : InR i := by
  have hp : ∀ s x : Int, partR s x = true → 0 ≤ x ∧ x < 32 := by
    intro s x h
    unfold partR at h
    by_cases h1 : x < 0
    · simp [h1] at h
    · by_cases h2 : x > 31
      · simp [h2] at h
      · omega
  unfold rightR at h
  simp only [Bool.and_eq_true] at h
  obtain ⟨⟨⟨⟨⟨_, ha⟩, hb⟩, hc⟩, _⟩, _⟩ := h
  exact ⟨hp _ _ ha, hp _ _ hb, hp _ _ hc⟩

theorem next_spec (w0 : World) (m : AM) (g gm : Nat) (code : List Ins) (s : MS) (fp : List Nat) (i : Ins) (hi : InR i) (h : SeqM m w0.heap.size g gm code s fp) :
    CallsA Try.prog w0 51 #[.pointer (some ⟨g, 0, none⟩), i.val] m (fun r m' => r = .int .i64 (nextP s i).2 ∧ SPost w0 m g gm fp code (nextP s i).1 m') := by
  refine cf51 w0 m g _ _ _ _ _ _ ?_
  intro b1 hb1 hm1 M
  have l1 : m.le M := le_new hm1 _
  have p1 : M b1 = some (.cells i.cells.toArray 34) := upd_get_same
  clear_value M
  have hM := h.le l1
  obtain ⟨Ac, cc, Ai, ci, Ao, co, Aw, cw, hS⟩ := h.le l1
  obtain ⟨r0, r1, r34, r35, r36⟩ := hS.cells
  have e0 : ∀ k : Int, (i.op == k) = decide (i.op = k) := fun k => rfl
  simp only [cell_of p1, Ins.cells, cell_upd_same, cell_upd_ne, ne_eq, not_false_eq_true, List.getElem?_toArray, List.getElem?_cons_zero, List.getElem?_cons_succ, Option.some.injEq, Value.int.injEq, Value.slice.injEq, Value.bool.injEq, Value.pointer.injEq, Value.tuple.injEq, Array.mk.injEq, List.cons.injEq, true_and, and_true, exists_eq_left', exists_eq', exists_eq, exists_and_left, exists_and_right, and_assoc, bcase_t, bcase_f, cond_true, cond_false, StC_upd, nilO_some, List.setIfInBounds_toArray, List.set_cons_zero, List.set_cons_succ, List.size_toArray, List.length_cons, List.length_nil, Nat.reduceAdd, Nat.reduceLT, r34, hS.reg hi.1, hS.reg hi.2.1]
  simp only [e0]
  refine ⟨hi.1.1, by have := hi.1.2; omega, hi.2.1.1, by have := hi.2.1.2; omega, ?_⟩
  have self : ∀ s', s' = s → SPost w0 m g gm fp code s' M := fun s' e => by rw [e]; exact (SPost.self hM (AM.le_refl _)).pre l1
  unfold nextP
  by_cases c15 : i.op = 15
  · simp only [decide_eq_true c15, bcase_t, if_pos (Or.inl c15 : i.op = 15 ∨ i.op = 16)]
    cases hab : (regOf s.regs i.a == regOf s.regs i.b)
    · simp only [show (false == true) = false from rfl, bcase_f]; exact retP_of ⟨by rw [beq_iff_eq.2 c15]; rfl, self _ rfl⟩
    · simp only [show (true == true) = true from rfl, bcase_t]; exact retP_of ⟨by rw [beq_iff_eq.2 c15]; rfl, self _ rfl⟩
  simp only [decide_eq_false c15, bcase_f]
  by_cases c16 : i.op = 16
  · simp only [decide_eq_true c16, bcase_t, if_pos (Or.inr c16 : i.op = 15 ∨ i.op = 16)]
    cases hab : (regOf s.regs i.a == regOf s.regs i.b)
    · simp only [show (false == false) = true from rfl, bcase_t]; exact retP_of ⟨by rw [beq_eq_false_iff_ne.2 c15]; rfl, self _ rfl⟩
    · simp only [show (true == false) = false from rfl, bcase_f]; exact retP_of ⟨by rw [beq_eq_false_iff_ne.2 c15]; rfl, self _ rfl⟩
  simp only [decide_eq_false c16, bcase_f, if_neg (show ¬ (i.op = 15 ∨ i.op = 16) by omega)]
  by_cases c18 : i.op = 18
  · simp only [decide_eq_true c18, bcase_t, if_pos c18]
    refine CallsA.mono (set_spec w0 M g gm code s fp 31 _ (by decide) hM) ?_
    rintro r m2 ⟨rfl, hp⟩
    refine ⟨rfl, ?_⟩
    have hb1' : b1 ∉ fp := by
      rw [hS.hfp]
      intro hin
      simp only [List.mem_cons, List.mem_append] at hin
      rcases hin with rfl | hin | hin
      · have := hS.hg; rw [p1] at this; injection this with this; injection this with _ h2; exact absurd h2 (by decide)
      · exact hS.hw.obl_ne p1 (by decide) hin
      · exact hS.ho.obl_ne p1 (by decide) hin
    have p2 : m2 b1 = some (.cells i.cells.toArray 34) := by
      obtain ⟨_, _, hf, _⟩ := hp
      exact hf _ _ p1 hb1'
    simp only [cell_of p2, Ins.cells, cell_upd_same, cell_upd_ne, ne_eq, not_false_eq_true, List.getElem?_toArray, List.getElem?_cons_zero, List.getElem?_cons_succ, Option.some.injEq, Value.int.injEq, Value.slice.injEq, Value.bool.injEq, Value.pointer.injEq, Value.tuple.injEq, Array.mk.injEq, List.cons.injEq, true_and, and_true, exists_eq_left', exists_eq', exists_eq, exists_and_left, exists_and_right, and_assoc, bcase_t, bcase_f, cond_true, cond_false, StC_upd, nilO_some, List.setIfInBounds_toArray, List.set_cons_zero, List.set_cons_succ, List.size_toArray, List.length_cons, List.length_nil, Nat.reduceAdd, Nat.reduceLT]
    exact retP_of ⟨rfl, hp.pre l1⟩
  simp only [decide_eq_false c18, bcase_f, if_neg c18]
  by_cases c17 : i.op = 17
  · simp only [decide_eq_true c17, bcase_t, if_pos c17]; exact retP_of ⟨rfl, self _ rfl⟩
  simp only [decide_eq_false c17, bcase_f, if_neg c17]
  by_cases c19 : i.op = 19
  · simp only [decide_eq_true c19, bcase_t, if_pos c19]; exact retP_of ⟨rfl, self _ rfl⟩
  simp only [decide_eq_false c19, bcase_f, if_neg c19]
  exact retP_of ⟨rfl, self _ rfl⟩

/-! The memory. -/
theorem there_spec (w0 : World) (m : AM) (gm : Nat) (A : Option Addr) (n c : Nat) (hm : m gm = some (.cells #[.slice A n c] 81)) (a : Int) :
    CallsA Try.prog w0 74 #[.pointer (some ⟨gm, 0, none⟩), .int .i64 a] m (fun r m' => r = .bool (decide (0 ≤ a ∧ a < n)) ∧ m' = m) := by
  refine cf74 w0 m gm a _ ?_
  simp only [Option.isNone_some, Bool.not_false, cell_upd_same, cell_upd_ne, ne_eq, not_false_eq_true, List.getElem?_toArray, List.getElem?_cons_zero, List.getElem?_cons_succ, Option.some.injEq, Value.int.injEq, Value.slice.injEq, Value.bool.injEq, Value.pointer.injEq, Value.tuple.injEq, Array.mk.injEq, List.cons.injEq, true_and, and_true, exists_eq_left', exists_eq', exists_eq, exists_and_left, exists_and_right, and_assoc, bcase_t, bcase_f, cond_true, cond_false, StC_upd, nilO_some, List.setIfInBounds_toArray, List.set_cons_zero, List.set_cons_succ, List.size_toArray, List.length_cons, List.length_nil, Nat.reduceAdd, Nat.reduceLT, cell_of hm]
  by_cases h : a ≥ 0
  · simp only [decide_eq_true h, cell_upd_same, cell_upd_ne, ne_eq, not_false_eq_true, List.getElem?_toArray, List.getElem?_cons_zero, List.getElem?_cons_succ, Option.some.injEq, Value.int.injEq, Value.slice.injEq, Value.bool.injEq, Value.pointer.injEq, Value.tuple.injEq, Array.mk.injEq, List.cons.injEq, true_and, and_true, exists_eq_left', exists_eq', exists_eq, exists_and_left, exists_and_right, and_assoc, bcase_t, bcase_f, cond_true, cond_false, StC_upd, nilO_some, List.setIfInBounds_toArray, List.set_cons_zero, List.set_cons_succ, List.size_toArray, List.length_cons, List.length_nil, Nat.reduceAdd, Nat.reduceLT]
    refine retP_of ⟨?_, rfl⟩
    by_cases h2 : a < n <;> simp [h2] <;> omega
  · simp only [decide_eq_false h, cell_upd_same, cell_upd_ne, ne_eq, not_false_eq_true, List.getElem?_toArray, List.getElem?_cons_zero, List.getElem?_cons_succ, Option.some.injEq, Value.int.injEq, Value.slice.injEq, Value.bool.injEq, Value.pointer.injEq, Value.tuple.injEq, Array.mk.injEq, List.cons.injEq, true_and, and_true, exists_eq_left', exists_eq', exists_eq, exists_and_left, exists_and_right, and_assoc, bcase_t, bcase_f, cond_true, cond_false, StC_upd, nilO_some, List.setIfInBounds_toArray, List.set_cons_zero, List.set_cons_succ, List.size_toArray, List.length_cons, List.length_nil, Nat.reduceAdd, Nat.reduceLT]
    refine retP_of ⟨?_, rfl⟩
    simp
    omega

theorem load_mem (w0 : World) (m : AM) (B gm : Nat) (A : Option Addr) (l : List Int) (c : Nat) (hm : m gm = some (.cells #[.slice A l.length c] 81)) (hw : Own m B 3 1 A l.length c (intCells .i64 l)) (a : Int) :
    CallsA Try.prog w0 65 #[.pointer (some ⟨gm, 0, none⟩), .int .i64 a] m (fun r m' => r = .tuple #[.int .i64 (if 0 ≤ a ∧ a < l.length then l.getD a.toNat 0 else 0), .bool (decide (0 ≤ a ∧ a < l.length))] ∧ m' = m) := by
  refine cf65 w0 m gm a _ ?_
  refine CallsA.mono (there_spec w0 m gm A _ c hm a) ?_
  rintro r m1 ⟨rfl, rfl⟩
  refine ⟨_, rfl, ?_⟩
  by_cases h : 0 ≤ a ∧ a < l.length
  · simp only [decide_eq_true h, if_pos h, Bool.not_true, cell_upd_same, cell_upd_ne, ne_eq, not_false_eq_true, List.getElem?_toArray, List.getElem?_cons_zero, List.getElem?_cons_succ, Option.some.injEq, Value.int.injEq, Value.slice.injEq, Value.bool.injEq, Value.pointer.injEq, Value.tuple.injEq, Array.mk.injEq, List.cons.injEq, true_and, and_true, exists_eq_left', exists_eq', exists_eq, exists_and_left, exists_and_right, and_assoc, bcase_t, bcase_f, cond_true, cond_false, StC_upd, nilO_some, List.setIfInBounds_toArray, List.set_cons_zero, List.set_cons_succ, List.size_toArray, List.length_cons, List.length_nil, Nat.reduceAdd, Nat.reduceLT, cell_of hm]
    obtain ⟨ad, rfl, hc⟩ := hw.ex (by omega)
    have hlt : a.toNat < l.length := by omega
    have hcell : m1.cell (ad.add (a.toNat * 1)) = some (.int .i64 (l.getD a.toNat 0)) := by
      refine hc _ _ ?_
      simp [intCells, hlt, List.getD]
    simp only [cell_upd_same, cell_upd_ne, ne_eq, not_false_eq_true, List.getElem?_toArray, List.getElem?_cons_zero, List.getElem?_cons_succ, Option.some.injEq, Value.int.injEq, Value.slice.injEq, Value.bool.injEq, Value.pointer.injEq, Value.tuple.injEq, Array.mk.injEq, List.cons.injEq, true_and, and_true, exists_eq_left', exists_eq', exists_eq, exists_and_left, exists_and_right, and_assoc, bcase_t, bcase_f, cond_true, cond_false, StC_upd, nilO_some, List.setIfInBounds_toArray, List.set_cons_zero, List.set_cons_succ, List.size_toArray, List.length_cons, List.length_nil, Nat.reduceAdd, Nat.reduceLT, hcell]
    exact ⟨h.1, h.2, retP_of ⟨rfl, rfl⟩⟩
  · simp only [decide_eq_false h, if_neg h, Bool.not_false, cell_upd_same, cell_upd_ne, ne_eq, not_false_eq_true, List.getElem?_toArray, List.getElem?_cons_zero, List.getElem?_cons_succ, Option.some.injEq, Value.int.injEq, Value.slice.injEq, Value.bool.injEq, Value.pointer.injEq, Value.tuple.injEq, Array.mk.injEq, List.cons.injEq, true_and, and_true, exists_eq_left', exists_eq', exists_eq, exists_and_left, exists_and_right, and_assoc, bcase_t, bcase_f, cond_true, cond_false, StC_upd, nilO_some, List.setIfInBounds_toArray, List.set_cons_zero, List.set_cons_succ, List.size_toArray, List.length_cons, List.length_nil, Nat.reduceAdd, Nat.reduceLT]
    exact retP_of ⟨rfl, rfl⟩
end Go.Proofs.Ytadcbnldahcelaa.S
