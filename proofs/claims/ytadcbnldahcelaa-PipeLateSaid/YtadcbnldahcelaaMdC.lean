/- Ytadcbnldahcelaa: a text of our own, by an AI agent: MdC -/
import Derived.Test.YtadcbnldahcelaaMcC
set_option linter.unusedSimpArgs false
set_option linter.unusedVariables false
set_option maxRecDepth 100000
namespace Go.Proofs.Ytadcbnldahcelaa.S
open Go Go.RowKit Go.Alog Go.Proofs.Ytadcbnldahcelaa.T Go.Proofs.Ytadcbnldahcelaa.V

/-- An instruction that acts. -/
def actP (s : MS) (i : Ins) : MS × Int :=
  let a := regOf s.regs i.a
  let ad := w32 (regOf s.regs i.b + i.imm)
  if i.op = 12 then (if 0 ≤ ad ∧ ad < s.mem.length then ({ s with regs := setR s.regs i.a (s.mem.getD ad.toNat 0) }, 0) else (s, 3))
  else if i.op = 13 then (if 0 ≤ ad ∧ ad < s.mem.length then ({ s with mem := s.mem.set ad.toNat (w32 a) }, 0) else (s, 3))
  else if i.op = 14 then (if a < 0 ∨ a ≥ i.imm then (s, if i.b = 0 then 5 else i.b) else (s, 0))
  else if i.op = 20 then sysP s i.imm
  else (s, 0)

/-- A block of the call's own that is not the machine's. -/
theorem SeqR.notin {m : AM} {B g : Nat} {code : List Ins} {s : MS} {fp : List Nat} {Ac Ai Ao Aw : Option Addr} {cc gm ci co cw : Nat} (h : SeqR m B g code s fp Ac cc gm Ai ci Ao co Aw cw) {b : Nat} {c : Array Value} (hb : m b = some (.cells c 34)) : b ∉ fp := by
  rw [h.hfp]
  intro hin
  simp only [List.mem_cons, List.mem_append] at hin
  rcases hin with rfl | hin | hin
  · have := h.hg; rw [hb] at this; injection this with this; injection this with _ h2; exact absurd h2 (by decide)
  · exact h.hw.obl_ne hb (by decide) hin
  · exact h.ho.obl_ne hb (by decide) hin
theorem SPost.keep {w0 : World} {m m' : AM} {g gm : Nat} {fp : List Nat} {code : List Ins} {s : MS} (h : SPost w0 m g gm fp code s m') {b : Nat} {o : Obj} (hb : m b = some o) (hn : b ∉ fp) : m' b = some o := by
  obtain ⟨_, _, hf, _⟩ := h
  exact hf _ _ hb hn

theorem act_spec (w0 : World) (m : AM) (g gm : Nat) (code : List Ins) (s : MS) (fp : List Nat) (i : Ins) (hi : InR i) (h : SeqM m w0.heap.size g gm code s fp) :
    CallsA Try.prog w0 49 #[.pointer (some ⟨g, 0, none⟩), i.val] m (fun r m' => r = .int .i64 (actP s i).2 ∧ SPost w0 m g gm fp code (actP s i).1 m') := by
  refine cf49 w0 m g _ _ _ _ _ _ ?_
  intro b1 hb1 hm1 M
  have l1 : m.le M := le_new hm1 _
  have p1 : M b1 = some (.cells i.cells.toArray 34) := upd_get_same
  clear_value M
  have hM := h.le l1
  obtain ⟨Ac, cc, Ai, ci, Ao, co, Aw, cw, hS⟩ := h.le l1
  obtain ⟨r0, r1, r34, r35, r36⟩ := hS.cells
  have e0 : ∀ k : Int, (i.op == k) = decide (i.op = k) := fun k => rfl
  simp only [cell_of p1, Ins.cells, cell_upd_same, cell_upd_ne, ne_eq, not_false_eq_true, List.getElem?_toArray, List.getElem?_cons_zero, List.getElem?_cons_succ, Option.some.injEq, Value.int.injEq, Value.slice.injEq, Value.bool.injEq, Value.pointer.injEq, Value.tuple.injEq, Array.mk.injEq, List.cons.injEq, true_and, and_true, exists_eq_left', exists_eq', exists_eq, exists_and_left, exists_and_right, and_assoc, bcase_t, bcase_f, cond_true, cond_false, StC_upd, nilO_some, List.setIfInBounds_toArray, List.set_cons_zero, List.set_cons_succ, List.size_toArray, List.length_cons, List.length_nil, Nat.reduceAdd, Nat.reduceLT, hS.reg hi.1, hS.reg hi.2.1]
  simp only [e0]
  refine ⟨hi.1.1, by have := hi.1.2; omega, hi.2.1.1, by have := hi.2.1.2; omega, ?_⟩
  have self : ∀ s', s' = s → SPost w0 m g gm fp code s' M := fun s' e => by rw [e]; exact (SPost.self hM (AM.le_refl _)).pre l1
  have hb1' := hS.notin p1
  unfold actP
  by_cases c12 : i.op = 12
  · simp only [decide_eq_true c12, bcase_t, if_pos c12]
    refine vr49_11010100 w0 M _ _ g b1 (regOf s.regs i.b) (fun v ok m' => m' = M ∧ v = (if 0 ≤ w32 (regOf s.regs i.b + i.imm) ∧ w32 (regOf s.regs i.b + i.imm) < s.mem.length then s.mem.getD (w32 (regOf s.regs i.b + i.imm)).toNat 0 else 0) ∧ ok = decide (0 ≤ w32 (regOf s.regs i.b + i.imm) ∧ w32 (regOf s.regs i.b + i.imm) < s.mem.length)) rfl rfl rfl ?_ ?_
    · simp only [cell_of p1, Ins.cells, cell_upd_same, cell_upd_ne, ne_eq, not_false_eq_true, List.getElem?_toArray, List.getElem?_cons_zero, List.getElem?_cons_succ, Option.some.injEq, Value.int.injEq, Value.slice.injEq, Value.bool.injEq, Value.pointer.injEq, Value.tuple.injEq, Array.mk.injEq, List.cons.injEq, true_and, and_true, exists_eq_left', exists_eq', exists_eq, exists_and_left, exists_and_right, and_assoc, bcase_t, bcase_f, cond_true, cond_false, StC_upd, nilO_some, List.setIfInBounds_toArray, List.set_cons_zero, List.set_cons_succ, List.size_toArray, List.length_cons, List.length_nil, Nat.reduceAdd, Nat.reduceLT, r1]
      refine ⟨?_, ?_⟩
      · refine CallsA.mono (addW w0 M _ _) ?_
        rintro r m2 ⟨rfl, rfl⟩
        refine ⟨_, rfl, CallsA.mono (load_mem w0 m2 w0.heap.size gm Aw s.mem cw hS.hm hS.hw _) ?_⟩
        rintro r m3 ⟨rfl, rfl⟩
        simp only [cell_upd_same, cell_upd_ne, ne_eq, not_false_eq_true, List.getElem?_toArray, List.getElem?_cons_zero, List.getElem?_cons_succ, Option.some.injEq, Value.int.injEq, Value.slice.injEq, Value.bool.injEq, Value.pointer.injEq, Value.tuple.injEq, Array.mk.injEq, List.cons.injEq, true_and, and_true, exists_eq_left', exists_eq', exists_eq, exists_and_left, exists_and_right, and_assoc, bcase_t, bcase_f, cond_true, cond_false, StC_upd, nilO_some, List.setIfInBounds_toArray, List.set_cons_zero, List.set_cons_succ, List.size_toArray, List.length_cons, List.length_nil, Nat.reduceAdd, Nat.reduceLT]
      · refine CallsA.mono (addW w0 M _ _) ?_
        rintro r m2 ⟨rfl, rfl⟩
        refine ⟨_, rfl, ?_⟩
        simp only [r1, cell_upd_same, cell_upd_ne, ne_eq, not_false_eq_true, List.getElem?_toArray, List.getElem?_cons_zero, List.getElem?_cons_succ, Option.some.injEq, Value.int.injEq, Value.slice.injEq, Value.bool.injEq, Value.pointer.injEq, Value.tuple.injEq, Array.mk.injEq, List.cons.injEq, true_and, and_true, exists_eq_left', exists_eq', exists_eq, exists_and_left, exists_and_right, and_assoc, bcase_t, bcase_f, cond_true, cond_false, StC_upd, nilO_some, List.setIfInBounds_toArray, List.set_cons_zero, List.set_cons_succ, List.size_toArray, List.length_cons, List.length_nil, Nat.reduceAdd, Nat.reduceLT]
        refine CallsA.mono (load_mem w0 m2 w0.heap.size gm Aw s.mem cw hS.hm hS.hw _) ?_
        rintro r m3 ⟨rfl, rfl⟩
        simp only [cell_upd_same, cell_upd_ne, ne_eq, not_false_eq_true, List.getElem?_toArray, List.getElem?_cons_zero, List.getElem?_cons_succ, Option.some.injEq, Value.int.injEq, Value.slice.injEq, Value.bool.injEq, Value.pointer.injEq, Value.tuple.injEq, Array.mk.injEq, List.cons.injEq, true_and, and_true, exists_eq_left', exists_eq', exists_eq, exists_and_left, exists_and_right, and_assoc, bcase_t, bcase_f, cond_true, cond_false, StC_upd, nilO_some, List.setIfInBounds_toArray, List.set_cons_zero, List.set_cons_succ, List.size_toArray, List.length_cons, List.length_nil, Nat.reduceAdd, Nat.reduceLT]
    · rintro σ v ok m2 ⟨rfl, rfl, rfl⟩
      by_cases hin : 0 ≤ w32 (regOf s.regs i.b + i.imm) ∧ w32 (regOf s.regs i.b + i.imm) < s.mem.length
      · simp only [decide_eq_true hin, if_pos hin, Bool.not_true, cell_upd_same, cell_upd_ne, ne_eq, not_false_eq_true, List.getElem?_toArray, List.getElem?_cons_zero, List.getElem?_cons_succ, Option.some.injEq, Value.int.injEq, Value.slice.injEq, Value.bool.injEq, Value.pointer.injEq, Value.tuple.injEq, Array.mk.injEq, List.cons.injEq, true_and, and_true, exists_eq_left', exists_eq', exists_eq, exists_and_left, exists_and_right, and_assoc, bcase_t, bcase_f, cond_true, cond_false, StC_upd, nilO_some, List.setIfInBounds_toArray, List.set_cons_zero, List.set_cons_succ, List.size_toArray, List.length_cons, List.length_nil, Nat.reduceAdd, Nat.reduceLT, cell_of p1, Ins.cells]
        refine CallsA.mono (set_spec w0 m2 g gm code s fp i.a _ hi.1 hM) ?_
        rintro r m3 ⟨rfl, hp⟩
        exact ⟨rfl, retP_of ⟨rfl, hp.pre l1⟩⟩
      · simp only [decide_eq_false hin, if_neg hin, Bool.not_false, cell_upd_same, cell_upd_ne, ne_eq, not_false_eq_true, List.getElem?_toArray, List.getElem?_cons_zero, List.getElem?_cons_succ, Option.some.injEq, Value.int.injEq, Value.slice.injEq, Value.bool.injEq, Value.pointer.injEq, Value.tuple.injEq, Array.mk.injEq, List.cons.injEq, true_and, and_true, exists_eq_left', exists_eq', exists_eq, exists_and_left, exists_and_right, and_assoc, bcase_t, bcase_f, cond_true, cond_false, StC_upd, nilO_some, List.setIfInBounds_toArray, List.set_cons_zero, List.set_cons_succ, List.size_toArray, List.length_cons, List.length_nil, Nat.reduceAdd, Nat.reduceLT]
        exact retP_of ⟨rfl, self _ rfl⟩
  simp only [decide_eq_false c12, bcase_f, if_neg c12]
  by_cases c13 : i.op = 13
  · simp only [decide_eq_true c13, bcase_t, if_pos c13]
    refine vr49_1101011100 w0 M _ _ g b1 (regOf s.regs i.a) (regOf s.regs i.b) (fun nok m' => nok = !decide (0 ≤ w32 (regOf s.regs i.b + i.imm) ∧ w32 (regOf s.regs i.b + i.imm) < s.mem.length) ∧ SPost w0 M g gm fp code (if 0 ≤ w32 (regOf s.regs i.b + i.imm) ∧ w32 (regOf s.regs i.b + i.imm) < s.mem.length then { s with mem := s.mem.set (w32 (regOf s.regs i.b + i.imm)).toNat (w32 (regOf s.regs i.a)) } else s) m') rfl rfl rfl rfl ?_ ?_
    · simp only [cell_of p1, Ins.cells, cell_upd_same, cell_upd_ne, ne_eq, not_false_eq_true, List.getElem?_toArray, List.getElem?_cons_zero, List.getElem?_cons_succ, Option.some.injEq, Value.int.injEq, Value.slice.injEq, Value.bool.injEq, Value.pointer.injEq, Value.tuple.injEq, Array.mk.injEq, List.cons.injEq, true_and, and_true, exists_eq_left', exists_eq', exists_eq, exists_and_left, exists_and_right, and_assoc, bcase_t, bcase_f, cond_true, cond_false, StC_upd, nilO_some, List.setIfInBounds_toArray, List.set_cons_zero, List.set_cons_succ, List.size_toArray, List.length_cons, List.length_nil, Nat.reduceAdd, Nat.reduceLT, r1]
      refine ⟨?_, ?_⟩
      · refine CallsA.mono (addW w0 M _ _) ?_
        rintro r m2 ⟨rfl, rfl⟩
        refine ⟨_, rfl, CallsA.mono (store_mem w0 m2 g gm code s fp hS _ _) ?_⟩
        rintro r m3 ⟨rfl, hp⟩
        simp only [cell_upd_same, cell_upd_ne, ne_eq, not_false_eq_true, List.getElem?_toArray, List.getElem?_cons_zero, List.getElem?_cons_succ, Option.some.injEq, Value.int.injEq, Value.slice.injEq, Value.bool.injEq, Value.pointer.injEq, Value.tuple.injEq, Array.mk.injEq, List.cons.injEq, true_and, and_true, exists_eq_left', exists_eq', exists_eq, exists_and_left, exists_and_right, and_assoc, bcase_t, bcase_f, cond_true, cond_false, StC_upd, nilO_some, List.setIfInBounds_toArray, List.set_cons_zero, List.set_cons_succ, List.size_toArray, List.length_cons, List.length_nil, Nat.reduceAdd, Nat.reduceLT]
        exact hp
      · refine CallsA.mono (addW w0 M _ _) ?_
        rintro r m2 ⟨rfl, rfl⟩
        refine ⟨_, rfl, ?_⟩
        simp only [r1, cell_upd_same, cell_upd_ne, ne_eq, not_false_eq_true, List.getElem?_toArray, List.getElem?_cons_zero, List.getElem?_cons_succ, Option.some.injEq, Value.int.injEq, Value.slice.injEq, Value.bool.injEq, Value.pointer.injEq, Value.tuple.injEq, Array.mk.injEq, List.cons.injEq, true_and, and_true, exists_eq_left', exists_eq', exists_eq, exists_and_left, exists_and_right, and_assoc, bcase_t, bcase_f, cond_true, cond_false, StC_upd, nilO_some, List.setIfInBounds_toArray, List.set_cons_zero, List.set_cons_succ, List.size_toArray, List.length_cons, List.length_nil, Nat.reduceAdd, Nat.reduceLT]
        refine CallsA.mono (store_mem w0 m2 g gm code s fp hS _ _) ?_
        rintro r m3 ⟨rfl, hp⟩
        simp only [cell_upd_same, cell_upd_ne, ne_eq, not_false_eq_true, List.getElem?_toArray, List.getElem?_cons_zero, List.getElem?_cons_succ, Option.some.injEq, Value.int.injEq, Value.slice.injEq, Value.bool.injEq, Value.pointer.injEq, Value.tuple.injEq, Array.mk.injEq, List.cons.injEq, true_and, and_true, exists_eq_left', exists_eq', exists_eq, exists_and_left, exists_and_right, and_assoc, bcase_t, bcase_f, cond_true, cond_false, StC_upd, nilO_some, List.setIfInBounds_toArray, List.set_cons_zero, List.set_cons_succ, List.size_toArray, List.length_cons, List.length_nil, Nat.reduceAdd, Nat.reduceLT]
        exact hp
    · rintro σ nok m2 ⟨rfl, hp⟩
      by_cases hin : 0 ≤ w32 (regOf s.regs i.b + i.imm) ∧ w32 (regOf s.regs i.b + i.imm) < s.mem.length
      · simp only [decide_eq_true hin, if_pos hin, Bool.not_true, cell_upd_same, cell_upd_ne, ne_eq, not_false_eq_true, List.getElem?_toArray, List.getElem?_cons_zero, List.getElem?_cons_succ, Option.some.injEq, Value.int.injEq, Value.slice.injEq, Value.bool.injEq, Value.pointer.injEq, Value.tuple.injEq, Array.mk.injEq, List.cons.injEq, true_and, and_true, exists_eq_left', exists_eq', exists_eq, exists_and_left, exists_and_right, and_assoc, bcase_t, bcase_f, cond_true, cond_false, StC_upd, nilO_some, List.setIfInBounds_toArray, List.set_cons_zero, List.set_cons_succ, List.size_toArray, List.length_cons, List.length_nil, Nat.reduceAdd, Nat.reduceLT] at hp ⊢
        exact retP_of ⟨rfl, hp.pre l1⟩
      · simp only [decide_eq_false hin, if_neg hin, Bool.not_false, cell_upd_same, cell_upd_ne, ne_eq, not_false_eq_true, List.getElem?_toArray, List.getElem?_cons_zero, List.getElem?_cons_succ, Option.some.injEq, Value.int.injEq, Value.slice.injEq, Value.bool.injEq, Value.pointer.injEq, Value.tuple.injEq, Array.mk.injEq, List.cons.injEq, true_and, and_true, exists_eq_left', exists_eq', exists_eq, exists_and_left, exists_and_right, and_assoc, bcase_t, bcase_f, cond_true, cond_false, StC_upd, nilO_some, List.setIfInBounds_toArray, List.set_cons_zero, List.set_cons_succ, List.size_toArray, List.length_cons, List.length_nil, Nat.reduceAdd, Nat.reduceLT] at hp ⊢
        exact retP_of ⟨rfl, hp.pre l1⟩
  simp only [decide_eq_false c13, bcase_f, if_neg c13]
  by_cases c14 : i.op = 14
  · simp only [decide_eq_true c14, bcase_t, if_pos c14]
    have e1 : ∀ k : Int, (i.b == k) = decide (i.b = k) := fun k => rfl
    by_cases ha : regOf s.regs i.a < 0
    · simp only [decide_eq_true ha, cell_upd_same, cell_upd_ne, ne_eq, not_false_eq_true, List.getElem?_toArray, List.getElem?_cons_zero, List.getElem?_cons_succ, Option.some.injEq, Value.int.injEq, Value.slice.injEq, Value.bool.injEq, Value.pointer.injEq, Value.tuple.injEq, Array.mk.injEq, List.cons.injEq, true_and, and_true, exists_eq_left', exists_eq', exists_eq, exists_and_left, exists_and_right, and_assoc, bcase_t, bcase_f, cond_true, cond_false, StC_upd, nilO_some, List.setIfInBounds_toArray, List.set_cons_zero, List.set_cons_succ, List.size_toArray, List.length_cons, List.length_nil, Nat.reduceAdd, Nat.reduceLT, if_pos (Or.inl ha : regOf s.regs i.a < 0 ∨ regOf s.regs i.a ≥ i.imm), e1]
      by_cases hb : i.b = 0
      · simp only [decide_eq_true hb, cell_upd_same, cell_upd_ne, ne_eq, not_false_eq_true, List.getElem?_toArray, List.getElem?_cons_zero, List.getElem?_cons_succ, Option.some.injEq, Value.int.injEq, Value.slice.injEq, Value.bool.injEq, Value.pointer.injEq, Value.tuple.injEq, Array.mk.injEq, List.cons.injEq, true_and, and_true, exists_eq_left', exists_eq', exists_eq, exists_and_left, exists_and_right, and_assoc, bcase_t, bcase_f, cond_true, cond_false, StC_upd, nilO_some, List.setIfInBounds_toArray, List.set_cons_zero, List.set_cons_succ, List.size_toArray, List.length_cons, List.length_nil, Nat.reduceAdd, Nat.reduceLT, if_pos hb]; exact retP_of ⟨rfl, self _ rfl⟩
      · simp only [decide_eq_false hb, cell_upd_same, cell_upd_ne, ne_eq, not_false_eq_true, List.getElem?_toArray, List.getElem?_cons_zero, List.getElem?_cons_succ, Option.some.injEq, Value.int.injEq, Value.slice.injEq, Value.bool.injEq, Value.pointer.injEq, Value.tuple.injEq, Array.mk.injEq, List.cons.injEq, true_and, and_true, exists_eq_left', exists_eq', exists_eq, exists_and_left, exists_and_right, and_assoc, bcase_t, bcase_f, cond_true, cond_false, StC_upd, nilO_some, List.setIfInBounds_toArray, List.set_cons_zero, List.set_cons_succ, List.size_toArray, List.length_cons, List.length_nil, Nat.reduceAdd, Nat.reduceLT, if_neg hb]; exact retP_of ⟨rfl, self _ rfl⟩
    · simp only [decide_eq_false ha, cell_upd_same, cell_upd_ne, ne_eq, not_false_eq_true, List.getElem?_toArray, List.getElem?_cons_zero, List.getElem?_cons_succ, Option.some.injEq, Value.int.injEq, Value.slice.injEq, Value.bool.injEq, Value.pointer.injEq, Value.tuple.injEq, Array.mk.injEq, List.cons.injEq, true_and, and_true, exists_eq_left', exists_eq', exists_eq, exists_and_left, exists_and_right, and_assoc, bcase_t, bcase_f, cond_true, cond_false, StC_upd, nilO_some, List.setIfInBounds_toArray, List.set_cons_zero, List.set_cons_succ, List.size_toArray, List.length_cons, List.length_nil, Nat.reduceAdd, Nat.reduceLT]
      by_cases ha2 : regOf s.regs i.a ≥ i.imm
      · simp only [decide_eq_true ha2, cell_upd_same, cell_upd_ne, ne_eq, not_false_eq_true, List.getElem?_toArray, List.getElem?_cons_zero, List.getElem?_cons_succ, Option.some.injEq, Value.int.injEq, Value.slice.injEq, Value.bool.injEq, Value.pointer.injEq, Value.tuple.injEq, Array.mk.injEq, List.cons.injEq, true_and, and_true, exists_eq_left', exists_eq', exists_eq, exists_and_left, exists_and_right, and_assoc, bcase_t, bcase_f, cond_true, cond_false, StC_upd, nilO_some, List.setIfInBounds_toArray, List.set_cons_zero, List.set_cons_succ, List.size_toArray, List.length_cons, List.length_nil, Nat.reduceAdd, Nat.reduceLT, if_pos (Or.inr ha2 : regOf s.regs i.a < 0 ∨ regOf s.regs i.a ≥ i.imm), e1]
        by_cases hb : i.b = 0
        · simp only [decide_eq_true hb, cell_upd_same, cell_upd_ne, ne_eq, not_false_eq_true, List.getElem?_toArray, List.getElem?_cons_zero, List.getElem?_cons_succ, Option.some.injEq, Value.int.injEq, Value.slice.injEq, Value.bool.injEq, Value.pointer.injEq, Value.tuple.injEq, Array.mk.injEq, List.cons.injEq, true_and, and_true, exists_eq_left', exists_eq', exists_eq, exists_and_left, exists_and_right, and_assoc, bcase_t, bcase_f, cond_true, cond_false, StC_upd, nilO_some, List.setIfInBounds_toArray, List.set_cons_zero, List.set_cons_succ, List.size_toArray, List.length_cons, List.length_nil, Nat.reduceAdd, Nat.reduceLT, if_pos hb]; exact retP_of ⟨rfl, self _ rfl⟩
        · simp only [decide_eq_false hb, cell_upd_same, cell_upd_ne, ne_eq, not_false_eq_true, List.getElem?_toArray, List.getElem?_cons_zero, List.getElem?_cons_succ, Option.some.injEq, Value.int.injEq, Value.slice.injEq, Value.bool.injEq, Value.pointer.injEq, Value.tuple.injEq, Array.mk.injEq, List.cons.injEq, true_and, and_true, exists_eq_left', exists_eq', exists_eq, exists_and_left, exists_and_right, and_assoc, bcase_t, bcase_f, cond_true, cond_false, StC_upd, nilO_some, List.setIfInBounds_toArray, List.set_cons_zero, List.set_cons_succ, List.size_toArray, List.length_cons, List.length_nil, Nat.reduceAdd, Nat.reduceLT, if_neg hb]; exact retP_of ⟨rfl, self _ rfl⟩
      · simp only [decide_eq_false ha2, cell_upd_same, cell_upd_ne, ne_eq, not_false_eq_true, List.getElem?_toArray, List.getElem?_cons_zero, List.getElem?_cons_succ, Option.some.injEq, Value.int.injEq, Value.slice.injEq, Value.bool.injEq, Value.pointer.injEq, Value.tuple.injEq, Array.mk.injEq, List.cons.injEq, true_and, and_true, exists_eq_left', exists_eq', exists_eq, exists_and_left, exists_and_right, and_assoc, bcase_t, bcase_f, cond_true, cond_false, StC_upd, nilO_some, List.setIfInBounds_toArray, List.set_cons_zero, List.set_cons_succ, List.size_toArray, List.length_cons, List.length_nil, Nat.reduceAdd, Nat.reduceLT, if_neg (show ¬ (regOf s.regs i.a < 0 ∨ regOf s.regs i.a ≥ i.imm) from fun h => h.elim ha ha2)]
        exact retP_of ⟨rfl, self _ rfl⟩
  simp only [decide_eq_false c14, bcase_f, if_neg c14]
  by_cases c20 : i.op = 20
  · simp only [decide_eq_true c20, bcase_t, if_pos c20]
    refine CallsA.mono (sys_spec w0 M g gm code s fp _ hM) ?_
    rintro r m2 ⟨rfl, hp⟩
    exact ⟨_, rfl, retP_of ⟨rfl, hp.pre l1⟩⟩
  simp only [decide_eq_false c20, bcase_f, if_neg c20]
  exact retP_of ⟨rfl, self _ rfl⟩

/-- One step: by what it stopped. -/
def stepP (code : List Ins) (s : MS) : MS × Int :=
  if s.at_ < 0 then (s, 2) else if s.at_ ≥ code.length then (s, 2) else
    let i := code.getD s.at_.toNat default
    if rightR i = false then (s, 8) else
      let s1 := (actP s i).1
      if (actP s i).2 ≠ 0 then (s1, (actP s i).2) else
        let r := reckonP i (regOf s1.regs i.b) (regOf s1.regs i.c)
        if r.2.1 ≠ 0 then (s1, r.2.1) else
          let s2 := if r.2.2 then { s1 with regs := setR s1.regs i.a r.1 } else s1
          ({ (nextP s2 i).1 with at_ := (nextP s2 i).2 }, 0)
end Go.Proofs.Ytadcbnldahcelaa.S
