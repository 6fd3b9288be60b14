/- Ytadcbnldahcelaa: a text of our own, by an AI agent: L7tC -/
import Derived.Test.YtadcbnldahcelaaL7qC
import Derived.Test.YtadcbnldahcelaaP7C
set_option linter.unusedSimpArgs false
set_option linter.unusedVariables false
set_option maxRecDepth 100000
namespace Go.Proofs.Ytadcbnldahcelaa.S
open Go Go.RowKit Go.Alog Go.Proofs.Ytadcbnldahcelaa.T Go.Proofs.Ytadcbnldahcelaa.V

/-- Two results: the first one stopped by k, or they are equal. -/
theorem two_tail (w0 : World) (m : AM) (ra rb : Res) (k : Int) (A12 A15 A34 A37 : Option Addr) (c14 c17 c36 c39 : Nat)
    (h1 : Own m w0.heap.size 3 1 A12 ra.out.length c14 (intCells .i64 ra.out)) (h2 : Own m w0.heap.size 3 1 A15 ra.mem.length c17 (intCells .i64 ra.mem)) (h3 : Own m w0.heap.size 3 1 A34 rb.out.length c36 (intCells .i64 rb.out)) (h4 : Own m w0.heap.size 3 1 A37 rb.mem.length c39 (intCells .i64 rb.mem))
    (hl : ra.out.length ≤ 1000000 ∧ ra.mem.length ≤ 1000000) (h : ra.trap = k ∨ ra = rb) :
    ∀ b42 : Nat, w0.heap.size ≤ b42 → m b42 = none → let m43 := AM.upd m b42 (.cells #[.int .i64 0, .int .i64 0, .slice none 0 0, .slice none 0 0] 29);
    ∀ b44 : Nat, w0.heap.size ≤ b44 → m43 b44 = none → let m45 := AM.upd m43 b44 (.cells #[.int .i64 0, .int .i64 0, .slice none 0 0, .slice none 0 0] 29);
    StC w0.heap.size m45 ⟨b42, 0, none⟩ (.int .i64 ra.trap) fun m46 =>
    StC w0.heap.size m46 ⟨b42, 1, none⟩ (.int .i64 ra.steps) fun m47 =>
    StC w0.heap.size m47 ⟨b42, 2, none⟩ (.slice A12 ra.out.length c14) fun m48 =>
    StC w0.heap.size m48 ⟨b42, 3, none⟩ (.slice A15 ra.mem.length c17) fun m49 =>
    StC w0.heap.size m49 ⟨b44, 0, none⟩ (.int .i64 rb.trap) fun m50 =>
    StC w0.heap.size m50 ⟨b44, 1, none⟩ (.int .i64 rb.steps) fun m51 =>
    StC w0.heap.size m51 ⟨b44, 2, none⟩ (.slice A34 rb.out.length c36) fun m52 =>
    StC w0.heap.size m52 ⟨b44, 3, none⟩ (.slice A37 rb.mem.length c39) fun m53 =>
    ∃ i54 : Int, m53.cell ⟨b42, 0, none⟩ = some (.int .i64 i54) ∧
    IntKind.i64 = IntKind.i64 ∧ (bcase ((i54 : Int) == k) (
    ((i54 : Int) == k) = true ∧ CallsA Try.prog w0 21 #[] m53 fun r56 m57 =>
    ∃ t55 : Bool, r56 = .bool t55 ∧ RetP (fun r _ => r = .bool true) (.bool (bif true then t55 else false)) m57) (
    ∃ i58 : Int, m53.cell ⟨b42, 0, none⟩ = some (.int .i64 i58) ∧ ∃ i59 : Int, m53.cell ⟨b42, 1, none⟩ = some (.int .i64 i59) ∧ ∃ (A60 : Option Addr) (n61 c62 : Nat), m53.cell ⟨b42, 2, none⟩ = some (.slice A60 n61 c62) ∧ ∃ (A63 : Option Addr) (n64 c65 : Nat), m53.cell ⟨b42, 3, none⟩ = some (.slice A63 n64 c65) ∧
    ∃ i66 : Int, m53.cell ⟨b44, 0, none⟩ = some (.int .i64 i66) ∧ ∃ i67 : Int, m53.cell ⟨b44, 1, none⟩ = some (.int .i64 i67) ∧ ∃ (A68 : Option Addr) (n69 c70 : Nat), m53.cell ⟨b44, 2, none⟩ = some (.slice A68 n69 c70) ∧ ∃ (A71 : Option Addr) (n72 c73 : Nat), m53.cell ⟨b44, 3, none⟩ = some (.slice A71 n72 c73) ∧
    CallsA Try.prog w0 22 #[.agg #[.int .i64 i58, .int .i64 i59, .slice A60 n61 c62, .slice A63 n64 c65], .agg #[.int .i64 i66, .int .i64 i67, .slice A68 n69 c70, .slice A71 n72 c73]] m53 fun r75 m76 =>
    ∃ t74 : Bool, r75 = .bool t74 ∧ (bcase (bif (i54 : Int) == k then true else t74) (
    CallsA Try.prog w0 21 #[] m76 fun r78 m79 =>
    ∃ t77 : Bool, r78 = .bool t77 ∧ RetP (fun r _ => r = .bool true) (.bool (bif bif (i54 : Int) == k then true else t74 then t77 else false)) m79) (
    (bif (i54 : Int) == k then true else t74) = false ∧ RetP (fun r _ => r = .bool true) (.bool false) m76)))) := by
  intro b42 hb42 hm42 m43 b44 hb44 hm44 m45
  have h24 : b42 ≠ b44 := fun e => by subst e; simp only [m43, upd_get_same] at hm44; cases hm44
  have n44 : m b44 = none := by simp only [m43] at hm44; rwa [upd_get_ne h24.symm] at hm44
  simp only [m45, m43]
  rw [upd_comm h24]
  simp only [cell_upd_same, cell_upd_ne, ne_eq, not_false_eq_true, List.getElem?_toArray, List.getElem?_cons_zero, List.getElem?_cons_succ, Option.some.injEq, Value.int.injEq, Value.slice.injEq, Value.bool.injEq, Value.pointer.injEq, Value.tuple.injEq, Array.mk.injEq, List.cons.injEq, true_and, and_true, exists_eq_left', exists_eq', exists_eq, exists_and_left, exists_and_right, and_assoc, bcase_t, bcase_f, cond_true, cond_false, StC_upd, nilO_some, List.setIfInBounds_toArray, List.set_cons_zero, List.set_cons_succ, List.size_toArray, List.length_cons, List.length_nil, Nat.reduceAdd, Nat.reduceLT, hb42]
  rw [upd_comm h24.symm]
  simp only [cell_upd_same, cell_upd_ne, ne_eq, not_false_eq_true, List.getElem?_toArray, List.getElem?_cons_zero, List.getElem?_cons_succ, Option.some.injEq, Value.int.injEq, Value.slice.injEq, Value.bool.injEq, Value.pointer.injEq, Value.tuple.injEq, Array.mk.injEq, List.cons.injEq, true_and, and_true, exists_eq_left', exists_eq', exists_eq, exists_and_left, exists_and_right, and_assoc, bcase_t, bcase_f, cond_true, cond_false, StC_upd, nilO_some, List.setIfInBounds_toArray, List.set_cons_zero, List.set_cons_succ, List.size_toArray, List.length_cons, List.length_nil, Nat.reduceAdd, Nat.reduceLT, hb44, h24, h24.symm]
  have l1 := le_new hm42 (.cells #[.int .i64 ra.trap, .int .i64 ra.steps, .slice A12 ra.out.length c14, .slice A15 ra.mem.length c17] 29)
  have hm44' : (m.upd b42 (.cells #[.int .i64 ra.trap, .int .i64 ra.steps, .slice A12 ra.out.length c14, .slice A15 ra.mem.length c17] 29)) b44 = none := by rw [upd_get_ne h24.symm]; exact n44
  have l2 := le_new hm44' (.cells #[.int .i64 rb.trap, .int .i64 rb.steps, .slice A34 rb.out.length c36, .slice A37 rb.mem.length c39] 29)
  have L := AM.le_trans l1 l2
  generalize (m.upd b42 (.cells #[.int .i64 ra.trap, .int .i64 ra.steps, .slice A12 ra.out.length c14, .slice A15 ra.mem.length c17] 29)).upd b44 (.cells #[.int .i64 rb.trap, .int .i64 rb.steps, .slice A34 rb.out.length c36, .slice A37 rb.mem.length c39] 29) = M at L
  have aw : ∀ (M' : AM), CallsA Try.prog w0 21 #[] M' (fun r m' => ∃ t, r = .bool t ∧ RetP (fun r _ => r = .bool true) (.bool t) m') := by
    intro M'
    refine CallsA.mono (awake7 w0 M') ?_
    rintro r m' rfl
    exact ⟨_, rfl, retP_of rfl⟩
  by_cases ht : ra.trap = k
  · have e : (ra.trap == k) = true := by simpa using ht
    simp only [e, cell_upd_same, cell_upd_ne, ne_eq, not_false_eq_true, List.getElem?_toArray, List.getElem?_cons_zero, List.getElem?_cons_succ, Option.some.injEq, Value.int.injEq, Value.slice.injEq, Value.bool.injEq, Value.pointer.injEq, Value.tuple.injEq, Array.mk.injEq, List.cons.injEq, true_and, and_true, exists_eq_left', exists_eq', exists_eq, exists_and_left, exists_and_right, and_assoc, bcase_t, bcase_f, cond_true, cond_false, StC_upd, nilO_some, List.setIfInBounds_toArray, List.set_cons_zero, List.set_cons_succ, List.size_toArray, List.length_cons, List.length_nil, Nat.reduceAdd, Nat.reduceLT]
    exact aw M
  · have e : (ra.trap == k) = false := by simpa using ht
    have heq : ra = rb := h.resolve_left ht
    simp only [e, cell_upd_same, cell_upd_ne, ne_eq, not_false_eq_true, List.getElem?_toArray, List.getElem?_cons_zero, List.getElem?_cons_succ, Option.some.injEq, Value.int.injEq, Value.slice.injEq, Value.bool.injEq, Value.pointer.injEq, Value.tuple.injEq, Array.mk.injEq, List.cons.injEq, true_and, and_true, exists_eq_left', exists_eq', exists_eq, exists_and_left, exists_and_right, and_assoc, bcase_t, bcase_f, cond_true, cond_false, StC_upd, nilO_some, List.setIfInBounds_toArray, List.set_cons_zero, List.set_cons_succ, List.size_toArray, List.length_cons, List.length_nil, Nat.reduceAdd, Nat.reduceLT]
    refine CallsA.mono (equal_spec w0 M ra rb A12 A15 A34 A37 c14 c17 c36 c39 (h1.le L).reads (h2.le L).reads (h3.le L).reads (h4.le L).reads hl) ?_
    rintro r m' ⟨rfl, _⟩
    refine ⟨_, rfl, ?_⟩
    simp only [decide_eq_true heq, cell_upd_same, cell_upd_ne, ne_eq, not_false_eq_true, List.getElem?_toArray, List.getElem?_cons_zero, List.getElem?_cons_succ, Option.some.injEq, Value.int.injEq, Value.slice.injEq, Value.bool.injEq, Value.pointer.injEq, Value.tuple.injEq, Array.mk.injEq, List.cons.injEq, true_and, and_true, exists_eq_left', exists_eq', exists_eq, exists_and_left, exists_and_right, and_assoc, bcase_t, bcase_f, cond_true, cond_false, StC_upd, nilO_some, List.setIfInBounds_toArray, List.set_cons_zero, List.set_cons_succ, List.size_toArray, List.length_cons, List.length_nil, Nat.reduceAdd, Nat.reduceLT]
    exact aw m'
end Go.Proofs.Ytadcbnldahcelaa.S
