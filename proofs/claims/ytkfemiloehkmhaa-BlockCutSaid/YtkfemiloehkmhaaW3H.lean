/- Ytkfemiloehkmhaa: a text of our own, by an AI agent: W3H -/
import Derived.Test.YtkfemiloehkmhaaCore11
import Derived.Test.YtkfemiloehkmhaaVWord3H
set_option linter.unusedSimpArgs false
set_option linter.unusedVariables false
namespace Go.Proofs.Ytkfemiloehkmhaa.S
open Go Go.RowKit Go.Alog Go.Proofs.Ytkfemiloehkmhaa.T Go.Proofs.Ytkfemiloehkmhaa.V

/-- A number, brought round to 32 bits. -/
def w32 (n : Int) : Int := IntKind.wrap .i32 n
theorem w32_eq (n : Int) : w32 n = (n + 2147483648) % 4294967296 - 2147483648 := IntKind.wrap_i32 n
theorem w32_le (n : Int) : -2147483648 ≤ w32 n ∧ w32 n ≤ 2147483647 := by rw [w32_eq]; omega
theorem w64_w32 (n : Int) : IntKind.wrap .i64 (w32 n) = w32 n := by have := w32_le n; rw [IntKind.wrap_i64]; omega
theorem w32_w64 (n : Int) : w32 (IntKind.wrap .i64 n) = w32 n := by rw [w32_eq, w32_eq, IntKind.wrap_i64]; omega
theorem w32_w32 (n : Int) : w32 (w32 n) = w32 n := by have := w32_le n; rw [w32_eq (w32 n)]; omega
theorem w32_id {n : Int} (h : -2147483648 ≤ n ∧ n ≤ 2147483647) : w32 n = n := by rw [w32_eq]; omega
theorem w64_id {n : Int} (h : -9223372036854775808 ≤ n ∧ n ≤ 9223372036854775807) : IntKind.wrap .i64 n = n := by rw [IntKind.wrap_i64]; omega

theorem fitsW (w0 : World) (m : AM) (n : Int) : CallsA Try.prog w0 94 #[.int .i64 n, .int .i64 16] m (fun r m' => r = .bool (decide (-32768 ≤ n ∧ n ≤ 32767)) ∧ m' = m) := by
  refine cf94 w0 m n 16 _ ?_
  have e1 : (IntKind.wrap .i64 (1 * 2 ^ (min ((IntKind.wrap .i64 (16 - 1)) : Int).toNat (IntKind.bits .i64)))) = 32768 := by decide
  have e2 : (IntKind.wrap .i64 (0 - 32768)) = -32768 := by decide
  simp only [e1, e2, show decide ((16 : Int) < 1) = false from rfl, show decide ((16 : Int) > 62) = false from rfl, show ((0 : Int) ≤ (IntKind.wrap .i64 (16 - 1))) = True from by simp [IntKind.wrap_i64], cell_upd_same, cell_upd_ne, ne_eq, not_false_eq_true, List.getElem?_toArray, List.getElem?_cons_zero, List.getElem?_cons_succ, Option.some.injEq, Value.int.injEq, Value.slice.injEq, Value.bool.injEq, Value.pointer.injEq, Value.tuple.injEq, Array.mk.injEq, List.cons.injEq, true_and, and_true, exists_eq_left', exists_eq', exists_eq, exists_and_left, exists_and_right, and_assoc, bcase_t, bcase_f, cond_true, cond_false, StC_upd, nilO_some, List.setIfInBounds_toArray, List.set_cons_zero, List.set_cons_succ, List.size_toArray, List.length_cons, List.length_nil, Nat.reduceAdd, Nat.reduceLT]
  by_cases h : n ≥ -32768
  · simp only [h, decide_true, cell_upd_same, cell_upd_ne, ne_eq, not_false_eq_true, List.getElem?_toArray, List.getElem?_cons_zero, List.getElem?_cons_succ, Option.some.injEq, Value.int.injEq, Value.slice.injEq, Value.bool.injEq, Value.pointer.injEq, Value.tuple.injEq, Array.mk.injEq, List.cons.injEq, true_and, and_true, exists_eq_left', exists_eq', exists_eq, exists_and_left, exists_and_right, and_assoc, bcase_t, bcase_f, cond_true, cond_false, StC_upd, nilO_some, List.setIfInBounds_toArray, List.set_cons_zero, List.set_cons_succ, List.size_toArray, List.length_cons, List.length_nil, Nat.reduceAdd, Nat.reduceLT]
    refine retP_of ⟨?_, rfl⟩
    by_cases h2 : n < 32768 <;> simp [h2] <;> omega
  · simp only [h, decide_false, cell_upd_same, cell_upd_ne, ne_eq, not_false_eq_true, List.getElem?_toArray, List.getElem?_cons_zero, List.getElem?_cons_succ, Option.some.injEq, Value.int.injEq, Value.slice.injEq, Value.bool.injEq, Value.pointer.injEq, Value.tuple.injEq, Array.mk.injEq, List.cons.injEq, true_and, and_true, exists_eq_left', exists_eq', exists_eq, exists_and_left, exists_and_right, and_assoc, bcase_t, bcase_f, cond_true, cond_false, StC_upd, nilO_some, List.setIfInBounds_toArray, List.set_cons_zero, List.set_cons_succ, List.size_toArray, List.length_cons, List.length_nil, Nat.reduceAdd, Nat.reduceLT]
    refine retP_of ⟨?_, rfl⟩
    simp

end Go.Proofs.Ytkfemiloehkmhaa.S
