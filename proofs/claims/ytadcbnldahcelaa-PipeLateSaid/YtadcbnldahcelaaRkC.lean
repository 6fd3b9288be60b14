/- Ytadcbnldahcelaa: a text of our own, by an AI agent: RkC -/
import Derived.Test.YtadcbnldahcelaaIsC
import Derived.Test.YtadcbnldahcelaaVSeqC
set_option linter.unusedSimpArgs false
set_option linter.unusedVariables false
set_option maxRecDepth 100000
namespace Go.Proofs.Ytadcbnldahcelaa.S
open Go Go.RowKit Go.Alog Go.Proofs.Ytadcbnldahcelaa.T Go.Proofs.Ytadcbnldahcelaa.V

def andI (a b : Int) : Int := IntKind.wrap .i64 ((BitVec.ofInt (IntKind.bits .i64) a &&& BitVec.ofInt (IntKind.bits .i64) b).toNat : Int)
def orI (a b : Int) : Int := IntKind.wrap .i64 ((BitVec.ofInt (IntKind.bits .i64) a ||| BitVec.ofInt (IntKind.bits .i64) b).toNat : Int)
def truthI (b : Bool) : Int := if b then 1 else 0
/-- What an operation makes of two words. -/
def reckP (i : Ins) (b c : Int) : Option Int :=
  if i.op = 1 then some (IntKind.wrap .i64 (b + c)) else if i.op = 2 then some (IntKind.wrap .i64 (b - c)) else if i.op = 3 then some (IntKind.wrap .i64 (b * c))
  else if i.op = 6 then some (andI b c) else if i.op = 7 then some (orI b c) else if i.op = 8 then some (truthI (decide (b < c))) else if i.op = 9 then some (truthI (b == c))
  else if i.op = 10 then some (IntKind.wrap .i64 (b + i.imm)) else if i.op = 11 then some (IntKind.wrap .i64 (i.imm * 65536)) else none

theorem truth_spec (w0 : World) (m : AM) (b : Bool) : CallsA Try.prog w0 55 #[.bool b] m (fun r m' => r = .int .i64 (truthI b) ∧ m' = m) := by
  refine cf55 w0 m b _ ?_
  cases b
  · simp only [bcase_f]; exact retP_of ⟨rfl, rfl⟩
  · simp only [bcase_t]; exact retP_of ⟨rfl, rfl⟩

theorem reckon_spec (w0 : World) (m : AM) (i : Ins) (b c : Int) : CallsA Try.prog w0 41 #[i.val, .int .i64 b, .int .i64 c] m (fun r m' => r = .tuple #[.int .i64 ((reckP i b c).getD 0), .bool (reckP i b c).isSome] ∧ m.le m') := by
  refine cf41 w0 m _ _ _ _ _ b c _ ?_
  intro b1 hb1 hm1 M
  have l1 : m.le M := le_new hm1 _
  have p1 : M b1 = some (.cells i.cells.toArray 34) := upd_get_same
  clear_value M
  have e0 : ∀ k : Int, (i.op == k) = decide (i.op = k) := fun k => rfl
  simp only [cell_of p1, Ins.cells, cell_upd_same, cell_upd_ne, ne_eq, not_false_eq_true, List.getElem?_toArray, List.getElem?_cons_zero, List.getElem?_cons_succ, Option.some.injEq, Value.int.injEq, Value.slice.injEq, Value.bool.injEq, Value.pointer.injEq, Value.tuple.injEq, Array.mk.injEq, List.cons.injEq, true_and, and_true, exists_eq_left', exists_eq', exists_eq, exists_and_left, exists_and_right, and_assoc, bcase_t, bcase_f, cond_true, cond_false, StC_upd, nilO_some, List.setIfInBounds_toArray, List.set_cons_zero, List.set_cons_succ, List.size_toArray, List.length_cons, List.length_nil, Nat.reduceAdd, Nat.reduceLT, e0]
  unfold reckP
  by_cases c1 : i.op = 1
  · simp only [decide_eq_true c1, if_pos c1, bcase_t, Option.isSome_some, Option.getD_some]; exact retP_of ⟨rfl, l1⟩
  simp only [decide_eq_false c1, if_neg c1, bcase_f]
  by_cases c2 : i.op = 2
  · simp only [decide_eq_true c2, if_pos c2, bcase_t, Option.isSome_some, Option.getD_some]; exact retP_of ⟨rfl, l1⟩
  simp only [decide_eq_false c2, if_neg c2, bcase_f]
  by_cases c3 : i.op = 3
  · simp only [decide_eq_true c3, if_pos c3, bcase_t, Option.isSome_some, Option.getD_some]; exact retP_of ⟨rfl, l1⟩
  simp only [decide_eq_false c3, if_neg c3, bcase_f]
  by_cases c6 : i.op = 6
  · simp only [decide_eq_true c6, if_pos c6, bcase_t, Option.isSome_some, Option.getD_some]; exact retP_of ⟨rfl, l1⟩
  simp only [decide_eq_false c6, if_neg c6, bcase_f]
  by_cases c7 : i.op = 7
  · simp only [decide_eq_true c7, if_pos c7, bcase_t, Option.isSome_some, Option.getD_some]; exact retP_of ⟨rfl, l1⟩
  simp only [decide_eq_false c7, if_neg c7, bcase_f]
  by_cases c8 : i.op = 8
  · simp only [decide_eq_true c8, if_pos c8, bcase_t, Option.isSome_some, Option.getD_some]
    refine CallsA.mono (truth_spec w0 M _) ?_
    rintro r m' ⟨rfl, rfl⟩
    exact ⟨_, rfl, retP_of ⟨rfl, l1⟩⟩
  simp only [decide_eq_false c8, if_neg c8, bcase_f]
  by_cases c9 : i.op = 9
  · simp only [decide_eq_true c9, if_pos c9, bcase_t, Option.isSome_some, Option.getD_some]
    refine CallsA.mono (truth_spec w0 M _) ?_
    rintro r m' ⟨rfl, rfl⟩
    exact ⟨_, rfl, retP_of ⟨rfl, l1⟩⟩
  simp only [decide_eq_false c9, if_neg c9, bcase_f]
  by_cases c10 : i.op = 10
  · simp only [decide_eq_true c10, if_pos c10, bcase_t, Option.isSome_some, Option.getD_some]; exact retP_of ⟨rfl, l1⟩
  simp only [decide_eq_false c10, if_neg c10, bcase_f]
  by_cases c11 : i.op = 11
  · simp only [decide_eq_true c11, if_pos c11, bcase_t, Option.isSome_some, Option.getD_some]
    exact ⟨by decide, retP_of ⟨rfl, l1⟩⟩
  simp only [decide_eq_false c11, if_neg c11, bcase_f, Option.isSome_none, Option.getD_none]
  exact retP_of ⟨rfl, l1⟩

/-- What Reckon tells: the number, by what it stops, whether it reckons. -/
def reckonP (i : Ins) (b c : Int) : Int × Int × Bool :=
  if rightR i = false then (0, 0, false)
  else match reckP i (w32 b) (w32 c) with
    | some v => (w32 v, 0, true)
    | none => if i.op ≠ 4 ∧ i.op ≠ 5 then (0, 0, false) else if w32 c = 0 then (0, 4, true) else if i.op = 5 then ((w32 b).tmod (w32 c), 0, true) else (w32 ((w32 b).tdiv (w32 c)), 0, true)

theorem Reckon_spec (w0 : World) (m : AM) (i : Ins) (b c : Int) : CallsA Try.prog w0 25 #[i.val, .int .i64 b, .int .i64 c] m (fun r m' => r = .tuple #[.int .i64 (reckonP i b c).1, .int .i64 (reckonP i b c).2.1, .bool (reckonP i b c).2.2] ∧ m.le m') := by
  refine cf25 w0 m _ _ _ _ _ b c _ ?_
  intro b1 hb1 hm1 M
  have l1 : m.le M := le_new hm1 _
  have p1 : M b1 = some (.cells i.cells.toArray 34) := upd_get_same
  clear_value M
  refine CallsA.mono (wrapW w0 M b) ?_
  rintro r m1 ⟨rfl, rfl⟩
  refine ⟨_, rfl, CallsA.mono (wrapW w0 _ c) ?_⟩
  rintro r m1 ⟨rfl, rfl⟩
  refine ⟨_, rfl, ?_⟩
  simp only [cell_of p1, Ins.cells, cell_upd_same, cell_upd_ne, ne_eq, not_false_eq_true, List.getElem?_toArray, List.getElem?_cons_zero, List.getElem?_cons_succ, Option.some.injEq, Value.int.injEq, Value.slice.injEq, Value.bool.injEq, Value.pointer.injEq, Value.tuple.injEq, Array.mk.injEq, List.cons.injEq, true_and, and_true, exists_eq_left', exists_eq', exists_eq, exists_and_left, exists_and_right, and_assoc, bcase_t, bcase_f, cond_true, cond_false, StC_upd, nilO_some, List.setIfInBounds_toArray, List.set_cons_zero, List.set_cons_succ, List.size_toArray, List.length_cons, List.length_nil, Nat.reduceAdd, Nat.reduceLT]
  refine CallsA.mono (reckon_spec w0 _ i _ _) ?_
  rintro r m2 ⟨rfl, l2⟩
  have p2 := l2 _ _ p1
  refine ⟨_, _, rfl, ?_⟩
  simp only [cell_of p2, Ins.cells, cell_upd_same, cell_upd_ne, ne_eq, not_false_eq_true, List.getElem?_toArray, List.getElem?_cons_zero, List.getElem?_cons_succ, Option.some.injEq, Value.int.injEq, Value.slice.injEq, Value.bool.injEq, Value.pointer.injEq, Value.tuple.injEq, Array.mk.injEq, List.cons.injEq, true_and, and_true, exists_eq_left', exists_eq', exists_eq, exists_and_left, exists_and_right, and_assoc, bcase_t, bcase_f, cond_true, cond_false, StC_upd, nilO_some, List.setIfInBounds_toArray, List.set_cons_zero, List.set_cons_succ, List.size_toArray, List.length_cons, List.length_nil, Nat.reduceAdd, Nat.reduceLT]
  refine CallsA.mono (isaRight w0 _ i) ?_
  rintro r m3 ⟨rfl, l3⟩
  have p3 := l3 _ _ p2
  have L := AM.le_trans (AM.le_trans l1 l2) l3
  unfold reckonP
  cases hr : rightR i
  · simp only [cell_upd_same, cell_upd_ne, ne_eq, not_false_eq_true, List.getElem?_toArray, List.getElem?_cons_zero, List.getElem?_cons_succ, Option.some.injEq, Value.int.injEq, Value.slice.injEq, Value.bool.injEq, Value.pointer.injEq, Value.tuple.injEq, Array.mk.injEq, List.cons.injEq, true_and, and_true, exists_eq_left', exists_eq', exists_eq, exists_and_left, exists_and_right, and_assoc, bcase_t, bcase_f, cond_true, cond_false, StC_upd, nilO_some, List.setIfInBounds_toArray, List.set_cons_zero, List.set_cons_succ, List.size_toArray, List.length_cons, List.length_nil, Nat.reduceAdd, Nat.reduceLT, Bool.not_false, if_true]
    exact retP_of ⟨rfl, L⟩
  simp only [cell_upd_same, cell_upd_ne, ne_eq, not_false_eq_true, List.getElem?_toArray, List.getElem?_cons_zero, List.getElem?_cons_succ, Option.some.injEq, Value.int.injEq, Value.slice.injEq, Value.bool.injEq, Value.pointer.injEq, Value.tuple.injEq, Array.mk.injEq, List.cons.injEq, true_and, and_true, exists_eq_left', exists_eq', exists_eq, exists_and_left, exists_and_right, and_assoc, bcase_t, bcase_f, cond_true, cond_false, StC_upd, nilO_some, List.setIfInBounds_toArray, List.set_cons_zero, List.set_cons_succ, List.size_toArray, List.length_cons, List.length_nil, Nat.reduceAdd, Nat.reduceLT, Bool.not_true, Bool.true_eq_false, if_false]
  cases hv : reckP i (w32 b) (w32 c) with
  | some v =>
    simp only [Option.isSome_some, Option.getD_some, cell_upd_same, cell_upd_ne, ne_eq, not_false_eq_true, List.getElem?_toArray, List.getElem?_cons_zero, List.getElem?_cons_succ, Option.some.injEq, Value.int.injEq, Value.slice.injEq, Value.bool.injEq, Value.pointer.injEq, Value.tuple.injEq, Array.mk.injEq, List.cons.injEq, true_and, and_true, exists_eq_left', exists_eq', exists_eq, exists_and_left, exists_and_right, and_assoc, bcase_t, bcase_f, cond_true, cond_false, StC_upd, nilO_some, List.setIfInBounds_toArray, List.set_cons_zero, List.set_cons_succ, List.size_toArray, List.length_cons, List.length_nil, Nat.reduceAdd, Nat.reduceLT]
    refine CallsA.mono (wrapW w0 m3 v) ?_
    rintro r m4 ⟨rfl, rfl⟩
    exact ⟨_, rfl, retP_of ⟨rfl, L⟩⟩
  | none =>
    have e0 : ∀ k : Int, (i.op != k) = !decide (i.op = k) := fun k => rfl
    have e1 : ∀ k : Int, (i.op == k) = decide (i.op = k) := fun k => rfl
    simp only [Option.isSome_none, Option.getD_none, cell_upd_same, cell_upd_ne, ne_eq, not_false_eq_true, List.getElem?_toArray, List.getElem?_cons_zero, List.getElem?_cons_succ, Option.some.injEq, Value.int.injEq, Value.slice.injEq, Value.bool.injEq, Value.pointer.injEq, Value.tuple.injEq, Array.mk.injEq, List.cons.injEq, true_and, and_true, exists_eq_left', exists_eq', exists_eq, exists_and_left, exists_and_right, and_assoc, bcase_t, bcase_f, cond_true, cond_false, StC_upd, nilO_some, List.setIfInBounds_toArray, List.set_cons_zero, List.set_cons_succ, List.size_toArray, List.length_cons, List.length_nil, Nat.reduceAdd, Nat.reduceLT, cell_of p3, Ins.cells, e0, e1]
    have dv : ∀ (K : Value → AM → Prop), (w32 c = 0 → K (.tuple #[.int .i64 0, .int .i64 0, .bool false]) m3) → (w32 c ≠ 0 → K (.tuple #[.int .i64 (w32 ((w32 b).tdiv (w32 c))), .int .i64 ((w32 b).tmod (w32 c)), .bool true]) m3) → CallsA Try.prog w0 43 #[.int .i64 (w32 b), .int .i64 (w32 c)] m3 K := by
      intro K h1 h2
      refine CallsA.mono (divW w0 m3 (w32 b) (w32 c)) ?_
      rintro r m4 ⟨h, rfl⟩
      rw [w32_w32, w32_w32] at h
      by_cases h0 : w32 c = 0
      · rw [if_pos h0] at h; subst h; exact h1 h0
      · rw [if_neg h0] at h; subst h; exact h2 h0
    by_cases c4 : i.op = 4
    · simp only [decide_eq_true c4, decide_eq_false (show ¬ i.op = 5 by omega), if_neg (show ¬ (¬ i.op = 4 ∧ ¬ i.op = 5) by omega), if_neg (show ¬ i.op = 5 by omega), Bool.not_true, Bool.not_false, cell_upd_same, cell_upd_ne, ne_eq, not_false_eq_true, List.getElem?_toArray, List.getElem?_cons_zero, List.getElem?_cons_succ, Option.some.injEq, Value.int.injEq, Value.slice.injEq, Value.bool.injEq, Value.pointer.injEq, Value.tuple.injEq, Array.mk.injEq, List.cons.injEq, true_and, and_true, exists_eq_left', exists_eq', exists_eq, exists_and_left, exists_and_right, and_assoc, bcase_t, bcase_f, cond_true, cond_false, StC_upd, nilO_some, List.setIfInBounds_toArray, List.set_cons_zero, List.set_cons_succ, List.size_toArray, List.length_cons, List.length_nil, Nat.reduceAdd, Nat.reduceLT]
      refine dv _ (fun h0 => ?_) (fun h0 => ?_)
      · refine ⟨_, _, _, rfl, ?_⟩
        simp only [if_pos h0, Bool.not_false, cell_upd_same, cell_upd_ne, ne_eq, not_false_eq_true, List.getElem?_toArray, List.getElem?_cons_zero, List.getElem?_cons_succ, Option.some.injEq, Value.int.injEq, Value.slice.injEq, Value.bool.injEq, Value.pointer.injEq, Value.tuple.injEq, Array.mk.injEq, List.cons.injEq, true_and, and_true, exists_eq_left', exists_eq', exists_eq, exists_and_left, exists_and_right, and_assoc, bcase_t, bcase_f, cond_true, cond_false, StC_upd, nilO_some, List.setIfInBounds_toArray, List.set_cons_zero, List.set_cons_succ, List.size_toArray, List.length_cons, List.length_nil, Nat.reduceAdd, Nat.reduceLT]
        exact retP_of ⟨rfl, L⟩
      · refine ⟨_, _, _, rfl, ?_⟩
        simp only [if_neg h0, Bool.not_true, cell_upd_same, cell_upd_ne, ne_eq, not_false_eq_true, List.getElem?_toArray, List.getElem?_cons_zero, List.getElem?_cons_succ, Option.some.injEq, Value.int.injEq, Value.slice.injEq, Value.bool.injEq, Value.pointer.injEq, Value.tuple.injEq, Array.mk.injEq, List.cons.injEq, true_and, and_true, exists_eq_left', exists_eq', exists_eq, exists_and_left, exists_and_right, and_assoc, bcase_t, bcase_f, cond_true, cond_false, StC_upd, nilO_some, List.setIfInBounds_toArray, List.set_cons_zero, List.set_cons_succ, List.size_toArray, List.length_cons, List.length_nil, Nat.reduceAdd, Nat.reduceLT, cell_of p3, Ins.cells, e1, decide_eq_false (show ¬ i.op = 5 by omega)]
        exact retP_of ⟨rfl, L⟩
    · by_cases c5 : i.op = 5
      · simp only [decide_eq_false c4, decide_eq_true c5, if_neg (show ¬ (¬ i.op = 4 ∧ ¬ i.op = 5) by omega), if_pos c5, Bool.not_true, Bool.not_false, cell_upd_same, cell_upd_ne, ne_eq, not_false_eq_true, List.getElem?_toArray, List.getElem?_cons_zero, List.getElem?_cons_succ, Option.some.injEq, Value.int.injEq, Value.slice.injEq, Value.bool.injEq, Value.pointer.injEq, Value.tuple.injEq, Array.mk.injEq, List.cons.injEq, true_and, and_true, exists_eq_left', exists_eq', exists_eq, exists_and_left, exists_and_right, and_assoc, bcase_t, bcase_f, cond_true, cond_false, StC_upd, nilO_some, List.setIfInBounds_toArray, List.set_cons_zero, List.set_cons_succ, List.size_toArray, List.length_cons, List.length_nil, Nat.reduceAdd, Nat.reduceLT]
        refine dv _ (fun h0 => ?_) (fun h0 => ?_)
        · refine ⟨_, _, _, rfl, ?_⟩
          simp only [if_pos h0, Bool.not_false, cell_upd_same, cell_upd_ne, ne_eq, not_false_eq_true, List.getElem?_toArray, List.getElem?_cons_zero, List.getElem?_cons_succ, Option.some.injEq, Value.int.injEq, Value.slice.injEq, Value.bool.injEq, Value.pointer.injEq, Value.tuple.injEq, Array.mk.injEq, List.cons.injEq, true_and, and_true, exists_eq_left', exists_eq', exists_eq, exists_and_left, exists_and_right, and_assoc, bcase_t, bcase_f, cond_true, cond_false, StC_upd, nilO_some, List.setIfInBounds_toArray, List.set_cons_zero, List.set_cons_succ, List.size_toArray, List.length_cons, List.length_nil, Nat.reduceAdd, Nat.reduceLT]
          exact retP_of ⟨rfl, L⟩
        · refine ⟨_, _, _, rfl, ?_⟩
          simp only [if_neg h0, Bool.not_true, cell_upd_same, cell_upd_ne, ne_eq, not_false_eq_true, List.getElem?_toArray, List.getElem?_cons_zero, List.getElem?_cons_succ, Option.some.injEq, Value.int.injEq, Value.slice.injEq, Value.bool.injEq, Value.pointer.injEq, Value.tuple.injEq, Array.mk.injEq, List.cons.injEq, true_and, and_true, exists_eq_left', exists_eq', exists_eq, exists_and_left, exists_and_right, and_assoc, bcase_t, bcase_f, cond_true, cond_false, StC_upd, nilO_some, List.setIfInBounds_toArray, List.set_cons_zero, List.set_cons_succ, List.size_toArray, List.length_cons, List.length_nil, Nat.reduceAdd, Nat.reduceLT, cell_of p3, Ins.cells, e1, decide_eq_true c5]
          exact retP_of ⟨rfl, L⟩
      · simp only [decide_eq_false c4, decide_eq_false c5, if_pos (show (¬ i.op = 4 ∧ ¬ i.op = 5) from ⟨c4, c5⟩), Bool.not_true, Bool.not_false, cell_upd_same, cell_upd_ne, ne_eq, not_false_eq_true, List.getElem?_toArray, List.getElem?_cons_zero, List.getElem?_cons_succ, Option.some.injEq, Value.int.injEq, Value.slice.injEq, Value.bool.injEq, Value.pointer.injEq, Value.tuple.injEq, Array.mk.injEq, List.cons.injEq, true_and, and_true, exists_eq_left', exists_eq', exists_eq, exists_and_left, exists_and_right, and_assoc, bcase_t, bcase_f, cond_true, cond_false, StC_upd, nilO_some, List.setIfInBounds_toArray, List.set_cons_zero, List.set_cons_succ, List.size_toArray, List.length_cons, List.length_nil, Nat.reduceAdd, Nat.reduceLT]
        exact retP_of ⟨rfl, L⟩
end Go.Proofs.Ytadcbnldahcelaa.S
