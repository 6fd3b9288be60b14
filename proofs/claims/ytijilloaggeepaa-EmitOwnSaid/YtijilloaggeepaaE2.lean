/- Ytijilloaggeepaa: a text of our own, by an AI agent: E2 -/
import Derived.Test.YtijilloaggeepaaE1
set_option linter.unusedSimpArgs false
set_option linter.unusedVariables false
namespace Go.Proofs.Ytijilloaggeepaa.S
open Go Go.RowKit Go.Alog Go.Proofs.Ytijilloaggeepaa.T Go.Proofs.Ytijilloaggeepaa.V

theorem emitOwn_text (w0 : World) (m : AM) (i j : Ins) : CallsA Try.prog w0 3 #[i.val, j.val] m (fun r m' => r = .bool true) := by
  refine cf3 w0 m _ _ _ _ _ _ _ _ _ _ _ ?_
  intro b1 hb1 hm1 m1 b3 hb3 hm3 m3 b5 hb5 hm5
  subst m3 m1
  simp only [cell_upd_same, cell_upd_ne, ne_eq, not_false_eq_true, List.getElem?_toArray, List.getElem?_cons_zero, List.getElem?_cons_succ, Option.some.injEq, Value.int.injEq, Value.slice.injEq, Value.bool.injEq, Value.pointer.injEq, Value.tuple.injEq, Array.mk.injEq, List.cons.injEq, true_and, and_true, exists_eq_left', exists_eq', exists_eq, exists_and_left, exists_and_right, and_assoc, bcase_t, bcase_f, cond_true, cond_false, StC_upd, nilO_some, List.setIfInBounds_toArray, List.set_cons_zero, List.set_cons_succ, List.size_toArray, List.length_cons, List.length_nil, Nat.reduceAdd, Nat.reduceLT]
  have h35 : b3 ≠ b5 := fun e => by subst e; rw [upd_get_same] at hm5; cases hm5
  have h13 : b1 ≠ b3 := fun e => by subst e; rw [upd_get_same] at hm3; cases hm3
  have h15 : b1 ≠ b5 := fun e => by subst e; rw [upd_get_ne h13, upd_get_same] at hm5; cases hm5
  refine CallsA.mono (jump_spec w0 _ b5 [] [] 0 _ ⟨15, 0, 0, 0, 77⟩ (buf_new _ hb5) (by decide) (by decide)) ?_
  rintro r m2 ⟨rfl, fp2, h2, f2, k2⟩
  obtain ⟨p1, d1⟩ := Fr.step (b := b1) (o := .cells i.cells.toArray 23) (by rw [upd_get_ne h15, upd_get_ne h13, upd_get_same]; rfl) f2 k2 (by simpa using h15)
  obtain ⟨p3, d3⟩ := Fr.step (b := b3) (o := .cells j.cells.toArray 23) (by rw [upd_get_ne h35, upd_get_same]; rfl) f2 k2 (by simpa using h35)
  simp only [cell_upd_same, cell_upd_ne, ne_eq, not_false_eq_true, List.getElem?_toArray, List.getElem?_cons_zero, List.getElem?_cons_succ, Option.some.injEq, Value.int.injEq, Value.slice.injEq, Value.bool.injEq, Value.pointer.injEq, Value.tuple.injEq, Array.mk.injEq, List.cons.injEq, true_and, and_true, exists_eq_left', exists_eq', exists_eq, exists_and_left, exists_and_right, and_assoc, bcase_t, bcase_f, cond_true, cond_false, StC_upd, nilO_some, List.setIfInBounds_toArray, List.set_cons_zero, List.set_cons_succ, List.size_toArray, List.length_cons, List.length_nil, Nat.reduceAdd, Nat.reduceLT]
  refine CallsA.mono (code_spec w0 _ b5 _ _ _ _ h2 (by decide)) ?_
  rintro r m3 ⟨l3, A3, c3, rfl, o3, n3⟩
  have q1 := l3 _ _ p1
  have q3 := l3 _ _ p3
  have e3 : ∀ k ∈ obl A3, k ∉ fp2 := fun k hk hf => (h2.lt k hf).2 (n3 k hk)
  simp only [Ins.cells, cell_upd_same, cell_upd_ne, ne_eq, not_false_eq_true, List.getElem?_toArray, List.getElem?_cons_zero, List.getElem?_cons_succ, Option.some.injEq, Value.int.injEq, Value.slice.injEq, Value.bool.injEq, Value.pointer.injEq, Value.tuple.injEq, Array.mk.injEq, List.cons.injEq, true_and, and_true, exists_eq_left', exists_eq', exists_eq, exists_and_left, exists_and_right, and_assoc, bcase_t, bcase_f, cond_true, cond_false, StC_upd, nilO_some, List.setIfInBounds_toArray, List.set_cons_zero, List.set_cons_succ, List.size_toArray, List.length_cons, List.length_nil, Nat.reduceAdd, Nat.reduceLT, cell_of q1]
  refine CallsA.mono (put_spec w0 _ b5 _ _ _ _ i (h2.le l3) (by decide)) ?_
  rintro r m4 ⟨rfl, fp4, h4, f4, k4⟩
  obtain ⟨o4, e4⟩ := o3.step f4 k4 e3
  obtain ⟨p1, d1⟩ := Fr.step q1 f4 k4 d1
  obtain ⟨p3, d3⟩ := Fr.step q3 f4 k4 d3
  simp only [Ins.cells, cell_upd_same, cell_upd_ne, ne_eq, not_false_eq_true, List.getElem?_toArray, List.getElem?_cons_zero, List.getElem?_cons_succ, Option.some.injEq, Value.int.injEq, Value.slice.injEq, Value.bool.injEq, Value.pointer.injEq, Value.tuple.injEq, Array.mk.injEq, List.cons.injEq, true_and, and_true, exists_eq_left', exists_eq', exists_eq, exists_and_left, exists_and_right, and_assoc, bcase_t, bcase_f, cond_true, cond_false, StC_upd, nilO_some, List.setIfInBounds_toArray, List.set_cons_zero, List.set_cons_succ, List.size_toArray, List.length_cons, List.length_nil, Nat.reduceAdd, Nat.reduceLT, cell_of p3]
  refine CallsA.mono (mark_spec w0 _ b5 _ _ _ _ j 1 0 h4 (by simp) (by decide)) ?_
  rintro r m5 ⟨rfl, fp5, h5, f5, k5⟩
  obtain ⟨o5, e5⟩ := o4.step f5 k5 e4
  obtain ⟨p1, d1⟩ := Fr.step p1 f5 k5 d1
  obtain ⟨p3, d3⟩ := Fr.step p3 f5 k5 d3
  simp only [cell_upd_same, cell_upd_ne, ne_eq, not_false_eq_true, List.getElem?_toArray, List.getElem?_cons_zero, List.getElem?_cons_succ, Option.some.injEq, Value.int.injEq, Value.slice.injEq, Value.bool.injEq, Value.pointer.injEq, Value.tuple.injEq, Array.mk.injEq, List.cons.injEq, true_and, and_true, exists_eq_left', exists_eq', exists_eq, exists_and_left, exists_and_right, and_assoc, bcase_t, bcase_f, cond_true, cond_false, StC_upd, nilO_some, List.setIfInBounds_toArray, List.set_cons_zero, List.set_cons_succ, List.size_toArray, List.length_cons, List.length_nil, Nat.reduceAdd, Nat.reduceLT]
  refine CallsA.mono (land_spec w0 _ b5 _ _ _ _ 0 h5) ?_
  rintro r m6 ⟨rfl, fp6, h6, f6, k6⟩
  obtain ⟨o6, e6⟩ := o5.step f6 k6 e5
  obtain ⟨p1, d1⟩ := Fr.step p1 f6 k6 d1
  obtain ⟨p3, d3⟩ := Fr.step p3 f6 k6 d3
  have a1 : aimC ([] ++ [(⟨15, 0, 0, 0, 77⟩ : Ins)] ++ [i] ++ [j]) 0 (([] ++ [(⟨15, 0, 0, 0, 77⟩ : Ins)] ++ [i] ++ [j]).length : Nat) = some ⟨15, 0, 0, 0, 2⟩ := by rfl
  have a2 : setC ([] ++ [(⟨15, 0, 0, 0, 77⟩ : Ins)] ++ [i] ++ [j]) 0 (some ⟨15, 0, 0, 0, 2⟩) = [⟨15, 0, 0, 0, 2⟩, i, j] := by rfl
  have a3 : jumpC [] [] ⟨15, 0, 0, 0, 77⟩ ++ [⟨(([] ++ [(⟨15, 0, 0, 0, 77⟩ : Ins)] ++ [i]).length : Nat), 1, 0⟩] = [⟨2, 1, 0⟩] := by rfl
  rw [a1, a2, a3] at h6
  rw [a1]
  simp only [cell_upd_same, cell_upd_ne, ne_eq, not_false_eq_true, List.getElem?_toArray, List.getElem?_cons_zero, List.getElem?_cons_succ, Option.some.injEq, Value.int.injEq, Value.slice.injEq, Value.bool.injEq, Value.pointer.injEq, Value.tuple.injEq, Array.mk.injEq, List.cons.injEq, true_and, and_true, exists_eq_left', exists_eq', exists_eq, exists_and_left, exists_and_right, and_assoc, bcase_t, bcase_f, cond_true, cond_false, StC_upd, nilO_some, List.setIfInBounds_toArray, List.set_cons_zero, List.set_cons_succ, List.size_toArray, List.length_cons, List.length_nil, Nat.reduceAdd, Nat.reduceLT]
  refine CallsA.mono (code_spec w0 _ b5 _ _ _ _ h6 (by simp)) ?_
  rintro r m7 ⟨l7, A7, c7, rfl, o7, n7⟩
  simp only [cell_upd_same, cell_upd_ne, ne_eq, not_false_eq_true, List.getElem?_toArray, List.getElem?_cons_zero, List.getElem?_cons_succ, Option.some.injEq, Value.int.injEq, Value.slice.injEq, Value.bool.injEq, Value.pointer.injEq, Value.tuple.injEq, Array.mk.injEq, List.cons.injEq, true_and, and_true, exists_eq_left', exists_eq', exists_eq, exists_and_left, exists_and_right, and_assoc, bcase_t, bcase_f, cond_true, cond_false, StC_upd, nilO_some, List.setIfInBounds_toArray, List.set_cons_zero, List.set_cons_succ, List.size_toArray, List.length_cons, List.length_nil, Nat.reduceAdd, Nat.reduceLT]
  refine CallsA.mono (patches_spec w0 _ b5 _ _ _ _ (h6.le l7) (by simp)) ?_
  rintro r m8 ⟨l8, A8, c8, rfl, o8, n8⟩
  obtain ⟨x3, rfl, g3⟩ := ((o6.le l7).le l8).ex (by decide)
  obtain ⟨x7, rfl, g7⟩ := (o7.le l8).ex (by simp)
  obtain ⟨x8, rfl, g8⟩ := o8.ex (by simp)
  have i3 := g3.ins (k := 0) rfl
  have i7 := g7.ins (k := 0) rfl
  have i8 := g7.ins (k := 1) rfl
  have i9 := g7.ins (k := 2) rfl
  have i10 := Cells.at (f := Pat.cells) (sz := 3) (fun _ => rfl) g8 (k := 0) rfl (j := 0) (by decide)
  have q1 := l8 _ _ (l7 _ _ p1)
  have q3 := l8 _ _ (l7 _ _ p3)
  simp only [Nat.zero_mul, Nat.one_mul, Nat.reduceMul, Nat.zero_add] at i3 i7 i8 i9 i10
  simp only [Ins.cells, Pat.cells, cell_upd_same, cell_upd_ne, ne_eq, not_false_eq_true, List.getElem?_toArray, List.getElem?_cons_zero, List.getElem?_cons_succ, Option.some.injEq, Value.int.injEq, Value.slice.injEq, Value.bool.injEq, Value.pointer.injEq, Value.tuple.injEq, Array.mk.injEq, List.cons.injEq, true_and, and_true, exists_eq_left', exists_eq', exists_eq, exists_and_left, exists_and_right, and_assoc, bcase_t, bcase_f, cond_true, cond_false, StC_upd, nilO_some, List.setIfInBounds_toArray, List.set_cons_zero, List.set_cons_succ, List.size_toArray, List.length_cons, List.length_nil, Nat.reduceAdd, Nat.reduceLT, Option.isSome_some, i3, i7, i8, i9, i10, cell_of q1, cell_of q3, beq_self_eq_true, eqp_ins']
  simp only [show ((([] ++ [(⟨15, 0, 0, 0, 77⟩ : Ins)]).length : Nat) : Int) = 1 from rfl, show ((3 : Nat) : Int) = 3 from rfl, show ((1 : Nat) : Int) = 1 from rfl, show ((2 : Nat) : Int) = 2 from rfl, cell_upd_same, cell_upd_ne, ne_eq, not_false_eq_true, List.getElem?_toArray, List.getElem?_cons_zero, List.getElem?_cons_succ, Option.some.injEq, Value.int.injEq, Value.slice.injEq, Value.bool.injEq, Value.pointer.injEq, Value.tuple.injEq, Array.mk.injEq, List.cons.injEq, true_and, and_true, exists_eq_left', exists_eq', exists_eq, exists_and_left, exists_and_right, and_assoc, bcase_t, bcase_f, cond_true, cond_false, StC_upd, nilO_some, List.setIfInBounds_toArray, List.set_cons_zero, List.set_cons_succ, List.size_toArray, List.length_cons, List.length_nil, Nat.reduceAdd, Nat.reduceLT, beq_self_eq_true, decide_true, exists_eq_left]
  refine ⟨by decide, by decide, by decide, by decide, by decide, by decide, by decide, by decide, by decide, by decide, ?_⟩
  refine CallsA.mono (awake_spec w0 _) ?_
  rintro r m9 rfl
  simp only [cell_upd_same, cell_upd_ne, ne_eq, not_false_eq_true, List.getElem?_toArray, List.getElem?_cons_zero, List.getElem?_cons_succ, Option.some.injEq, Value.int.injEq, Value.slice.injEq, Value.bool.injEq, Value.pointer.injEq, Value.tuple.injEq, Array.mk.injEq, List.cons.injEq, true_and, and_true, exists_eq_left', exists_eq', exists_eq, exists_and_left, exists_and_right, and_assoc, bcase_t, bcase_f, cond_true, cond_false, StC_upd, nilO_some, List.setIfInBounds_toArray, List.set_cons_zero, List.set_cons_succ, List.size_toArray, List.length_cons, List.length_nil, Nat.reduceAdd, Nat.reduceLT]
  exact retP_of rfl
theorem law_EmitOwn (W : World) (i : Ins) (wi : i.wf) (j : Ins) (wj : j.wf) : CallsA Try.prog W 3 #[i.val, j.val] (mOf W) (fun r _ => r = .bool true) := emitOwn_text W _ i j
end Go.Proofs.Ytijilloaggeepaa.S
