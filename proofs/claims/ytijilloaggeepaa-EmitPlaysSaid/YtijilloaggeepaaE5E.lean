/- Ytijilloaggeepaa: a text of our own, by an AI agent: E5E -/
import Derived.Test.YtijilloaggeepaaE1E
set_option linter.unusedSimpArgs false
set_option linter.unusedVariables false
namespace Go.Proofs.Ytijilloaggeepaa.S
open Go Go.RowKit Go.Alog Go.Proofs.Ytijilloaggeepaa.T Go.Proofs.Ytijilloaggeepaa.V

structure St where
  code : List Ins
  pats : List Pat
  taken : Int
/-- What an act makes of a buffer, and what it tells. -/
def actS (s : St) (a : ActV) : St × Int × Bool :=
  let len : Int := s.code.length
  if a.kind = 0 then (⟨s.code ++ [a.i], s.pats, s.taken⟩, len, true)
  else if a.kind = 1 then (⟨s.code ++ [a.i], s.pats ++ [⟨len, a.n, a.m⟩], s.taken⟩, len, true)
  else if a.kind = 2 then (⟨s.code ++ [a.i], jumpC s.code s.pats a.i, s.taken⟩, len, true)
  else if a.kind = 3 then (⟨setC s.code a.n (aimC s.code a.n len), s.pats, s.taken⟩, 0, (aimC s.code a.n len).isSome)
  else if a.kind = 4 then (⟨setC (s.code ++ [a.i]) len (aimC (s.code ++ [a.i]) len a.n), jumpC s.code s.pats a.i, s.taken⟩, len, true)
  else if a.kind = 5 then (⟨s.code ++ constI a.n a.m, s.pats, s.taken⟩, 0, true)
  else if a.kind = 6 then (⟨s.code, s.pats, if s.taken = 8 then s.taken else s.taken + 1⟩, if s.taken = 8 then 0 else 8 + s.taken, decide (s.taken ≠ 8))
  else (⟨s.code, s.pats, if s.taken = 0 then s.taken else s.taken - 1⟩, 0, decide (s.taken ≠ 0))

theorem act_spec (w0 : World) (m : AM) (g : Nat) (s : St) (fp : List Nat) (a : ActV) (ha : a.wf) (hb : Buf m w0.heap.size g s.code s.pats s.taken fp) (hlen : s.code.length ≤ 999999) (hlen2 : s.pats.length ≤ 999999) (ht : 0 ≤ s.taken ∧ s.taken ≤ 8) :
    CallsA Try.prog w0 23 #[.pointer (some ⟨g, 0, none⟩), a.val] m (fun r m' => r = .tuple #[.int .i64 (actS s a).2.1, .bool (actS s a).2.2] ∧ BufPost w0 m g fp (actS s a).1.code (actS s a).1.pats (actS s a).1.taken m') := by
  refine cf23 w0 m g _ _ _ _ _ _ _ _ _ ?_
  intro b1 hb1 hm1
  have hle := AM.le_upd (AM.le_refl m) hm1 (o := .cells a.cells.toArray 50)
  have hb' := hb.le hle
  have e0 : ∀ k : Int, (a.kind == k) = decide (a.kind = k) := fun k => rfl
  simp only [cell_upd_same, cell_upd_ne, ne_eq, not_false_eq_true, List.getElem?_toArray, List.getElem?_cons_zero, List.getElem?_cons_succ, Option.some.injEq, Value.int.injEq, Value.slice.injEq, Value.bool.injEq, Value.pointer.injEq, Value.tuple.injEq, Array.mk.injEq, List.cons.injEq, true_and, and_true, exists_eq_left', exists_eq', exists_eq, exists_and_left, exists_and_right, and_assoc, bcase_t, bcase_f, cond_true, cond_false, StC_upd, nilO_some, List.setIfInBounds_toArray, List.set_cons_zero, List.set_cons_succ, List.size_toArray, List.length_cons, List.length_nil, Nat.reduceAdd, Nat.reduceLT, e0]
  unfold actS
  by_cases k0 : a.kind = 0
  · simp only [decide_eq_true k0, if_pos k0, cell_upd_same, cell_upd_ne, ne_eq, not_false_eq_true, List.getElem?_toArray, List.getElem?_cons_zero, List.getElem?_cons_succ, Option.some.injEq, Value.int.injEq, Value.slice.injEq, Value.bool.injEq, Value.pointer.injEq, Value.tuple.injEq, Array.mk.injEq, List.cons.injEq, true_and, and_true, exists_eq_left', exists_eq', exists_eq, exists_and_left, exists_and_right, and_assoc, bcase_t, bcase_f, cond_true, cond_false, StC_upd, nilO_some, List.setIfInBounds_toArray, List.set_cons_zero, List.set_cons_succ, List.size_toArray, List.length_cons, List.length_nil, Nat.reduceAdd, Nat.reduceLT]
    refine CallsA.mono (put_spec w0 _ g _ _ _ fp a.i hb' (by omega)) ?_
    rintro r m' ⟨rfl, hp⟩
    exact ⟨_, rfl, retP_of ⟨rfl, hp.pre hle⟩⟩
  by_cases k1 : a.kind = 1
  · simp only [decide_eq_false k0, if_neg k0, decide_eq_true k1, if_pos k1, cell_upd_same, cell_upd_ne, ne_eq, not_false_eq_true, List.getElem?_toArray, List.getElem?_cons_zero, List.getElem?_cons_succ, Option.some.injEq, Value.int.injEq, Value.slice.injEq, Value.bool.injEq, Value.pointer.injEq, Value.tuple.injEq, Array.mk.injEq, List.cons.injEq, true_and, and_true, exists_eq_left', exists_eq', exists_eq, exists_and_left, exists_and_right, and_assoc, bcase_t, bcase_f, cond_true, cond_false, StC_upd, nilO_some, List.setIfInBounds_toArray, List.set_cons_zero, List.set_cons_succ, List.size_toArray, List.length_cons, List.length_nil, Nat.reduceAdd, Nat.reduceLT]
    refine CallsA.mono (mark_spec w0 _ g _ _ _ fp a.i _ _ hb' (by omega) (by omega)) ?_
    rintro r m' ⟨rfl, hp⟩
    exact ⟨_, rfl, retP_of ⟨rfl, hp.pre hle⟩⟩
  by_cases k2 : a.kind = 2
  · simp only [decide_eq_false k0, if_neg k0, decide_eq_false k1, if_neg k1, decide_eq_true k2, if_pos k2, cell_upd_same, cell_upd_ne, ne_eq, not_false_eq_true, List.getElem?_toArray, List.getElem?_cons_zero, List.getElem?_cons_succ, Option.some.injEq, Value.int.injEq, Value.slice.injEq, Value.bool.injEq, Value.pointer.injEq, Value.tuple.injEq, Array.mk.injEq, List.cons.injEq, true_and, and_true, exists_eq_left', exists_eq', exists_eq, exists_and_left, exists_and_right, and_assoc, bcase_t, bcase_f, cond_true, cond_false, StC_upd, nilO_some, List.setIfInBounds_toArray, List.set_cons_zero, List.set_cons_succ, List.size_toArray, List.length_cons, List.length_nil, Nat.reduceAdd, Nat.reduceLT]
    refine CallsA.mono (jump_spec w0 _ g _ _ _ fp a.i hb' (by omega) (by omega)) ?_
    rintro r m' ⟨rfl, hp⟩
    exact ⟨_, rfl, retP_of ⟨rfl, hp.pre hle⟩⟩
  by_cases k3 : a.kind = 3
  · simp only [decide_eq_false k0, if_neg k0, decide_eq_false k1, if_neg k1, decide_eq_false k2, if_neg k2, decide_eq_true k3, if_pos k3, cell_upd_same, cell_upd_ne, ne_eq, not_false_eq_true, List.getElem?_toArray, List.getElem?_cons_zero, List.getElem?_cons_succ, Option.some.injEq, Value.int.injEq, Value.slice.injEq, Value.bool.injEq, Value.pointer.injEq, Value.tuple.injEq, Array.mk.injEq, List.cons.injEq, true_and, and_true, exists_eq_left', exists_eq', exists_eq, exists_and_left, exists_and_right, and_assoc, bcase_t, bcase_f, cond_true, cond_false, StC_upd, nilO_some, List.setIfInBounds_toArray, List.set_cons_zero, List.set_cons_succ, List.size_toArray, List.length_cons, List.length_nil, Nat.reduceAdd, Nat.reduceLT]
    refine CallsA.mono (land_spec w0 _ g _ _ _ fp a.n hb') ?_
    rintro r m' ⟨rfl, hp⟩
    exact ⟨_, rfl, retP_of ⟨rfl, hp.pre hle⟩⟩
  by_cases k4 : a.kind = 4
  · simp only [decide_eq_false k0, if_neg k0, decide_eq_false k1, if_neg k1, decide_eq_false k2, if_neg k2, decide_eq_false k3, if_neg k3, decide_eq_true k4, if_pos k4, cell_upd_same, cell_upd_ne, ne_eq, not_false_eq_true, List.getElem?_toArray, List.getElem?_cons_zero, List.getElem?_cons_succ, Option.some.injEq, Value.int.injEq, Value.slice.injEq, Value.bool.injEq, Value.pointer.injEq, Value.tuple.injEq, Array.mk.injEq, List.cons.injEq, true_and, and_true, exists_eq_left', exists_eq', exists_eq, exists_and_left, exists_and_right, and_assoc, bcase_t, bcase_f, cond_true, cond_false, StC_upd, nilO_some, List.setIfInBounds_toArray, List.set_cons_zero, List.set_cons_succ, List.size_toArray, List.length_cons, List.length_nil, Nat.reduceAdd, Nat.reduceLT]
    refine CallsA.mono (back_spec w0 _ g _ _ _ fp a.i a.n hb' (by omega) (by omega)) ?_
    rintro r m' ⟨rfl, hp⟩
    exact ⟨_, rfl, retP_of ⟨rfl, hp.pre hle⟩⟩
  by_cases k5 : a.kind = 5
  · simp only [decide_eq_false k0, if_neg k0, decide_eq_false k1, if_neg k1, decide_eq_false k2, if_neg k2, decide_eq_false k3, if_neg k3, decide_eq_false k4, if_neg k4, decide_eq_true k5, if_pos k5, cell_upd_same, cell_upd_ne, ne_eq, not_false_eq_true, List.getElem?_toArray, List.getElem?_cons_zero, List.getElem?_cons_succ, Option.some.injEq, Value.int.injEq, Value.slice.injEq, Value.bool.injEq, Value.pointer.injEq, Value.tuple.injEq, Array.mk.injEq, List.cons.injEq, true_and, and_true, exists_eq_left', exists_eq', exists_eq, exists_and_left, exists_and_right, and_assoc, bcase_t, bcase_f, cond_true, cond_false, StC_upd, nilO_some, List.setIfInBounds_toArray, List.set_cons_zero, List.set_cons_succ, List.size_toArray, List.length_cons, List.length_nil, Nat.reduceAdd, Nat.reduceLT]
    refine CallsA.mono (const_spec w0 _ g _ _ _ fp a.n a.m ha.2.2.1 hb' (by omega)) ?_
    rintro r m' ⟨rfl, hp⟩
    exact ⟨rfl, retP_of ⟨rfl, hp.pre hle⟩⟩
  by_cases k6 : a.kind = 6
  · simp only [decide_eq_false k0, if_neg k0, decide_eq_false k1, if_neg k1, decide_eq_false k2, if_neg k2, decide_eq_false k3, if_neg k3, decide_eq_false k4, if_neg k4, decide_eq_false k5, if_neg k5, decide_eq_true k6, if_pos k6, cell_upd_same, cell_upd_ne, ne_eq, not_false_eq_true, List.getElem?_toArray, List.getElem?_cons_zero, List.getElem?_cons_succ, Option.some.injEq, Value.int.injEq, Value.slice.injEq, Value.bool.injEq, Value.pointer.injEq, Value.tuple.injEq, Array.mk.injEq, List.cons.injEq, true_and, and_true, exists_eq_left', exists_eq', exists_eq, exists_and_left, exists_and_right, and_assoc, bcase_t, bcase_f, cond_true, cond_false, StC_upd, nilO_some, List.setIfInBounds_toArray, List.set_cons_zero, List.set_cons_succ, List.size_toArray, List.length_cons, List.length_nil, Nat.reduceAdd, Nat.reduceLT]
    refine CallsA.mono (take_spec w0 _ g _ _ _ fp hb' ht.1 ht.2) ?_
    rintro r m' ⟨rfl, hp⟩
    exact ⟨_, _, rfl, retP_of ⟨rfl, hp.pre hle⟩⟩
  simp only [decide_eq_false k0, if_neg k0, decide_eq_false k1, if_neg k1, decide_eq_false k2, if_neg k2, decide_eq_false k3, if_neg k3, decide_eq_false k4, if_neg k4, decide_eq_false k5, if_neg k5, decide_eq_false k6, if_neg k6, cell_upd_same, cell_upd_ne, ne_eq, not_false_eq_true, List.getElem?_toArray, List.getElem?_cons_zero, List.getElem?_cons_succ, Option.some.injEq, Value.int.injEq, Value.slice.injEq, Value.bool.injEq, Value.pointer.injEq, Value.tuple.injEq, Array.mk.injEq, List.cons.injEq, true_and, and_true, exists_eq_left', exists_eq', exists_eq, exists_and_left, exists_and_right, and_assoc, bcase_t, bcase_f, cond_true, cond_false, StC_upd, nilO_some, List.setIfInBounds_toArray, List.set_cons_zero, List.set_cons_succ, List.size_toArray, List.length_cons, List.length_nil, Nat.reduceAdd, Nat.reduceLT]
  refine CallsA.mono (give_spec w0 _ g _ _ _ fp hb' ht.1 ht.2) ?_
  rintro r m' ⟨rfl, hp⟩
  exact ⟨_, rfl, retP_of ⟨rfl, hp.pre hle⟩⟩
end Go.Proofs.Ytijilloaggeepaa.S
