/- Ytijilloaggeepaa: a text of our own, by an AI agent: E3 -/
import Derived.Test.YtijilloaggeepaaE1
set_option linter.unusedSimpArgs false
set_option linter.unusedVariables false
namespace Go.Proofs.Ytijilloaggeepaa.S
open Go Go.RowKit Go.Alog Go.Proofs.Ytijilloaggeepaa.T Go.Proofs.Ytijilloaggeepaa.V

theorem Buf.low {m : AM} {B g : Nat} {code : List Ins} {pats : List Pat} {taken : Int} {fp : List Nat} (h : Buf m B g code pats taken fp) : ∀ k ∈ fp, B ≤ k := fun k hk => (h.lt k hk).1

theorem law_EmitRegs (W : World) (A : Option Addr) (len cap : Nat) (l : List Bool) (hl : l.length = len) (hlc : len ≤ cap) (rd : Reads (mOf W) 1 A len (boolCells l)) (y : len * 1 ≤ 140737488351232) : CallsA Try.prog W 4 #[.slice A len cap] (mOf W) (fun r _ => r = .bool true) := by
  refine cf4 W _ A len cap _ ?_
  intro b1 hb1 hm1 m2
  have hlow : (mOf W).le m2 := AM.le_upd (AM.le_refl _) hm1
  have hbuf : Buf m2 W.heap.size b1 [] [] 0 [b1] := buf_new _ hb1
  generalize m2 = m2 at hlow hbuf
  refine vl4_111010 W m2 _ _ A len cap b1 0 0 (fun k x4 x5 m => (∃ fp, Buf m W.heap.size b1 [] [] x4 fp) ∧ (mOf W).le m ∧ 0 ≤ x4 ∧ x4 ≤ 8 ∧ 0 ≤ x5 ∧ x5 ≤ len ∧ (k : Int) = len - x5) (fun m => ∃ x4 fp, Buf m W.heap.size b1 [] [] x4 fp) len rfl rfl rfl rfl ⟨⟨_, hbuf⟩, hlow, by omega, by omega, by omega, by omega, by omega⟩ ?_ ?_
  · rintro n σ x4 x5 m ⟨⟨fp, hb⟩, hlow, h4, h8, h5, h5l, hk⟩
    have hE : ∃ x4 fp, Buf m W.heap.size b1 [] [] x4 fp := ⟨_, _, hb⟩
    by_cases c1 : x5 < len
    · simp only [c1, decide_true, cell_upd_same, cell_upd_ne, ne_eq, not_false_eq_true, List.getElem?_toArray, List.getElem?_cons_zero, List.getElem?_cons_succ, Option.some.injEq, Value.int.injEq, Value.slice.injEq, Value.bool.injEq, Value.pointer.injEq, Value.tuple.injEq, Array.mk.injEq, List.cons.injEq, true_and, and_true, exists_eq_left', exists_eq', exists_eq, exists_and_left, exists_and_right, and_assoc, bcase_t, bcase_f, cond_true, cond_false, StC_upd, nilO_some, List.setIfInBounds_toArray, List.set_cons_zero, List.set_cons_succ, List.size_toArray, List.length_cons, List.length_nil, Nat.reduceAdd, Nat.reduceLT]
      by_cases c2 : x5 < 60
      · simp only [c2, decide_true, cell_upd_same, cell_upd_ne, ne_eq, not_false_eq_true, List.getElem?_toArray, List.getElem?_cons_zero, List.getElem?_cons_succ, Option.some.injEq, Value.int.injEq, Value.slice.injEq, Value.bool.injEq, Value.pointer.injEq, Value.tuple.injEq, Array.mk.injEq, List.cons.injEq, true_and, and_true, exists_eq_left', exists_eq', exists_eq, exists_and_left, exists_and_right, and_assoc, bcase_t, bcase_f, cond_true, cond_false, StC_upd, nilO_some, List.setIfInBounds_toArray, List.set_cons_zero, List.set_cons_succ, List.size_toArray, List.length_cons, List.length_nil, Nat.reduceAdd, Nat.reduceLT]
        obtain ⟨ad, rfl, hc⟩ := rd.ex (by omega)
        have hcell : m.cell (ad.add (x5.toNat * 1)) = some (.bool l[x5.toNat]) := by
          refine AM.le_cell hlow (hc _ _ ?_)
          rw [boolCells, List.getElem?_map, Nat.mul_one, List.getElem?_eq_getElem (by omega)]; rfl
        simp only [cell_upd_same, cell_upd_ne, ne_eq, not_false_eq_true, List.getElem?_toArray, List.getElem?_cons_zero, List.getElem?_cons_succ, Option.some.injEq, Value.int.injEq, Value.slice.injEq, Value.bool.injEq, Value.pointer.injEq, Value.tuple.injEq, Array.mk.injEq, List.cons.injEq, true_and, and_true, exists_eq_left', exists_eq', exists_eq, exists_and_left, exists_and_right, and_assoc, bcase_t, bcase_f, cond_true, cond_false, StC_upd, nilO_some, List.setIfInBounds_toArray, List.set_cons_zero, List.set_cons_succ, List.size_toArray, List.length_cons, List.length_nil, Nat.reduceAdd, Nat.reduceLT, hcell]
        refine ⟨by omega, ?_⟩
        have w5 : IntKind.wrap .i64 (x5 + 1) = x5 + 1 := by rw [IntKind.wrap_i64]; omega
        cases l[x5.toNat]
        · simp only [Bool.not_false, cell_upd_same, cell_upd_ne, ne_eq, not_false_eq_true, List.getElem?_toArray, List.getElem?_cons_zero, List.getElem?_cons_succ, Option.some.injEq, Value.int.injEq, Value.slice.injEq, Value.bool.injEq, Value.pointer.injEq, Value.tuple.injEq, Array.mk.injEq, List.cons.injEq, true_and, and_true, exists_eq_left', exists_eq', exists_eq, exists_and_left, exists_and_right, and_assoc, bcase_t, bcase_f, cond_true, cond_false, StC_upd, nilO_some, List.setIfInBounds_toArray, List.set_cons_zero, List.set_cons_succ, List.size_toArray, List.length_cons, List.length_nil, Nat.reduceAdd, Nat.reduceLT]
          refine CallsA.mono (give_spec W _ b1 _ _ _ _ hb h4 h8) ?_
          rintro r m3 ⟨rfl, fp3, hb3, f3, k3⟩
          have hg : (!(decide (x4 ≠ 0) == decide (x4 > 0))) = false := by
            by_cases e : x4 = 0
            · simp [e]
            · have : x4 > 0 := by omega
              simp [e, this]
          simp only [cell_upd_same, cell_upd_ne, ne_eq, not_false_eq_true, List.getElem?_toArray, List.getElem?_cons_zero, List.getElem?_cons_succ, Option.some.injEq, Value.int.injEq, Value.slice.injEq, Value.bool.injEq, Value.pointer.injEq, Value.tuple.injEq, Array.mk.injEq, List.cons.injEq, true_and, and_true, exists_eq_left', exists_eq', exists_eq, exists_and_left, exists_and_right, and_assoc, bcase_t, bcase_f, cond_true, cond_false, StC_upd, nilO_some, List.setIfInBounds_toArray, List.set_cons_zero, List.set_cons_succ, List.size_toArray, List.length_cons, List.length_nil, Nat.reduceAdd, Nat.reduceLT, hg]
          have w4 : IntKind.wrap .i64 (x4 - 1) = x4 - 1 := by rw [IntKind.wrap_i64]; omega
          refine ⟨n - 1, by omega, ?_, low_fr hlow f3 hb.low, ?_⟩
          · refine ⟨fp3, ?_⟩
            rw [w4]
            by_cases e : x4 = 0
            · subst e; simpa using hb3
            · rw [if_neg e] at hb3; rw [if_neg (by omega)]; exact hb3
          · rw [w4, w5]; split <;> omega
        · simp only [Bool.not_true, cell_upd_same, cell_upd_ne, ne_eq, not_false_eq_true, List.getElem?_toArray, List.getElem?_cons_zero, List.getElem?_cons_succ, Option.some.injEq, Value.int.injEq, Value.slice.injEq, Value.bool.injEq, Value.pointer.injEq, Value.tuple.injEq, Array.mk.injEq, List.cons.injEq, true_and, and_true, exists_eq_left', exists_eq', exists_eq, exists_and_left, exists_and_right, and_assoc, bcase_t, bcase_f, cond_true, cond_false, StC_upd, nilO_some, List.setIfInBounds_toArray, List.set_cons_zero, List.set_cons_succ, List.size_toArray, List.length_cons, List.length_nil, Nat.reduceAdd, Nat.reduceLT]
          refine CallsA.mono (take_spec W _ b1 _ _ _ _ hb h4 h8) ?_
          rintro r m3 ⟨rfl, fp3, hb3, f3, k3⟩
          have w4 : IntKind.wrap .i64 (x4 + 1) = x4 + 1 := by rw [IntKind.wrap_i64]; omega
          have w8 : IntKind.wrap .i64 (8 + x4) = 8 + x4 := by rw [IntKind.wrap_i64]; omega
          by_cases e : x4 = 8
          · subst e
            simp [cell_upd_same, cell_upd_ne, ne_eq, not_false_eq_true, List.getElem?_toArray, List.getElem?_cons_zero, List.getElem?_cons_succ, Option.some.injEq, Value.int.injEq, Value.slice.injEq, Value.bool.injEq, Value.pointer.injEq, Value.tuple.injEq, Array.mk.injEq, List.cons.injEq, true_and, and_true, exists_eq_left', exists_eq', exists_eq, exists_and_left, exists_and_right, and_assoc, bcase_t, bcase_f, cond_true, cond_false, StC_upd, nilO_some, List.setIfInBounds_toArray, List.set_cons_zero, List.set_cons_succ, List.size_toArray, List.length_cons, List.length_nil, Nat.reduceAdd, Nat.reduceLT] at hb3 ⊢
            have w9 : IntKind.wrap .i64 9 = 9 := by decide
            rw [w9, w5]
            exact ⟨n - 1, by omega, ⟨fp3, by simpa using hb3⟩, low_fr hlow f3 hb.low, by omega, by omega, by omega, by omega, by omega⟩
          · have hlt : x4 < 8 := by omega
            simp [cell_upd_same, cell_upd_ne, ne_eq, not_false_eq_true, List.getElem?_toArray, List.getElem?_cons_zero, List.getElem?_cons_succ, Option.some.injEq, Value.int.injEq, Value.slice.injEq, Value.bool.injEq, Value.pointer.injEq, Value.tuple.injEq, Array.mk.injEq, List.cons.injEq, true_and, and_true, exists_eq_left', exists_eq', exists_eq, exists_and_left, exists_and_right, and_assoc, bcase_t, bcase_f, cond_true, cond_false, StC_upd, nilO_some, List.setIfInBounds_toArray, List.set_cons_zero, List.set_cons_succ, List.size_toArray, List.length_cons, List.length_nil, Nat.reduceAdd, Nat.reduceLT, e, hlt, w8]
            simp only [if_neg e] at hb3
            rw [w4, w5]
            exact ⟨n - 1, by omega, ⟨fp3, by rw [if_neg (by omega)]; exact hb3⟩, low_fr hlow f3 hb.low, by split <;> omega, by split <;> omega, by omega, by omega, by omega⟩
      · simp only [c2, decide_false, cell_upd_same, cell_upd_ne, ne_eq, not_false_eq_true, List.getElem?_toArray, List.getElem?_cons_zero, List.getElem?_cons_succ, Option.some.injEq, Value.int.injEq, Value.slice.injEq, Value.bool.injEq, Value.pointer.injEq, Value.tuple.injEq, Array.mk.injEq, List.cons.injEq, true_and, and_true, exists_eq_left', exists_eq', exists_eq, exists_and_left, exists_and_right, and_assoc, bcase_t, bcase_f, cond_true, cond_false, StC_upd, nilO_some, List.setIfInBounds_toArray, List.set_cons_zero, List.set_cons_succ, List.size_toArray, List.length_cons, List.length_nil, Nat.reduceAdd, Nat.reduceLT]
        exact hE
    · simp only [c1, decide_false, cell_upd_same, cell_upd_ne, ne_eq, not_false_eq_true, List.getElem?_toArray, List.getElem?_cons_zero, List.getElem?_cons_succ, Option.some.injEq, Value.int.injEq, Value.slice.injEq, Value.bool.injEq, Value.pointer.injEq, Value.tuple.injEq, Array.mk.injEq, List.cons.injEq, true_and, and_true, exists_eq_left', exists_eq', exists_eq, exists_and_left, exists_and_right, and_assoc, bcase_t, bcase_f, cond_true, cond_false, StC_upd, nilO_some, List.setIfInBounds_toArray, List.set_cons_zero, List.set_cons_succ, List.size_toArray, List.length_cons, List.length_nil, Nat.reduceAdd, Nat.reduceLT]
      exact hE
  · rintro σ m ⟨x4, fp, hb⟩
    refine CallsA.mono (here_spec W _ b1 _ _ _ _ hb) ?_
    rintro r m3 ⟨rfl, l3⟩
    simp only [cell_upd_same, cell_upd_ne, ne_eq, not_false_eq_true, List.getElem?_toArray, List.getElem?_cons_zero, List.getElem?_cons_succ, Option.some.injEq, Value.int.injEq, Value.slice.injEq, Value.bool.injEq, Value.pointer.injEq, Value.tuple.injEq, Array.mk.injEq, List.cons.injEq, true_and, and_true, exists_eq_left', exists_eq', exists_eq, exists_and_left, exists_and_right, and_assoc, bcase_t, bcase_f, cond_true, cond_false, StC_upd, nilO_some, List.setIfInBounds_toArray, List.set_cons_zero, List.set_cons_succ, List.size_toArray, List.length_cons, List.length_nil, Nat.reduceAdd, Nat.reduceLT, List.length_nil, show (((0 : Nat) : Int) == 0) = true from rfl]
    refine CallsA.mono (awake_spec W _) ?_
    rintro r m9 rfl
    simp only [cell_upd_same, cell_upd_ne, ne_eq, not_false_eq_true, List.getElem?_toArray, List.getElem?_cons_zero, List.getElem?_cons_succ, Option.some.injEq, Value.int.injEq, Value.slice.injEq, Value.bool.injEq, Value.pointer.injEq, Value.tuple.injEq, Array.mk.injEq, List.cons.injEq, true_and, and_true, exists_eq_left', exists_eq', exists_eq, exists_and_left, exists_and_right, and_assoc, bcase_t, bcase_f, cond_true, cond_false, StC_upd, nilO_some, List.setIfInBounds_toArray, List.set_cons_zero, List.set_cons_succ, List.size_toArray, List.length_cons, List.length_nil, Nat.reduceAdd, Nat.reduceLT]
    exact retP_of rfl
end Go.Proofs.Ytijilloaggeepaa.S
