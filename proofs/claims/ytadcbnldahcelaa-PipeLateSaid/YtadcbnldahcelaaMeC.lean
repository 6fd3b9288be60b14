/- Ytadcbnldahcelaa: a text of our own, by an AI agent: MeC -/
import Derived.Test.YtadcbnldahcelaaMdC
set_option linter.unusedSimpArgs false
set_option linter.unusedVariables false
set_option maxRecDepth 100000
namespace Go.Proofs.Ytadcbnldahcelaa.S
open Go Go.RowKit Go.Alog Go.Proofs.Ytadcbnldahcelaa.T Go.Proofs.Ytadcbnldahcelaa.V

theorem SPost.put_at {w0 : World} {m : AM} {g gm : Nat} {code : List Ins} {s : MS} {fp : List Nat} (h : SeqM m w0.heap.size g gm code s fp) (v : Int) {K : AM → Prop} (hK : ∀ m', SPost w0 m g gm fp code { s with at_ := v } m' → K m') :
    StC w0.heap.size m ⟨g, 34, none⟩ (.int .i64 v) K := by
  obtain ⟨Ac, cc, Ai, ci, Ao, co, Aw, cw, h⟩ := h
  refine StC_own h.hg h.hB (by rw [List.size_toArray, machL_len h.hr]; omega) ?_
  rw [List.setIfInBounds_toArray, machL_setat h.hr]
  have hp := h.put (s' := { s with at_ := v }) h.hr rfl rfl rfl
  exact hK _ ⟨fp, ⟨Ac, cc, Ai, ci, Ao, co, Aw, cw, hp⟩, Fr.upd (Fr.refl _ _) (.inl h.gfp) _, fun _ h => .inl h⟩

theorem step_spec (w0 : World) (m : AM) (g gm : Nat) (code : List Ins) (s : MS) (fp : List Nat) (h : SeqM m w0.heap.size g gm code s fp) :
    CallsA Try.prog w0 35 #[.pointer (some ⟨g, 0, none⟩)] m (fun r m' => r = .int .i64 (stepP code s).2 ∧ SPost w0 m g gm fp code (stepP code s).1 m') := by
  refine cf35 w0 m g _ ?_
  have hM := h
  obtain ⟨Ac, cc, Ai, ci, Ao, co, Aw, cw, hS⟩ := h
  obtain ⟨r0, r1, r34, r35, r36⟩ := hS.cells
  simp only [r0, r34, cell_upd_same, cell_upd_ne, ne_eq, not_false_eq_true, List.getElem?_toArray, List.getElem?_cons_zero, List.getElem?_cons_succ, Option.some.injEq, Value.int.injEq, Value.slice.injEq, Value.bool.injEq, Value.pointer.injEq, Value.tuple.injEq, Array.mk.injEq, List.cons.injEq, true_and, and_true, exists_eq_left', exists_eq', exists_eq, exists_and_left, exists_and_right, and_assoc, bcase_t, bcase_f, cond_true, cond_false, StC_upd, nilO_some, List.setIfInBounds_toArray, List.set_cons_zero, List.set_cons_succ, List.size_toArray, List.length_cons, List.length_nil, Nat.reduceAdd, Nat.reduceLT]
  have self : SPost w0 m g gm fp code s m := SPost.self hM (AM.le_refl _)
  unfold stepP
  by_cases h1 : s.at_ < 0
  · simp only [decide_eq_true h1, if_pos h1, cell_upd_same, cell_upd_ne, ne_eq, not_false_eq_true, List.getElem?_toArray, List.getElem?_cons_zero, List.getElem?_cons_succ, Option.some.injEq, Value.int.injEq, Value.slice.injEq, Value.bool.injEq, Value.pointer.injEq, Value.tuple.injEq, Array.mk.injEq, List.cons.injEq, true_and, and_true, exists_eq_left', exists_eq', exists_eq, exists_and_left, exists_and_right, and_assoc, bcase_t, bcase_f, cond_true, cond_false, StC_upd, nilO_some, List.setIfInBounds_toArray, List.set_cons_zero, List.set_cons_succ, List.size_toArray, List.length_cons, List.length_nil, Nat.reduceAdd, Nat.reduceLT]; exact retP_of ⟨rfl, self⟩
  simp only [decide_eq_false h1, if_neg h1, cell_upd_same, cell_upd_ne, ne_eq, not_false_eq_true, List.getElem?_toArray, List.getElem?_cons_zero, List.getElem?_cons_succ, Option.some.injEq, Value.int.injEq, Value.slice.injEq, Value.bool.injEq, Value.pointer.injEq, Value.tuple.injEq, Array.mk.injEq, List.cons.injEq, true_and, and_true, exists_eq_left', exists_eq', exists_eq, exists_and_left, exists_and_right, and_assoc, bcase_t, bcase_f, cond_true, cond_false, StC_upd, nilO_some, List.setIfInBounds_toArray, List.set_cons_zero, List.set_cons_succ, List.size_toArray, List.length_cons, List.length_nil, Nat.reduceAdd, Nat.reduceLT]
  by_cases h2 : s.at_ ≥ code.length
  · simp only [decide_eq_true h2, if_pos h2, cell_upd_same, cell_upd_ne, ne_eq, not_false_eq_true, List.getElem?_toArray, List.getElem?_cons_zero, List.getElem?_cons_succ, Option.some.injEq, Value.int.injEq, Value.slice.injEq, Value.bool.injEq, Value.pointer.injEq, Value.tuple.injEq, Array.mk.injEq, List.cons.injEq, true_and, and_true, exists_eq_left', exists_eq', exists_eq, exists_and_left, exists_and_right, and_assoc, bcase_t, bcase_f, cond_true, cond_false, StC_upd, nilO_some, List.setIfInBounds_toArray, List.set_cons_zero, List.set_cons_succ, List.size_toArray, List.length_cons, List.length_nil, Nat.reduceAdd, Nat.reduceLT]; exact retP_of ⟨rfl, self⟩
  simp only [decide_eq_false h2, if_neg h2, cell_upd_same, cell_upd_ne, ne_eq, not_false_eq_true, List.getElem?_toArray, List.getElem?_cons_zero, List.getElem?_cons_succ, Option.some.injEq, Value.int.injEq, Value.slice.injEq, Value.bool.injEq, Value.pointer.injEq, Value.tuple.injEq, Array.mk.injEq, List.cons.injEq, true_and, and_true, exists_eq_left', exists_eq', exists_eq, exists_and_left, exists_and_right, and_assoc, bcase_t, bcase_f, cond_true, cond_false, StC_upd, nilO_some, List.setIfInBounds_toArray, List.set_cons_zero, List.set_cons_succ, List.size_toArray, List.length_cons, List.length_nil, Nat.reduceAdd, Nat.reduceLT]
  have hlt : s.at_.toNat < code.length := by omega
  obtain ⟨ad, rfl, hc⟩ := hS.hc.ex (by omega)
  have hi := hc.ins (List.getElem?_eq_getElem hlt)
  have hd : code.getD s.at_.toNat default = code[s.at_.toNat] := by simp [List.getD, hlt]
  rw [hd]
  revert hi
  generalize code[s.at_.toNat] = i
  intro hi
  simp only [cell_upd_same, cell_upd_ne, ne_eq, not_false_eq_true, List.getElem?_toArray, List.getElem?_cons_zero, List.getElem?_cons_succ, Option.some.injEq, Value.int.injEq, Value.slice.injEq, Value.bool.injEq, Value.pointer.injEq, Value.tuple.injEq, Array.mk.injEq, List.cons.injEq, true_and, and_true, exists_eq_left', exists_eq', exists_eq, exists_and_left, exists_and_right, and_assoc, bcase_t, bcase_f, cond_true, cond_false, StC_upd, nilO_some, List.setIfInBounds_toArray, List.set_cons_zero, List.set_cons_succ, List.size_toArray, List.length_cons, List.length_nil, Nat.reduceAdd, Nat.reduceLT, hi]
  refine ⟨by omega, by omega, ?_⟩
  intro b hb hmb
  have lb := le_new hmb (.cells i.cells.toArray 34)
  simp only [cell_upd_same, cell_upd_ne, ne_eq, not_false_eq_true, List.getElem?_toArray, List.getElem?_cons_zero, List.getElem?_cons_succ, Option.some.injEq, Value.int.injEq, Value.slice.injEq, Value.bool.injEq, Value.pointer.injEq, Value.tuple.injEq, Array.mk.injEq, List.cons.injEq, true_and, and_true, exists_eq_left', exists_eq', exists_eq, exists_and_left, exists_and_right, and_assoc, bcase_t, bcase_f, cond_true, cond_false, StC_upd, nilO_some, List.setIfInBounds_toArray, List.set_cons_zero, List.set_cons_succ, List.size_toArray, List.length_cons, List.length_nil, Nat.reduceAdd, Nat.reduceLT, hb]
  have pb : (m.upd b (.cells i.cells.toArray 34)) b = some (.cells i.cells.toArray 34) := upd_get_same
  refine CallsA.mono (isaRight w0 _ i) ?_
  rintro r m2 ⟨rfl, l2⟩
  have L := AM.le_trans lb l2
  have p2 := l2 _ _ pb
  cases hr : rightR i
  · simp only [Bool.not_false, cell_upd_same, cell_upd_ne, ne_eq, not_false_eq_true, List.getElem?_toArray, List.getElem?_cons_zero, List.getElem?_cons_succ, Option.some.injEq, Value.int.injEq, Value.slice.injEq, Value.bool.injEq, Value.pointer.injEq, Value.tuple.injEq, Array.mk.injEq, List.cons.injEq, true_and, and_true, exists_eq_left', exists_eq', exists_eq, exists_and_left, exists_and_right, and_assoc, bcase_t, bcase_f, cond_true, cond_false, StC_upd, nilO_some, List.setIfInBounds_toArray, List.set_cons_zero, List.set_cons_succ, List.size_toArray, List.length_cons, List.length_nil, Nat.reduceAdd, Nat.reduceLT, if_true]
    exact retP_of ⟨rfl, (SPost.self (hM.le L) (AM.le_refl _)).pre L⟩
  simp only [Bool.not_true, cell_upd_same, cell_upd_ne, ne_eq, not_false_eq_true, List.getElem?_toArray, List.getElem?_cons_zero, List.getElem?_cons_succ, Option.some.injEq, Value.int.injEq, Value.slice.injEq, Value.bool.injEq, Value.pointer.injEq, Value.tuple.injEq, Array.mk.injEq, List.cons.injEq, true_and, and_true, exists_eq_left', exists_eq', exists_eq, exists_and_left, exists_and_right, and_assoc, bcase_t, bcase_f, cond_true, cond_false, StC_upd, nilO_some, List.setIfInBounds_toArray, List.set_cons_zero, List.set_cons_succ, List.size_toArray, List.length_cons, List.length_nil, Nat.reduceAdd, Nat.reduceLT, Bool.true_eq_false, if_false, cell_of p2, Ins.cells]
  have hR := right_regs hr
  refine CallsA.mono (act_spec w0 m2 g gm code s fp i hR (hM.le L)) ?_
  rintro r m3 ⟨rfl, hp3⟩
  have p3 := hp3.keep p2 (by
    obtain ⟨_, _, _, _, _, _, _, _, hS2⟩ := hM.le L
    exact hS2.notin p2)
  have nb : b ∉ fp := by
    obtain ⟨_, _, _, _, _, _, _, _, hS2⟩ := hM.le L
    exact hS2.notin p2
  generalize hA : actP s i = A at hp3
  obtain ⟨s1, t1⟩ := A
  simp only at hp3 ⊢
  by_cases ht : t1 = 0
  · subst ht
    simp only [bne_self_eq_false, cell_upd_same, cell_upd_ne, ne_eq, not_false_eq_true, List.getElem?_toArray, List.getElem?_cons_zero, List.getElem?_cons_succ, Option.some.injEq, Value.int.injEq, Value.slice.injEq, Value.bool.injEq, Value.pointer.injEq, Value.tuple.injEq, Array.mk.injEq, List.cons.injEq, true_and, and_true, exists_eq_left', exists_eq', exists_eq, exists_and_left, exists_and_right, and_assoc, bcase_t, bcase_f, cond_true, cond_false, StC_upd, nilO_some, List.setIfInBounds_toArray, List.set_cons_zero, List.set_cons_succ, List.size_toArray, List.length_cons, List.length_nil, Nat.reduceAdd, Nat.reduceLT, ne_eq, not_true_eq_false, if_false, cell_of p3, Ins.cells]
    obtain ⟨fp3, hM3, hf3, hk3⟩ := hp3
    obtain ⟨Ac3, cc3, Ai3, ci3, Ao3, co3, Aw3, cw3, hS3⟩ := hM3
    have hM3 : SeqM m3 w0.heap.size g gm code s1 fp3 := ⟨Ac3, cc3, Ai3, ci3, Ao3, co3, Aw3, cw3, hS3⟩
    simp only [hS3.reg hR.2.1, hS3.reg hR.2.2, cell_upd_same, cell_upd_ne, ne_eq, not_false_eq_true, List.getElem?_toArray, List.getElem?_cons_zero, List.getElem?_cons_succ, Option.some.injEq, Value.int.injEq, Value.slice.injEq, Value.bool.injEq, Value.pointer.injEq, Value.tuple.injEq, Array.mk.injEq, List.cons.injEq, true_and, and_true, exists_eq_left', exists_eq', exists_eq, exists_and_left, exists_and_right, and_assoc, bcase_t, bcase_f, cond_true, cond_false, StC_upd, nilO_some, List.setIfInBounds_toArray, List.set_cons_zero, List.set_cons_succ, List.size_toArray, List.length_cons, List.length_nil, Nat.reduceAdd, Nat.reduceLT]
    refine ⟨hR.2.1.1, by have := hR.2.1.2; omega, hR.2.2.1, by have := hR.2.2.2; omega, ?_⟩
    refine CallsA.mono (Reckon_spec w0 m3 i _ _) ?_
    rintro r m4 ⟨rfl, l4⟩
    have p4 := l4 _ _ p3
    have hM4 := hM3.le l4
    refine ⟨_, _, _, rfl, ?_⟩
    have hf4 : Fr m2 m4 fp := hf3.trans (Fr.of_le l4 fp) (fun _ h => .inl h)
    have out : ∀ {s' m'}, SPost w0 m4 g gm fp3 code s' m' → SPost w0 m g gm fp code s' m' := fun h => (h.of hf4 hk3).pre L
    generalize reckonP i (regOf s1.regs i.b) (regOf s1.regs i.c) = rk
    obtain ⟨v, t2, ok⟩ := rk
    by_cases ht2 : t2 = 0
    · subst ht2
      simp only [bne_self_eq_false, cell_upd_same, cell_upd_ne, ne_eq, not_false_eq_true, List.getElem?_toArray, List.getElem?_cons_zero, List.getElem?_cons_succ, Option.some.injEq, Value.int.injEq, Value.slice.injEq, Value.bool.injEq, Value.pointer.injEq, Value.tuple.injEq, Array.mk.injEq, List.cons.injEq, true_and, and_true, exists_eq_left', exists_eq', exists_eq, exists_and_left, exists_and_right, and_assoc, bcase_t, bcase_f, cond_true, cond_false, StC_upd, nilO_some, List.setIfInBounds_toArray, List.set_cons_zero, List.set_cons_succ, List.size_toArray, List.length_cons, List.length_nil, Nat.reduceAdd, Nat.reduceLT, ne_eq, not_true_eq_false, if_false, cell_of p4, Ins.cells]
      have tail : ∀ (m5 : AM) (s2 : MS) (fp5 : List Nat) (F : AM → Prop), SeqM m5 w0.heap.size g gm code s2 fp5 → (∀ m7, SPost w0 m5 g gm fp5 code { (nextP s2 i).1 with at_ := (nextP s2 i).2 } m7 → F m7) → CallsA Try.prog w0 51 #[.pointer (some ⟨g, 0, none⟩), i.val] m5 (fun r m6 => ∃ n, r = .int .i64 n ∧ StC w0.heap.size m6 ⟨g, 34, none⟩ (.int .i64 n) F) := by
        intro m5 s2 fp5 F h5 hF
        refine CallsA.mono (next_spec w0 m5 g gm code s2 fp5 i hR h5) ?_
        rintro r m6 ⟨rfl, fp6, h6, hf6, hk6⟩
        exact ⟨_, rfl, SPost.put_at h6 _ fun m7 h7 => hF _ (h7.of hf6 hk6)⟩
      cases ok
      · simp only [cell_upd_same, cell_upd_ne, ne_eq, not_false_eq_true, List.getElem?_toArray, List.getElem?_cons_zero, List.getElem?_cons_succ, Option.some.injEq, Value.int.injEq, Value.slice.injEq, Value.bool.injEq, Value.pointer.injEq, Value.tuple.injEq, Array.mk.injEq, List.cons.injEq, true_and, and_true, exists_eq_left', exists_eq', exists_eq, exists_and_left, exists_and_right, and_assoc, bcase_t, bcase_f, cond_true, cond_false, StC_upd, nilO_some, List.setIfInBounds_toArray, List.set_cons_zero, List.set_cons_succ, List.size_toArray, List.length_cons, List.length_nil, Nat.reduceAdd, Nat.reduceLT, Bool.false_eq_true, if_false]
        exact tail m4 s1 fp3 _ hM4 fun m7 h7 => retP_of ⟨rfl, out h7⟩
      · simp only [cell_upd_same, cell_upd_ne, ne_eq, not_false_eq_true, List.getElem?_toArray, List.getElem?_cons_zero, List.getElem?_cons_succ, Option.some.injEq, Value.int.injEq, Value.slice.injEq, Value.bool.injEq, Value.pointer.injEq, Value.tuple.injEq, Array.mk.injEq, List.cons.injEq, true_and, and_true, exists_eq_left', exists_eq', exists_eq, exists_and_left, exists_and_right, and_assoc, bcase_t, bcase_f, cond_true, cond_false, StC_upd, nilO_some, List.setIfInBounds_toArray, List.set_cons_zero, List.set_cons_succ, List.size_toArray, List.length_cons, List.length_nil, Nat.reduceAdd, Nat.reduceLT, if_true]
        refine CallsA.mono (set_spec w0 m4 g gm code s1 fp3 i.a v hR.1 hM4) ?_
        rintro r m5 ⟨rfl, hp5⟩
        have p5 := hp5.keep p4 (by
          obtain ⟨_, _, _, _, _, _, _, _, hS4⟩ := hM4
          exact hS4.notin p4)
        obtain ⟨fp5, h5, hf5, hk5⟩ := hp5
        refine ⟨rfl, ?_⟩
        simp only [cell_of p5, Ins.cells, cell_upd_same, cell_upd_ne, ne_eq, not_false_eq_true, List.getElem?_toArray, List.getElem?_cons_zero, List.getElem?_cons_succ, Option.some.injEq, Value.int.injEq, Value.slice.injEq, Value.bool.injEq, Value.pointer.injEq, Value.tuple.injEq, Array.mk.injEq, List.cons.injEq, true_and, and_true, exists_eq_left', exists_eq', exists_eq, exists_and_left, exists_and_right, and_assoc, bcase_t, bcase_f, cond_true, cond_false, StC_upd, nilO_some, List.setIfInBounds_toArray, List.set_cons_zero, List.set_cons_succ, List.size_toArray, List.length_cons, List.length_nil, Nat.reduceAdd, Nat.reduceLT]
        exact tail m5 _ fp5 _ h5 fun m7 h7 => retP_of ⟨rfl, out (h7.of hf5 hk5)⟩
    · have hb2 : (t2 != 0) = true := by simpa using ht2
      simp only [hb2, cell_upd_same, cell_upd_ne, ne_eq, not_false_eq_true, List.getElem?_toArray, List.getElem?_cons_zero, List.getElem?_cons_succ, Option.some.injEq, Value.int.injEq, Value.slice.injEq, Value.bool.injEq, Value.pointer.injEq, Value.tuple.injEq, Array.mk.injEq, List.cons.injEq, true_and, and_true, exists_eq_left', exists_eq', exists_eq, exists_and_left, exists_and_right, and_assoc, bcase_t, bcase_f, cond_true, cond_false, StC_upd, nilO_some, List.setIfInBounds_toArray, List.set_cons_zero, List.set_cons_succ, List.size_toArray, List.length_cons, List.length_nil, Nat.reduceAdd, Nat.reduceLT, ne_eq, ht2, not_false_eq_true, if_true]
      exact retP_of ⟨rfl, out (SPost.self hM4 (AM.le_refl _))⟩
  · have hb2 : (t1 != 0) = true := by simpa using ht
    simp only [hb2, cell_upd_same, cell_upd_ne, ne_eq, not_false_eq_true, List.getElem?_toArray, List.getElem?_cons_zero, List.getElem?_cons_succ, Option.some.injEq, Value.int.injEq, Value.slice.injEq, Value.bool.injEq, Value.pointer.injEq, Value.tuple.injEq, Array.mk.injEq, List.cons.injEq, true_and, and_true, exists_eq_left', exists_eq', exists_eq, exists_and_left, exists_and_right, and_assoc, bcase_t, bcase_f, cond_true, cond_false, StC_upd, nilO_some, List.setIfInBounds_toArray, List.set_cons_zero, List.set_cons_succ, List.size_toArray, List.length_cons, List.length_nil, Nat.reduceAdd, Nat.reduceLT, ne_eq, ht, not_false_eq_true, if_true]
    exact retP_of ⟨rfl, hp3.pre L⟩
end Go.Proofs.Ytadcbnldahcelaa.S
