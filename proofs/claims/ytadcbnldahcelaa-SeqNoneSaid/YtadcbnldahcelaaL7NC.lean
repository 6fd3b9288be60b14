/- Ytadcbnldahcelaa: a text of our own, by an AI agent: L7NC -/
import Derived.Test.YtadcbnldahcelaaL7bC
set_option linter.unusedSimpArgs false
set_option linter.unusedVariables false
set_option maxRecDepth 100000
namespace Go.Proofs.Ytadcbnldahcelaa.S
open Go Go.RowKit Go.Alog Go.Proofs.Ytadcbnldahcelaa.T Go.Proofs.Ytadcbnldahcelaa.V

theorem wf_i32 {n : Int} (h : (Lit.int .i32 n).wf = true) : -2147483648 ≤ n ∧ n ≤ 2147483647 := by
  unfold Lit.wf at h
  simp only [Bool.and_eq_true, decide_eq_true_eq] at h
  exact h

theorem law_SeqNone (W : World) (i : Ins) (hi : i.wf) (a1 : Int) (w1 : (Lit.int .i64 a1).wf = true) (a2 : Int) (w2 : (Lit.int .i32 a2).wf = true) : CallsA Try.prog W 11 #[i.val, .int .i64 a1, .int .i32 a2] (mOf W) (fun r _ => r = .bool true) := by
  have h1 := wf_i64 w1
  have h2 := wf_i32 w2
  have e2 : IntKind.wrap .i64 a2 = a2 := by rw [IntKind.wrap_i64]; omega
  refine cf11 W _ _ _ _ _ _ a1 a2 _ ?_
  intro b1 hb1 hm1 M
  have p1 : M b1 = some (.cells i.cells.toArray 34) := upd_get_same
  clear_value M
  rw [e2]
  simp only [cell_of p1, Ins.cells, cell_upd_same, cell_upd_ne, ne_eq, not_false_eq_true, List.getElem?_toArray, List.getElem?_cons_zero, List.getElem?_cons_succ, Option.some.injEq, Value.int.injEq, Value.slice.injEq, Value.bool.injEq, Value.pointer.injEq, Value.tuple.injEq, Array.mk.injEq, List.cons.injEq, true_and, and_true, exists_eq_left', exists_eq', exists_eq, exists_and_left, exists_and_right, and_assoc]
  intro b8 hb8 hm8
  have l8 := le_new hm8 (.cells i.cells.toArray 34)
  have r8 : Reads (M.upd b8 (.cells i.cells.toArray 34)) 5 (some ⟨b8, 0, none⟩) 1 (insCells [i]) := by have := Reads.lit (m := M) (b := b8) (e := 34) (sz := 5) (n := 1) (cs := i.cells) rfl; simpa [insCells] using this
  have p8 := l8 _ _ p1
  refine CallsA.mono (run_of W _ (some ⟨b8, 0, none⟩) 1 1 [i] 5 none 0 0 [] _ rfl rfl (by unfold InI at *; split <;> omega) r8 (Reads.nil _ 1) (by decide)) ?_
  rintro r m2 ⟨l2, hr⟩
  rw [runP_fuel0 _ _ _ (by split <;> omega) (by simp)] at hr
  have q2 := l2 _ _ p8
  refine save_res hr 29 _ fun b20 m3 Ao co Am cm l3 n3 k20 _ _ => ?_
  have q3 := l3 _ _ q2
  refine ⟨by decide, by decide, by decide, by decide, ?_⟩
  intro b26 hb26 hm26
  rw [zeros_ins]
  have l26 := le_new hm26 (.cells (insCells (List.replicate (4097 : Int).toNat ⟨0, 0, 0, 0, 0⟩)).toArray 34)
  have r26 : Reads (m3.upd b26 (.cells (insCells (List.replicate (4097 : Int).toNat ⟨0, 0, 0, 0, 0⟩)).toArray 34)) 5 (some ⟨b26, 0, none⟩) (4097 : Int).toNat (insCells (List.replicate (4097 : Int).toNat ⟨0, 0, 0, 0, 0⟩)) := Reads.lit (by rw [insCells_len, List.length_replicate])
  have q4 := l26 _ _ q3
  have k4 := l26 _ _ k20
  generalize m3.upd b26 (.cells (insCells (List.replicate (4097 : Int).toNat ⟨0, 0, 0, 0, 0⟩)).toArray 34) = m4 at l26 r26 q4 k4
  refine CallsA.mono (run_of W m4 (some ⟨b26, 0, none⟩) (4097 : Int).toNat (4097 : Int).toNat (List.replicate (4097 : Int).toNat ⟨0, 0, 0, 0, 0⟩) 5 none 0 0 [] 9 (List.length_replicate) rfl (by constructor <;> decide) r26 (Reads.nil _ 1) (by decide)) ?_
  rintro r m5 ⟨l5, hr⟩
  rw [runP_bad _ _ _ _ (Or.inl (by rw [List.length_replicate]; decide))] at hr
  refine save_res hr 29 _ fun b38 m6 Ao2 co2 Am2 cm2 l6 n6 k38 _ _ => ?_
  have q6 := l6 _ _ (l5 _ _ q4)
  have k6 := l6 _ _ (l5 _ _ k4)
  simp only [cell_of q6, Ins.cells, cell_upd_same, cell_upd_ne, ne_eq, not_false_eq_true, List.getElem?_toArray, List.getElem?_cons_zero, List.getElem?_cons_succ, Option.some.injEq, Value.int.injEq, Value.slice.injEq, Value.bool.injEq, Value.pointer.injEq, Value.tuple.injEq, Array.mk.injEq, List.cons.injEq, true_and, and_true, exists_eq_left', exists_eq', exists_eq, exists_and_left, exists_and_right, and_assoc]
  intro b49 hb49 hm49
  have l49 := le_new hm49 (.cells i.cells.toArray 34)
  have r49 : Reads (m6.upd b49 (.cells i.cells.toArray 34)) 5 (some ⟨b49, 0, none⟩) 1 (insCells [i]) := by have := Reads.lit (m := m6) (b := b49) (e := 34) (sz := 5) (n := 1) (cs := i.cells) rfl; simpa [insCells] using this
  refine CallsA.mono (run_of W _ (some ⟨b49, 0, none⟩) 1 1 [i] _ none 0 0 [] 9 rfl rfl (by constructor <;> decide) r49 (Reads.nil _ 1) (by decide)) ?_
  rintro r m7 ⟨l7, hr⟩
  rw [runP_bad _ _ _ _ (Or.inr (Or.inl (by split <;> omega)))] at hr
  refine save_res hr 29 _ fun b61 m8 Ao3 co3 Am3 cm3 l8 n8 k61 _ _ => ?_
  have q8 := l8 _ _ (l7 _ _ (l49 _ _ q6))
  have k20' := l8 _ _ (l7 _ _ (l49 _ _ k6))
  have k38' := l8 _ _ (l7 _ _ (l49 _ _ k38))
  simp only [cell_of q8, Ins.cells, cell_upd_same, cell_upd_ne, ne_eq, not_false_eq_true, List.getElem?_toArray, List.getElem?_cons_zero, List.getElem?_cons_succ, Option.some.injEq, Value.int.injEq, Value.slice.injEq, Value.bool.injEq, Value.pointer.injEq, Value.tuple.injEq, Array.mk.injEq, List.cons.injEq, true_and, and_true, exists_eq_left', exists_eq', exists_eq, exists_and_left, exists_and_right, and_assoc]
  intro b72 hb72 hm72
  have l72 := le_new hm72 (.cells i.cells.toArray 34)
  have r72 : Reads (m8.upd b72 (.cells i.cells.toArray 34)) 5 (some ⟨b72, 0, none⟩) 1 (insCells [i]) := by have := Reads.lit (m := m8) (b := b72) (e := 34) (sz := 5) (n := 1) (cs := i.cells) rfl; simpa [insCells] using this
  refine CallsA.mono (run_of W _ (some ⟨b72, 0, none⟩) 1 1 [i] _ none 0 0 [] 9 rfl rfl (by constructor <;> decide) r72 (Reads.nil _ 1) (by decide)) ?_
  rintro r m9 ⟨l9, hr⟩
  rw [runP_bad _ _ _ _ (Or.inr (Or.inr (by split <;> omega)))] at hr
  refine save_res hr 29 _ fun b84 m10 Ao4 co4 Am4 cm4 l10 n10 k84 _ _ => ?_
  have z20 := l10 _ _ (l9 _ _ (l72 _ _ k20'))
  have z38 := l10 _ _ (l9 _ _ (l72 _ _ k38'))
  have z61 := l10 _ _ (l9 _ _ (l72 _ _ k61))
  simp only [cell_of z20, cell_of z38, cell_of z61, cell_of k84, cell_upd_same, cell_upd_ne, ne_eq, not_false_eq_true, List.getElem?_toArray, List.getElem?_cons_zero, List.getElem?_cons_succ, Option.some.injEq, Value.int.injEq, Value.slice.injEq, Value.bool.injEq, Value.pointer.injEq, Value.tuple.injEq, Array.mk.injEq, List.cons.injEq, true_and, and_true, exists_eq_left', exists_eq', exists_eq, exists_and_left, exists_and_right, and_assoc, bcase_t, bcase_f, cond_true, cond_false, StC_upd, nilO_some, List.setIfInBounds_toArray, List.set_cons_zero, List.set_cons_succ, List.size_toArray, List.length_cons, List.length_nil, Nat.reduceAdd, Nat.reduceLT]
  have z1 : IntKind.wrap .i64 (0 + 0) = 0 := by decide
  have z2 : (IntKind.wrap .i64 (IntKind.wrap .i64 (0 + (([] : List Int).length : Nat)) + (([] : List Int).length : Nat))) = 0 := by decide
  have z3 : (IntKind.wrap .i64 (IntKind.wrap .i64 (0 + ((0 : Nat) : Int)) + ((0 : Nat) : Int))) = 0 := by decide
  simp only [z1, z2, z3, beq_self_eq_true, cell_upd_same, cell_upd_ne, ne_eq, not_false_eq_true, List.getElem?_toArray, List.getElem?_cons_zero, List.getElem?_cons_succ, Option.some.injEq, Value.int.injEq, Value.slice.injEq, Value.bool.injEq, Value.pointer.injEq, Value.tuple.injEq, Array.mk.injEq, List.cons.injEq, true_and, and_true, exists_eq_left', exists_eq', exists_eq, exists_and_left, exists_and_right, and_assoc, bcase_t, bcase_f, cond_true, cond_false, StC_upd, nilO_some, List.setIfInBounds_toArray, List.set_cons_zero, List.set_cons_succ, List.size_toArray, List.length_cons, List.length_nil, Nat.reduceAdd, Nat.reduceLT]
  refine CallsA.mono (awake7 W _) ?_
  rintro r m11 rfl
  simp only [cell_upd_same, cell_upd_ne, ne_eq, not_false_eq_true, List.getElem?_toArray, List.getElem?_cons_zero, List.getElem?_cons_succ, Option.some.injEq, Value.int.injEq, Value.slice.injEq, Value.bool.injEq, Value.pointer.injEq, Value.tuple.injEq, Array.mk.injEq, List.cons.injEq, true_and, and_true, exists_eq_left', exists_eq', exists_eq, exists_and_left, exists_and_right, and_assoc, bcase_t, bcase_f, cond_true, cond_false, StC_upd, nilO_some, List.setIfInBounds_toArray, List.set_cons_zero, List.set_cons_succ, List.size_toArray, List.length_cons, List.length_nil, Nat.reduceAdd, Nat.reduceLT]
  exact retP_of rfl
end Go.Proofs.Ytadcbnldahcelaa.S
