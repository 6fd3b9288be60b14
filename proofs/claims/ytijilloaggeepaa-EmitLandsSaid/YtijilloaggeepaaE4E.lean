/- Ytijilloaggeepaa: a text of our own, by an AI agent: E4E -/
import Derived.Test.YtijilloaggeepaaE1E
import Derived.Test.YtijilloaggeepaaR2sE
set_option linter.unusedSimpArgs false
set_option linter.unusedVariables false
namespace Go.Proofs.Ytijilloaggeepaa.S
open Go Go.RowKit Go.Alog Go.Proofs.Ytijilloaggeepaa.T Go.Proofs.Ytijilloaggeepaa.V

theorem ext16_le (n : Int) : -32768 ≤ ext16 n ∧ ext16 n ≤ 32767 := by
  unfold ext16
  have h : ∀ x : Int, -2147483648 ≤ IntKind.wrap .i32 x ∧ IntKind.wrap .i32 x ≤ 2147483647 := by
    intro x; rw [IntKind.wrap_i32]; omega
  have := h (IntKind.wrap .i32 n * 65536)
  generalize IntKind.wrap .i32 (IntKind.wrap .i32 n * 65536) = y at this
  rw [Int.fdiv_eq_ediv_of_nonneg _ (by omega), IntKind.wrap_i64]
  omega

theorem right10 (r b n : Int) (h : 0 ≤ r ∧ r ≤ 31) (hb : 0 ≤ b ∧ b ≤ 31) (hn : -32768 ≤ n ∧ n ≤ 32767) : rightR ⟨10, r, b, 0, n⟩ = true := by
  have e1 : shapeR 10 = 11 := by decide
  have e2 : (11 : Int).tdiv 2 = 5 := by decide
  have e3 : (5 : Int).tdiv 2 = 2 := by decide
  have e4 : (2 : Int).tdiv 2 = 1 := by decide
  have h1 : ¬ r < 0 := by omega
  have h2 : ¬ r > 31 := by omega
  have h3 : ¬ b < 0 := by omega
  have h4 : ¬ b > 31 := by omega
  have h5 : n ≥ -32768 := by omega
  have h6 : n ≤ 32767 := by omega
  simp [rightR, e1, e2, e3, e4, partR, rangeR, h1, h2, h3, h4, h5, h6]
theorem right11 (r n : Int) (h : 0 ≤ r ∧ r ≤ 31) (hn : -32768 ≤ n ∧ n ≤ 32767) : rightR ⟨11, r, 0, 0, n⟩ = true := by
  have e1 : shapeR 11 = 9 := by decide
  have e2 : (9 : Int).tdiv 2 = 4 := by decide
  have e3 : (4 : Int).tdiv 2 = 2 := by decide
  have e4 : (2 : Int).tdiv 2 = 1 := by decide
  have h1 : ¬ r < 0 := by omega
  have h2 : ¬ r > 31 := by omega
  have h5 : n ≥ -32768 := by omega
  have h6 : n ≤ 32767 := by omega
  simp [rightR, e1, e2, e3, e4, partR, rangeR, h1, h2, h5, h6]

theorem const_right (r n : Int) (h : 0 ≤ r ∧ r ≤ 31) : ∀ i ∈ constI r n, rightR i = true ∧ i.a = r := by
  intro i hi
  unfold constI at hi
  split at hi
  · simp at hi; subst hi; exact ⟨right10 r 0 n h (by omega) (by omega), rfl⟩
  · simp at hi
    rcases hi with rfl | rfl
    · exact ⟨right11 r _ h (ext16_le _), rfl⟩
    · exact ⟨right10 r r _ h h (ext16_le _), rfl⟩

theorem wf_u8 {n : Int} (h : (Lit.int .u8 n).wf = true) : 0 ≤ n ∧ n ≤ 255 := by
  unfold Lit.wf at h
  simp only [Bool.and_eq_true, decide_eq_true_eq] at h
  exact h

theorem law_EmitShort (W : World) (a0 : Int) (w0 : (Lit.int .u8 a0).wf = true) (a1 : Int) (w1 : (Lit.int .i64 a1).wf = true) : CallsA Try.prog W 5 #[.int .u8 a0, .int .i64 a1] (mOf W) (fun r _ => r = .bool true) := by
  have hn := wf_i64 w1
  have hr := wf_u8 w0
  refine cf5 W _ a0 a1 _ ?_
  intro b1 hb1 hm1 m2
  have hbuf : Buf m2 W.heap.size b1 [] [] 0 [b1] := buf_new _ hb1
  generalize m2 = m2 at hbuf
  have hrg : 0 ≤ IntKind.wrap .i64 (Int.tmod a0 32) ∧ IntKind.wrap .i64 (Int.tmod a0 32) ≤ 31 := by
    rw [Int.tmod_eq_emod_of_nonneg hr.1, IntKind.wrap_i64]; omega
  refine ⟨rfl, by decide, ?_⟩
  have hright := const_right (IntKind.wrap .i64 (Int.tmod a0 32)) a1 hrg
  have hlen : (constI (IntKind.wrap .i64 (Int.tmod a0 32)) a1).length = if -32768 ≤ a1 ∧ a1 < 32768 then 1 else 2 := by unfold constI; split <;> rfl
  refine CallsA.mono (const_spec W _ b1 [] [] 0 _ _ a1 hn hbuf (by decide)) ?_
  rintro r m3 ⟨rfl, fp3, hb3, f3, k3⟩
  rw [List.nil_append] at hb3
  generalize constI (IntKind.wrap .i64 (Int.tmod a0 32)) a1 = code at hb3 hright hlen
  have hcl : code.length ≤ 2 := by rw [hlen]; split <;> omega
  refine ⟨rfl, ?_⟩
  refine CallsA.mono (code_spec W _ b1 _ _ _ _ hb3 (by omega)) ?_
  rintro r m4 ⟨l4, A4, c4, rfl, o4, n4⟩
  refine ⟨_, _, _, rfl, rfl, ?_⟩
  have hb4 := hb3.le l4
  have main : ∀ (σ : Sg) (w : Int), w = code.length → σ 0 = .int .u8 a0 → σ 5 = .pointer (some ⟨b1, 0, none⟩) → σ 6 = .slice A4 code.length c4 → σ 7 = .int .i64 w → σ 22 = .slice A4 code.length c4 → σ 23 = .int .i64 ((code.length : Nat) : Int) → σ 24 = .int .i64 0 →
      vcS Try.prog W qs5 (sub c5 [1, 1, 1, 1, 1, 1, 0, 1, 0]) σ m4 (blockS 0 (thenS (fun σ m => vcS Try.prog W qs5 (sub c5 [1, 1, 1, 1, 1, 1, 1]) σ m (retQ Try.prog Try.f5 (fun r _ => r = .bool true))) (retQ Try.prog Try.f5 (fun r _ => r = .bool true)))) := by
    intro σ w hw h0 h5 h6 h7 h22 h23 h24
    subst hw
    refine vl5_111111010 W m4 σ _ a0 b1 A4 code.length c4 code.length A4 code.length c4 code.length 0 (fun k x m => m4.le m ∧ 0 ≤ x ∧ x ≤ code.length ∧ (k : Int) = code.length - x) (fun m => m4.le m) code.length h0 h5 h6 h7 h22 h23 h24 ⟨AM.le_refl _, by omega, by omega, by omega⟩ ?_ ?_
    · rintro n σ x m ⟨hl, hx0, hx1, hk⟩
      by_cases c1 : x < code.length
      · have hlt : x.toNat < code.length := by omega
        obtain ⟨ad, rfl, hc⟩ := (o4.le hl).ex (by omega)
        have hi := hc.ins (List.getElem?_eq_getElem hlt)
        have hm := hright _ (List.getElem_mem hlt)
        revert hi hm
        generalize code[x.toNat] = i
        intro hi hm
        simp only [c1, decide_true, cell_upd_same, cell_upd_ne, ne_eq, not_false_eq_true, List.getElem?_toArray, List.getElem?_cons_zero, List.getElem?_cons_succ, Option.some.injEq, Value.int.injEq, Value.slice.injEq, Value.bool.injEq, Value.pointer.injEq, Value.tuple.injEq, Array.mk.injEq, List.cons.injEq, true_and, and_true, exists_eq_left', exists_eq', exists_eq, exists_and_left, exists_and_right, and_assoc, bcase_t, bcase_f, cond_true, cond_false, StC_upd, nilO_some, List.setIfInBounds_toArray, List.set_cons_zero, List.set_cons_succ, List.size_toArray, List.length_cons, List.length_nil, Nat.reduceAdd, Nat.reduceLT, hi]
        refine ⟨by omega, ?_⟩
        intro b hb hmb
        simp only [cell_upd_same, cell_upd_ne, ne_eq, not_false_eq_true, List.getElem?_toArray, List.getElem?_cons_zero, List.getElem?_cons_succ, Option.some.injEq, Value.int.injEq, Value.slice.injEq, Value.bool.injEq, Value.pointer.injEq, Value.tuple.injEq, Array.mk.injEq, List.cons.injEq, true_and, and_true, exists_eq_left', exists_eq', exists_eq, exists_and_left, exists_and_right, and_assoc, bcase_t, bcase_f, cond_true, cond_false, StC_upd, nilO_some, List.setIfInBounds_toArray, List.set_cons_zero, List.set_cons_succ, List.size_toArray, List.length_cons, List.length_nil, Nat.reduceAdd, Nat.reduceLT, hb]
        have hle := AM.le_upd (AM.le_refl m) hmb (o := .cells i.cells.toArray 23)
        refine CallsA.mono (right_spec W _ i) ?_
        rintro r m5 ⟨rfl, hl5⟩
        have hp : m5 b = some (.cells i.cells.toArray 23) := hl5 _ _ upd_get_same
        have wx : IntKind.wrap .i64 (x + 1) = x + 1 := by rw [IntKind.wrap_i64]; omega
        simp only [hm, Bool.not_true, cell_of hp, Ins.cells, cell_upd_same, cell_upd_ne, ne_eq, not_false_eq_true, List.getElem?_toArray, List.getElem?_cons_zero, List.getElem?_cons_succ, Option.some.injEq, Value.int.injEq, Value.slice.injEq, Value.bool.injEq, Value.pointer.injEq, Value.tuple.injEq, Array.mk.injEq, List.cons.injEq, true_and, and_true, exists_eq_left', exists_eq', exists_eq, exists_and_left, exists_and_right, and_assoc, bcase_t, bcase_f, cond_true, cond_false, StC_upd, nilO_some, List.setIfInBounds_toArray, List.set_cons_zero, List.set_cons_succ, List.size_toArray, List.length_cons, List.length_nil, Nat.reduceAdd, Nat.reduceLT, bne_self_eq_false, wx]
        exact ⟨by decide, n - 1, by omega, AM.le_trans hl (AM.le_trans hle hl5), by omega, by omega, by omega⟩
      · simp only [c1, decide_false, cell_upd_same, cell_upd_ne, ne_eq, not_false_eq_true, List.getElem?_toArray, List.getElem?_cons_zero, List.getElem?_cons_succ, Option.some.injEq, Value.int.injEq, Value.slice.injEq, Value.bool.injEq, Value.pointer.injEq, Value.tuple.injEq, Array.mk.injEq, List.cons.injEq, true_and, and_true, exists_eq_left', exists_eq', exists_eq, exists_and_left, exists_and_right, and_assoc, bcase_t, bcase_f, cond_true, cond_false, StC_upd, nilO_some, List.setIfInBounds_toArray, List.set_cons_zero, List.set_cons_succ, List.size_toArray, List.length_cons, List.length_nil, Nat.reduceAdd, Nat.reduceLT]
        exact hl
    · rintro σ m hl
      simp only [beq_self_eq_true, cell_upd_same, cell_upd_ne, ne_eq, not_false_eq_true, List.getElem?_toArray, List.getElem?_cons_zero, List.getElem?_cons_succ, Option.some.injEq, Value.int.injEq, Value.slice.injEq, Value.bool.injEq, Value.pointer.injEq, Value.tuple.injEq, Array.mk.injEq, List.cons.injEq, true_and, and_true, exists_eq_left', exists_eq', exists_eq, exists_and_left, exists_and_right, and_assoc, bcase_t, bcase_f, cond_true, cond_false, StC_upd, nilO_some, List.setIfInBounds_toArray, List.set_cons_zero, List.set_cons_succ, List.size_toArray, List.length_cons, List.length_nil, Nat.reduceAdd, Nat.reduceLT]
      refine CallsA.mono (patches_spec W _ b1 _ _ _ _ (hb4.le hl) (by decide)) ?_
      rintro r m6 ⟨l6, A6, c6, rfl, _, _⟩
      simp only [cell_upd_same, cell_upd_ne, ne_eq, not_false_eq_true, List.getElem?_toArray, List.getElem?_cons_zero, List.getElem?_cons_succ, Option.some.injEq, Value.int.injEq, Value.slice.injEq, Value.bool.injEq, Value.pointer.injEq, Value.tuple.injEq, Array.mk.injEq, List.cons.injEq, true_and, and_true, exists_eq_left', exists_eq', exists_eq, exists_and_left, exists_and_right, and_assoc, bcase_t, bcase_f, cond_true, cond_false, StC_upd, nilO_some, List.setIfInBounds_toArray, List.set_cons_zero, List.set_cons_succ, List.size_toArray, List.length_cons, List.length_nil, Nat.reduceAdd, Nat.reduceLT, show (((0 : Nat) : Int) == 0) = true from rfl]
      refine CallsA.mono (awake_spec W _) ?_
      rintro r m9 rfl
      simp only [cell_upd_same, cell_upd_ne, ne_eq, not_false_eq_true, List.getElem?_toArray, List.getElem?_cons_zero, List.getElem?_cons_succ, Option.some.injEq, Value.int.injEq, Value.slice.injEq, Value.bool.injEq, Value.pointer.injEq, Value.tuple.injEq, Array.mk.injEq, List.cons.injEq, true_and, and_true, exists_eq_left', exists_eq', exists_eq, exists_and_left, exists_and_right, and_assoc, bcase_t, bcase_f, cond_true, cond_false, StC_upd, nilO_some, List.setIfInBounds_toArray, List.set_cons_zero, List.set_cons_succ, List.size_toArray, List.length_cons, List.length_nil, Nat.reduceAdd, Nat.reduceLT]
      exact retP_of rfl
  by_cases c1 : a1 ≥ -32768
  · simp only [c1, decide_true, cell_upd_same, cell_upd_ne, ne_eq, not_false_eq_true, List.getElem?_toArray, List.getElem?_cons_zero, List.getElem?_cons_succ, Option.some.injEq, Value.int.injEq, Value.slice.injEq, Value.bool.injEq, Value.pointer.injEq, Value.tuple.injEq, Array.mk.injEq, List.cons.injEq, true_and, and_true, exists_eq_left', exists_eq', exists_eq, exists_and_left, exists_and_right, and_assoc, bcase_t, bcase_f, cond_true, cond_false, StC_upd, nilO_some, List.setIfInBounds_toArray, List.set_cons_zero, List.set_cons_succ, List.size_toArray, List.length_cons, List.length_nil, Nat.reduceAdd, Nat.reduceLT]
    by_cases c2 : a1 ≤ 32767
    · simp only [c2, decide_true, cell_upd_same, cell_upd_ne, ne_eq, not_false_eq_true, List.getElem?_toArray, List.getElem?_cons_zero, List.getElem?_cons_succ, Option.some.injEq, Value.int.injEq, Value.slice.injEq, Value.bool.injEq, Value.pointer.injEq, Value.tuple.injEq, Array.mk.injEq, List.cons.injEq, true_and, and_true, exists_eq_left', exists_eq', exists_eq, exists_and_left, exists_and_right, and_assoc, bcase_t, bcase_f, cond_true, cond_false, StC_upd, nilO_some, List.setIfInBounds_toArray, List.set_cons_zero, List.set_cons_succ, List.size_toArray, List.length_cons, List.length_nil, Nat.reduceAdd, Nat.reduceLT]
      exact main _ 1 (by rw [hlen, if_pos (by omega)]; rfl) rfl rfl rfl rfl rfl rfl rfl
    · simp only [c2, decide_false, cell_upd_same, cell_upd_ne, ne_eq, not_false_eq_true, List.getElem?_toArray, List.getElem?_cons_zero, List.getElem?_cons_succ, Option.some.injEq, Value.int.injEq, Value.slice.injEq, Value.bool.injEq, Value.pointer.injEq, Value.tuple.injEq, Array.mk.injEq, List.cons.injEq, true_and, and_true, exists_eq_left', exists_eq', exists_eq, exists_and_left, exists_and_right, and_assoc, bcase_t, bcase_f, cond_true, cond_false, StC_upd, nilO_some, List.setIfInBounds_toArray, List.set_cons_zero, List.set_cons_succ, List.size_toArray, List.length_cons, List.length_nil, Nat.reduceAdd, Nat.reduceLT]
      exact main _ 2 (by rw [hlen, if_neg (by omega)]; rfl) rfl rfl rfl rfl rfl rfl rfl
  · simp only [c1, decide_false, cell_upd_same, cell_upd_ne, ne_eq, not_false_eq_true, List.getElem?_toArray, List.getElem?_cons_zero, List.getElem?_cons_succ, Option.some.injEq, Value.int.injEq, Value.slice.injEq, Value.bool.injEq, Value.pointer.injEq, Value.tuple.injEq, Array.mk.injEq, List.cons.injEq, true_and, and_true, exists_eq_left', exists_eq', exists_eq, exists_and_left, exists_and_right, and_assoc, bcase_t, bcase_f, cond_true, cond_false, StC_upd, nilO_some, List.setIfInBounds_toArray, List.set_cons_zero, List.set_cons_succ, List.size_toArray, List.length_cons, List.length_nil, Nat.reduceAdd, Nat.reduceLT]
    exact main _ 2 (by rw [hlen, if_neg (by omega)]; rfl) rfl rfl rfl rfl rfl rfl rfl
end Go.Proofs.Ytijilloaggeepaa.S
