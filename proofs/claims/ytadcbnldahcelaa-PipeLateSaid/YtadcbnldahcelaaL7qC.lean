/- Ytadcbnldahcelaa: a text of our own, by an AI agent: L7qC -/
import Derived.Test.YtadcbnldahcelaaL7bC
set_option linter.unusedSimpArgs false
set_option linter.unusedVariables false
set_option maxRecDepth 100000
namespace Go.Proofs.Ytadcbnldahcelaa.S
open Go Go.RowKit Go.Alog Go.Proofs.Ytadcbnldahcelaa.T Go.Proofs.Ytadcbnldahcelaa.V

theorem int_cell {m : AM} {a : Addr} {l : List Int} (h : Cells m a (intCells .i64 l)) {i : Int} (h0 : 0 ≤ i) (h1 : i < l.length) : m.cell (a.add (i.toNat * 1)) = some (.int .i64 (l.getD i.toNat 0)) := by
  have hlt : i.toNat < l.length := by omega
  refine h _ _ ?_
  simp [intCells, hlt, List.getD]

theorem same_of {l r : List Int} (hl : l.length = r.length) (h : ∀ j, j < l.length → l.getD j 0 = r.getD j 0) : l = r := by
  apply List.ext_getElem hl
  intro j h1 h2
  have := h j h1
  simpa [List.getD, h1, h2] using this

theorem equal_spec (w0 : World) (m : AM) (a b : Res) (Ao Am Bo Bm : Option Addr) (co cm do_ dm : Nat) (hao : Reads m 1 Ao a.out.length (intCells .i64 a.out)) (ham : Reads m 1 Am a.mem.length (intCells .i64 a.mem)) (hbo : Reads m 1 Bo b.out.length (intCells .i64 b.out)) (hbm : Reads m 1 Bm b.mem.length (intCells .i64 b.mem)) (hl : a.out.length ≤ 1000000 ∧ a.mem.length ≤ 1000000) :
    CallsA Try.prog w0 22 #[.agg #[.int .i64 a.trap, .int .i64 a.steps, .slice Ao a.out.length co, .slice Am a.mem.length cm], .agg #[.int .i64 b.trap, .int .i64 b.steps, .slice Bo b.out.length do_, .slice Bm b.mem.length dm]] m (fun r m' => r = .bool (decide (a = b)) ∧ m.le m') := by
  refine cf22 w0 m _ _ _ _ _ _ _ _ _ _ _ _ _ _ _ _ _ ?_
  intro b1 hb1 hm1 M1
  have l1 : m.le M1 := le_new hm1 _
  have p1 : M1 b1 = some (.cells #[.int .i64 a.trap, .int .i64 a.steps, .slice Ao a.out.length co, .slice Am a.mem.length cm] 28) := upd_get_same
  clear_value M1
  intro b3 hb3 hm3 M
  have l3 : M1.le M := le_new hm3 _
  have p3 : M b3 = some (.cells #[.int .i64 b.trap, .int .i64 b.steps, .slice Bo b.out.length do_, .slice Bm b.mem.length dm] 28) := upd_get_same
  clear_value M
  replace p1 := l3 _ _ p1
  have L := AM.le_trans l1 l3
  have no : ∀ (P : Prop), (a = b → False) → RetP (fun r m' => r = Value.bool (decide (a = b)) ∧ m.le m') (.bool false) M := fun _ h => retP_of ⟨by rw [decide_eq_false (fun e => h e)], L⟩
  simp only [cell_of p1, cell_of p3, cell_upd_same, cell_upd_ne, ne_eq, not_false_eq_true, List.getElem?_toArray, List.getElem?_cons_zero, List.getElem?_cons_succ, Option.some.injEq, Value.int.injEq, Value.slice.injEq, Value.bool.injEq, Value.pointer.injEq, Value.tuple.injEq, Array.mk.injEq, List.cons.injEq, true_and, and_true, exists_eq_left', exists_eq', exists_eq, exists_and_left, exists_and_right, and_assoc]
  by_cases ht : a.trap = b.trap
  · by_cases hs : a.steps = b.steps
    · by_cases ho : a.out.length = b.out.length
      · by_cases hm : a.mem.length = b.mem.length
        · have e1 : (a.trap != b.trap) = false := by simp [ht]
          have e2 : (a.steps != b.steps) = false := by simp [hs]
          have e3 : (((a.out.length : Nat) : Int) != ((b.out.length : Nat) : Int)) = false := by simp [ho]
          have e4 : (((a.mem.length : Nat) : Int) != ((b.mem.length : Nat) : Int)) = false := by simp [hm]
          simp only [e1, e2, e3, e4, cell_upd_same, cell_upd_ne, ne_eq, not_false_eq_true, List.getElem?_toArray, List.getElem?_cons_zero, List.getElem?_cons_succ, Option.some.injEq, Value.int.injEq, Value.slice.injEq, Value.bool.injEq, Value.pointer.injEq, Value.tuple.injEq, Array.mk.injEq, List.cons.injEq, true_and, and_true, exists_eq_left', exists_eq', exists_eq, exists_and_left, exists_and_right, and_assoc, bcase_t, bcase_f, cond_true, cond_false, StC_upd, nilO_some, List.setIfInBounds_toArray, List.set_cons_zero, List.set_cons_succ, List.size_toArray, List.length_cons, List.length_nil, Nat.reduceAdd, Nat.reduceLT]
          have reads : ∀ {A : Option Addr} {l : List Int} {i : Int}, Reads m 1 A l.length (intCells .i64 l) → 0 ≤ i → i < l.length → ∃ ad, A = some ad ∧ M.cell (ad.add (i.toNat * 1)) = some (.int .i64 (l.getD i.toNat 0)) := by
            intro A l i hr h0 h1
            obtain ⟨ad, hA, hc⟩ := (hr.le L).ex (by omega)
            exact ⟨ad, hA, int_cell hc h0 h1⟩
          refine vl22_11010 w0 M _ _ b1 b3 0 (fun k i m' => m' = M ∧ 0 ≤ i ∧ i ≤ a.out.length ∧ (k : Int) = a.out.length - i ∧ ∀ j, j < i.toNat → a.out.getD j 0 = b.out.getD j 0) (fun m' => m' = M ∧ a.out = b.out) a.out.length rfl rfl rfl ⟨rfl, by omega, by omega, by omega, by intro j hj; omega⟩ ?_ ?_
          · rintro k σ i m' ⟨rfl, h0, h1, hk, hj⟩
            simp only [cell_of p1, cell_of p3, cell_upd_same, cell_upd_ne, ne_eq, not_false_eq_true, List.getElem?_toArray, List.getElem?_cons_zero, List.getElem?_cons_succ, Option.some.injEq, Value.int.injEq, Value.slice.injEq, Value.bool.injEq, Value.pointer.injEq, Value.tuple.injEq, Array.mk.injEq, List.cons.injEq, true_and, and_true, exists_eq_left', exists_eq', exists_eq, exists_and_left, exists_and_right, and_assoc, bcase_t, bcase_f, cond_true, cond_false, StC_upd, nilO_some, List.setIfInBounds_toArray, List.set_cons_zero, List.set_cons_succ, List.size_toArray, List.length_cons, List.length_nil, Nat.reduceAdd, Nat.reduceLT]
            by_cases c1 : i < a.out.length
            · simp only [decide_eq_true c1, cell_upd_same, cell_upd_ne, ne_eq, not_false_eq_true, List.getElem?_toArray, List.getElem?_cons_zero, List.getElem?_cons_succ, Option.some.injEq, Value.int.injEq, Value.slice.injEq, Value.bool.injEq, Value.pointer.injEq, Value.tuple.injEq, Array.mk.injEq, List.cons.injEq, true_and, and_true, exists_eq_left', exists_eq', exists_eq, exists_and_left, exists_and_right, and_assoc, bcase_t, bcase_f, cond_true, cond_false, StC_upd, nilO_some, List.setIfInBounds_toArray, List.set_cons_zero, List.set_cons_succ, List.size_toArray, List.length_cons, List.length_nil, Nat.reduceAdd, Nat.reduceLT]
              obtain ⟨x, rfl, hx⟩ := reads hao h0 c1
              obtain ⟨y, rfl, hy⟩ := reads hbo h0 (by omega : i < b.out.length)
              simp only [hx, hy, cell_upd_same, cell_upd_ne, ne_eq, not_false_eq_true, List.getElem?_toArray, List.getElem?_cons_zero, List.getElem?_cons_succ, Option.some.injEq, Value.int.injEq, Value.slice.injEq, Value.bool.injEq, Value.pointer.injEq, Value.tuple.injEq, Array.mk.injEq, List.cons.injEq, true_and, and_true, exists_eq_left', exists_eq', exists_eq, exists_and_left, exists_and_right, and_assoc, bcase_t, bcase_f, cond_true, cond_false, StC_upd, nilO_some, List.setIfInBounds_toArray, List.set_cons_zero, List.set_cons_succ, List.size_toArray, List.length_cons, List.length_nil, Nat.reduceAdd, Nat.reduceLT]
              refine ⟨h0, c1, h0, by omega, ?_⟩
              by_cases hxy : a.out.getD i.toNat 0 = b.out.getD i.toNat 0
              · have w : IntKind.wrap .i64 (i + 1) = i + 1 := by rw [IntKind.wrap_i64]; omega
                simp only [hxy, bne_self_eq_false, cell_upd_same, cell_upd_ne, ne_eq, not_false_eq_true, List.getElem?_toArray, List.getElem?_cons_zero, List.getElem?_cons_succ, Option.some.injEq, Value.int.injEq, Value.slice.injEq, Value.bool.injEq, Value.pointer.injEq, Value.tuple.injEq, Array.mk.injEq, List.cons.injEq, true_and, and_true, exists_eq_left', exists_eq', exists_eq, exists_and_left, exists_and_right, and_assoc, bcase_t, bcase_f, cond_true, cond_false, StC_upd, nilO_some, List.setIfInBounds_toArray, List.set_cons_zero, List.set_cons_succ, List.size_toArray, List.length_cons, List.length_nil, Nat.reduceAdd, Nat.reduceLT, w]
                refine ⟨k - 1, by omega, by omega, by omega, by omega, fun j hj2 => ?_⟩
                by_cases e : j = i.toNat
                · rw [e]; exact hxy
                · exact hj j (by omega)
              · have : (a.out.getD i.toNat 0 != b.out.getD i.toNat 0) = true := by simpa using hxy
                simp only [this, cell_upd_same, cell_upd_ne, ne_eq, not_false_eq_true, List.getElem?_toArray, List.getElem?_cons_zero, List.getElem?_cons_succ, Option.some.injEq, Value.int.injEq, Value.slice.injEq, Value.bool.injEq, Value.pointer.injEq, Value.tuple.injEq, Array.mk.injEq, List.cons.injEq, true_and, and_true, exists_eq_left', exists_eq', exists_eq, exists_and_left, exists_and_right, and_assoc, bcase_t, bcase_f, cond_true, cond_false, StC_upd, nilO_some, List.setIfInBounds_toArray, List.set_cons_zero, List.set_cons_succ, List.size_toArray, List.length_cons, List.length_nil, Nat.reduceAdd, Nat.reduceLT]
                exact no True fun e => hxy (by rw [e])
            · simp only [decide_eq_false c1, cell_upd_same, cell_upd_ne, ne_eq, not_false_eq_true, List.getElem?_toArray, List.getElem?_cons_zero, List.getElem?_cons_succ, Option.some.injEq, Value.int.injEq, Value.slice.injEq, Value.bool.injEq, Value.pointer.injEq, Value.tuple.injEq, Array.mk.injEq, List.cons.injEq, true_and, and_true, exists_eq_left', exists_eq', exists_eq, exists_and_left, exists_and_right, and_assoc, bcase_t, bcase_f, cond_true, cond_false, StC_upd, nilO_some, List.setIfInBounds_toArray, List.set_cons_zero, List.set_cons_succ, List.size_toArray, List.length_cons, List.length_nil, Nat.reduceAdd, Nat.reduceLT]
              exact same_of ho fun j hj2 => hj j (by omega)
          · rintro σ m' ⟨rfl, heq⟩
            refine vl22_111010 w0 m' _ _ b1 b3 0 (fun k i m2 => m2 = m' ∧ 0 ≤ i ∧ i ≤ a.mem.length ∧ (k : Int) = a.mem.length - i ∧ ∀ j, j < i.toNat → a.mem.getD j 0 = b.mem.getD j 0) (fun m2 => m2 = m' ∧ a.mem = b.mem) a.mem.length rfl rfl rfl ⟨rfl, by omega, by omega, by omega, by intro j hj; omega⟩ ?_ ?_
            · rintro k σ i m2 ⟨rfl, h0, h1, hk, hj⟩
              simp only [cell_of p1, cell_of p3, cell_upd_same, cell_upd_ne, ne_eq, not_false_eq_true, List.getElem?_toArray, List.getElem?_cons_zero, List.getElem?_cons_succ, Option.some.injEq, Value.int.injEq, Value.slice.injEq, Value.bool.injEq, Value.pointer.injEq, Value.tuple.injEq, Array.mk.injEq, List.cons.injEq, true_and, and_true, exists_eq_left', exists_eq', exists_eq, exists_and_left, exists_and_right, and_assoc, bcase_t, bcase_f, cond_true, cond_false, StC_upd, nilO_some, List.setIfInBounds_toArray, List.set_cons_zero, List.set_cons_succ, List.size_toArray, List.length_cons, List.length_nil, Nat.reduceAdd, Nat.reduceLT]
              by_cases c1 : i < a.mem.length
              · simp only [decide_eq_true c1, cell_upd_same, cell_upd_ne, ne_eq, not_false_eq_true, List.getElem?_toArray, List.getElem?_cons_zero, List.getElem?_cons_succ, Option.some.injEq, Value.int.injEq, Value.slice.injEq, Value.bool.injEq, Value.pointer.injEq, Value.tuple.injEq, Array.mk.injEq, List.cons.injEq, true_and, and_true, exists_eq_left', exists_eq', exists_eq, exists_and_left, exists_and_right, and_assoc, bcase_t, bcase_f, cond_true, cond_false, StC_upd, nilO_some, List.setIfInBounds_toArray, List.set_cons_zero, List.set_cons_succ, List.size_toArray, List.length_cons, List.length_nil, Nat.reduceAdd, Nat.reduceLT]
                obtain ⟨x, rfl, hx⟩ := reads ham h0 c1
                obtain ⟨y, rfl, hy⟩ := reads hbm h0 (by omega : i < b.mem.length)
                simp only [hx, hy, cell_upd_same, cell_upd_ne, ne_eq, not_false_eq_true, List.getElem?_toArray, List.getElem?_cons_zero, List.getElem?_cons_succ, Option.some.injEq, Value.int.injEq, Value.slice.injEq, Value.bool.injEq, Value.pointer.injEq, Value.tuple.injEq, Array.mk.injEq, List.cons.injEq, true_and, and_true, exists_eq_left', exists_eq', exists_eq, exists_and_left, exists_and_right, and_assoc, bcase_t, bcase_f, cond_true, cond_false, StC_upd, nilO_some, List.setIfInBounds_toArray, List.set_cons_zero, List.set_cons_succ, List.size_toArray, List.length_cons, List.length_nil, Nat.reduceAdd, Nat.reduceLT]
                refine ⟨h0, c1, h0, by omega, ?_⟩
                by_cases hxy : a.mem.getD i.toNat 0 = b.mem.getD i.toNat 0
                · have w : IntKind.wrap .i64 (i + 1) = i + 1 := by rw [IntKind.wrap_i64]; omega
                  simp only [hxy, bne_self_eq_false, cell_upd_same, cell_upd_ne, ne_eq, not_false_eq_true, List.getElem?_toArray, List.getElem?_cons_zero, List.getElem?_cons_succ, Option.some.injEq, Value.int.injEq, Value.slice.injEq, Value.bool.injEq, Value.pointer.injEq, Value.tuple.injEq, Array.mk.injEq, List.cons.injEq, true_and, and_true, exists_eq_left', exists_eq', exists_eq, exists_and_left, exists_and_right, and_assoc, bcase_t, bcase_f, cond_true, cond_false, StC_upd, nilO_some, List.setIfInBounds_toArray, List.set_cons_zero, List.set_cons_succ, List.size_toArray, List.length_cons, List.length_nil, Nat.reduceAdd, Nat.reduceLT, w]
                  refine ⟨k - 1, by omega, by omega, by omega, by omega, fun j hj2 => ?_⟩
                  by_cases e : j = i.toNat
                  · rw [e]; exact hxy
                  · exact hj j (by omega)
                · have : (a.mem.getD i.toNat 0 != b.mem.getD i.toNat 0) = true := by simpa using hxy
                  simp only [this, cell_upd_same, cell_upd_ne, ne_eq, not_false_eq_true, List.getElem?_toArray, List.getElem?_cons_zero, List.getElem?_cons_succ, Option.some.injEq, Value.int.injEq, Value.slice.injEq, Value.bool.injEq, Value.pointer.injEq, Value.tuple.injEq, Array.mk.injEq, List.cons.injEq, true_and, and_true, exists_eq_left', exists_eq', exists_eq, exists_and_left, exists_and_right, and_assoc, bcase_t, bcase_f, cond_true, cond_false, StC_upd, nilO_some, List.setIfInBounds_toArray, List.set_cons_zero, List.set_cons_succ, List.size_toArray, List.length_cons, List.length_nil, Nat.reduceAdd, Nat.reduceLT]
                  exact no True fun e => hxy (by rw [e])
              · simp only [decide_eq_false c1, cell_upd_same, cell_upd_ne, ne_eq, not_false_eq_true, List.getElem?_toArray, List.getElem?_cons_zero, List.getElem?_cons_succ, Option.some.injEq, Value.int.injEq, Value.slice.injEq, Value.bool.injEq, Value.pointer.injEq, Value.tuple.injEq, Array.mk.injEq, List.cons.injEq, true_and, and_true, exists_eq_left', exists_eq', exists_eq, exists_and_left, exists_and_right, and_assoc, bcase_t, bcase_f, cond_true, cond_false, StC_upd, nilO_some, List.setIfInBounds_toArray, List.set_cons_zero, List.set_cons_succ, List.size_toArray, List.length_cons, List.length_nil, Nat.reduceAdd, Nat.reduceLT]
                exact same_of hm fun j hj2 => hj j (by omega)
            · rintro σ m2 ⟨rfl, hmeq⟩
              refine retP_of ⟨?_, L⟩
              rw [decide_eq_true]
              cases a; cases b
              simp_all
        · have e1 : (a.trap != b.trap) = false := by simp [ht]
          have e2 : (a.steps != b.steps) = false := by simp [hs]
          have e3 : (((a.out.length : Nat) : Int) != ((b.out.length : Nat) : Int)) = false := by simp [ho]
          have e4 : (((a.mem.length : Nat) : Int) != ((b.mem.length : Nat) : Int)) = true := by simp; omega
          simp only [e1, e2, e3, e4, cell_upd_same, cell_upd_ne, ne_eq, not_false_eq_true, List.getElem?_toArray, List.getElem?_cons_zero, List.getElem?_cons_succ, Option.some.injEq, Value.int.injEq, Value.slice.injEq, Value.bool.injEq, Value.pointer.injEq, Value.tuple.injEq, Array.mk.injEq, List.cons.injEq, true_and, and_true, exists_eq_left', exists_eq', exists_eq, exists_and_left, exists_and_right, and_assoc, bcase_t, bcase_f, cond_true, cond_false, StC_upd, nilO_some, List.setIfInBounds_toArray, List.set_cons_zero, List.set_cons_succ, List.size_toArray, List.length_cons, List.length_nil, Nat.reduceAdd, Nat.reduceLT]
          exact no True fun e => hm (by rw [e])
      · have e1 : (a.trap != b.trap) = false := by simp [ht]
        have e2 : (a.steps != b.steps) = false := by simp [hs]
        have e3 : (((a.out.length : Nat) : Int) != ((b.out.length : Nat) : Int)) = true := by simp; omega
        simp only [e1, e2, e3, cell_upd_same, cell_upd_ne, ne_eq, not_false_eq_true, List.getElem?_toArray, List.getElem?_cons_zero, List.getElem?_cons_succ, Option.some.injEq, Value.int.injEq, Value.slice.injEq, Value.bool.injEq, Value.pointer.injEq, Value.tuple.injEq, Array.mk.injEq, List.cons.injEq, true_and, and_true, exists_eq_left', exists_eq', exists_eq, exists_and_left, exists_and_right, and_assoc, bcase_t, bcase_f, cond_true, cond_false, StC_upd, nilO_some, List.setIfInBounds_toArray, List.set_cons_zero, List.set_cons_succ, List.size_toArray, List.length_cons, List.length_nil, Nat.reduceAdd, Nat.reduceLT]
        exact no True fun e => ho (by rw [e])
    · have e1 : (a.trap != b.trap) = false := by simp [ht]
      have e2 : (a.steps != b.steps) = true := by simp [hs]
      simp only [e1, e2, cell_upd_same, cell_upd_ne, ne_eq, not_false_eq_true, List.getElem?_toArray, List.getElem?_cons_zero, List.getElem?_cons_succ, Option.some.injEq, Value.int.injEq, Value.slice.injEq, Value.bool.injEq, Value.pointer.injEq, Value.tuple.injEq, Array.mk.injEq, List.cons.injEq, true_and, and_true, exists_eq_left', exists_eq', exists_eq, exists_and_left, exists_and_right, and_assoc, bcase_t, bcase_f, cond_true, cond_false, StC_upd, nilO_some, List.setIfInBounds_toArray, List.set_cons_zero, List.set_cons_succ, List.size_toArray, List.length_cons, List.length_nil, Nat.reduceAdd, Nat.reduceLT]
      exact no True fun e => hs (by rw [e])
  · have e1 : (a.trap != b.trap) = true := by simp [ht]
    simp only [e1, cell_upd_same, cell_upd_ne, ne_eq, not_false_eq_true, List.getElem?_toArray, List.getElem?_cons_zero, List.getElem?_cons_succ, Option.some.injEq, Value.int.injEq, Value.slice.injEq, Value.bool.injEq, Value.pointer.injEq, Value.tuple.injEq, Array.mk.injEq, List.cons.injEq, true_and, and_true, exists_eq_left', exists_eq', exists_eq, exists_and_left, exists_and_right, and_assoc, bcase_t, bcase_f, cond_true, cond_false, StC_upd, nilO_some, List.setIfInBounds_toArray, List.set_cons_zero, List.set_cons_succ, List.size_toArray, List.length_cons, List.length_nil, Nat.reduceAdd, Nat.reduceLT]
    exact no True fun e => ht (by rw [e])
end Go.Proofs.Ytadcbnldahcelaa.S
