/- Ytadcbnldahcelaa: a text of our own, by an AI agent: MfC -/
import Derived.Test.YtadcbnldahcelaaMeC
set_option linter.unusedSimpArgs false
set_option linter.unusedVariables false
set_option maxRecDepth 100000
namespace Go.Proofs.Ytadcbnldahcelaa.S
open Go Go.RowKit Go.Alog Go.Proofs.Ytadcbnldahcelaa.T Go.Proofs.Ytadcbnldahcelaa.V

theorem int_one (l : List Int) : ∀ u ∈ intCells .i64 l, u.oneCell' = true := fun u hu => by
  obtain ⟨x, _, rfl⟩ := List.mem_map.1 hu
  rfl

theorem clone_int (w0 : World) (m : AM) (A : Option Addr) (n c : Nat) (l : List Int) (hr : Reads m 1 A n (intCells .i64 l)) (hn : n ≤ 1000000) :
    CallsA Try.prog w0 34 #[.slice A n c] m (fun r m' => m.le m' ∧ ∃ A' c', r = .slice A' n c' ∧ Own m' w0.heap.size 3 1 A' n c' (intCells .i64 l) ∧ ∀ k ∈ obl A', m k = none) := by
  refine cf34 w0 m A n c _ ?_
  cases A with
  | none =>
    obtain ⟨h1, ⟨_, rfl⟩ | ⟨ad, h, _⟩⟩ := hr
    · simp only [Option.isNone_none, cell_upd_same, cell_upd_ne, ne_eq, not_false_eq_true, List.getElem?_toArray, List.getElem?_cons_zero, List.getElem?_cons_succ, Option.some.injEq, Value.int.injEq, Value.slice.injEq, Value.bool.injEq, Value.pointer.injEq, Value.tuple.injEq, Array.mk.injEq, List.cons.injEq, true_and, and_true, exists_eq_left', exists_eq', exists_eq, exists_and_left, exists_and_right, and_assoc, bcase_t, bcase_f, cond_true, cond_false, StC_upd, nilO_some, List.setIfInBounds_toArray, List.set_cons_zero, List.set_cons_succ, List.size_toArray, List.length_cons, List.length_nil, Nat.reduceAdd, Nat.reduceLT]
      have : intCells .i64 l = [] := List.eq_nil_of_length_eq_zero (by simpa using h1)
      rw [this]
      exact retP_of ⟨AM.le_refl m, none, 0, rfl, Own.nil _ _ _ _, by simp [obl]⟩
    · cases h
  | some ad =>
    simp only [Option.isNone_some, cell_upd_same, cell_upd_ne, ne_eq, not_false_eq_true, List.getElem?_toArray, List.getElem?_cons_zero, List.getElem?_cons_succ, Option.some.injEq, Value.int.injEq, Value.slice.injEq, Value.bool.injEq, Value.pointer.injEq, Value.tuple.injEq, Array.mk.injEq, List.cons.injEq, true_and, and_true, exists_eq_left', exists_eq', exists_eq, exists_and_left, exists_and_right, and_assoc, bcase_t, bcase_f, cond_true, cond_false, StC_upd, nilO_some, List.setIfInBounds_toArray, List.set_cons_zero, List.set_cons_succ, List.size_toArray, List.length_cons, List.length_nil, Nat.reduceAdd, Nat.reduceLT]
    intro b1 hb1 hm1
    have l1 := le_new hm1 (.cells [].toArray 3)
    have hn0 : Own (m.upd b1 (.cells [].toArray 3)) w0.heap.size 3 1 (some ⟨b1, 0, none⟩) 0 0 [] := Own.new m hb1 3 1 0 [] rfl
    refine awp_append_loc (m0 := m) el23 l1 hn0 (fun k hk => by simp [obl] at hk; subst hk; exact hm1) (hr.le l1) (int_one l) (by omega) (by omega) (fun A4 c4 m4 l4 f4 o4 n4 _ => ?_)
    simp only [cell_upd_same, cell_upd_ne, ne_eq, not_false_eq_true, List.getElem?_toArray, List.getElem?_cons_zero, List.getElem?_cons_succ, Option.some.injEq, Value.int.injEq, Value.slice.injEq, Value.bool.injEq, Value.pointer.injEq, Value.tuple.injEq, Array.mk.injEq, List.cons.injEq, true_and, and_true, exists_eq_left', exists_eq', exists_eq, exists_and_left, exists_and_right, and_assoc, bcase_t, bcase_f, cond_true, cond_false, StC_upd, nilO_some, List.setIfInBounds_toArray, List.set_cons_zero, List.set_cons_succ, List.size_toArray, List.length_cons, List.length_nil, Nat.reduceAdd, Nat.reduceLT]
    rw [Nat.zero_add] at o4 ⊢
    exact retP_of ⟨l4, _, _, rfl, o4, n4⟩

/-- A list up to the last number that is not 0. -/
def usedP (l : List Int) : List Int := (l.reverse.dropWhile (· == 0)).reverse

theorem usedP_snoc0 (l : List Int) : usedP (l ++ [0]) = usedP l := by simp [usedP]
theorem usedP_snoc (l : List Int) (x : Int) (h : x ≠ 0) : usedP (l ++ [x]) = l ++ [x] := by
  have : (x == 0) = false := by simpa using h
  simp [usedP, this]

theorem Own.shrink {m : AM} {B : Nat} {e : TypeId} {A : Option Addr} {n c : Nat} {xs : List Value} (h : Own m B e 1 A n c xs) {k : Nat} (hk : k ≤ n) : Own m B e 1 A k c (xs.take k) := by
  obtain ⟨h1, h2, h3 | ⟨g, cur, h3, h4, h5, h6, h7⟩⟩ := h
  · have : k = 0 := by omega
    subst this
    exact ⟨by simp, by omega, .inl h3⟩
  · refine ⟨by simp [h1]; omega, by omega, .inr ⟨g, cur, h3, h4, h5, h6, ?_⟩⟩
    rw [← h7, List.take_take]
    congr 1
    omega

theorem words_spec (w0 : World) (m : AM) (B gm : Nat) (A : Option Addr) (l : List Int) (c : Nat) (hm : m gm = some (.cells #[.slice A l.length c] 81)) (hw : Own m B 3 1 A l.length c (intCells .i64 l)) (hl : l.length ≤ 1000000) :
    CallsA Try.prog w0 52 #[.pointer (some ⟨gm, 0, none⟩)] m (fun r m' => m.le m' ∧ ∃ A' c', r = .slice A' l.length c' ∧ Own m' w0.heap.size 3 1 A' l.length c' (intCells .i64 l) ∧ ∀ k ∈ obl A', m k = none) := by
  refine cf52 w0 m gm _ ?_
  simp only [Option.isNone_some, cell_upd_same, cell_upd_ne, ne_eq, not_false_eq_true, List.getElem?_toArray, List.getElem?_cons_zero, List.getElem?_cons_succ, Option.some.injEq, Value.int.injEq, Value.slice.injEq, Value.bool.injEq, Value.pointer.injEq, Value.tuple.injEq, Array.mk.injEq, List.cons.injEq, true_and, and_true, exists_eq_left', exists_eq', exists_eq, exists_and_left, exists_and_right, and_assoc, bcase_t, bcase_f, cond_true, cond_false, StC_upd, nilO_some, List.setIfInBounds_toArray, List.set_cons_zero, List.set_cons_succ, List.size_toArray, List.length_cons, List.length_nil, Nat.reduceAdd, Nat.reduceLT, cell_of hm]
  refine CallsA.mono (clone_int w0 m A _ c l hw.reads hl) ?_
  rintro r m2 ⟨l2, A', c', rfl, ho, hn⟩
  exact ⟨_, _, _, rfl, retP_of ⟨l2, _, _, rfl, ho, hn⟩⟩

theorem used_spec (w0 : World) (m : AM) (B gm : Nat) (A : Option Addr) (l : List Int) (c : Nat) (hm : m gm = some (.cells #[.slice A l.length c] 81)) (hw : Own m B 3 1 A l.length c (intCells .i64 l)) (hl : l.length ≤ 1000000) :
    CallsA Try.prog w0 36 #[.pointer (some ⟨gm, 0, none⟩)] m (fun r m' => m.le m' ∧ ∃ A' c', r = .slice A' (usedP l).length c' ∧ Own m' w0.heap.size 3 1 A' (usedP l).length c' (intCells .i64 (usedP l)) ∧ ∀ k ∈ obl A', m k = none) := by
  refine cf36 w0 m gm _ ?_
  refine CallsA.mono (words_spec w0 m B gm A l c hm hw hl) ?_
  rintro r m2 ⟨l2, A', c', rfl, ho, hn⟩
  refine ⟨_, _, _, rfl, ?_⟩
  refine vl36_1100 w0 m2 _ _ A' l.length c' (fun k x n c2 m3 => k = n ∧ m3 = m2 ∧ x = A' ∧ c2 = c' ∧ n ≤ l.length ∧ usedP (l.take n) = usedP l) (fun x n c2 m3 => m3 = m2 ∧ x = A' ∧ c2 = c' ∧ n ≤ l.length ∧ usedP l = l.take n) l.length rfl ⟨rfl, rfl, rfl, rfl, Nat.le_refl _, by simp⟩ ?_ ?_
  · rintro k σ x n c2 m3 ⟨hkn, rfl, rfl, rfl, hnl, hu⟩
    by_cases h0 : n = 0
    · subst h0
      simp only [show decide (((0 : Nat) : Int) > 0) = false from rfl, cell_upd_same, cell_upd_ne, ne_eq, not_false_eq_true, List.getElem?_toArray, List.getElem?_cons_zero, List.getElem?_cons_succ, Option.some.injEq, Value.int.injEq, Value.slice.injEq, Value.bool.injEq, Value.pointer.injEq, Value.tuple.injEq, Array.mk.injEq, List.cons.injEq, true_and, and_true, exists_eq_left', exists_eq', exists_eq, exists_and_left, exists_and_right, and_assoc, bcase_t, bcase_f, cond_true, cond_false, StC_upd, nilO_some, List.setIfInBounds_toArray, List.set_cons_zero, List.set_cons_succ, List.size_toArray, List.length_cons, List.length_nil, Nat.reduceAdd, Nat.reduceLT]
      refine ⟨by omega, ?_⟩
      rw [← hu]; rfl
    · have hpos : ((n : Nat) : Int) > 0 := by omega
      obtain ⟨ad, rfl, hc⟩ := ho.ex (by omega)
      have w1 : IntKind.wrap .i64 ((n : Int) - 1) = n - 1 := by rw [IntKind.wrap_i64]; omega
      have hlt : n - 1 < l.length := by omega
      have e1 : ((n : Int) - 1).toNat = n - 1 := by omega
      have hcell : m3.cell (ad.add ((n - 1) * 1)) = some (.int .i64 l[n - 1]) := by
        refine hc _ _ ?_
        simp [intCells, hlt]
      have htake : l.take n = l.take (n - 1) ++ [l[n - 1]] := by
        have := List.take_succ_eq_append_getElem hlt
        rwa [show n - 1 + 1 = n by omega] at this
      simp only [decide_eq_true hpos, cell_upd_same, cell_upd_ne, ne_eq, not_false_eq_true, List.getElem?_toArray, List.getElem?_cons_zero, List.getElem?_cons_succ, Option.some.injEq, Value.int.injEq, Value.slice.injEq, Value.bool.injEq, Value.pointer.injEq, Value.tuple.injEq, Array.mk.injEq, List.cons.injEq, true_and, and_true, exists_eq_left', exists_eq', exists_eq, exists_and_left, exists_and_right, and_assoc, bcase_t, bcase_f, cond_true, cond_false, StC_upd, nilO_some, List.setIfInBounds_toArray, List.set_cons_zero, List.set_cons_succ, List.size_toArray, List.length_cons, List.length_nil, Nat.reduceAdd, Nat.reduceLT, w1, e1, hcell]
      have hcap := ho.2.1
      by_cases hz : l[n - 1] = 0
      · simp only [hz, beq_self_eq_true, cell_upd_same, cell_upd_ne, ne_eq, not_false_eq_true, List.getElem?_toArray, List.getElem?_cons_zero, List.getElem?_cons_succ, Option.some.injEq, Value.int.injEq, Value.slice.injEq, Value.bool.injEq, Value.pointer.injEq, Value.tuple.injEq, Array.mk.injEq, List.cons.injEq, true_and, and_true, exists_eq_left', exists_eq', exists_eq, exists_and_left, exists_and_right, and_assoc, bcase_t, bcase_f, cond_true, cond_false, StC_upd, nilO_some, List.setIfInBounds_toArray, List.set_cons_zero, List.set_cons_succ, List.size_toArray, List.length_cons, List.length_nil, Nat.reduceAdd, Nat.reduceLT]
        refine ⟨by omega, by omega, by omega, by omega, by omega, n - 1, by omega, ?_⟩
        have hc0 : ¬ c2 = 0 := by omega
        simp only [if_neg hc0, Nat.sub_zero, Nat.zero_mul, Option.map_some, cell_upd_same, cell_upd_ne, ne_eq, not_false_eq_true, List.getElem?_toArray, List.getElem?_cons_zero, List.getElem?_cons_succ, Option.some.injEq, Value.int.injEq, Value.slice.injEq, Value.bool.injEq, Value.pointer.injEq, Value.tuple.injEq, Array.mk.injEq, List.cons.injEq, true_and, and_true, exists_eq_left', exists_eq', exists_eq, exists_and_left, exists_and_right, and_assoc, bcase_t, bcase_f, cond_true, cond_false, StC_upd, nilO_some, List.setIfInBounds_toArray, List.set_cons_zero, List.set_cons_succ, List.size_toArray, List.length_cons, List.length_nil, Nat.reduceAdd, Nat.reduceLT]
        refine ⟨by cases ad; rfl, by omega, ?_⟩
        rw [← hu, htake, hz, usedP_snoc0]
      · have hz2 : (l[n - 1] == 0) = false := by simpa using hz
        simp only [hz2, cell_upd_same, cell_upd_ne, ne_eq, not_false_eq_true, List.getElem?_toArray, List.getElem?_cons_zero, List.getElem?_cons_succ, Option.some.injEq, Value.int.injEq, Value.slice.injEq, Value.bool.injEq, Value.pointer.injEq, Value.tuple.injEq, Array.mk.injEq, List.cons.injEq, true_and, and_true, exists_eq_left', exists_eq', exists_eq, exists_and_left, exists_and_right, and_assoc, bcase_t, bcase_f, cond_true, cond_false, StC_upd, nilO_some, List.setIfInBounds_toArray, List.set_cons_zero, List.set_cons_succ, List.size_toArray, List.length_cons, List.length_nil, Nat.reduceAdd, Nat.reduceLT]
        refine ⟨by omega, by omega, by omega, ?_⟩
        rw [← hu, htake, usedP_snoc _ _ hz]
  · rintro σ x n c2 m3 ⟨rfl, rfl, rfl, hnl, hu⟩
    refine retP_of ⟨l2, x, c2, ?_, ?_, hn⟩
    · rw [hu, List.length_take, Nat.min_eq_left hnl]
    · have := Own.shrink ho hnl
      rw [hu, List.length_take, Nat.min_eq_left hnl]
      simpa [intCells] using this
end Go.Proofs.Ytadcbnldahcelaa.S
