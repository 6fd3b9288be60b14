/- Ytkfemiloehkmhaa: a text of our own, by an AI agent: R2sH -/
import Derived.Test.YtkfemiloehkmhaaCore10
import Derived.Test.YtkfemiloehkmhaaVR2H
set_option linter.unusedSimpArgs false
set_option linter.unusedVariables false
namespace Go.Proofs.Ytkfemiloehkmhaa.S
open Go Go.RowKit Go.Alog Go.Proofs.Ytkfemiloehkmhaa.T Go.Proofs.Ytkfemiloehkmhaa.V

def shapeT : List Int := [0, 7, 7, 7, 7, 7, 7, 7, 7, 7, 11, 9, 11, 11, 11, 11, 11, 8, 8, 1, 8]
/-- The parts of an operation. -/
def shapeR (op : Int) : Int := if op < 0 then -1 else if op > 20 then -1 else shapeT.getD op.toNat 0

theorem retP_le {m0 m : AM} {u v : Value} : RetP (fun r m' => r = v ∧ m0.le m') u m ↔ u = v ∧ ∃ m2, m2.le m ∧ m0.le m2 := by
  constructor
  · rintro ⟨m2, h1, h2, h3⟩; exact ⟨h2, m2, h1, h3⟩
  · rintro ⟨h2, m2, h1, h3⟩; exact ⟨m2, h1, h2, h3⟩

theorem shape_spec (w0 : World) (m : AM) (op : Int) : CallsA Try.prog w0 58 #[.int .i64 op] m (fun r m' => r = .int .i64 (shapeR op) ∧ m.le m') := by
  refine cf58 w0 m op _ ?_
  unfold shapeR
  by_cases h0 : op < 0
  · simp only [h0, decide_true, if_true, cell_upd_same, cell_upd_ne, ne_eq, not_false_eq_true, List.getElem?_toArray, List.getElem?_cons_zero, List.getElem?_cons_succ, Option.some.injEq, Value.int.injEq, Value.slice.injEq, Value.bool.injEq, Value.pointer.injEq, Value.tuple.injEq, Array.mk.injEq, List.cons.injEq, true_and, and_true, exists_eq_left', exists_eq', exists_eq, exists_and_left, exists_and_right, and_assoc, bcase_t, bcase_f, cond_true, cond_false, StC_upd, nilO_some, List.setIfInBounds_toArray, List.set_cons_zero, List.set_cons_succ, List.size_toArray, List.length_cons, List.length_nil, Nat.reduceAdd, Nat.reduceLT]
    exact retP_of ⟨rfl, AM.le_refl m⟩
  by_cases h1 : op > 20
  · simp only [h0, h1, decide_true, decide_false, if_true, if_false, cell_upd_same, cell_upd_ne, ne_eq, not_false_eq_true, List.getElem?_toArray, List.getElem?_cons_zero, List.getElem?_cons_succ, Option.some.injEq, Value.int.injEq, Value.slice.injEq, Value.bool.injEq, Value.pointer.injEq, Value.tuple.injEq, Array.mk.injEq, List.cons.injEq, true_and, and_true, exists_eq_left', exists_eq', exists_eq, exists_and_left, exists_and_right, and_assoc, bcase_t, bcase_f, cond_true, cond_false, StC_upd, nilO_some, List.setIfInBounds_toArray, List.set_cons_zero, List.set_cons_succ, List.size_toArray, List.length_cons, List.length_nil, Nat.reduceAdd, Nat.reduceLT]
    exact retP_of ⟨rfl, AM.le_refl m⟩
  simp only [h0, h1, decide_true, decide_false, if_true, if_false, cell_upd_same, cell_upd_ne, ne_eq, not_false_eq_true, List.getElem?_toArray, List.getElem?_cons_zero, List.getElem?_cons_succ, Option.some.injEq, Value.int.injEq, Value.slice.injEq, Value.bool.injEq, Value.pointer.injEq, Value.tuple.injEq, Array.mk.injEq, List.cons.injEq, true_and, and_true, exists_eq_left', exists_eq', exists_eq, exists_and_left, exists_and_right, and_assoc, bcase_t, bcase_f, cond_true, cond_false, StC_upd, nilO_some, List.setIfInBounds_toArray, List.set_cons_zero, List.set_cons_succ, List.size_toArray, List.length_cons, List.length_nil, Nat.reduceAdd, Nat.reduceLT]
  intro b1 hb hm
  have hl : op.toNat < shapeT.length := by simp [shapeT]; omega
  have hc : (m.upd b1 (.cells #[.int .i64 0, .int .i64 7, .int .i64 7, .int .i64 7, .int .i64 7, .int .i64 7, .int .i64 7, .int .i64 7, .int .i64 7, .int .i64 7, .int .i64 11, .int .i64 9, .int .i64 11, .int .i64 11, .int .i64 11, .int .i64 11, .int .i64 11, .int .i64 8, .int .i64 8, .int .i64 1, .int .i64 8] 3)).cell ((⟨b1, 0, none⟩ : Addr).add (op.toNat * 1)) = some (.int .i64 (shapeT.getD op.toNat 0)) := by
    rw [addn, Nat.zero_add, Nat.mul_one, cell_upd_same]
    have : ∀ k, k < 21 → (#[Value.int .i64 0, .int .i64 7, .int .i64 7, .int .i64 7, .int .i64 7, .int .i64 7, .int .i64 7, .int .i64 7, .int .i64 7, .int .i64 7, .int .i64 11, .int .i64 9, .int .i64 11, .int .i64 11, .int .i64 11, .int .i64 11, .int .i64 11, .int .i64 8, .int .i64 8, .int .i64 1, .int .i64 8] : Array Value)[k]? = some (.int .i64 (shapeT.getD k 0)) := by
      intro k hk
      have : k = 0 ∨ k = 1 ∨ k = 2 ∨ k = 3 ∨ k = 4 ∨ k = 5 ∨ k = 6 ∨ k = 7 ∨ k = 8 ∨ k = 9 ∨ k = 10 ∨ k = 11 ∨ k = 12 ∨ k = 13 ∨ k = 14 ∨ k = 15 ∨ k = 16 ∨ k = 17 ∨ k = 18 ∨ k = 19 ∨ k = 20 := by omega
      rcases this with rfl | rfl | rfl | rfl | rfl | rfl | rfl | rfl | rfl | rfl | rfl | rfl | rfl | rfl | rfl | rfl | rfl | rfl | rfl | rfl | rfl <;> rfl
    exact this _ (by omega)
  simp only [cell_upd_same, cell_upd_ne, ne_eq, not_false_eq_true, List.getElem?_toArray, List.getElem?_cons_zero, List.getElem?_cons_succ, Option.some.injEq, Value.int.injEq, Value.slice.injEq, Value.bool.injEq, Value.pointer.injEq, Value.tuple.injEq, Array.mk.injEq, List.cons.injEq, true_and, and_true, exists_eq_left', exists_eq', exists_eq, exists_and_left, exists_and_right, and_assoc, bcase_t, bcase_f, cond_true, cond_false, StC_upd, nilO_some, List.setIfInBounds_toArray, List.set_cons_zero, List.set_cons_succ, List.size_toArray, List.length_cons, List.length_nil, Nat.reduceAdd, Nat.reduceLT, hc]
  exact ⟨by omega, by omega, retP_of ⟨rfl, AM.le_upd (AM.le_refl m) hm⟩⟩

def partR (s x : Int) : Bool := !((s.tmod 2 == 0 && x != 0) || decide (x < 0) || decide (x > 31))
def rangeR (op imm : Int) : Bool :=
  if op = 14 then decide (imm ≥ 0) && decide (imm ≤ 32767)
  else if op = 17 ∨ op = 18 then decide (imm ≥ 0) && decide (imm ≤ 4096)
  else if op = 20 then decide (imm ≥ 0) && decide (imm ≤ 2)
  else decide (imm ≥ -32768) && decide (imm ≤ 32767)
/-- Is an instruction right? -/
def rightR (i : Ins) : Bool :=
  let s := shapeR i.op
  !decide (s < 0) && partR s i.a && partR (s.tdiv 2) i.b && partR ((s.tdiv 2).tdiv 2) i.c && rangeR i.op i.imm && (((s.tdiv 2).tdiv 2).tdiv 2 == 1 || i.imm == 0)

theorem shapeR_le (op : Int) : -1 ≤ shapeR op ∧ shapeR op ≤ 11 := by
  unfold shapeR
  split
  · omega
  split
  · omega
  have : ∀ k, k < 21 → -1 ≤ shapeT.getD k 0 ∧ shapeT.getD k 0 ≤ 11 := by decide
  exact this _ (by omega)

theorem right_spec (w0 : World) (m : AM) (i : Ins) : CallsA Try.prog w0 31 #[i.val] m (fun r m' => r = .bool (rightR i) ∧ m.le m') := by
  refine cf31 w0 m _ _ _ _ _ _ ?_
  intro b1 hb1 hm1
  have hle1 := AM.le_upd (AM.le_refl m) hm1 (o := .cells i.cells.toArray 24)
  simp only [cell_upd_same, cell_upd_ne, ne_eq, not_false_eq_true, List.getElem?_toArray, List.getElem?_cons_zero, List.getElem?_cons_succ, Option.some.injEq, Value.int.injEq, Value.slice.injEq, Value.bool.injEq, Value.pointer.injEq, Value.tuple.injEq, Array.mk.injEq, List.cons.injEq, true_and, and_true, exists_eq_left', exists_eq', exists_eq, exists_and_left, exists_and_right, and_assoc, bcase_t, bcase_f, cond_true, cond_false, StC_upd, nilO_some, List.setIfInBounds_toArray, List.set_cons_zero, List.set_cons_succ, List.size_toArray, List.length_cons, List.length_nil, Nat.reduceAdd, Nat.reduceLT]
  refine CallsA.mono (shape_spec w0 _ i.op) ?_
  rintro r m2 ⟨rfl, hle2⟩
  have hp : m2 b1 = some (.cells i.cells.toArray 24) := hle2 _ _ upd_get_same
  have hle := AM.le_trans hle1 hle2
  simp only [cell_upd_same, cell_upd_ne, ne_eq, not_false_eq_true, List.getElem?_toArray, List.getElem?_cons_zero, List.getElem?_cons_succ, Option.some.injEq, Value.int.injEq, Value.slice.injEq, Value.bool.injEq, Value.pointer.injEq, Value.tuple.injEq, Array.mk.injEq, List.cons.injEq, true_and, and_true, exists_eq_left', exists_eq', exists_eq, exists_and_left, exists_and_right, and_assoc, bcase_t, bcase_f, cond_true, cond_false, StC_upd, nilO_some, List.setIfInBounds_toArray, List.set_cons_zero, List.set_cons_succ, List.size_toArray, List.length_cons, List.length_nil, Nat.reduceAdd, Nat.reduceLT]
  unfold rightR
  have hs := shapeR_le i.op
  generalize shapeR i.op = s at hs
  by_cases hs0 : s < 0
  · simp only [hs0, decide_true, cell_upd_same, cell_upd_ne, ne_eq, not_false_eq_true, List.getElem?_toArray, List.getElem?_cons_zero, List.getElem?_cons_succ, Option.some.injEq, Value.int.injEq, Value.slice.injEq, Value.bool.injEq, Value.pointer.injEq, Value.tuple.injEq, Array.mk.injEq, List.cons.injEq, true_and, and_true, exists_eq_left', exists_eq', exists_eq, exists_and_left, exists_and_right, and_assoc, bcase_t, bcase_f, cond_true, cond_false, StC_upd, nilO_some, List.setIfInBounds_toArray, List.set_cons_zero, List.set_cons_succ, List.size_toArray, List.length_cons, List.length_nil, Nat.reduceAdd, Nat.reduceLT, Bool.not_true, Bool.false_and]
    exact retP_of ⟨rfl, hle⟩
  simp only [hs0, decide_false, Ins.cells, cell_upd_same, cell_upd_ne, ne_eq, not_false_eq_true, List.getElem?_toArray, List.getElem?_cons_zero, List.getElem?_cons_succ, Option.some.injEq, Value.int.injEq, Value.slice.injEq, Value.bool.injEq, Value.pointer.injEq, Value.tuple.injEq, Array.mk.injEq, List.cons.injEq, true_and, and_true, exists_eq_left', exists_eq', exists_eq, exists_and_left, exists_and_right, and_assoc, bcase_t, bcase_f, cond_true, cond_false, StC_upd, nilO_some, List.setIfInBounds_toArray, List.set_cons_zero, List.set_cons_succ, List.size_toArray, List.length_cons, List.length_nil, Nat.reduceAdd, Nat.reduceLT, cell_of hp, Bool.not_false, Bool.true_and]
  intro b2 hb2 hm2
  have hle3 := AM.le_upd hle hm2 (o := .cells #[.int .i64 i.a, .int .i64 i.b, .int .i64 i.c] 3)
  have hp2 : (m2.upd b2 (.cells #[.int .i64 i.a, .int .i64 i.b, .int .i64 i.c] 3)) b1 = some (.cells i.cells.toArray 24) := by
    rw [upd_get_ne]
    · exact hp
    · rintro rfl; rw [hm2] at hp; cases hp
  have hq2 : (m2.upd b2 (.cells #[.int .i64 i.a, .int .i64 i.b, .int .i64 i.c] 3)) b2 = some (.cells #[.int .i64 i.a, .int .i64 i.b, .int .i64 i.c] 3) := upd_get_same
  generalize m2.upd b2 (.cells #[.int .i64 i.a, .int .i64 i.b, .int .i64 i.c] 3) = m3 at hle3 hp2 hq2
  refine vl31_1111010 w0 m3 _ _ b1 (some ⟨b2, 0, none⟩) 3 3 s 0
    (fun k x3 x5 m' => m' = m3 ∧ ((k = 3 ∧ x5 = 0 ∧ x3 = s) ∨ (k = 2 ∧ x5 = 1 ∧ x3 = s.tdiv 2 ∧ partR s i.a = true) ∨ (k = 1 ∧ x5 = 2 ∧ x3 = (s.tdiv 2).tdiv 2 ∧ partR s i.a = true ∧ partR (s.tdiv 2) i.b = true) ∨ (k = 0 ∧ x5 = 3 ∧ x3 = ((s.tdiv 2).tdiv 2).tdiv 2 ∧ partR s i.a = true ∧ partR (s.tdiv 2) i.b = true ∧ partR ((s.tdiv 2).tdiv 2) i.c = true)))
    (fun x3 m' => m' = m3 ∧ x3 = ((s.tdiv 2).tdiv 2).tdiv 2 ∧ partR s i.a = true ∧ partR (s.tdiv 2) i.b = true ∧ partR ((s.tdiv 2).tdiv 2) i.c = true) 3 rfl rfl rfl rfl ⟨rfl, .inl ⟨rfl, rfl, rfl⟩⟩ ?_ ?_
  · rintro n σ x3 x5 m' ⟨rfl, h⟩
    have w2 : ∀ t : Int, 0 ≤ t → t ≤ 11 → 0 ≤ t.tdiv 2 ∧ t.tdiv 2 ≤ 11 ∧ IntKind.wrap .i64 (t.tdiv 2) = t.tdiv 2 := by
      intro t h1 h2
      rw [Int.tdiv_eq_ediv_of_nonneg h1]
      exact ⟨by omega, by omega, by rw [IntKind.wrap_i64]; omega⟩
    have q0 := w2 s (by omega) hs.2
    have q1 := w2 _ q0.1 q0.2.1
    have q2 := w2 _ q1.1 q1.2.1
    have u1 : IntKind.wrap .i64 (0 + 1) = 1 := by decide
    have u2 : IntKind.wrap .i64 (1 + 1) = 2 := by decide
    have u3 : IntKind.wrap .i64 (2 + 1) = 3 := by decide
    have fin : ∀ b, b = false → RetP (fun r m'' => r = Value.bool b ∧ m.le m'') (.bool false) m' := fun b hb => retP_of ⟨by rw [hb], hle3⟩
    rcases h with ⟨rfl, rfl, rfl⟩ | ⟨rfl, rfl, rfl, ha⟩ | ⟨rfl, rfl, rfl, ha, hb⟩ | ⟨rfl, rfl, rfl, ha, hb, hc⟩
    · simp only [addn, Nat.zero_add, Nat.mul_one, show (0 : Int).toNat = 0 from rfl, cell_of hq2, show decide ((0 : Int) < 3) = true from rfl, cell_upd_same, cell_upd_ne, ne_eq, not_false_eq_true, List.getElem?_toArray, List.getElem?_cons_zero, List.getElem?_cons_succ, Option.some.injEq, Value.int.injEq, Value.slice.injEq, Value.bool.injEq, Value.pointer.injEq, Value.tuple.injEq, Array.mk.injEq, List.cons.injEq, true_and, and_true, exists_eq_left', exists_eq', exists_eq, exists_and_left, exists_and_right, and_assoc, bcase_t, bcase_f, cond_true, cond_false, StC_upd, nilO_some, List.setIfInBounds_toArray, List.set_cons_zero, List.set_cons_succ, List.size_toArray, List.length_cons, List.length_nil, Nat.reduceAdd, Nat.reduceLT, u1, q0.2.2]
      cases h1 : (x3.tmod 2 == 0) <;> cases h2 : (i.a != 0) <;> cases h3 : decide (i.a < 0) <;> cases h4 : decide (i.a > 31) <;> simp only [cell_upd_same, cell_upd_ne, ne_eq, not_false_eq_true, List.getElem?_toArray, List.getElem?_cons_zero, List.getElem?_cons_succ, Option.some.injEq, Value.int.injEq, Value.slice.injEq, Value.bool.injEq, Value.pointer.injEq, Value.tuple.injEq, Array.mk.injEq, List.cons.injEq, true_and, and_true, exists_eq_left', exists_eq', exists_eq, exists_and_left, exists_and_right, and_assoc, bcase_t, bcase_f, cond_true, cond_false, StC_upd, nilO_some, List.setIfInBounds_toArray, List.set_cons_zero, List.set_cons_succ, List.size_toArray, List.length_cons, List.length_nil, Nat.reduceAdd, Nat.reduceLT] <;> (repeat' apply And.intro) <;>
        first
        | decide
        | exact fin _ (by simp [partR, h1, h2, h3, h4])
        | exact ⟨2, by decide, .inr (.inl ⟨rfl, by simp [partR, h1, h2, h3, h4]⟩)⟩
    · simp only [addn, Nat.zero_add, Nat.mul_one, show (1 : Int).toNat = 1 from rfl, cell_of hq2, show decide ((1 : Int) < 3) = true from rfl, cell_upd_same, cell_upd_ne, ne_eq, not_false_eq_true, List.getElem?_toArray, List.getElem?_cons_zero, List.getElem?_cons_succ, Option.some.injEq, Value.int.injEq, Value.slice.injEq, Value.bool.injEq, Value.pointer.injEq, Value.tuple.injEq, Array.mk.injEq, List.cons.injEq, true_and, and_true, exists_eq_left', exists_eq', exists_eq, exists_and_left, exists_and_right, and_assoc, bcase_t, bcase_f, cond_true, cond_false, StC_upd, nilO_some, List.setIfInBounds_toArray, List.set_cons_zero, List.set_cons_succ, List.size_toArray, List.length_cons, List.length_nil, Nat.reduceAdd, Nat.reduceLT, u2, q1.2.2, ha, Bool.true_and]
      cases h1 : ((s.tdiv 2).tmod 2 == 0) <;> cases h2 : (i.b != 0) <;> cases h3 : decide (i.b < 0) <;> cases h4 : decide (i.b > 31) <;> simp only [cell_upd_same, cell_upd_ne, ne_eq, not_false_eq_true, List.getElem?_toArray, List.getElem?_cons_zero, List.getElem?_cons_succ, Option.some.injEq, Value.int.injEq, Value.slice.injEq, Value.bool.injEq, Value.pointer.injEq, Value.tuple.injEq, Array.mk.injEq, List.cons.injEq, true_and, and_true, exists_eq_left', exists_eq', exists_eq, exists_and_left, exists_and_right, and_assoc, bcase_t, bcase_f, cond_true, cond_false, StC_upd, nilO_some, List.setIfInBounds_toArray, List.set_cons_zero, List.set_cons_succ, List.size_toArray, List.length_cons, List.length_nil, Nat.reduceAdd, Nat.reduceLT] <;> (repeat' apply And.intro) <;>
        first
        | decide
        | exact fin _ (by simp [partR, h1, h2, h3, h4])
        | exact ⟨1, by decide, .inr (.inr (.inl ⟨rfl, by simp [partR, h1, h2, h3, h4]⟩))⟩
    · simp only [addn, Nat.zero_add, Nat.mul_one, show (2 : Int).toNat = 2 from rfl, cell_of hq2, show decide ((2 : Int) < 3) = true from rfl, cell_upd_same, cell_upd_ne, ne_eq, not_false_eq_true, List.getElem?_toArray, List.getElem?_cons_zero, List.getElem?_cons_succ, Option.some.injEq, Value.int.injEq, Value.slice.injEq, Value.bool.injEq, Value.pointer.injEq, Value.tuple.injEq, Array.mk.injEq, List.cons.injEq, true_and, and_true, exists_eq_left', exists_eq', exists_eq, exists_and_left, exists_and_right, and_assoc, bcase_t, bcase_f, cond_true, cond_false, StC_upd, nilO_some, List.setIfInBounds_toArray, List.set_cons_zero, List.set_cons_succ, List.size_toArray, List.length_cons, List.length_nil, Nat.reduceAdd, Nat.reduceLT, u3, q2.2.2, ha, hb, Bool.true_and]
      cases h1 : (((s.tdiv 2).tdiv 2).tmod 2 == 0) <;> cases h2 : (i.c != 0) <;> cases h3 : decide (i.c < 0) <;> cases h4 : decide (i.c > 31) <;> simp only [cell_upd_same, cell_upd_ne, ne_eq, not_false_eq_true, List.getElem?_toArray, List.getElem?_cons_zero, List.getElem?_cons_succ, Option.some.injEq, Value.int.injEq, Value.slice.injEq, Value.bool.injEq, Value.pointer.injEq, Value.tuple.injEq, Array.mk.injEq, List.cons.injEq, true_and, and_true, exists_eq_left', exists_eq', exists_eq, exists_and_left, exists_and_right, and_assoc, bcase_t, bcase_f, cond_true, cond_false, StC_upd, nilO_some, List.setIfInBounds_toArray, List.set_cons_zero, List.set_cons_succ, List.size_toArray, List.length_cons, List.length_nil, Nat.reduceAdd, Nat.reduceLT] <;> (repeat' apply And.intro) <;>
        first
        | decide
        | exact fin _ (by simp [partR, h1, h2, h3, h4])
        | exact ⟨0, by decide, .inr (.inr (.inr ⟨rfl, by simp [partR, h1, h2, h3, h4]⟩))⟩
    · simp only [show decide ((3 : Int) < 3) = false from rfl, cell_upd_same, cell_upd_ne, ne_eq, not_false_eq_true, List.getElem?_toArray, List.getElem?_cons_zero, List.getElem?_cons_succ, Option.some.injEq, Value.int.injEq, Value.slice.injEq, Value.bool.injEq, Value.pointer.injEq, Value.tuple.injEq, Array.mk.injEq, List.cons.injEq, true_and, and_true, exists_eq_left', exists_eq', exists_eq, exists_and_left, exists_and_right, and_assoc, bcase_t, bcase_f, cond_true, cond_false, StC_upd, nilO_some, List.setIfInBounds_toArray, List.set_cons_zero, List.set_cons_succ, List.size_toArray, List.length_cons, List.length_nil, Nat.reduceAdd, Nat.reduceLT]
      exact ⟨ha, hb, hc⟩
  · rintro σ x3 m' ⟨rfl, rfl, ha, hb, hc⟩
    simp only [ha, hb, hc, Bool.true_and, cell_of hp2, Ins.cells, cell_upd_same, cell_upd_ne, ne_eq, not_false_eq_true, List.getElem?_toArray, List.getElem?_cons_zero, List.getElem?_cons_succ, Option.some.injEq, Value.int.injEq, Value.slice.injEq, Value.bool.injEq, Value.pointer.injEq, Value.tuple.injEq, Array.mk.injEq, List.cons.injEq, true_and, and_true, exists_eq_left', exists_eq', exists_eq, exists_and_left, exists_and_right, and_assoc, bcase_t, bcase_f, cond_true, cond_false, StC_upd, nilO_some, List.setIfInBounds_toArray, List.set_cons_zero, List.set_cons_succ, List.size_toArray, List.length_cons, List.length_nil, Nat.reduceAdd, Nat.reduceLT]
    generalize ((s.tdiv 2).tdiv 2).tdiv 2 = t
    have fin : ∀ b c, b = c → RetP (fun r m'' => r = Value.bool c ∧ m.le m'') (.bool b) m' := fun b c hb => retP_of ⟨by rw [hb], hle3⟩
    have e0 : ∀ k : Int, (i.op == k) = decide (i.op = k) := fun k => rfl
    simp only [e0]
    have key : ∀ a b : Int, bcase (decide (i.imm ≥ a)) (bcase (bif decide (i.imm ≥ a) then decide (i.imm ≤ b) else false) (bcase (t == 1) ((t == 1) = true ∧ RetP (fun r m'' => r = Value.bool ((decide (i.imm ≥ a) && decide (i.imm ≤ b)) && (t == 1 || i.imm == 0)) ∧ m.le m'') (.bool (bif bif decide (i.imm ≥ a) then decide (i.imm ≤ b) else false then true else false)) m') (RetP (fun r m'' => r = Value.bool ((decide (i.imm ≥ a) && decide (i.imm ≤ b)) && (t == 1 || i.imm == 0)) ∧ m.le m'') (.bool (bif bif decide (i.imm ≥ a) then decide (i.imm ≤ b) else false then bif t == 1 then true else i.imm == 0 else false)) m')) ((bif decide (i.imm ≥ a) then decide (i.imm ≤ b) else false) = false ∧ RetP (fun r m'' => r = Value.bool ((decide (i.imm ≥ a) && decide (i.imm ≤ b)) && (t == 1 || i.imm == 0)) ∧ m.le m'') (.bool false) m')) ((decide (i.imm ≥ a)) = false ∧ RetP (fun r m'' => r = Value.bool ((decide (i.imm ≥ a) && decide (i.imm ≤ b)) && (t == 1 || i.imm == 0)) ∧ m.le m'') (.bool false) m') := by
      intro a b
      cases decide (i.imm ≥ a) <;> cases decide (i.imm ≤ b) <;> cases h1 : (t == 1) <;> cases h2 : (i.imm == 0) <;> simp only [cell_upd_same, cell_upd_ne, ne_eq, not_false_eq_true, List.getElem?_toArray, List.getElem?_cons_zero, List.getElem?_cons_succ, Option.some.injEq, Value.int.injEq, Value.slice.injEq, Value.bool.injEq, Value.pointer.injEq, Value.tuple.injEq, Array.mk.injEq, List.cons.injEq, true_and, and_true, exists_eq_left', exists_eq', exists_eq, exists_and_left, exists_and_right, and_assoc, bcase_t, bcase_f, cond_true, cond_false, StC_upd, nilO_some, List.setIfInBounds_toArray, List.set_cons_zero, List.set_cons_succ, List.size_toArray, List.length_cons, List.length_nil, Nat.reduceAdd, Nat.reduceLT] <;> exact fin _ _ rfl
    unfold rangeR
    by_cases o14 : i.op = 14
    · simp only [o14, if_true, if_false, decide_true, decide_false, Int.reduceEq, cell_upd_same, cell_upd_ne, ne_eq, not_false_eq_true, List.getElem?_toArray, List.getElem?_cons_zero, List.getElem?_cons_succ, Option.some.injEq, Value.int.injEq, Value.slice.injEq, Value.bool.injEq, Value.pointer.injEq, Value.tuple.injEq, Array.mk.injEq, List.cons.injEq, true_and, and_true, exists_eq_left', exists_eq', exists_eq, exists_and_left, exists_and_right, and_assoc, bcase_t, bcase_f, cond_true, cond_false, StC_upd, nilO_some, List.setIfInBounds_toArray, List.set_cons_zero, List.set_cons_succ, List.size_toArray, List.length_cons, List.length_nil, Nat.reduceAdd, Nat.reduceLT]
      exact key 0 32767
    by_cases o17 : i.op = 17
    · simp only [o17, if_true, if_false, decide_true, decide_false, Int.reduceEq, true_or, cell_upd_same, cell_upd_ne, ne_eq, not_false_eq_true, List.getElem?_toArray, List.getElem?_cons_zero, List.getElem?_cons_succ, Option.some.injEq, Value.int.injEq, Value.slice.injEq, Value.bool.injEq, Value.pointer.injEq, Value.tuple.injEq, Array.mk.injEq, List.cons.injEq, true_and, and_true, exists_eq_left', exists_eq', exists_eq, exists_and_left, exists_and_right, and_assoc, bcase_t, bcase_f, cond_true, cond_false, StC_upd, nilO_some, List.setIfInBounds_toArray, List.set_cons_zero, List.set_cons_succ, List.size_toArray, List.length_cons, List.length_nil, Nat.reduceAdd, Nat.reduceLT]
      exact key 0 4096
    by_cases o18 : i.op = 18
    · simp only [o18, if_true, if_false, decide_true, decide_false, Int.reduceEq, or_true, cell_upd_same, cell_upd_ne, ne_eq, not_false_eq_true, List.getElem?_toArray, List.getElem?_cons_zero, List.getElem?_cons_succ, Option.some.injEq, Value.int.injEq, Value.slice.injEq, Value.bool.injEq, Value.pointer.injEq, Value.tuple.injEq, Array.mk.injEq, List.cons.injEq, true_and, and_true, exists_eq_left', exists_eq', exists_eq, exists_and_left, exists_and_right, and_assoc, bcase_t, bcase_f, cond_true, cond_false, StC_upd, nilO_some, List.setIfInBounds_toArray, List.set_cons_zero, List.set_cons_succ, List.size_toArray, List.length_cons, List.length_nil, Nat.reduceAdd, Nat.reduceLT]
      exact key 0 4096
    by_cases o20 : i.op = 20
    · simp only [o20, if_true, if_false, decide_true, decide_false, Int.reduceEq, or_false, cell_upd_same, cell_upd_ne, ne_eq, not_false_eq_true, List.getElem?_toArray, List.getElem?_cons_zero, List.getElem?_cons_succ, Option.some.injEq, Value.int.injEq, Value.slice.injEq, Value.bool.injEq, Value.pointer.injEq, Value.tuple.injEq, Array.mk.injEq, List.cons.injEq, true_and, and_true, exists_eq_left', exists_eq', exists_eq, exists_and_left, exists_and_right, and_assoc, bcase_t, bcase_f, cond_true, cond_false, StC_upd, nilO_some, List.setIfInBounds_toArray, List.set_cons_zero, List.set_cons_succ, List.size_toArray, List.length_cons, List.length_nil, Nat.reduceAdd, Nat.reduceLT]
      exact key 0 2
    simp only [o14, o17, o18, o20, if_true, if_false, decide_true, decide_false, Int.reduceEq, or_false, cell_upd_same, cell_upd_ne, ne_eq, not_false_eq_true, List.getElem?_toArray, List.getElem?_cons_zero, List.getElem?_cons_succ, Option.some.injEq, Value.int.injEq, Value.slice.injEq, Value.bool.injEq, Value.pointer.injEq, Value.tuple.injEq, Array.mk.injEq, List.cons.injEq, true_and, and_true, exists_eq_left', exists_eq', exists_eq, exists_and_left, exists_and_right, and_assoc, bcase_t, bcase_f, cond_true, cond_false, StC_upd, nilO_some, List.setIfInBounds_toArray, List.set_cons_zero, List.set_cons_succ, List.size_toArray, List.length_cons, List.length_nil, Nat.reduceAdd, Nat.reduceLT]
    exact key (-32768) 32767
end Go.Proofs.Ytkfemiloehkmhaa.S
