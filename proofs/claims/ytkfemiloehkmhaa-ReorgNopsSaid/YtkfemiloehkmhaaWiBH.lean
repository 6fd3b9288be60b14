/- Ytkfemiloehkmhaa: a text of our own, by an AI agent: WiBH -/
import Derived.Test.YtkfemiloehkmhaaCoreC
import Derived.Test.YtkfemiloehkmhaaVWord3H
import Derived.Test.YtkfemiloehkmhaaVR2H
import Derived.Test.YtkfemiloehkmhaaVIsaH
set_option linter.unusedSimpArgs false
set_option linter.unusedVariables false
namespace Go.Proofs.Ytkfemiloehkmhaa.S
open Go Go.RowKit Go.Alog Go.Proofs.Ytkfemiloehkmhaa.T Go.Proofs.Ytkfemiloehkmhaa.V

theorem fitsW (w0 : World) (m : AM) (n : Int) : CallsA Try.prog w0 94 #[.int .i64 n, .int .i64 16] m (fun r m' => r = .bool (decide (-32768 ≤ n ∧ n ≤ 32767)) ∧ m' = m) := by
  refine cf94 w0 m n 16 _ ?_
  have e1 : (IntKind.wrap .i64 (1 * 2 ^ (min ((IntKind.wrap .i64 (16 - 1)) : Int).toNat (IntKind.bits .i64)))) = 32768 := by decide
  have e2 : (IntKind.wrap .i64 (0 - 32768)) = -32768 := by decide
  simp only [e1, e2, show decide ((16 : Int) < 1) = false from rfl, show decide ((16 : Int) > 62) = false from rfl, show ((0 : Int) ≤ (IntKind.wrap .i64 (16 - 1))) = True from by simp [IntKind.wrap_i64], cell_upd_same, cell_upd_ne, ne_eq, not_false_eq_true, List.getElem?_toArray, List.getElem?_cons_zero, List.getElem?_cons_succ, Option.some.injEq, Value.int.injEq, Value.slice.injEq, Value.bool.injEq, Value.pointer.injEq, Value.tuple.injEq, Array.mk.injEq, List.cons.injEq, true_and, and_true, exists_eq_left', exists_eq', exists_eq, exists_and_left, exists_and_right, and_assoc, bcase_t, bcase_f, cond_true, cond_false, StC_upd, nilO_some, List.setIfInBounds_toArray, List.set_cons_zero, List.set_cons_succ, List.size_toArray, List.length_cons, List.length_nil, Nat.reduceAdd, Nat.reduceLT]
  by_cases h : n ≥ -32768
  · simp only [h, decide_true, cell_upd_same, cell_upd_ne, ne_eq, not_false_eq_true, List.getElem?_toArray, List.getElem?_cons_zero, List.getElem?_cons_succ, Option.some.injEq, Value.int.injEq, Value.slice.injEq, Value.bool.injEq, Value.pointer.injEq, Value.tuple.injEq, Array.mk.injEq, List.cons.injEq, true_and, and_true, exists_eq_left', exists_eq', exists_eq, exists_and_left, exists_and_right, and_assoc, bcase_t, bcase_f, cond_true, cond_false, StC_upd, nilO_some, List.setIfInBounds_toArray, List.set_cons_zero, List.set_cons_succ, List.size_toArray, List.length_cons, List.length_nil, Nat.reduceAdd, Nat.reduceLT]
    refine retP_of ⟨?_, rfl⟩
    by_cases h2 : n < 32768 <;> simp [h2] <;> omega
  · simp only [h, decide_false, cell_upd_same, cell_upd_ne, ne_eq, not_false_eq_true, List.getElem?_toArray, List.getElem?_cons_zero, List.getElem?_cons_succ, Option.some.injEq, Value.int.injEq, Value.slice.injEq, Value.bool.injEq, Value.pointer.injEq, Value.tuple.injEq, Array.mk.injEq, List.cons.injEq, true_and, and_true, exists_eq_left', exists_eq', exists_eq, exists_and_left, exists_and_right, and_assoc, bcase_t, bcase_f, cond_true, cond_false, StC_upd, nilO_some, List.setIfInBounds_toArray, List.set_cons_zero, List.set_cons_succ, List.size_toArray, List.length_cons, List.length_nil, Nat.reduceAdd, Nat.reduceLT]
    refine retP_of ⟨?_, rfl⟩
    simp

end Go.Proofs.Ytkfemiloehkmhaa.S

set_option linter.unusedSimpArgs false
set_option linter.unusedVariables false
namespace Go.Proofs.Ytkfemiloehkmhaa.S
open Go Go.RowKit Go.Alog Go.Proofs.Ytkfemiloehkmhaa.T Go.Proofs.Ytkfemiloehkmhaa.V

def shapeT : List Int := [0, 7, 7, 7, 7, 7, 7, 7, 7, 7, 11, 9, 11, 11, 11, 11, 11, 8, 8, 1, 8]
/-- The parts of an operation. -/
def shapeR (op : Int) : Int := if op < 0 then -1 else if op > 20 then -1 else shapeT.getD op.toNat 0

def partR (s x : Int) : Bool := !((s.tmod 2 == 0 && x != 0) || decide (x < 0) || decide (x > 31))
def rangeR (op imm : Int) : Bool :=
  if op = 14 then decide (imm ≥ 0) && decide (imm ≤ 32767)
  else if op = 17 ∨ op = 18 then decide (imm ≥ 0) && decide (imm ≤ 4096)
  else if op = 20 then decide (imm ≥ 0) && decide (imm ≤ 2)
  else decide (imm ≥ -32768) && decide (imm ≤ 32767)
/-- Is an instruction right? -/
def rightR (i : Ins) : Bool :=
  let s := shapeR i.op
  !decide (s < 0) && partR s i.a && partR (s.tdiv 2) i.b && partR ((s.tdiv 2).tdiv 2) i.c && rangeR i.op i.imm && (((s.tdiv 2).tdiv 2).tdiv 2 == 1 || i.imm == 0)

end Go.Proofs.Ytkfemiloehkmhaa.S

set_option linter.unusedSimpArgs false
set_option linter.unusedVariables false
set_option maxRecDepth 100000
namespace Go.Proofs.Ytkfemiloehkmhaa.S
open Go Go.RowKit Go.Alog Go.Proofs.Ytkfemiloehkmhaa.T Go.Proofs.Ytkfemiloehkmhaa.V

def pA (op : Int) : Bool := decide (1 ≤ op ∧ op ≤ 16) || decide (op = 19)
def pB (op : Int) : Bool := decide (1 ≤ op ∧ op ≤ 10) || decide (12 ≤ op ∧ op ≤ 16)
def pC (op : Int) : Bool := decide (1 ≤ op ∧ op ≤ 9)
def pI (op : Int) : Bool := decide (10 ≤ op ∧ op ≤ 18) || decide (op = 20)
def pOk (op : Int) : Bool := decide (0 ≤ op ∧ op ≤ 20)

abbrev ofR (m : AM) (op : Int) (r : Value) (m' : AM) : Prop := r = .tuple #[.agg #[.bool (pA op), .bool (pB op), .bool (pC op), .bool (pI op)], .bool (pOk op)] ∧ m.le m'

theorem of_fin (w0 : World) {m m2 : AM} {b : Nat} {c : Array Value} {t : TypeId} (hb : w0.heap.size ≤ b) (n : m b = none) (h : m2 b = some (.cells c t)) (hc : c.size = 4) (l : m.le m2) (op : Int) (x y z u o : Bool) (hx : x = pA op) (hy : y = pB op) (hz : z = pC op) (hu : u = pI op) (ho : o = pOk op) :
    StC w0.heap.size m2 ⟨b, 0, none⟩ (.bool x) fun m3 => StC w0.heap.size m3 ⟨b, 1, none⟩ (.bool y) fun m4 => StC w0.heap.size m4 ⟨b, 2, none⟩ (.bool z) fun m5 => StC w0.heap.size m5 ⟨b, 3, none⟩ (.bool u) fun m6 =>
      ∃ t7 : Bool, m6.cell ⟨b, 0, none⟩ = some (.bool t7) ∧ ∃ t8 : Bool, m6.cell ⟨b, 1, none⟩ = some (.bool t8) ∧ ∃ t9 : Bool, m6.cell ⟨b, 2, none⟩ = some (.bool t9) ∧ ∃ t10 : Bool, m6.cell ⟨b, 3, none⟩ = some (.bool t10) ∧ RetP (ofR m op) (.tuple #[.agg #[.bool t7, .bool t8, .bool t9, .bool t10], .bool o]) m6 := by
  obtain ⟨c0, c1, c2, c3, rfl⟩ : ∃ c0 c1 c2 c3, c = #[c0, c1, c2, c3] := by
    match c, hc with
    | ⟨[c0, c1, c2, c3]⟩, _ => exact ⟨c0, c1, c2, c3, rfl⟩
  refine StC_own h hb (by simp) ?_
  simp only [cell_upd_same, cell_upd_ne, ne_eq, not_false_eq_true, List.getElem?_toArray, List.getElem?_cons_zero, List.getElem?_cons_succ, Option.some.injEq, Value.int.injEq, Value.slice.injEq, Value.bool.injEq, Value.pointer.injEq, Value.tuple.injEq, Array.mk.injEq, List.cons.injEq, true_and, and_true, exists_eq_left', exists_eq', exists_eq, exists_and_left, exists_and_right, and_assoc, bcase_t, bcase_f, cond_true, cond_false, StC_upd, nilO_some, List.setIfInBounds_toArray, List.set_cons_zero, List.set_cons_succ, List.size_toArray, List.length_cons, List.length_nil, Nat.reduceAdd, Nat.reduceLT, hb]
  refine retP_of ⟨by rw [hx, hy, hz, hu, ho], fun k o hk => ?_⟩
  rw [upd_get]
  by_cases e : k = b
  · subst e; rw [n] at hk; cases hk
  · rw [if_neg e]; exact l _ _ hk

theorem of_spec (w0 : World) (m : AM) (op : Int) : CallsA Try.prog w0 76 #[.int .i64 op] m (ofR m op) := by
  refine cf76 w0 m op _ ?_
  intro b hb hm M
  have l0 : m.le M := le_new hm _
  have p0 : M b = some (.cells #[.bool false, .bool false, .bool false, .bool false] 81) := upd_get_same
  clear_value M
  have e0 : ∀ k : Int, (op == k) = decide (op = k) := fun k => rfl
  have fin := fun x y z u o hx hy hz hu ho => of_fin w0 (m := m) (m2 := M) hb hm p0 rfl l0 op x y z u o hx hy hz hu ho
  have k11 : ∀ (σ : Sg), σ 2 = .pointer (some ⟨b, 0, none⟩) → pOk op = false → pA op = false → pB op = false → pC op = false → pI op = false →
      vcS Try.prog w0 qs76 (sub c76 [1, 1]) σ M (retQ Try.prog Try.f76 (ofR m op)) := by
    intro σ h2 ho ha hb' hc hi
    refine vk76_11 w0 M σ _ b h2 ?_
    exact ⟨rfl, fin _ _ _ _ _ ha.symm hb'.symm hc.symm hi.symm ho.symm⟩
  have k3 : ∀ (σ : Sg) (x : Bool), σ 2 = .pointer (some ⟨b, 0, none⟩) → σ 4 = .int .i64 op → σ 30 = .bool x → x = decide (op = 17 ∨ op = 18 ∨ op = 20) → ¬ (0 ≤ op ∧ op ≤ 16) →
      vcS Try.prog w0 qs76 (sub c76 [1, 0, 1, 0, 1, 1, 1, 1, 1, 1, 1, 1, 1]) σ M (blockS 0 (thenS (fun σ' m' => vcS Try.prog w0 qs76 (sub c76 [1, 1]) σ' m' (retQ Try.prog Try.f76 (ofR m op))) (retQ Try.prog Try.f76 (ofR m op)))) := by
    intro σ x h2 h4 h30 hx hn
    refine vk76_1010111111111 w0 M σ _ b op x h2 h4 h30 ?_
    by_cases hc : op = 17 ∨ op = 18 ∨ op = 20
    · rw [hx, decide_eq_true hc, bcase_t]
      refine ⟨rfl, fin _ _ _ _ _ ?_ ?_ ?_ ?_ ?_⟩ <;> simp only [pA, pB, pC, pI, pOk] <;> (rcases hc with rfl | rfl | rfl <;> rfl)
    · rw [hx, decide_eq_false hc, bcase_f]
      simp only [e0]
      by_cases c19 : op = 19
      · subst c19
        simp only [decide_true, bcase_t]
        exact ⟨trivial, trivial, fin _ _ _ _ _ rfl rfl rfl rfl rfl⟩
      · simp only [decide_eq_false c19, bcase_f]
        refine ⟨trivial, k11 _ rfl ?_ ?_ ?_ ?_ ?_⟩ <;> simp [pA, pB, pC, pI, pOk] <;> omega
  have k2 : ∀ (σ : Sg) (x : Bool), σ 2 = .pointer (some ⟨b, 0, none⟩) → σ 4 = .int .i64 op → σ 19 = .bool x → x = decide (op = 10 ∨ (12 ≤ op ∧ op ≤ 16)) → ¬ (0 ≤ op ∧ op ≤ 9) →
      vcS Try.prog w0 qs76 (sub c76 [1, 0, 1, 0, 1, 1, 1, 1, 1]) σ M (blockS 0 (thenS (fun σ' m' => vcS Try.prog w0 qs76 (sub c76 [1, 1]) σ' m' (retQ Try.prog Try.f76 (ofR m op))) (retQ Try.prog Try.f76 (ofR m op)))) := by
    intro σ x h2 h4 h19 hx hn
    refine vk76_101011111 w0 M σ _ b op x h2 h4 h19 ?_
    by_cases hc : op = 10 ∨ (12 ≤ op ∧ op ≤ 16)
    · rw [hx, decide_eq_true hc, bcase_t]
      have h1 : pA op = true := by simp [pA]; omega
      have h2 : pB op = true := by simp [pB]; omega
      have h3 : pC op = false := by simp [pC]; omega
      have h4 : pI op = true := by simp [pI]; omega
      have h5 : pOk op = true := by simp [pOk]; omega
      exact ⟨rfl, fin _ _ _ _ _ h1.symm h2.symm h3.symm h4.symm h5.symm⟩
    · rw [hx, decide_eq_false hc, bcase_f]
      simp only [e0]
      by_cases c11 : op = 11
      · subst c11
        simp only [decide_true, bcase_t]
        exact ⟨trivial, trivial, fin _ _ _ _ _ rfl rfl rfl rfl rfl⟩
      · simp only [decide_eq_false c11, bcase_f]
        by_cases c17 : op = 17
        · simp only [decide_eq_true c17, bcase_t]
          exact ⟨trivial, trivial, k3 _ _ rfl rfl rfl (by subst c17; rfl) (by omega)⟩
        simp only [decide_eq_false c17, bcase_f]
        by_cases c18 : op = 18
        · simp only [decide_eq_true c18, bcase_t]
          exact ⟨trivial, trivial, trivial, k3 _ _ rfl rfl rfl (by subst c18; rfl) (by omega)⟩
        simp only [decide_eq_false c18, bcase_f]
        exact ⟨trivial, trivial, trivial, trivial, k3 _ _ rfl rfl rfl (by simp [c17, c18]) (by omega)⟩
  have k1 : ∀ (σ : Sg) (x : Bool), σ 2 = .pointer (some ⟨b, 0, none⟩) → σ 4 = .int .i64 op → σ 8 = .bool x → x = decide (1 ≤ op ∧ op ≤ 9) → op ≠ 0 →
      vcS Try.prog w0 qs76 (sub c76 [1, 0, 1, 0, 1, 1, 1]) σ M (blockS 0 (thenS (fun σ' m' => vcS Try.prog w0 qs76 (sub c76 [1, 1]) σ' m' (retQ Try.prog Try.f76 (ofR m op))) (retQ Try.prog Try.f76 (ofR m op)))) := by
    intro σ x h2 h4 h8 hx hn
    refine vk76_1010111 w0 M σ _ b op x h2 h4 h8 ?_
    by_cases hc : 1 ≤ op ∧ op ≤ 9
    · rw [hx, decide_eq_true hc, bcase_t]
      have h1 : pA op = true := by simp [pA]; omega
      have h2 : pB op = true := by simp [pB]; omega
      have h3 : pC op = true := by simp [pC]; omega
      have h4 : pI op = false := by simp [pI]; omega
      have h5 : pOk op = true := by simp [pOk]; omega
      exact ⟨rfl, fin _ _ _ _ _ h1.symm h2.symm h3.symm h4.symm h5.symm⟩
    · rw [hx, decide_eq_false hc, bcase_f]
      simp only [e0]
      refine ⟨trivial, ?_⟩
      by_cases c10 : op = 10
      · simp only [decide_eq_true c10, bcase_t]
        exact k2 _ _ rfl rfl rfl (by subst c10; rfl) (by omega)
      simp only [decide_eq_false c10, bcase_f]
      refine ⟨trivial, ?_⟩
      by_cases c12 : op = 12
      · simp only [decide_eq_true c12, bcase_t]
        exact k2 _ _ rfl rfl rfl (by subst c12; rfl) (by omega)
      simp only [decide_eq_false c12, bcase_f]
      refine ⟨trivial, ?_⟩
      by_cases c13 : op = 13
      · simp only [decide_eq_true c13, bcase_t]
        exact k2 _ _ rfl rfl rfl (by subst c13; rfl) (by omega)
      simp only [decide_eq_false c13, bcase_f]
      refine ⟨trivial, ?_⟩
      by_cases c15 : op = 15
      · simp only [decide_eq_true c15, bcase_t]
        exact k2 _ _ rfl rfl rfl (by subst c15; rfl) (by omega)
      simp only [decide_eq_false c15, bcase_f]
      refine ⟨trivial, ?_⟩
      by_cases c16 : op = 16
      · simp only [decide_eq_true c16, bcase_t]
        exact k2 _ _ rfl rfl rfl (by subst c16; rfl) (by omega)
      simp only [decide_eq_false c16, bcase_f]
      refine ⟨trivial, k2 _ _ rfl rfl rfl ?_ (by omega)⟩
      show decide (op = 14) = _
      congr 1
      apply propext
      omega
  simp only [e0]
  refine ⟨trivial, ?_⟩
  by_cases c0 : op = 0
  · simp only [decide_eq_true c0, bcase_t]
    subst c0
    exact ⟨trivial, fin _ _ _ _ _ rfl rfl rfl rfl rfl⟩
  simp only [decide_eq_false c0, bcase_f]
  refine ⟨trivial, ?_⟩
  by_cases c1 : op = 1
  · simp only [decide_eq_true c1, bcase_t]
    exact k1 _ _ rfl rfl rfl (by subst c1; rfl) (by omega)
  simp only [decide_eq_false c1, bcase_f]
  refine ⟨trivial, ?_⟩
  by_cases c2 : op = 2
  · simp only [decide_eq_true c2, bcase_t]
    exact k1 _ _ rfl rfl rfl (by subst c2; rfl) (by omega)
  simp only [decide_eq_false c2, bcase_f]
  refine ⟨trivial, ?_⟩
  by_cases c3 : op = 3
  · simp only [decide_eq_true c3, bcase_t]
    exact k1 _ _ rfl rfl rfl (by subst c3; rfl) (by omega)
  simp only [decide_eq_false c3, bcase_f]
  refine ⟨trivial, ?_⟩
  by_cases c4 : op = 4
  · simp only [decide_eq_true c4, bcase_t]
    exact k1 _ _ rfl rfl rfl (by subst c4; rfl) (by omega)
  simp only [decide_eq_false c4, bcase_f]
  refine ⟨trivial, ?_⟩
  by_cases c5 : op = 5
  · simp only [decide_eq_true c5, bcase_t]
    exact k1 _ _ rfl rfl rfl (by subst c5; rfl) (by omega)
  simp only [decide_eq_false c5, bcase_f]
  refine ⟨trivial, ?_⟩
  by_cases c6 : op = 6
  · simp only [decide_eq_true c6, bcase_t]
    exact k1 _ _ rfl rfl rfl (by subst c6; rfl) (by omega)
  simp only [decide_eq_false c6, bcase_f]
  refine ⟨trivial, ?_⟩
  by_cases c7 : op = 7
  · simp only [decide_eq_true c7, bcase_t]
    exact k1 _ _ rfl rfl rfl (by subst c7; rfl) (by omega)
  simp only [decide_eq_false c7, bcase_f]
  refine ⟨trivial, ?_⟩
  by_cases c8 : op = 8
  · simp only [decide_eq_true c8, bcase_t]
    exact k1 _ _ rfl rfl rfl (by subst c8; rfl) (by omega)
  simp only [decide_eq_false c8, bcase_f]
  refine ⟨trivial, k1 _ _ rfl rfl rfl ?_ (by omega)⟩
  show decide (op = 9) = _
  congr 1
  apply propext
  omega

def regI (n : Int) (had : Bool) : Bool := decide (n = 0 ∨ (had = true ∧ 0 < n ∧ n < 32))
theorem reg_spec (w0 : World) (m : AM) (n : Int) (had : Bool) : CallsA Try.prog w0 77 #[.int .i64 n, .bool had] m (fun r m' => r = .bool (regI n had) ∧ m' = m) := by
  refine cf77 w0 m n had _ ?_
  have e0 : (n == 0) = decide (n = 0) := rfl
  unfold regI
  by_cases h0 : n = 0
  · subst h0; simp only [decide_true, beq_self_eq_true, bcase_t, cell_upd_same, cell_upd_ne, ne_eq, not_false_eq_true, List.getElem?_toArray, List.getElem?_cons_zero, List.getElem?_cons_succ, Option.some.injEq, Value.int.injEq, Value.slice.injEq, Value.bool.injEq, Value.pointer.injEq, Value.tuple.injEq, Array.mk.injEq, List.cons.injEq, true_and, and_true, exists_eq_left', exists_eq', exists_eq, exists_and_left, exists_and_right, and_assoc, bcase_t, bcase_f, cond_true, cond_false, StC_upd, nilO_some, List.setIfInBounds_toArray, List.set_cons_zero, List.set_cons_succ, List.size_toArray, List.length_cons, List.length_nil, Nat.reduceAdd, Nat.reduceLT]
    exact retP_of ⟨by simp, rfl⟩
  simp only [e0, decide_eq_false h0, cell_upd_same, cell_upd_ne, ne_eq, not_false_eq_true, List.getElem?_toArray, List.getElem?_cons_zero, List.getElem?_cons_succ, Option.some.injEq, Value.int.injEq, Value.slice.injEq, Value.bool.injEq, Value.pointer.injEq, Value.tuple.injEq, Array.mk.injEq, List.cons.injEq, true_and, and_true, exists_eq_left', exists_eq', exists_eq, exists_and_left, exists_and_right, and_assoc, bcase_t, bcase_f, cond_true, cond_false, StC_upd, nilO_some, List.setIfInBounds_toArray, List.set_cons_zero, List.set_cons_succ, List.size_toArray, List.length_cons, List.length_nil, Nat.reduceAdd, Nat.reduceLT]
  cases had
  · simp only [cell_upd_same, cell_upd_ne, ne_eq, not_false_eq_true, List.getElem?_toArray, List.getElem?_cons_zero, List.getElem?_cons_succ, Option.some.injEq, Value.int.injEq, Value.slice.injEq, Value.bool.injEq, Value.pointer.injEq, Value.tuple.injEq, Array.mk.injEq, List.cons.injEq, true_and, and_true, exists_eq_left', exists_eq', exists_eq, exists_and_left, exists_and_right, and_assoc, bcase_t, bcase_f, cond_true, cond_false, StC_upd, nilO_some, List.setIfInBounds_toArray, List.set_cons_zero, List.set_cons_succ, List.size_toArray, List.length_cons, List.length_nil, Nat.reduceAdd, Nat.reduceLT]; exact retP_of ⟨by simp [h0], rfl⟩
  · by_cases h1 : n > 0
    · simp only [decide_eq_true h1, cell_upd_same, cell_upd_ne, ne_eq, not_false_eq_true, List.getElem?_toArray, List.getElem?_cons_zero, List.getElem?_cons_succ, Option.some.injEq, Value.int.injEq, Value.slice.injEq, Value.bool.injEq, Value.pointer.injEq, Value.tuple.injEq, Array.mk.injEq, List.cons.injEq, true_and, and_true, exists_eq_left', exists_eq', exists_eq, exists_and_left, exists_and_right, and_assoc, bcase_t, bcase_f, cond_true, cond_false, StC_upd, nilO_some, List.setIfInBounds_toArray, List.set_cons_zero, List.set_cons_succ, List.size_toArray, List.length_cons, List.length_nil, Nat.reduceAdd, Nat.reduceLT]
      refine retP_of ⟨?_, rfl⟩
      simp [h0, h1]
    · simp only [decide_eq_false h1, cell_upd_same, cell_upd_ne, ne_eq, not_false_eq_true, List.getElem?_toArray, List.getElem?_cons_zero, List.getElem?_cons_succ, Option.some.injEq, Value.int.injEq, Value.slice.injEq, Value.bool.injEq, Value.pointer.injEq, Value.tuple.injEq, Array.mk.injEq, List.cons.injEq, true_and, and_true, exists_eq_left', exists_eq', exists_eq, exists_and_left, exists_and_right, and_assoc, bcase_t, bcase_f, cond_true, cond_false, StC_upd, nilO_some, List.setIfInBounds_toArray, List.set_cons_zero, List.set_cons_succ, List.size_toArray, List.length_cons, List.length_nil, Nat.reduceAdd, Nat.reduceLT]
      exact retP_of ⟨by simp [h0]; omega, rfl⟩

theorem number_spec (w0 : World) (m : AM) (op n : Int) : CallsA Try.prog w0 78 #[.int .i64 op, .int .i64 n] m (fun r m' => r = .bool (rangeR op n) ∧ m' = m) := by
  refine cf78 w0 m op n _ ?_
  have e0 : ∀ k : Int, (op == k) = decide (op = k) := fun k => rfl
  simp only [e0]
  unfold rangeR
  have hf : decide (-32768 ≤ n ∧ n ≤ 32767) = (decide (n ≥ -32768) && decide (n ≤ 32767)) := by simp
  by_cases c17 : op = 17
  · subst c17
    simp only [decide_true, Int.reduceEq, if_true, if_false, true_or, cell_upd_same, cell_upd_ne, ne_eq, not_false_eq_true, List.getElem?_toArray, List.getElem?_cons_zero, List.getElem?_cons_succ, Option.some.injEq, Value.int.injEq, Value.slice.injEq, Value.bool.injEq, Value.pointer.injEq, Value.tuple.injEq, Array.mk.injEq, List.cons.injEq, true_and, and_true, exists_eq_left', exists_eq', exists_eq, exists_and_left, exists_and_right, and_assoc, bcase_t, bcase_f, cond_true, cond_false, StC_upd, nilO_some, List.setIfInBounds_toArray, List.set_cons_zero, List.set_cons_succ, List.size_toArray, List.length_cons, List.length_nil, Nat.reduceAdd, Nat.reduceLT]
    by_cases h : n ≥ 0
    · simp only [decide_eq_true h, cell_upd_same, cell_upd_ne, ne_eq, not_false_eq_true, List.getElem?_toArray, List.getElem?_cons_zero, List.getElem?_cons_succ, Option.some.injEq, Value.int.injEq, Value.slice.injEq, Value.bool.injEq, Value.pointer.injEq, Value.tuple.injEq, Array.mk.injEq, List.cons.injEq, true_and, and_true, exists_eq_left', exists_eq', exists_eq, exists_and_left, exists_and_right, and_assoc, bcase_t, bcase_f, cond_true, cond_false, StC_upd, nilO_some, List.setIfInBounds_toArray, List.set_cons_zero, List.set_cons_succ, List.size_toArray, List.length_cons, List.length_nil, Nat.reduceAdd, Nat.reduceLT, Bool.true_and]; exact retP_of ⟨rfl, rfl⟩
    · simp only [decide_eq_false h, cell_upd_same, cell_upd_ne, ne_eq, not_false_eq_true, List.getElem?_toArray, List.getElem?_cons_zero, List.getElem?_cons_succ, Option.some.injEq, Value.int.injEq, Value.slice.injEq, Value.bool.injEq, Value.pointer.injEq, Value.tuple.injEq, Array.mk.injEq, List.cons.injEq, true_and, and_true, exists_eq_left', exists_eq', exists_eq, exists_and_left, exists_and_right, and_assoc, bcase_t, bcase_f, cond_true, cond_false, StC_upd, nilO_some, List.setIfInBounds_toArray, List.set_cons_zero, List.set_cons_succ, List.size_toArray, List.length_cons, List.length_nil, Nat.reduceAdd, Nat.reduceLT, Bool.false_and]; exact retP_of ⟨rfl, rfl⟩
  by_cases c18 : op = 18
  · subst c18
    simp only [decide_true, decide_false, Int.reduceEq, if_true, if_false, or_true, cell_upd_same, cell_upd_ne, ne_eq, not_false_eq_true, List.getElem?_toArray, List.getElem?_cons_zero, List.getElem?_cons_succ, Option.some.injEq, Value.int.injEq, Value.slice.injEq, Value.bool.injEq, Value.pointer.injEq, Value.tuple.injEq, Array.mk.injEq, List.cons.injEq, true_and, and_true, exists_eq_left', exists_eq', exists_eq, exists_and_left, exists_and_right, and_assoc, bcase_t, bcase_f, cond_true, cond_false, StC_upd, nilO_some, List.setIfInBounds_toArray, List.set_cons_zero, List.set_cons_succ, List.size_toArray, List.length_cons, List.length_nil, Nat.reduceAdd, Nat.reduceLT]
    by_cases h : n ≥ 0
    · simp only [decide_eq_true h, cell_upd_same, cell_upd_ne, ne_eq, not_false_eq_true, List.getElem?_toArray, List.getElem?_cons_zero, List.getElem?_cons_succ, Option.some.injEq, Value.int.injEq, Value.slice.injEq, Value.bool.injEq, Value.pointer.injEq, Value.tuple.injEq, Array.mk.injEq, List.cons.injEq, true_and, and_true, exists_eq_left', exists_eq', exists_eq, exists_and_left, exists_and_right, and_assoc, bcase_t, bcase_f, cond_true, cond_false, StC_upd, nilO_some, List.setIfInBounds_toArray, List.set_cons_zero, List.set_cons_succ, List.size_toArray, List.length_cons, List.length_nil, Nat.reduceAdd, Nat.reduceLT, Bool.true_and]; exact retP_of ⟨rfl, rfl⟩
    · simp only [decide_eq_false h, cell_upd_same, cell_upd_ne, ne_eq, not_false_eq_true, List.getElem?_toArray, List.getElem?_cons_zero, List.getElem?_cons_succ, Option.some.injEq, Value.int.injEq, Value.slice.injEq, Value.bool.injEq, Value.pointer.injEq, Value.tuple.injEq, Array.mk.injEq, List.cons.injEq, true_and, and_true, exists_eq_left', exists_eq', exists_eq, exists_and_left, exists_and_right, and_assoc, bcase_t, bcase_f, cond_true, cond_false, StC_upd, nilO_some, List.setIfInBounds_toArray, List.set_cons_zero, List.set_cons_succ, List.size_toArray, List.length_cons, List.length_nil, Nat.reduceAdd, Nat.reduceLT, Bool.false_and]; exact retP_of ⟨rfl, rfl⟩
  by_cases c20 : op = 20
  · subst c20
    simp only [decide_true, decide_false, Int.reduceEq, if_true, if_false, or_false, cell_upd_same, cell_upd_ne, ne_eq, not_false_eq_true, List.getElem?_toArray, List.getElem?_cons_zero, List.getElem?_cons_succ, Option.some.injEq, Value.int.injEq, Value.slice.injEq, Value.bool.injEq, Value.pointer.injEq, Value.tuple.injEq, Array.mk.injEq, List.cons.injEq, true_and, and_true, exists_eq_left', exists_eq', exists_eq, exists_and_left, exists_and_right, and_assoc, bcase_t, bcase_f, cond_true, cond_false, StC_upd, nilO_some, List.setIfInBounds_toArray, List.set_cons_zero, List.set_cons_succ, List.size_toArray, List.length_cons, List.length_nil, Nat.reduceAdd, Nat.reduceLT]
    by_cases h : n ≥ 0
    · simp only [decide_eq_true h, cell_upd_same, cell_upd_ne, ne_eq, not_false_eq_true, List.getElem?_toArray, List.getElem?_cons_zero, List.getElem?_cons_succ, Option.some.injEq, Value.int.injEq, Value.slice.injEq, Value.bool.injEq, Value.pointer.injEq, Value.tuple.injEq, Array.mk.injEq, List.cons.injEq, true_and, and_true, exists_eq_left', exists_eq', exists_eq, exists_and_left, exists_and_right, and_assoc, bcase_t, bcase_f, cond_true, cond_false, StC_upd, nilO_some, List.setIfInBounds_toArray, List.set_cons_zero, List.set_cons_succ, List.size_toArray, List.length_cons, List.length_nil, Nat.reduceAdd, Nat.reduceLT, Bool.true_and]; exact retP_of ⟨rfl, rfl⟩
    · simp only [decide_eq_false h, cell_upd_same, cell_upd_ne, ne_eq, not_false_eq_true, List.getElem?_toArray, List.getElem?_cons_zero, List.getElem?_cons_succ, Option.some.injEq, Value.int.injEq, Value.slice.injEq, Value.bool.injEq, Value.pointer.injEq, Value.tuple.injEq, Array.mk.injEq, List.cons.injEq, true_and, and_true, exists_eq_left', exists_eq', exists_eq, exists_and_left, exists_and_right, and_assoc, bcase_t, bcase_f, cond_true, cond_false, StC_upd, nilO_some, List.setIfInBounds_toArray, List.set_cons_zero, List.set_cons_succ, List.size_toArray, List.length_cons, List.length_nil, Nat.reduceAdd, Nat.reduceLT, Bool.false_and]; exact retP_of ⟨rfl, rfl⟩
  by_cases c14 : op = 14
  · subst c14
    simp only [decide_true, decide_false, Int.reduceEq, if_true, if_false, or_false, cell_upd_same, cell_upd_ne, ne_eq, not_false_eq_true, List.getElem?_toArray, List.getElem?_cons_zero, List.getElem?_cons_succ, Option.some.injEq, Value.int.injEq, Value.slice.injEq, Value.bool.injEq, Value.pointer.injEq, Value.tuple.injEq, Array.mk.injEq, List.cons.injEq, true_and, and_true, exists_eq_left', exists_eq', exists_eq, exists_and_left, exists_and_right, and_assoc, bcase_t, bcase_f, cond_true, cond_false, StC_upd, nilO_some, List.setIfInBounds_toArray, List.set_cons_zero, List.set_cons_succ, List.size_toArray, List.length_cons, List.length_nil, Nat.reduceAdd, Nat.reduceLT]
    by_cases h : n ≥ 0
    · simp only [decide_eq_true h, cell_upd_same, cell_upd_ne, ne_eq, not_false_eq_true, List.getElem?_toArray, List.getElem?_cons_zero, List.getElem?_cons_succ, Option.some.injEq, Value.int.injEq, Value.slice.injEq, Value.bool.injEq, Value.pointer.injEq, Value.tuple.injEq, Array.mk.injEq, List.cons.injEq, true_and, and_true, exists_eq_left', exists_eq', exists_eq, exists_and_left, exists_and_right, and_assoc, bcase_t, bcase_f, cond_true, cond_false, StC_upd, nilO_some, List.setIfInBounds_toArray, List.set_cons_zero, List.set_cons_succ, List.size_toArray, List.length_cons, List.length_nil, Nat.reduceAdd, Nat.reduceLT, Bool.true_and]
      refine CallsA.mono (fitsW w0 m n) ?_
      rintro r m' ⟨rfl, rfl⟩
      refine ⟨_, rfl, retP_of ⟨?_, rfl⟩⟩
      rw [hf, decide_eq_true (show n ≥ -32768 by omega), Bool.true_and]
    · simp only [decide_eq_false h, cell_upd_same, cell_upd_ne, ne_eq, not_false_eq_true, List.getElem?_toArray, List.getElem?_cons_zero, List.getElem?_cons_succ, Option.some.injEq, Value.int.injEq, Value.slice.injEq, Value.bool.injEq, Value.pointer.injEq, Value.tuple.injEq, Array.mk.injEq, List.cons.injEq, true_and, and_true, exists_eq_left', exists_eq', exists_eq, exists_and_left, exists_and_right, and_assoc, bcase_t, bcase_f, cond_true, cond_false, StC_upd, nilO_some, List.setIfInBounds_toArray, List.set_cons_zero, List.set_cons_succ, List.size_toArray, List.length_cons, List.length_nil, Nat.reduceAdd, Nat.reduceLT, Bool.false_and]; exact retP_of ⟨rfl, rfl⟩
  simp only [decide_eq_false c14, decide_eq_false c17, decide_eq_false c18, decide_eq_false c20, if_neg c14, if_neg c20, if_neg (show ¬ (op = 17 ∨ op = 18) by omega), cell_upd_same, cell_upd_ne, ne_eq, not_false_eq_true, List.getElem?_toArray, List.getElem?_cons_zero, List.getElem?_cons_succ, Option.some.injEq, Value.int.injEq, Value.slice.injEq, Value.bool.injEq, Value.pointer.injEq, Value.tuple.injEq, Array.mk.injEq, List.cons.injEq, true_and, and_true, exists_eq_left', exists_eq', exists_eq, exists_and_left, exists_and_right, and_assoc, bcase_t, bcase_f, cond_true, cond_false, StC_upd, nilO_some, List.setIfInBounds_toArray, List.set_cons_zero, List.set_cons_succ, List.size_toArray, List.length_cons, List.length_nil, Nat.reduceAdd, Nat.reduceLT]
  refine CallsA.mono (fitsW w0 m n) ?_
  rintro r m' ⟨rfl, rfl⟩
  exact ⟨_, rfl, retP_of ⟨by rw [hf], rfl⟩⟩

theorem part_reg (s x : Int) (had : Bool) (h : (s.tmod 2 == 0) = !had) : regI x had = partR s x := by
  unfold regI partR
  rw [h]
  cases had
  · by_cases h0 : x = 0
    · subst h0; rfl
    · simp [h0]
  · by_cases h0 : x = 0
    · subst h0; rfl
    · simp [h0]; by_cases h1 : x < 0 <;> by_cases h2 : x > 31 <;> simp [h1, h2] <;> omega

/-- The same in other words. -/
def rightI (i : Ins) : Bool := pOk i.op && regI i.a (pA i.op) && regI i.b (pB i.op) && regI i.c (pC i.op) && (i.imm == 0 || (pI i.op && rangeR i.op i.imm))

theorem rightI_eq (i : Ins) : rightI i = rightR i := by
  unfold rightI rightR
  by_cases hok : 0 ≤ i.op ∧ i.op ≤ 20
  · have key : ∀ k, k < 21 → ((shapeT.getD k 0).tmod 2 == 0) = (!pA (k : Int)) ∧ (((shapeT.getD k 0).tdiv 2).tmod 2 == 0) = (!pB (k : Int)) ∧ ((((shapeT.getD k 0).tdiv 2).tdiv 2).tmod 2 == 0) = (!pC (k : Int)) ∧ ((((shapeT.getD k 0).tdiv 2).tdiv 2).tdiv 2 == 1) = pI (k : Int) ∧ decide (shapeT.getD k 0 < 0) = false := by decide
    have hs : shapeR i.op = shapeT.getD i.op.toNat 0 := by unfold shapeR; rw [if_neg (by omega), if_neg (by omega)]
    obtain ⟨h1, h2, h3, h4, h5⟩ := key i.op.toNat (by omega)
    rw [Int.toNat_of_nonneg hok.1] at h1 h2 h3 h4
    simp only [hs]
    rw [part_reg _ _ _ h1, part_reg _ _ _ h2, part_reg _ _ _ h3, h4, h5]
    have : pOk i.op = true := by simp [pOk]; exact hok
    rw [this, Bool.true_and, Bool.not_false, Bool.true_and]
    have hz : rangeR i.op 0 = true := by
      unfold rangeR
      by_cases a : i.op = 14
      · rw [if_pos a]; rfl
      by_cases b : i.op = 17 ∨ i.op = 18
      · rw [if_neg a, if_pos b]; rfl
      by_cases c : i.op = 20
      · rw [if_neg a, if_neg b, if_pos c]; rfl
      · rw [if_neg a, if_neg b, if_neg c]; rfl
    by_cases hi : i.imm = 0
    · rw [hi, hz]; simp
    · have : (i.imm == 0) = false := by simpa using hi
      rw [this, Bool.false_or, Bool.or_false]
      cases pI i.op <;> simp
  · have h1 : pOk i.op = false := by simp [pOk]; omega
    have hs : shapeR i.op = -1 := by
      unfold shapeR
      by_cases h : i.op < 0
      · rw [if_pos h]
      · rw [if_neg h, if_pos (by omega)]
    rw [h1, hs]; rfl

theorem isaRight (w0 : World) (m : AM) (i : Ins) : CallsA Try.prog w0 45 #[i.val] m (fun r m' => r = .bool (rightR i) ∧ m.le m') := by
  rw [← rightI_eq]
  refine cf45 w0 m _ _ _ _ _ _ ?_
  intro b1 hb1 hm1 M
  have l1 : m.le M := le_new hm1 _
  have p1 : M b1 = some (.cells i.cells.toArray 24) := upd_get_same
  clear_value M
  simp only [cell_of p1, Ins.cells, cell_upd_same, cell_upd_ne, ne_eq, not_false_eq_true, List.getElem?_toArray, List.getElem?_cons_zero, List.getElem?_cons_succ, Option.some.injEq, Value.int.injEq, Value.slice.injEq, Value.bool.injEq, Value.pointer.injEq, Value.tuple.injEq, Array.mk.injEq, List.cons.injEq, true_and, and_true, exists_eq_left', exists_eq', exists_eq, exists_and_left, exists_and_right, and_assoc, bcase_t, bcase_f, cond_true, cond_false, StC_upd, nilO_some, List.setIfInBounds_toArray, List.set_cons_zero, List.set_cons_succ, List.size_toArray, List.length_cons, List.length_nil, Nat.reduceAdd, Nat.reduceLT]
  refine CallsA.mono (of_spec w0 M i.op) ?_
  rintro r m2 ⟨rfl, l2⟩
  refine ⟨_, _, _, _, _, rfl, ?_⟩
  intro b2 hb2 hm2
  have p2 := l2 _ _ p1
  have l3 := le_new hm2 (.cells #[.bool (pA i.op), .bool (pB i.op), .bool (pC i.op), .bool (pI i.op)] 81)
  have h12 : b1 ≠ b2 := ne_new p2 hm2
  simp only [cell_upd_same, cell_upd_ne, ne_eq, not_false_eq_true, List.getElem?_toArray, List.getElem?_cons_zero, List.getElem?_cons_succ, Option.some.injEq, Value.int.injEq, Value.slice.injEq, Value.bool.injEq, Value.pointer.injEq, Value.tuple.injEq, Array.mk.injEq, List.cons.injEq, true_and, and_true, exists_eq_left', exists_eq', exists_eq, exists_and_left, exists_and_right, and_assoc, bcase_t, bcase_f, cond_true, cond_false, StC_upd, nilO_some, List.setIfInBounds_toArray, List.set_cons_zero, List.set_cons_succ, List.size_toArray, List.length_cons, List.length_nil, Nat.reduceAdd, Nat.reduceLT, hb2]
  have L := AM.le_trans (AM.le_trans l1 l2) l3
  have p3 := l3 _ _ p2
  have q3 : (m2.upd b2 (.cells #[.bool (pA i.op), .bool (pB i.op), .bool (pC i.op), .bool (pI i.op)] 81)) b2 = some (.cells #[.bool (pA i.op), .bool (pB i.op), .bool (pC i.op), .bool (pI i.op)] 81) := upd_get_same
  generalize m2.upd b2 (.cells #[.bool (pA i.op), .bool (pB i.op), .bool (pC i.op), .bool (pI i.op)] 81) = m3 at l3 L p3 q3
  have fin : ∀ b c, b = c → RetP (fun r m' => r = .bool c ∧ m.le m') (.bool b) m3 := fun b c h => retP_of ⟨by rw [h], L⟩
  unfold rightI
  cases pOk i.op
  · simp only [cell_upd_same, cell_upd_ne, ne_eq, not_false_eq_true, List.getElem?_toArray, List.getElem?_cons_zero, List.getElem?_cons_succ, Option.some.injEq, Value.int.injEq, Value.slice.injEq, Value.bool.injEq, Value.pointer.injEq, Value.tuple.injEq, Array.mk.injEq, List.cons.injEq, true_and, and_true, exists_eq_left', exists_eq', exists_eq, exists_and_left, exists_and_right, and_assoc, bcase_t, bcase_f, cond_true, cond_false, StC_upd, nilO_some, List.setIfInBounds_toArray, List.set_cons_zero, List.set_cons_succ, List.size_toArray, List.length_cons, List.length_nil, Nat.reduceAdd, Nat.reduceLT, Bool.false_and]; exact fin _ _ rfl
  simp only [cell_upd_same, cell_upd_ne, ne_eq, not_false_eq_true, List.getElem?_toArray, List.getElem?_cons_zero, List.getElem?_cons_succ, Option.some.injEq, Value.int.injEq, Value.slice.injEq, Value.bool.injEq, Value.pointer.injEq, Value.tuple.injEq, Array.mk.injEq, List.cons.injEq, true_and, and_true, exists_eq_left', exists_eq', exists_eq, exists_and_left, exists_and_right, and_assoc, bcase_t, bcase_f, cond_true, cond_false, StC_upd, nilO_some, List.setIfInBounds_toArray, List.set_cons_zero, List.set_cons_succ, List.size_toArray, List.length_cons, List.length_nil, Nat.reduceAdd, Nat.reduceLT, Bool.true_and, cell_of p3, cell_of q3, Ins.cells]
  refine CallsA.mono (reg_spec w0 m3 _ _) ?_
  rintro r m4 ⟨rfl, rfl⟩
  cases regI i.a (pA i.op)
  · simp only [cell_upd_same, cell_upd_ne, ne_eq, not_false_eq_true, List.getElem?_toArray, List.getElem?_cons_zero, List.getElem?_cons_succ, Option.some.injEq, Value.int.injEq, Value.slice.injEq, Value.bool.injEq, Value.pointer.injEq, Value.tuple.injEq, Array.mk.injEq, List.cons.injEq, true_and, and_true, exists_eq_left', exists_eq', exists_eq, exists_and_left, exists_and_right, and_assoc, bcase_t, bcase_f, cond_true, cond_false, StC_upd, nilO_some, List.setIfInBounds_toArray, List.set_cons_zero, List.set_cons_succ, List.size_toArray, List.length_cons, List.length_nil, Nat.reduceAdd, Nat.reduceLT, Bool.false_and]; exact fin _ _ rfl
  simp only [cell_upd_same, cell_upd_ne, ne_eq, not_false_eq_true, List.getElem?_toArray, List.getElem?_cons_zero, List.getElem?_cons_succ, Option.some.injEq, Value.int.injEq, Value.slice.injEq, Value.bool.injEq, Value.pointer.injEq, Value.tuple.injEq, Array.mk.injEq, List.cons.injEq, true_and, and_true, exists_eq_left', exists_eq', exists_eq, exists_and_left, exists_and_right, and_assoc, bcase_t, bcase_f, cond_true, cond_false, StC_upd, nilO_some, List.setIfInBounds_toArray, List.set_cons_zero, List.set_cons_succ, List.size_toArray, List.length_cons, List.length_nil, Nat.reduceAdd, Nat.reduceLT, Bool.true_and, cell_of p3, cell_of q3, Ins.cells]
  refine CallsA.mono (reg_spec w0 m4 _ _) ?_
  rintro r m5 ⟨rfl, rfl⟩
  cases regI i.b (pB i.op)
  · simp only [cell_upd_same, cell_upd_ne, ne_eq, not_false_eq_true, List.getElem?_toArray, List.getElem?_cons_zero, List.getElem?_cons_succ, Option.some.injEq, Value.int.injEq, Value.slice.injEq, Value.bool.injEq, Value.pointer.injEq, Value.tuple.injEq, Array.mk.injEq, List.cons.injEq, true_and, and_true, exists_eq_left', exists_eq', exists_eq, exists_and_left, exists_and_right, and_assoc, bcase_t, bcase_f, cond_true, cond_false, StC_upd, nilO_some, List.setIfInBounds_toArray, List.set_cons_zero, List.set_cons_succ, List.size_toArray, List.length_cons, List.length_nil, Nat.reduceAdd, Nat.reduceLT, Bool.false_and]; exact fin _ _ rfl
  simp only [cell_upd_same, cell_upd_ne, ne_eq, not_false_eq_true, List.getElem?_toArray, List.getElem?_cons_zero, List.getElem?_cons_succ, Option.some.injEq, Value.int.injEq, Value.slice.injEq, Value.bool.injEq, Value.pointer.injEq, Value.tuple.injEq, Array.mk.injEq, List.cons.injEq, true_and, and_true, exists_eq_left', exists_eq', exists_eq, exists_and_left, exists_and_right, and_assoc, bcase_t, bcase_f, cond_true, cond_false, StC_upd, nilO_some, List.setIfInBounds_toArray, List.set_cons_zero, List.set_cons_succ, List.size_toArray, List.length_cons, List.length_nil, Nat.reduceAdd, Nat.reduceLT, Bool.true_and, cell_of p3, cell_of q3, Ins.cells]
  refine CallsA.mono (reg_spec w0 m5 _ _) ?_
  rintro r m6 ⟨rfl, rfl⟩
  cases regI i.c (pC i.op)
  · simp only [cell_upd_same, cell_upd_ne, ne_eq, not_false_eq_true, List.getElem?_toArray, List.getElem?_cons_zero, List.getElem?_cons_succ, Option.some.injEq, Value.int.injEq, Value.slice.injEq, Value.bool.injEq, Value.pointer.injEq, Value.tuple.injEq, Array.mk.injEq, List.cons.injEq, true_and, and_true, exists_eq_left', exists_eq', exists_eq, exists_and_left, exists_and_right, and_assoc, bcase_t, bcase_f, cond_true, cond_false, StC_upd, nilO_some, List.setIfInBounds_toArray, List.set_cons_zero, List.set_cons_succ, List.size_toArray, List.length_cons, List.length_nil, Nat.reduceAdd, Nat.reduceLT, Bool.false_and]; exact fin _ _ rfl
  simp only [cell_upd_same, cell_upd_ne, ne_eq, not_false_eq_true, List.getElem?_toArray, List.getElem?_cons_zero, List.getElem?_cons_succ, Option.some.injEq, Value.int.injEq, Value.slice.injEq, Value.bool.injEq, Value.pointer.injEq, Value.tuple.injEq, Array.mk.injEq, List.cons.injEq, true_and, and_true, exists_eq_left', exists_eq', exists_eq, exists_and_left, exists_and_right, and_assoc, bcase_t, bcase_f, cond_true, cond_false, StC_upd, nilO_some, List.setIfInBounds_toArray, List.set_cons_zero, List.set_cons_succ, List.size_toArray, List.length_cons, List.length_nil, Nat.reduceAdd, Nat.reduceLT, Bool.true_and, cell_of p3, cell_of q3, Ins.cells]
  cases hz : (i.imm == 0)
  · simp only [cell_upd_same, cell_upd_ne, ne_eq, not_false_eq_true, List.getElem?_toArray, List.getElem?_cons_zero, List.getElem?_cons_succ, Option.some.injEq, Value.int.injEq, Value.slice.injEq, Value.bool.injEq, Value.pointer.injEq, Value.tuple.injEq, Array.mk.injEq, List.cons.injEq, true_and, and_true, exists_eq_left', exists_eq', exists_eq, exists_and_left, exists_and_right, and_assoc, bcase_t, bcase_f, cond_true, cond_false, StC_upd, nilO_some, List.setIfInBounds_toArray, List.set_cons_zero, List.set_cons_succ, List.size_toArray, List.length_cons, List.length_nil, Nat.reduceAdd, Nat.reduceLT, Bool.false_or]
    cases pI i.op
    · simp only [cell_upd_same, cell_upd_ne, ne_eq, not_false_eq_true, List.getElem?_toArray, List.getElem?_cons_zero, List.getElem?_cons_succ, Option.some.injEq, Value.int.injEq, Value.slice.injEq, Value.bool.injEq, Value.pointer.injEq, Value.tuple.injEq, Array.mk.injEq, List.cons.injEq, true_and, and_true, exists_eq_left', exists_eq', exists_eq, exists_and_left, exists_and_right, and_assoc, bcase_t, bcase_f, cond_true, cond_false, StC_upd, nilO_some, List.setIfInBounds_toArray, List.set_cons_zero, List.set_cons_succ, List.size_toArray, List.length_cons, List.length_nil, Nat.reduceAdd, Nat.reduceLT, Bool.false_and]; exact fin _ _ rfl
    · simp only [cell_upd_same, cell_upd_ne, ne_eq, not_false_eq_true, List.getElem?_toArray, List.getElem?_cons_zero, List.getElem?_cons_succ, Option.some.injEq, Value.int.injEq, Value.slice.injEq, Value.bool.injEq, Value.pointer.injEq, Value.tuple.injEq, Array.mk.injEq, List.cons.injEq, true_and, and_true, exists_eq_left', exists_eq', exists_eq, exists_and_left, exists_and_right, and_assoc, bcase_t, bcase_f, cond_true, cond_false, StC_upd, nilO_some, List.setIfInBounds_toArray, List.set_cons_zero, List.set_cons_succ, List.size_toArray, List.length_cons, List.length_nil, Nat.reduceAdd, Nat.reduceLT, Bool.true_and, cell_of p3, Ins.cells]
      refine CallsA.mono (number_spec w0 m6 _ _) ?_
      rintro r m7 ⟨rfl, rfl⟩
      exact ⟨_, rfl, fin _ _ rfl⟩
  · simp only [cell_upd_same, cell_upd_ne, ne_eq, not_false_eq_true, List.getElem?_toArray, List.getElem?_cons_zero, List.getElem?_cons_succ, Option.some.injEq, Value.int.injEq, Value.slice.injEq, Value.bool.injEq, Value.pointer.injEq, Value.tuple.injEq, Array.mk.injEq, List.cons.injEq, true_and, and_true, exists_eq_left', exists_eq', exists_eq, exists_and_left, exists_and_right, and_assoc, bcase_t, bcase_f, cond_true, cond_false, StC_upd, nilO_some, List.setIfInBounds_toArray, List.set_cons_zero, List.set_cons_succ, List.size_toArray, List.length_cons, List.length_nil, Nat.reduceAdd, Nat.reduceLT, Bool.true_or]; exact fin _ _ rfl
end Go.Proofs.Ytkfemiloehkmhaa.S

