/- Ytadcbnldahcelaa: a text of our own, by an AI agent: L7C -/
import Derived.Test.YtadcbnldahcelaaMgC
import Derived.Test.YtadcbnldahcelaaVLaw7C
set_option linter.unusedSimpArgs false
set_option linter.unusedVariables false
set_option maxRecDepth 100000
namespace Go.Proofs.Ytadcbnldahcelaa.S
open Go Go.RowKit Go.Alog Go.Proofs.Ytadcbnldahcelaa.T Go.Proofs.Ytadcbnldahcelaa.V

theorem awake7_run : runP [⟨10, 4, 0, 0, 7⟩, ⟨20, 0, 0, 0, 2⟩, ⟨20, 0, 0, 0, 0⟩] 0 [] 9 = ⟨1, 3, [7], []⟩ := by decide +kernel

theorem awake7 (w0 : World) (m : AM) : CallsA Try.prog w0 21 #[] m (fun r m' => r = .bool true) := by
  refine cf21 w0 m _ ?_
  refine ⟨rfl, rfl, rfl, rfl, ?_⟩
  intro b1 hb1 hm1 M
  have hr : Reads M 5 (some ⟨b1, 0, none⟩) 3 (insCells [⟨10, 4, 0, 0, 7⟩, ⟨20, 0, 0, 0, 2⟩, ⟨20, 0, 0, 0, 0⟩]) := Reads.lit rfl
  clear_value M
  refine CallsA.mono (run_spec w0 M (some ⟨b1, 0, none⟩) 3 [⟨10, 4, 0, 0, 7⟩, ⟨20, 0, 0, 0, 2⟩, ⟨20, 0, 0, 0, 0⟩] 0 none 0 [] 9 (by constructor <;> decide) hr (Reads.nil M 1) (by decide)) ?_
  rintro r m2 ⟨l2, Ao, co, Am, cm, hv, ho, hm⟩
  rw [awake7_run] at hv ho hm
  subst hv
  refine ⟨_, _, _, _, _, _, _, _, rfl, ?_⟩
  intro b13 hb13 hm13
  have l13 := le_new hm13 (.cells #[.int .i64 1, .int .i64 3, .slice Ao 1 co, .slice Am 0 cm] 29)
  simp only [cell_upd_same, cell_upd_ne, ne_eq, not_false_eq_true, List.getElem?_toArray, List.getElem?_cons_zero, List.getElem?_cons_succ, Option.some.injEq, Value.int.injEq, Value.slice.injEq, Value.bool.injEq, Value.pointer.injEq, Value.tuple.injEq, Array.mk.injEq, List.cons.injEq, true_and, and_true, exists_eq_left', exists_eq', exists_eq, exists_and_left, exists_and_right, and_assoc, bcase_t, bcase_f, cond_true, cond_false, StC_upd, nilO_some, List.setIfInBounds_toArray, List.set_cons_zero, List.set_cons_succ, List.size_toArray, List.length_cons, List.length_nil, Nat.reduceAdd, Nat.reduceLT, hb13]
  obtain ⟨ad, rfl, hc⟩ := (ho.le l13).ex (by decide)
  have hx := hc 0 (.int .i64 7) rfl
  simp only [show ((1 : Int) == 1) = true from rfl, show ((3 : Int) == 3) = true from rfl, show ((([7] : List Int).length : Nat) : Int) = 1 from rfl, cell_upd_same, cell_upd_ne, ne_eq, not_false_eq_true, List.getElem?_toArray, List.getElem?_cons_zero, List.getElem?_cons_succ, Option.some.injEq, Value.int.injEq, Value.slice.injEq, Value.bool.injEq, Value.pointer.injEq, Value.tuple.injEq, Array.mk.injEq, List.cons.injEq, true_and, and_true, exists_eq_left', exists_eq', exists_eq, exists_and_left, exists_and_right, and_assoc, bcase_t, bcase_f, cond_true, cond_false, StC_upd, nilO_some, List.setIfInBounds_toArray, List.set_cons_zero, List.set_cons_succ, List.size_toArray, List.length_cons, List.length_nil, Nat.reduceAdd, Nat.reduceLT]
  refine ⟨by decide, by decide, ?_⟩
  simp only [hx, cell_upd_same, cell_upd_ne, ne_eq, not_false_eq_true, List.getElem?_toArray, List.getElem?_cons_zero, List.getElem?_cons_succ, Option.some.injEq, Value.int.injEq, Value.slice.injEq, Value.bool.injEq, Value.pointer.injEq, Value.tuple.injEq, Array.mk.injEq, List.cons.injEq, true_and, and_true, exists_eq_left', exists_eq', exists_eq, exists_and_left, exists_and_right, and_assoc, bcase_t, bcase_f, cond_true, cond_false, StC_upd, nilO_some, List.setIfInBounds_toArray, List.set_cons_zero, List.set_cons_succ, List.size_toArray, List.length_cons, List.length_nil, Nat.reduceAdd, Nat.reduceLT]
  exact retP_of rfl

def smallB (code : Nat) (mem : Int) (inp : Nat) (fuel : Int) : Bool := decide (code ≤ 200) && (decide (mem ≤ 300) || decide (mem > 32000)) && decide (inp ≤ 100) && decide (fuel ≤ 2000)
theorem small7 (w0 : World) (m : AM) (A : Option Addr) (n c : Nat) (mem : Int) (A2 : Option Addr) (n2 c2 : Nat) (fuel : Int) :
    CallsA Try.prog w0 20 #[.slice A n c, .int .i64 mem, .slice A2 n2 c2, .int .i64 fuel] m (fun r m' => r = .bool (smallB n mem n2 fuel) ∧ m' = m) := by
  refine cf20 w0 m A n c mem A2 n2 c2 fuel _ ?_
  have fin : ∀ b c, b = c → RetP (fun r m' => r = Value.bool c ∧ m' = m) (.bool b) m := fun b c h => retP_of ⟨by rw [h], rfl⟩
  have e1 : decide (((n : Nat) : Int) ≤ 200) = decide (n ≤ 200) := by congr 1; apply propext; omega
  have e2 : decide (((n2 : Nat) : Int) ≤ 100) = decide (n2 ≤ 100) := by congr 1; apply propext; omega
  rw [e1, e2]
  unfold smallB
  cases decide (n ≤ 200) <;> cases decide (mem ≤ 300) <;> cases decide (mem > 32000) <;> cases decide (n2 ≤ 100) <;> cases decide (fuel ≤ 2000) <;> simp only [cell_upd_same, cell_upd_ne, ne_eq, not_false_eq_true, List.getElem?_toArray, List.getElem?_cons_zero, List.getElem?_cons_succ, Option.some.injEq, Value.int.injEq, Value.slice.injEq, Value.bool.injEq, Value.pointer.injEq, Value.tuple.injEq, Array.mk.injEq, List.cons.injEq, true_and, and_true, exists_eq_left', exists_eq', exists_eq, exists_and_left, exists_and_right, and_assoc, bcase_t, bcase_f, cond_true, cond_false, StC_upd, nilO_some, List.setIfInBounds_toArray, List.set_cons_zero, List.set_cons_succ, List.size_toArray, List.length_cons, List.length_nil, Nat.reduceAdd, Nat.reduceLT] <;> exact fin _ _ rfl
end Go.Proofs.Ytadcbnldahcelaa.S
