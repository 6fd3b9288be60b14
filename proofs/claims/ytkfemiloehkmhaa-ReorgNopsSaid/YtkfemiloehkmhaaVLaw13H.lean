/- Ytkfemiloehkmhaa: a text of our own, by an AI agent: VLaw13H -/
import Derived.Test.YtkfemiloehkmhaaCoreA
import Derived.Test.YtkfemiloehkmhaaTabH
namespace Go.Proofs.Ytkfemiloehkmhaa.V
open Go Go.Alog Go.Proofs.Ytkfemiloehkmhaa.T
set_option linter.unusedVariables false
set_option maxRecDepth 100000

/-! 42 delayslot/delayslotlaw13.awake -/
def qs42 : Nat → List (Nat × Nat) := fun i => match i with | _ => []
noncomputable def c42 : Code := bodyOf Try.f42
theorem cf42 (w0 : World) (m : AM)  (R : Value → AM → Prop) (h :
 true = true ∧ true = true ∧ true = true ∧ ∀ b1 : Nat, w0.heap.size ≤ b1 → m b1 = none → let m2 := AM.upd m b1 (.cells #[.int .i64 10, .int .i64 4, .int .i64 0, .int .i64 0, .int .i64 7, .int .i64 17, .int .i64 0, .int .i64 0, .int .i64 0, .int .i64 2] 24);
 CallsA Try.prog w0 43 #[.slice (some ⟨b1, 0, none⟩) 2 2] m2 fun r10 m11 =>
 ∃ (A3 : Option Addr) (n4 c5 : Nat), ∃ (A6 : Option Addr) (n7 c8 : Nat), ∃ i9 : Int, r10 = .tuple #[.slice A3 n4 c5, .slice A6 n7 c8, .int .i64 i9] ∧ IntKind.i64 = IntKind.i64 ∧ (bcase ((i9 : Int) == 0) (
 IntKind.i64 = IntKind.i64 ∧ (bcase (bif (i9 : Int) == 0 then (((n4 : Nat) : Int) : Int) == 2 else false) (
 ((0 : Int) ≤ 0 ∧ 0 < ((n4 : Nat) : Int)) ∧ nilO A3 fun a15 =>
 ∃ i16 : Int, m11.cell (a15.add (0)) = some (.int .i64 i16) ∧ ∃ i17 : Int, m11.cell ((a15.add (0)).add 1) = some (.int .i64 i17) ∧ ∃ i18 : Int, m11.cell ((a15.add (0)).add 2) = some (.int .i64 i18) ∧ ∃ i19 : Int, m11.cell ((a15.add (0)).add 3) = some (.int .i64 i19) ∧ ∃ i20 : Int, m11.cell ((a15.add (0)).add 4) = some (.int .i64 i20) ∧ 
 true = true ∧ ∃ t21 : Bool, EqP Try.prog .eql 24 (.agg #[.int .i64 i16, .int .i64 i17, .int .i64 i18, .int .i64 i19, .int .i64 i20]) (.agg #[.int .i64 17, .int .i64 0, .int .i64 0, .int .i64 0, .int .i64 2]) t21 ∧ (bcase (bif bif (i9 : Int) == 0 then (((n4 : Nat) : Int) : Int) == 2 else false then t21 else false) (
 ((0 : Int) ≤ 1 ∧ 1 < ((n4 : Nat) : Int)) ∧ nilO A3 fun a22 =>
 ∃ i23 : Int, m11.cell ((a22.add (5)).add 4) = some (.int .i64 i23) ∧ 
 IntKind.i64 = IntKind.i64 ∧ (bcase (bif bif bif (i9 : Int) == 0 then (((n4 : Nat) : Int) : Int) == 2 else false then t21 else false then (i23 : Int) == 7 else false) (
 true = true ∧ ∀ b24 : Nat, w0.heap.size ≤ b24 → m11 b24 = none → let m25 := AM.upd m11 b24 (.cells #[.int .i64 0, .int .i64 2] 3);
 CallsA Try.prog w0 33 #[.slice A6 n7 c8, .slice (some ⟨b24, 0, none⟩) 2 2] m25 fun r27 m28 =>
 ∃ t26 : Bool, r27 = .bool t26 ∧ RetP R (.bool (bif bif bif bif (i9 : Int) == 0 then (((n4 : Nat) : Int) : Int) == 2 else false then t21 else false then (i23 : Int) == 7 else false then t26 else false)) m28) (
 (bif bif bif (i9 : Int) == 0 then (((n4 : Nat) : Int) : Int) == 2 else false then t21 else false then (i23 : Int) == 7 else false) = false ∧ RetP R (.bool false) m11))) (
 (bif bif (i9 : Int) == 0 then (((n4 : Nat) : Int) : Int) == 2 else false then t21 else false) = false ∧ false = false ∧ RetP R (.bool false) m11))) (
 (bif (i9 : Int) == 0 then (((n4 : Nat) : Int) : Int) == 2 else false) = false ∧ false = false ∧ false = false ∧ RetP R (.bool false) m11))) (
 ((i9 : Int) == 0) = false ∧ false = false ∧ false = false ∧ false = false ∧ RetP R (.bool false) m11))) : CallsA Try.prog w0 42 #[] m R :=
  callsA_of (c := c42) (args := []) (by kernel_rfl) Try.func42 (by kernel_rfl) qs42 (by kernel_rfl) (by kernel_rfl) (cast (by kernel_rfl) h)

/-! 17 delayslot/delayslotlaw13.ReorgLays -/
noncomputable def c17 : Code := bodyOf Try.f17
end Go.Proofs.Ytkfemiloehkmhaa.V

