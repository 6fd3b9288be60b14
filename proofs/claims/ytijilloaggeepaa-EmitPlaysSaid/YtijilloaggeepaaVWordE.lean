/- Ytijilloaggeepaa: a text of our own, by an AI agent: VWordE -/
import Derived.Test.YtijilloaggeepaaCore5
import Derived.Test.YtijilloaggeepaaTabE
import Derived.Test.YtijilloaggeepaaVEmitE
namespace Go.Proofs.Ytijilloaggeepaa.V
open Go Go.Alog Go.Proofs.Ytijilloaggeepaa.T
set_option linter.unusedVariables false
set_option maxRecDepth 100000

/-! 55 delayslot/word.Add -/
def qs55 : Nat → List (Nat × Nat) := fun i => match i with | _ => []
noncomputable def c55 : Code := bodyOf Try.f55
theorem cf55 (w0 : World) (m : AM) (x0 : Int) (x1 : Int) (R : Value → AM → Prop) (h :
 IntKind.i64 = IntKind.i64 ∧ CallsA Try.prog w0 32 #[.int .i64 (IntKind.wrap .i64 (x0 + x1))] m fun r2 m3 =>
 ∃ i1 : Int, r2 = .int .i64 i1 ∧ RetP R (.int .i64 i1) m3) : CallsA Try.prog w0 55 #[.int .i64 x0, .int .i64 x1] m R :=
  callsA_of (c := c55) (args := [.int .i64 x0, .int .i64 x1]) (by kernel_rfl) Try.func55 (by kernel_rfl) qs55 (by kernel_rfl) (by kernel_rfl) (cast (by kernel_rfl) h)

/-! 59 delayslot/word.Div -/
def qs59 : Nat → List (Nat × Nat) := fun i => match i with | _ => []
noncomputable def c59 : Code := bodyOf Try.f59
theorem cf59 (w0 : World) (m : AM) (x0 : Int) (x1 : Int) (R : Value → AM → Prop) (h :
 CallsA Try.prog w0 32 #[.int .i64 x0] m fun r2 m3 =>
 ∃ i1 : Int, r2 = .int .i64 i1 ∧ CallsA Try.prog w0 32 #[.int .i64 x1] m3 fun r5 m6 =>
 ∃ i4 : Int, r5 = .int .i64 i4 ∧ IntKind.i64 = IntKind.i64 ∧ (bcase ((i4 : Int) == 0) (
 RetP R (.tuple #[.int .i64 0, .int .i64 0, .bool false]) m6) (
 IntKind.i64 = IntKind.i64 ∧ (i4 : Int) ≠ 0 ∧ CallsA Try.prog w0 32 #[.int .i64 (IntKind.wrap .i64 (Int.tdiv i1 i4))] m6 fun r8 m9 =>
 ∃ i7 : Int, r8 = .int .i64 i7 ∧ IntKind.i64 = IntKind.i64 ∧ (i4 : Int) ≠ 0 ∧ RetP R (.tuple #[.int .i64 i7, .int .i64 (Int.tmod i1 i4), .bool true]) m9))) : CallsA Try.prog w0 59 #[.int .i64 x0, .int .i64 x1] m R :=
  callsA_of (c := c59) (args := [.int .i64 x0, .int .i64 x1]) (by kernel_rfl) Try.func59 (by kernel_rfl) qs59 (by kernel_rfl) (by kernel_rfl) (cast (by kernel_rfl) h)
end Go.Proofs.Ytijilloaggeepaa.V
