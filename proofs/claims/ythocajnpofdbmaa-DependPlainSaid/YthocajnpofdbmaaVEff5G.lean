/- Ythocajnpofdbmaa: a text of our own, by an AI agent: VEff5G -/
import Derived.Test.YthocajnpofdbmaaCore5
import Derived.Test.YthocajnpofdbmaaTabG
namespace Go.Proofs.Ythocajnpofdbmaa.V
open Go Go.Alog Go.Proofs.Ythocajnpofdbmaa.T
set_option linter.unusedVariables false
set_option maxRecDepth 100000

/-! 63 math/bits.Len -/
def qs63 : Nat → List (Nat × Nat) := fun i => match i with | _ => []
noncomputable def c63 : Code := bodyOf Try.f63
theorem cf63 (w0 : World) (m : AM) (x0 : Int) (R : Value → AM → Prop) (h :
 CallsA Try.prog w0 76 #[.int .u64 x0] m fun r2 m3 =>
 ∃ i1 : Int, r2 = .int .i64 i1 ∧ RetP R (.int .i64 i1) m3) : CallsA Try.prog w0 63 #[.int .u64 x0] m R :=
  callsA_of (c := c63) (args := [.int .u64 x0]) (by kernel_rfl) Try.func63 (by kernel_rfl) qs63 (by kernel_rfl) (by kernel_rfl) (cast (by kernel_rfl) h)
end Go.Proofs.Ythocajnpofdbmaa.V
