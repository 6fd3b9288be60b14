/- Ytkfemiloehkmhaa: a text of our own, by an AI agent: VEff5H -/
import Derived.Test.YtkfemiloehkmhaaCoreA
import Derived.Test.YtkfemiloehkmhaaTabH
namespace Go.Proofs.Ytkfemiloehkmhaa.V
open Go Go.Alog Go.Proofs.Ytkfemiloehkmhaa.T
set_option linter.unusedVariables false
set_option maxRecDepth 100000

/-! 88 math/bits.Len -/
def qs88 : Nat → List (Nat × Nat) := fun i => match i with | _ => []
noncomputable def c88 : Code := bodyOf Try.f88
theorem cf88 (w0 : World) (m : AM) (x0 : Int) (R : Value → AM → Prop) (h :
 CallsA Try.prog w0 109 #[.int .u64 x0] m fun r2 m3 =>
 ∃ i1 : Int, r2 = .int .i64 i1 ∧ RetP R (.int .i64 i1) m3) : CallsA Try.prog w0 88 #[.int .u64 x0] m R :=
  callsA_of (c := c88) (args := [.int .u64 x0]) (by kernel_rfl) Try.func88 (by kernel_rfl) qs88 (by kernel_rfl) (by kernel_rfl) (cast (by kernel_rfl) h)
end Go.Proofs.Ytkfemiloehkmhaa.V

