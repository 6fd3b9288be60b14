/- Ytkfemiloehkmhaa: a text of our own, by an AI agent: VEff4H -/
import Derived.Test.YtkfemiloehkmhaaCoreA
import Derived.Test.YtkfemiloehkmhaaTabH
namespace Go.Proofs.Ytkfemiloehkmhaa.V
open Go Go.Alog Go.Proofs.Ytkfemiloehkmhaa.T
set_option linter.unusedVariables false
set_option maxRecDepth 100000

/-! 87 slices.pdqsortOrdered[int] -/
def qs87 : Nat → List (Nat × Nat) := fun i => match i with | _ => []
noncomputable def c87 : Code := bodyOf Try.f87
theorem cf87 (w0 : World) (m : AM) (x0 : Option Addr) (x0n x0c : Nat) (x1 : Int) (x2 : Int) (x3 : Int) (R : Value → AM → Prop) (h :
 vcS Try.prog w0 qs87 (sub c87 [1, 1, 0]) (upd (upd (argS [.slice x0 x0n x0c, .int .i64 x1, .int .i64 x2, .int .i64 x3]) 8 (.bool true)) 9 (.bool true)) m (blockS 0 (retQ Try.prog Try.f87 R))) : CallsA Try.prog w0 87 #[.slice x0 x0n x0c, .int .i64 x1, .int .i64 x2, .int .i64 x3] m R :=
  callsA_of (c := c87) (args := [.slice x0 x0n x0c, .int .i64 x1, .int .i64 x2, .int .i64 x3]) (by kernel_rfl) Try.func87 (by kernel_rfl) qs87 (by kernel_rfl) (by kernel_rfl) (cast (by kernel_rfl) h)
end Go.Proofs.Ytkfemiloehkmhaa.V

