/- Ytkfemiloehkmhaa: a text of our own, by an AI agent: VWord3H -/
import Derived.Test.YtkfemiloehkmhaaCoreA
import Derived.Test.YtkfemiloehkmhaaTabH
namespace Go.Proofs.Ytkfemiloehkmhaa.V
open Go Go.Alog Go.Proofs.Ytkfemiloehkmhaa.T
set_option linter.unusedVariables false
set_option maxRecDepth 100000

/-! 94 delayslot/word.Fits -/
def qs94 : Nat → List (Nat × Nat) := fun i => match i with | _ => []
noncomputable def c94 : Code := bodyOf Try.f94
theorem cf94 (w0 : World) (m : AM) (x0 : Int) (x1 : Int) (R : Value → AM → Prop) (h :
 IntKind.i64 = IntKind.i64 ∧ (bcase (decide ((x1 : Int) < 1)) (
 (decide ((x1 : Int) < 1)) = true ∧ RetP R (.bool false) m) (
 IntKind.i64 = IntKind.i64 ∧ (bcase (bif decide ((x1 : Int) < 1) then true else decide ((x1 : Int) > 62)) (
 RetP R (.bool false) m) (
 IntKind.i64 = IntKind.i64 ∧ (0 : Int) ≤ (IntKind.wrap .i64 (x1 - 1)) ∧ IntKind.i64 = IntKind.i64 ∧ (bcase (decide ((x0 : Int) ≥ (IntKind.wrap .i64 (0 - (IntKind.wrap .i64 (1 * 2 ^ (min ((IntKind.wrap .i64 (x1 - 1)) : Int).toNat (IntKind.bits .i64)))))))) (
 IntKind.i64 = IntKind.i64 ∧ RetP R (.bool (bif decide ((x0 : Int) ≥ (IntKind.wrap .i64 (0 - (IntKind.wrap .i64 (1 * 2 ^ (min ((IntKind.wrap .i64 (x1 - 1)) : Int).toNat (IntKind.bits .i64))))))) then decide ((x0 : Int) < (IntKind.wrap .i64 (1 * 2 ^ (min ((IntKind.wrap .i64 (x1 - 1)) : Int).toNat (IntKind.bits .i64))))) else false)) m) (
 (decide ((x0 : Int) ≥ (IntKind.wrap .i64 (0 - (IntKind.wrap .i64 (1 * 2 ^ (min ((IntKind.wrap .i64 (x1 - 1)) : Int).toNat (IntKind.bits .i64)))))))) = false ∧ RetP R (.bool false) m))))))) : CallsA Try.prog w0 94 #[.int .i64 x0, .int .i64 x1] m R :=
  callsA_of (c := c94) (args := [.int .i64 x0, .int .i64 x1]) (by kernel_rfl) Try.func94 (by kernel_rfl) qs94 (by kernel_rfl) (by kernel_rfl) (cast (by kernel_rfl) h)
end Go.Proofs.Ytkfemiloehkmhaa.V

