/- Ythocajnpofdbmaa: a text of our own, by an AI agent: VWord3G -/
import Derived.Test.YthocajnpofdbmaaCore5
import Derived.Test.YthocajnpofdbmaaTabG
namespace Go.Proofs.Ythocajnpofdbmaa.V
open Go Go.Alog Go.Proofs.Ythocajnpofdbmaa.T
set_option linter.unusedVariables false
set_option maxRecDepth 100000

/-! 65 delayslot/word.Fits -/
def qs65 : Nat → List (Nat × Nat) := fun i => match i with | _ => []
noncomputable def c65 : Code := bodyOf Try.f65
theorem cf65 (w0 : World) (m : AM) (x0 : Int) (x1 : Int) (R : Value → AM → Prop) (h :
 IntKind.i64 = IntKind.i64 ∧ (bcase (decide ((x1 : Int) < 1)) (
 (decide ((x1 : Int) < 1)) = true ∧ RetP R (.bool false) m) (
 IntKind.i64 = IntKind.i64 ∧ (bcase (bif decide ((x1 : Int) < 1) then true else decide ((x1 : Int) > 62)) (
 RetP R (.bool false) m) (
 IntKind.i64 = IntKind.i64 ∧ (0 : Int) ≤ (IntKind.wrap .i64 (x1 - 1)) ∧ IntKind.i64 = IntKind.i64 ∧ (bcase (decide ((x0 : Int) ≥ (IntKind.wrap .i64 (0 - (IntKind.wrap .i64 (1 * 2 ^ (min ((IntKind.wrap .i64 (x1 - 1)) : Int).toNat (IntKind.bits .i64)))))))) (
 IntKind.i64 = IntKind.i64 ∧ RetP R (.bool (bif decide ((x0 : Int) ≥ (IntKind.wrap .i64 (0 - (IntKind.wrap .i64 (1 * 2 ^ (min ((IntKind.wrap .i64 (x1 - 1)) : Int).toNat (IntKind.bits .i64))))))) then decide ((x0 : Int) < (IntKind.wrap .i64 (1 * 2 ^ (min ((IntKind.wrap .i64 (x1 - 1)) : Int).toNat (IntKind.bits .i64))))) else false)) m) (
 (decide ((x0 : Int) ≥ (IntKind.wrap .i64 (0 - (IntKind.wrap .i64 (1 * 2 ^ (min ((IntKind.wrap .i64 (x1 - 1)) : Int).toNat (IntKind.bits .i64)))))))) = false ∧ RetP R (.bool false) m))))))) : CallsA Try.prog w0 65 #[.int .i64 x0, .int .i64 x1] m R :=
  callsA_of (c := c65) (args := [.int .i64 x0, .int .i64 x1]) (by kernel_rfl) Try.func65 (by kernel_rfl) qs65 (by kernel_rfl) (by kernel_rfl) (cast (by kernel_rfl) h)
end Go.Proofs.Ythocajnpofdbmaa.V
