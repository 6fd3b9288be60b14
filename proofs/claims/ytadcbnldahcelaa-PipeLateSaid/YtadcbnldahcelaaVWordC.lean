/- Ytadcbnldahcelaa: a text of our own, by an AI agent: VWordC -/
import Derived.Test.YtadcbnldahcelaaCore5
import Derived.Test.YtadcbnldahcelaaTabC
namespace Go.Proofs.Ytadcbnldahcelaa.V
open Go Go.Alog Go.Proofs.Ytadcbnldahcelaa.T
set_option linter.unusedVariables false
set_option maxRecDepth 100000

/-! 40 delayslot/word.Wrap -/
def qs40 : Nat → List (Nat × Nat) := fun i => match i with | _ => []
noncomputable def c40 : Code := bodyOf Try.f40
theorem cf40 (w0 : World) (m : AM) (x0 : Int) (R : Value → AM → Prop) (h :
 RetP R (.int .i64 (IntKind.wrap .i64 (IntKind.wrap .i32 x0))) m) : CallsA Try.prog w0 40 #[.int .i64 x0] m R :=
  callsA_of (c := c40) (args := [.int .i64 x0]) (by kernel_rfl) Try.func40 (by kernel_rfl) qs40 (by kernel_rfl) (by kernel_rfl) (cast (by kernel_rfl) h)

/-! 66 delayslot/word.Add -/
def qs66 : Nat → List (Nat × Nat) := fun i => match i with | _ => []
noncomputable def c66 : Code := bodyOf Try.f66
theorem cf66 (w0 : World) (m : AM) (x0 : Int) (x1 : Int) (R : Value → AM → Prop) (h :
 IntKind.i64 = IntKind.i64 ∧ CallsA Try.prog w0 40 #[.int .i64 (IntKind.wrap .i64 (x0 + x1))] m fun r2 m3 =>
 ∃ i1 : Int, r2 = .int .i64 i1 ∧ RetP R (.int .i64 i1) m3) : CallsA Try.prog w0 66 #[.int .i64 x0, .int .i64 x1] m R :=
  callsA_of (c := c66) (args := [.int .i64 x0, .int .i64 x1]) (by kernel_rfl) Try.func66 (by kernel_rfl) qs66 (by kernel_rfl) (by kernel_rfl) (cast (by kernel_rfl) h)

/-! 43 delayslot/word.Div -/
def qs43 : Nat → List (Nat × Nat) := fun i => match i with | _ => []
noncomputable def c43 : Code := bodyOf Try.f43
theorem cf43 (w0 : World) (m : AM) (x0 : Int) (x1 : Int) (R : Value → AM → Prop) (h :
 CallsA Try.prog w0 40 #[.int .i64 x0] m fun r2 m3 =>
 ∃ i1 : Int, r2 = .int .i64 i1 ∧ CallsA Try.prog w0 40 #[.int .i64 x1] m3 fun r5 m6 =>
 ∃ i4 : Int, r5 = .int .i64 i4 ∧ IntKind.i64 = IntKind.i64 ∧ (bcase ((i4 : Int) == 0) (
 RetP R (.tuple #[.int .i64 0, .int .i64 0, .bool false]) m6) (
 IntKind.i64 = IntKind.i64 ∧ (i4 : Int) ≠ 0 ∧ CallsA Try.prog w0 40 #[.int .i64 (IntKind.wrap .i64 (Int.tdiv i1 i4))] m6 fun r8 m9 =>
 ∃ i7 : Int, r8 = .int .i64 i7 ∧ IntKind.i64 = IntKind.i64 ∧ (i4 : Int) ≠ 0 ∧ RetP R (.tuple #[.int .i64 i7, .int .i64 (Int.tmod i1 i4), .bool true]) m9))) : CallsA Try.prog w0 43 #[.int .i64 x0, .int .i64 x1] m R :=
  callsA_of (c := c43) (args := [.int .i64 x0, .int .i64 x1]) (by kernel_rfl) Try.func43 (by kernel_rfl) qs43 (by kernel_rfl) (by kernel_rfl) (cast (by kernel_rfl) h)

/-! 69 delayslot/word.Fits -/
def qs69 : Nat → List (Nat × Nat) := fun i => match i with | _ => []
noncomputable def c69 : Code := bodyOf Try.f69
theorem cf69 (w0 : World) (m : AM) (x0 : Int) (x1 : Int) (R : Value → AM → Prop) (h :
 IntKind.i64 = IntKind.i64 ∧ (bcase (decide ((x1 : Int) < 1)) (
 (decide ((x1 : Int) < 1)) = true ∧ RetP R (.bool false) m) (
 IntKind.i64 = IntKind.i64 ∧ (bcase (bif decide ((x1 : Int) < 1) then true else decide ((x1 : Int) > 62)) (
 RetP R (.bool false) m) (
 IntKind.i64 = IntKind.i64 ∧ (0 : Int) ≤ (IntKind.wrap .i64 (x1 - 1)) ∧ IntKind.i64 = IntKind.i64 ∧ (bcase (decide ((x0 : Int) ≥ (IntKind.wrap .i64 (0 - (IntKind.wrap .i64 (1 * 2 ^ (min ((IntKind.wrap .i64 (x1 - 1)) : Int).toNat (IntKind.bits .i64)))))))) (
 IntKind.i64 = IntKind.i64 ∧ RetP R (.bool (bif decide ((x0 : Int) ≥ (IntKind.wrap .i64 (0 - (IntKind.wrap .i64 (1 * 2 ^ (min ((IntKind.wrap .i64 (x1 - 1)) : Int).toNat (IntKind.bits .i64))))))) then decide ((x0 : Int) < (IntKind.wrap .i64 (1 * 2 ^ (min ((IntKind.wrap .i64 (x1 - 1)) : Int).toNat (IntKind.bits .i64))))) else false)) m) (
 (decide ((x0 : Int) ≥ (IntKind.wrap .i64 (0 - (IntKind.wrap .i64 (1 * 2 ^ (min ((IntKind.wrap .i64 (x1 - 1)) : Int).toNat (IntKind.bits .i64)))))))) = false ∧ RetP R (.bool false) m))))))) : CallsA Try.prog w0 69 #[.int .i64 x0, .int .i64 x1] m R :=
  callsA_of (c := c69) (args := [.int .i64 x0, .int .i64 x1]) (by kernel_rfl) Try.func69 (by kernel_rfl) qs69 (by kernel_rfl) (by kernel_rfl) (cast (by kernel_rfl) h)
end Go.Proofs.Ytadcbnldahcelaa.V
