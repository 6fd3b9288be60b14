/- Ytkfemiloehkmhaa: a text of our own, by an AI agent: VEff4H -/
import Derived.Test.YtkfemiloehkmhaaCoreA
import Derived.Test.YtkfemiloehkmhaaTabH
namespace Go.Proofs.Ytkfemiloehkmhaa.V
open Go Go.Alog Go.Proofs.Ytkfemiloehkmhaa.T
set_option linter.unusedVariables false
set_option maxRecDepth 100000

/-! 87 slices.pdqsortOrdered[int] -/
def qs87 : Nat → List (Nat × Nat) := fun i => match i with | _ => []
noncomputable def c87 : Code := bodyOf Try.f87
theorem cf87 (w0 : World) (m : AM) (x0 : Option Addr) (x0n x0c : Nat) (x1 : Int) (x2 : Int) (x3 : Int) (R : Value → AM → Prop) (h :
 vcS Try.prog w0 qs87 (sub c87 [1, 1, 0]) (upd (upd (argS [.slice x0 x0n x0c, .int .i64 x1, .int .i64 x2, .int .i64 x3]) 8 (.bool true)) 9 (.bool true)) m (blockS 0 (retQ Try.prog Try.f87 R))) : CallsA Try.prog w0 87 #[.slice x0 x0n x0c, .int .i64 x1, .int .i64 x2, .int .i64 x3] m R :=
  callsA_of (c := c87) (args := [.slice x0 x0n x0c, .int .i64 x1, .int .i64 x2, .int .i64 x3]) (by kernel_rfl) Try.func87 (by kernel_rfl) qs87 (by kernel_rfl) (by kernel_rfl) (cast (by kernel_rfl) h)
def lq87_110 (R : Value → AM → Prop) (x0 : Option Addr) (x0n x0c : Nat) (I0 : Nat → Int → Int → Int → Bool → Bool → AM → Prop)  (n0 : Nat) : Exit → Sg → AM → Prop
  | .normal, σ, m => σ 0 = .slice x0 x0n x0c ∧ okI .i64 (σ 1) = true ∧ okI .i64 (σ 2) = true ∧ okI .i64 (σ 3) = true ∧ okB (σ 8) = true ∧ okB (σ 9) = true ∧ ∃ n' : Nat, n' < n0 ∧ I0 n' (vI (σ 1)) (vI (σ 2)) (vI (σ 3)) (vB (σ 8)) (vB (σ 9)) m
  | .exit id, σ, m => False
  | .ret, σ, m => retQ Try.prog Try.f87 R .ret σ m
  | _, _, _ => False
end Go.Proofs.Ytkfemiloehkmhaa.V
