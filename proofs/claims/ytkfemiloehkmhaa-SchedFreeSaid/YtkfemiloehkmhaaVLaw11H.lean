/- Ytkfemiloehkmhaa: a text of our own, by an AI agent: VLaw11H -/
import Derived.Test.YtkfemiloehkmhaaCoreA
import Derived.Test.YtkfemiloehkmhaaTabH
namespace Go.Proofs.Ytkfemiloehkmhaa.V
open Go Go.Alog Go.Proofs.Ytkfemiloehkmhaa.T
set_option linter.unusedVariables false
set_option maxRecDepth 100000

/-! 32 delayslot/delayslotlaw11.awake -/
def qs32 : Nat → List (Nat × Nat) := fun i => match i with | _ => []
noncomputable def c32 : Code := bodyOf Try.f32
theorem cf32 (w0 : World) (m : AM)  (R : Value → AM → Prop) (h :
 true = true ∧ true = true ∧ true = true ∧ true = true ∧ ∀ b1 : Nat, w0.heap.size ≤ b1 → m b1 = none → let m2 := AM.upd m b1 (.cells #[.int .i64 12, .int .i64 1, .int .i64 0, .int .i64 0, .int .i64 0, .int .i64 1, .int .i64 2, .int .i64 1, .int .i64 1, .int .i64 0, .int .i64 17, .int .i64 0, .int .i64 0, .int .i64 0, .int .i64 0] 24);
 CallsA Try.prog w0 37 #[.slice (some ⟨b1, 0, none⟩) 3 3] m2 fun r6 m7 =>
 ∃ (A3 : Option Addr) (n4 c5 : Nat), r6 = .slice A3 n4 c5 ∧ true = true ∧ ∀ b8 : Nat, w0.heap.size ≤ b8 → m7 b8 = none → let m9 := AM.upd m7 b8 (.cells #[.int .i64 2, .int .i64 (-1)] 3);
 CallsA Try.prog w0 36 #[.slice (some ⟨b1, 0, none⟩) 3 3, .slice (some ⟨b8, 0, none⟩) 2 2] m9 fun r13 m14 =>
 ∃ (A10 : Option Addr) (n11 c12 : Nat), r13 = .slice A10 n11 c12 ∧ true = true ∧ ∀ b15 : Nat, w0.heap.size ≤ b15 → m14 b15 = none → let m16 := AM.upd m14 b15 (.cells #[.int .i64 0, .int .i64 (-1), .int .i64 2, .int .i64 1] 3);
 CallsA Try.prog w0 33 #[.slice A3 n4 c5, .slice (some ⟨b15, 0, none⟩) 4 4] m16 fun r18 m19 =>
 ∃ t17 : Bool, r18 = .bool t17 ∧ (bcase t17 (
 IntKind.i64 = IntKind.i64 ∧ (bcase (bif t17 then (((n11 : Nat) : Int) : Int) == 2 else false) (
 ((0 : Int) ≤ 0 ∧ 0 < ((n11 : Nat) : Int)) ∧ nilO A10 fun a20 =>
 ∃ i21 : Int, m19.cell (a20.add (0)) = some (.int .i64 i21) ∧ 
 IntKind.i64 = IntKind.i64 ∧ (bcase (bif bif t17 then (((n11 : Nat) : Int) : Int) == 2 else false then (i21 : Int) == 17 else false) (
 ((0 : Int) ≤ 1 ∧ 1 < ((n11 : Nat) : Int)) ∧ nilO A10 fun a22 =>
 ∃ i23 : Int, m19.cell (a22.add (5)) = some (.int .i64 i23) ∧ 
 IntKind.i64 = IntKind.i64 ∧ RetP R (.bool (bif bif bif t17 then (((n11 : Nat) : Int) : Int) == 2 else false then (i21 : Int) == 17 else false then (i23 : Int) == 0 else false)) m19) (
 (bif bif t17 then (((n11 : Nat) : Int) : Int) == 2 else false then (i21 : Int) == 17 else false) = false ∧ RetP R (.bool false) m19))) (
 (bif t17 then (((n11 : Nat) : Int) : Int) == 2 else false) = false ∧ false = false ∧ RetP R (.bool false) m19))) (
 t17 = false ∧ false = false ∧ false = false ∧ RetP R (.bool false) m19))) : CallsA Try.prog w0 32 #[] m R :=
  callsA_of (c := c32) (args := []) (by kernel_rfl) Try.func32 (by kernel_rfl) qs32 (by kernel_rfl) (by kernel_rfl) (cast (by kernel_rfl) h)

/-! 10 delayslot/delayslotlaw11.SchedOrders -/
def qs10 : Nat → List (Nat × Nat) := fun i => match i with | _ => []
noncomputable def c10 : Code := bodyOf Try.f10
theorem cf10 (w0 : World) (m : AM) (x0 : Option Addr) (x0n x0c : Nat) (R : Value → AM → Prop) (h :
 IntKind.i64 = IntKind.i64 ∧ (bcase (decide ((((x0n : Nat) : Int) : Int) > 40)) (
 CallsA Try.prog w0 32 #[] m fun r2 m3 =>
 ∃ t1 : Bool, r2 = .bool t1 ∧ RetP R (.bool t1) m3) (
 CallsA Try.prog w0 34 #[.slice x0 x0n x0c] m fun r7 m8 =>
 ∃ (A4 : Option Addr) (n5 c6 : Nat), r7 = .slice A4 n5 c6 ∧ CallsA Try.prog w0 35 #[.slice x0 x0n x0c] m8 fun r12 m13 =>
 ∃ (A9 : Option Addr) (n10 c11 : Nat), r12 = .slice A9 n10 c11 ∧ CallsA Try.prog w0 33 #[.slice A4 n5 c6, .slice A9 n10 c11] m13 fun r15 m16 =>
 ∃ t14 : Bool, r15 = .bool t14 ∧ (bcase t14 (
 CallsA Try.prog w0 32 #[] m16 fun r18 m19 =>
 ∃ t17 : Bool, r18 = .bool t17 ∧ RetP R (.bool (bif t14 then t17 else false)) m19) (
 t14 = false ∧ RetP R (.bool false) m16))))) : CallsA Try.prog w0 10 #[.slice x0 x0n x0c] m R :=
  callsA_of (c := c10) (args := [.slice x0 x0n x0c]) (by kernel_rfl) Try.func10 (by kernel_rfl) qs10 (by kernel_rfl) (by kernel_rfl) (cast (by kernel_rfl) h)
end Go.Proofs.Ytkfemiloehkmhaa.V
