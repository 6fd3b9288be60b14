/- Ytkfemiloehkmhaa: a text of our own, by an AI agent: VBagH -/
import Derived.Test.YtkfemiloehkmhaaCoreA
import Derived.Test.YtkfemiloehkmhaaTabH
namespace Go.Proofs.Ytkfemiloehkmhaa.V
open Go Go.Alog Go.Proofs.Ytkfemiloehkmhaa.T
set_option linter.unusedVariables false
set_option maxRecDepth 100000

/-! 83 (*delayslot/bag.Set[int]).Has -/
def qs83 : Nat → List (Nat × Nat) := fun i => match i with | _ => []
noncomputable def c83 : Code := bodyOf Try.f83
theorem cf83 (w0 : World) (m : AM) (x0 : Nat) (x1 : Int) (R : Value → AM → Prop) (h :
 ∃ r1 : Option Nat, m.cell ⟨x0, 0, none⟩ = some (.map r1) ∧ 
 ∃ t2 : Bool, rval Try.prog m (Instr.lookup 56 (.map r1) (.int .i64 x1) false) = some (.bool t2) ∧
 RetP R (.bool t2) m) : CallsA Try.prog w0 83 #[.pointer (some ⟨x0, 0, none⟩), .int .i64 x1] m R :=
  callsA_of (c := c83) (args := [.pointer (some ⟨x0, 0, none⟩), .int .i64 x1]) (by kernel_rfl) Try.func83 (by kernel_rfl) qs83 (by kernel_rfl) (by kernel_rfl) (cast (by kernel_rfl) h)

/-! 51 (*delayslot/bag.Set[int]).Add -/
def qs51 : Nat → List (Nat × Nat) := fun i => match i with | _ => []
noncomputable def c51 : Code := bodyOf Try.f51
theorem cf51 (w0 : World) (m : AM) (x0 : Nat) (x1 : Int) (R : Value → AM → Prop) (h :
 CallsA Try.prog w0 83 #[.pointer (some ⟨x0, 0, none⟩), .int .i64 x1] m fun r2 m3 =>
 ∃ t1 : Bool, r2 = .bool t1 ∧ (bcase t1 (
 RetP R (.bool false) m3) (
 ∃ r4 : Option Nat, m3.cell ⟨x0, 0, none⟩ = some (.map r4) ∧ 
 (bcase (Option.isNone (r4 : Option Nat)) (
 ∀ b5 : Nat, w0.heap.size ≤ b5 → m3 b5 = none → let m6 := AM.upd m3 b5 (.map #[] 0);
 StC w0.heap.size m6 ⟨x0, 0, none⟩ (.map (some b5)) fun m7 =>
 ∃ r8 : Option Nat, m7.cell ⟨x0, 0, none⟩ = some (.map r8) ∧ 
 awp Try.prog w0.heap.size (Instr.mapUpdate 56 (.map r8) (.int .i64 x1) (.bool true)) m7 fun _ m9 =>
 ∃ (A10 : Option Addr) (n11 c12 : Nat), m9.cell ⟨x0, 1, none⟩ = some (.slice A10 n11 c12) ∧ 
 true = true ∧ ∀ b13 : Nat, w0.heap.size ≤ b13 → m9 b13 = none → let m14 := AM.upd m9 b13 (.cells #[.int .i64 x1] 3);
 awp Try.prog w0.heap.size (Builtin.append_ #[30, 30] 30 #[.slice A10 n11 c12, .slice (some ⟨b13, 0, none⟩) 1 1]) m14 fun v15 m16 =>
 ∃ (A17 : Option Addr) (n18 c19 : Nat), v15 = .slice A17 n18 c19 ∧ StC w0.heap.size m16 ⟨x0, 1, none⟩ (.slice A17 n18 c19) fun m20 =>
 RetP R (.bool true) m20) (
 ∃ r21 : Option Nat, m3.cell ⟨x0, 0, none⟩ = some (.map r21) ∧ 
 awp Try.prog w0.heap.size (Instr.mapUpdate 56 (.map r21) (.int .i64 x1) (.bool true)) m3 fun _ m22 =>
 ∃ (A23 : Option Addr) (n24 c25 : Nat), m22.cell ⟨x0, 1, none⟩ = some (.slice A23 n24 c25) ∧ 
 true = true ∧ ∀ b26 : Nat, w0.heap.size ≤ b26 → m22 b26 = none → let m27 := AM.upd m22 b26 (.cells #[.int .i64 x1] 3);
 awp Try.prog w0.heap.size (Builtin.append_ #[30, 30] 30 #[.slice A23 n24 c25, .slice (some ⟨b26, 0, none⟩) 1 1]) m27 fun v28 m29 =>
 ∃ (A30 : Option Addr) (n31 c32 : Nat), v28 = .slice A30 n31 c32 ∧ StC w0.heap.size m29 ⟨x0, 1, none⟩ (.slice A30 n31 c32) fun m33 =>
 RetP R (.bool true) m33))))) : CallsA Try.prog w0 51 #[.pointer (some ⟨x0, 0, none⟩), .int .i64 x1] m R :=
  callsA_of (c := c51) (args := [.pointer (some ⟨x0, 0, none⟩), .int .i64 x1]) (by kernel_rfl) Try.func51 (by kernel_rfl) qs51 (by kernel_rfl) (by kernel_rfl) (cast (by kernel_rfl) h)

/-! 55 (*delayslot/bag.Set[int]).All -/
def qs55 : Nat → List (Nat × Nat) := fun i => match i with | _ => []
noncomputable def c55 : Code := bodyOf Try.f55
theorem cf55 (w0 : World) (m : AM) (x0 : Nat) (R : Value → AM → Prop) (h :
 ∀ b1 : Nat, w0.heap.size ≤ b1 → m b1 = none → let m2 := AM.upd m b1 (.cells #[.pointer (some ⟨x0, 0, none⟩)] 88);
 RetP R (.func (.func 86) #[] #[.pointer (some ⟨b1, 0, none⟩)]) m2) : CallsA Try.prog w0 55 #[.pointer (some ⟨x0, 0, none⟩)] m R :=
  callsA_of (c := c55) (args := [.pointer (some ⟨x0, 0, none⟩)]) (by kernel_rfl) Try.func55 (by kernel_rfl) qs55 (by kernel_rfl) (by kernel_rfl) (cast (by kernel_rfl) h)
end Go.Proofs.Ytkfemiloehkmhaa.V

