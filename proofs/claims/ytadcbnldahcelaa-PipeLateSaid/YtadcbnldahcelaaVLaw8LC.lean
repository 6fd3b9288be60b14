/- Ytadcbnldahcelaa: a text of our own, by an AI agent: VLaw8LC -/
import Derived.Test.YtadcbnldahcelaaCore5
import Derived.Test.YtadcbnldahcelaaTabC
namespace Go.Proofs.Ytadcbnldahcelaa.V
open Go Go.Alog Go.Proofs.Ytadcbnldahcelaa.T
set_option linter.unusedVariables false
set_option maxRecDepth 100000

/-! 17 delayslot/delayslotlaw08.PipeLate -/
def qs17 : Nat → List (Nat × Nat) := fun i => match i with | _ => []
noncomputable def c17 : Code := bodyOf Try.f17
theorem cf17 (w0 : World) (m : AM) (x0 : Int) (x1 : Int) (x2 : Bool) (R : Value → AM → Prop) (h :
 true = true ∧ true = true ∧ true = true ∧ true = true ∧ true = true ∧ true = true ∧ ∀ b1 : Nat, w0.heap.size ≤ b1 → m b1 = none → let m2 := AM.upd m b1 (.cells #[.int .i64 20, .int .i64 0, .int .i64 0, .int .i64 0, .int .i64 1, .int .i64 0, .int .i64 0, .int .i64 0, .int .i64 0, .int .i64 0, .int .i64 13, .int .i64 4, .int .i64 0, .int .i64 0, .int .i64 0, .int .i64 20, .int .i64 0, .int .i64 0, .int .i64 0, .int .i64 1, .int .i64 0, .int .i64 0, .int .i64 0, .int .i64 0, .int .i64 0] 34);
 vcS Try.prog w0 qs17 (sub c17 [1, 1]) (upd (upd (upd (upd (upd (upd (upd (upd (argS [.int .i32 x0, .int .i32 x1, .bool x2]) 6 (.bool false)) 11 (.agg #[.int .i64 20, .int .i64 0, .int .i64 0, .int .i64 0, .int .i64 1])) 12 (.agg #[.int .i64 0, .int .i64 0, .int .i64 0, .int .i64 0, .int .i64 0])) 13 (.agg #[.int .i64 13, .int .i64 4, .int .i64 0, .int .i64 0, .int .i64 0])) 14 (.agg #[.int .i64 20, .int .i64 0, .int .i64 0, .int .i64 0, .int .i64 1])) 15 (.agg #[.int .i64 0, .int .i64 0, .int .i64 0, .int .i64 0, .int .i64 0])) 16 (.slice (some ⟨b1, 0, none⟩) 5 5)) 7 (.slice (some ⟨b1, 0, none⟩) 5 5)) m2 (retQ Try.prog Try.f17 R)) : CallsA Try.prog w0 17 #[.int .i32 x0, .int .i32 x1, .bool x2] m R :=
  callsA_of (c := c17) (args := [.int .i32 x0, .int .i32 x1, .bool x2]) (by kernel_rfl) Try.func17 (by kernel_rfl) qs17 (by kernel_rfl) (by kernel_rfl) (cast (by kernel_rfl) h)
theorem vk17_11 (w0 : World) (m : AM) (σ : Sg) (R : Value → AM → Prop)  (x0 : Int) (x1 : Int) (x2 : Bool) (x7 : Option Addr) (x7n x7c : Nat) (h0 : σ 0 = .int .i32 x0) (h1 : σ 1 = .int .i32 x1) (h2 : σ 2 = .bool x2) (h7 : σ 7 = .slice x7 x7n x7c) (h :
 true = true ∧ ∀ b3 : Nat, w0.heap.size ≤ b3 → m b3 = none → let m4 := AM.upd m b3 (.cells #[.int .i64 0, .int .i64 0, .int .i64 0, .int .i64 0, .int .i64 0] 34);
 StC w0.heap.size m4 ⟨b3, 0, none⟩ (.int .i64 12) fun m5 =>
 StC w0.heap.size m5 ⟨b3, 1, none⟩ (.int .i64 4) fun m6 =>
 StC w0.heap.size m6 ⟨b3, 2, none⟩ (.int .i64 0) fun m7 =>
 StC w0.heap.size m7 ⟨b3, 3, none⟩ (.int .i64 0) fun m8 =>
 StC w0.heap.size m8 ⟨b3, 4, none⟩ (.int .i64 0) fun m9 =>
 vcS Try.prog w0 qs17 (sub c17 [1, 1, 1]) (upd (upd (upd (upd (upd (upd σ 0 (.int .i32 x0)) 1 (.int .i32 x1)) 2 (.bool x2)) 7 (.slice x7 x7n x7c)) 17 (.agg #[.int .i64 12, .int .i64 4, .int .i64 0, .int .i64 0, .int .i64 0])) 8 (.pointer (some ⟨b3, 0, none⟩))) m9 (retQ Try.prog Try.f17 R)) :
 vcS Try.prog w0 qs17 (sub c17 [1, 1]) σ m (retQ Try.prog Try.f17 R) := by
  have es0 : (upd (upd (upd (upd σ 0 (.int .i32 x0)) 1 (.int .i32 x1)) 2 (.bool x2)) 7 (.slice x7 x7n x7c)) = σ := by rw [upd_id h0, upd_id h1, upd_id h2, upd_id h7]
  exact cast (congrArg (fun s => vcS Try.prog w0 qs17 (sub c17 [1, 1]) s m (retQ Try.prog Try.f17 R)) es0) (cast (by kernel_rfl) h)
theorem vk17_111 (w0 : World) (m : AM) (σ : Sg) (R : Value → AM → Prop)  (x0 : Int) (x1 : Int) (x2 : Bool) (x7 : Option Addr) (x7n x7c : Nat) (x8 : Nat) (h0 : σ 0 = .int .i32 x0) (h1 : σ 1 = .int .i32 x1) (h2 : σ 2 = .bool x2) (h7 : σ 7 = .slice x7 x7n x7c) (h8 : σ 8 = .pointer (some ⟨x8, 0, none⟩)) (h :
 true = true ∧ ∀ b10 : Nat, w0.heap.size ≤ b10 → m b10 = none → let m11 := AM.upd m b10 (.cells #[.int .i64 (IntKind.wrap .i64 x1), .int .i64 (IntKind.wrap .i64 x0)] 3);
 vcS Try.prog w0 qs17 (sub c17 [1, 1, 1, 1]) (upd (upd (upd (upd (upd (upd (upd (upd (upd (upd (upd σ 0 (.int .i32 x0)) 1 (.int .i32 x1)) 2 (.bool x2)) 7 (.slice x7 x7n x7c)) 8 (.pointer (some ⟨x8, 0, none⟩))) 18 (.int .i32 x1)) 19 (.int .i64 (IntKind.wrap .i64 x1))) 20 (.int .i32 x0)) 21 (.int .i64 (IntKind.wrap .i64 x0))) 22 (.slice (some ⟨b10, 0, none⟩) 2 2)) 9 (.slice (some ⟨b10, 0, none⟩) 2 2)) m11 (retQ Try.prog Try.f17 R)) :
 vcS Try.prog w0 qs17 (sub c17 [1, 1, 1]) σ m (retQ Try.prog Try.f17 R) := by
  have es0 : (upd (upd (upd (upd (upd σ 0 (.int .i32 x0)) 1 (.int .i32 x1)) 2 (.bool x2)) 7 (.slice x7 x7n x7c)) 8 (.pointer (some ⟨x8, 0, none⟩))) = σ := by rw [upd_id h0, upd_id h1, upd_id h2, upd_id h7, upd_id h8]
  exact cast (congrArg (fun s => vcS Try.prog w0 qs17 (sub c17 [1, 1, 1]) s m (retQ Try.prog Try.f17 R)) es0) (cast (by kernel_rfl) h)
theorem vk17_1111 (w0 : World) (m : AM) (σ : Sg) (R : Value → AM → Prop)  (x0 : Int) (x1 : Int) (x2 : Bool) (x7 : Option Addr) (x7n x7c : Nat) (x8 : Nat) (x9 : Option Addr) (x9n x9c : Nat) (h0 : σ 0 = .int .i32 x0) (h1 : σ 1 = .int .i32 x1) (h2 : σ 2 = .bool x2) (h7 : σ 7 = .slice x7 x7n x7c) (h8 : σ 8 = .pointer (some ⟨x8, 0, none⟩)) (h9 : σ 9 = .slice x9 x9n x9c) (h :
 (bcase x2 (
 true = true ∧ StC w0.heap.size m ⟨x8, 0, none⟩ (.int .i64 20) fun m12 =>
 StC w0.heap.size m12 ⟨x8, 1, none⟩ (.int .i64 0) fun m13 =>
 StC w0.heap.size m13 ⟨x8, 2, none⟩ (.int .i64 0) fun m14 =>
 StC w0.heap.size m14 ⟨x8, 3, none⟩ (.int .i64 0) fun m15 =>
 StC w0.heap.size m15 ⟨x8, 4, none⟩ (.int .i64 1) fun m16 =>
 vcS Try.prog w0 qs17 (sub c17 [1, 1, 1, 1, 0, 1, 0, 1]) (upd (upd (upd (upd (upd (upd (upd (upd σ 0 (.int .i32 x0)) 1 (.int .i32 x1)) 2 (.bool x2)) 7 (.slice x7 x7n x7c)) 8 (.pointer (some ⟨x8, 0, none⟩))) 9 (.slice x9 x9n x9c)) 23 (.bool x2)) 24 (.agg #[.int .i64 20, .int .i64 0, .int .i64 0, .int .i64 0, .int .i64 1])) m16 (thenS (fun σ m => vcS Try.prog w0 qs17 (sub c17 [1, 1, 1, 1, 1]) σ m (retQ Try.prog Try.f17 R)) (retQ Try.prog Try.f17 R))) (
 vcS Try.prog w0 qs17 (sub c17 [1, 1, 1, 1, 1]) (upd (upd (upd (upd (upd (upd (upd σ 0 (.int .i32 x0)) 1 (.int .i32 x1)) 2 (.bool x2)) 7 (.slice x7 x7n x7c)) 8 (.pointer (some ⟨x8, 0, none⟩))) 9 (.slice x9 x9n x9c)) 23 (.bool x2)) m (retQ Try.prog Try.f17 R)))) :
 vcS Try.prog w0 qs17 (sub c17 [1, 1, 1, 1]) σ m (retQ Try.prog Try.f17 R) := by
  have es0 : (upd (upd (upd (upd (upd (upd σ 0 (.int .i32 x0)) 1 (.int .i32 x1)) 2 (.bool x2)) 7 (.slice x7 x7n x7c)) 8 (.pointer (some ⟨x8, 0, none⟩))) 9 (.slice x9 x9n x9c)) = σ := by rw [upd_id h0, upd_id h1, upd_id h2, upd_id h7, upd_id h8, upd_id h9]
  exact cast (congrArg (fun s => vcS Try.prog w0 qs17 (sub c17 [1, 1, 1, 1]) s m (retQ Try.prog Try.f17 R)) es0) (cast (by kernel_rfl) h)
theorem vk17_11111 (w0 : World) (m : AM) (σ : Sg) (R : Value → AM → Prop)  (x0 : Int) (x1 : Int) (x7 : Option Addr) (x7n x7c : Nat) (x8 : Nat) (x9 : Option Addr) (x9n x9c : Nat) (h0 : σ 0 = .int .i32 x0) (h1 : σ 1 = .int .i32 x1) (h7 : σ 7 = .slice x7 x7n x7c) (h8 : σ 8 = .pointer (some ⟨x8, 0, none⟩)) (h9 : σ 9 = .slice x9 x9n x9c) (h :
 ∃ i24 : Int, m.cell ⟨x8, 0, none⟩ = some (.int .i64 i24) ∧ ∃ i25 : Int, m.cell ⟨x8, 1, none⟩ = some (.int .i64 i25) ∧ ∃ i26 : Int, m.cell ⟨x8, 2, none⟩ = some (.int .i64 i26) ∧ ∃ i27 : Int, m.cell ⟨x8, 3, none⟩ = some (.int .i64 i27) ∧ ∃ i28 : Int, m.cell ⟨x8, 4, none⟩ = some (.int .i64 i28) ∧ 
 true = true ∧ true = true ∧ true = true ∧ true = true ∧ ∀ b29 : Nat, w0.heap.size ≤ b29 → m b29 = none → let m30 := AM.upd m b29 (.cells #[.int .i64 i24, .int .i64 i25, .int .i64 i26, .int .i64 i27, .int .i64 i28, .int .i64 20, .int .i64 0, .int .i64 0, .int .i64 0, .int .i64 2, .int .i64 20, .int .i64 0, .int .i64 0, .int .i64 0, .int .i64 2, .int .i64 20, .int .i64 0, .int .i64 0, .int .i64 0, .int .i64 0] 34);
 awp Try.prog w0.heap.size (Builtin.append_ #[22, 22] 22 #[.slice x7 x7n x7c, .slice (some ⟨b29, 0, none⟩) 4 4]) m30 fun v31 m32 =>
 ∃ (A33 : Option Addr) (n34 c35 : Nat), v31 = .slice A33 n34 c35 ∧ CallsA Try.prog w0 31 #[.slice A33 n34 c35, .int .i64 1, .slice x9 x9n x9c, .int .i64 50] m32 fun r44 m45 =>
 ∃ i36 : Int, ∃ i37 : Int, ∃ (A38 : Option Addr) (n39 c40 : Nat), ∃ (A41 : Option Addr) (n42 c43 : Nat), r44 = .agg #[.int .i64 i36, .int .i64 i37, .slice A38 n39 c40, .slice A41 n42 c43] ∧ ∀ b46 : Nat, w0.heap.size ≤ b46 → m45 b46 = none → let m47 := AM.upd m45 b46 (.cells #[.int .i64 0, .int .i64 0, .slice none 0 0, .slice none 0 0] 29);
 StC w0.heap.size m47 ⟨b46, 0, none⟩ (.int .i64 i36) fun m48 =>
 StC w0.heap.size m48 ⟨b46, 1, none⟩ (.int .i64 i37) fun m49 =>
 StC w0.heap.size m49 ⟨b46, 2, none⟩ (.slice A38 n39 c40) fun m50 =>
 StC w0.heap.size m50 ⟨b46, 3, none⟩ (.slice A41 n42 c43) fun m51 =>
 ∃ i52 : Int, m51.cell ⟨b46, 0, none⟩ = some (.int .i64 i52) ∧ 
 IntKind.i64 = IntKind.i64 ∧ (bcase ((i52 : Int) == 1) (
 ∃ i53 : Int, m51.cell ⟨b46, 1, none⟩ = some (.int .i64 i53) ∧ 
 IntKind.i64 = IntKind.i64 ∧ (bcase (bif (i52 : Int) == 1 then (i53 : Int) == 12 else false) (
 ∃ (A54 : Option Addr) (n55 c56 : Nat), m51.cell ⟨b46, 2, none⟩ = some (.slice A54 n55 c56) ∧ 
 IntKind.i64 = IntKind.i64 ∧ (bcase (bif bif (i52 : Int) == 1 then (i53 : Int) == 12 else false then (((n55 : Nat) : Int) : Int) == 2 else false) (
 ∃ (A57 : Option Addr) (n58 c59 : Nat), m51.cell ⟨b46, 2, none⟩ = some (.slice A57 n58 c59) ∧ 
 ((0 : Int) ≤ 0 ∧ 0 < ((n58 : Nat) : Int)) ∧ nilO A57 fun a60 =>
 ∃ i61 : Int, m51.cell (a60.add (0)) = some (.int .i64 i61) ∧ 
 IntKind.i64 = IntKind.i64 ∧ (bcase (bif bif bif (i52 : Int) == 1 then (i53 : Int) == 12 else false then (((n55 : Nat) : Int) : Int) == 2 else false then (i61 : Int) == (IntKind.wrap .i64 x0) else false) (
 ∃ (A62 : Option Addr) (n63 c64 : Nat), m51.cell ⟨b46, 2, none⟩ = some (.slice A62 n63 c64) ∧ 
 ((0 : Int) ≤ 1 ∧ 1 < ((n63 : Nat) : Int)) ∧ nilO A62 fun a65 =>
 ∃ i66 : Int, m51.cell (a65.add (1)) = some (.int .i64 i66) ∧ 
 IntKind.i64 = IntKind.i64 ∧ (bcase (bif bif bif bif (i52 : Int) == 1 then (i53 : Int) == 12 else false then (((n55 : Nat) : Int) : Int) == 2 else false then (i61 : Int) == (IntKind.wrap .i64 x0) else false then (i66 : Int) == (IntKind.wrap .i64 x1) else false) (
 CallsA Try.prog w0 30 #[] m51 fun r68 m69 =>
 ∃ t67 : Bool, r68 = .bool t67 ∧ RetP R (.bool (bif bif bif bif bif (i52 : Int) == 1 then (i53 : Int) == 12 else false then (((n55 : Nat) : Int) : Int) == 2 else false then (i61 : Int) == (IntKind.wrap .i64 x0) else false then (i66 : Int) == (IntKind.wrap .i64 x1) else false then t67 else false)) m69) (
 (bif bif bif bif (i52 : Int) == 1 then (i53 : Int) == 12 else false then (((n55 : Nat) : Int) : Int) == 2 else false then (i61 : Int) == (IntKind.wrap .i64 x0) else false then (i66 : Int) == (IntKind.wrap .i64 x1) else false) = false ∧ RetP R (.bool false) m51))) (
 (bif bif bif (i52 : Int) == 1 then (i53 : Int) == 12 else false then (((n55 : Nat) : Int) : Int) == 2 else false then (i61 : Int) == (IntKind.wrap .i64 x0) else false) = false ∧ false = false ∧ RetP R (.bool false) m51))) (
 (bif bif (i52 : Int) == 1 then (i53 : Int) == 12 else false then (((n55 : Nat) : Int) : Int) == 2 else false) = false ∧ false = false ∧ false = false ∧ RetP R (.bool false) m51))) (
 (bif (i52 : Int) == 1 then (i53 : Int) == 12 else false) = false ∧ false = false ∧ false = false ∧ false = false ∧ RetP R (.bool false) m51))) (
 ((i52 : Int) == 1) = false ∧ false = false ∧ false = false ∧ false = false ∧ false = false ∧ RetP R (.bool false) m51))) :
 vcS Try.prog w0 qs17 (sub c17 [1, 1, 1, 1, 1]) σ m (retQ Try.prog Try.f17 R) := by
  have es0 : (upd (upd (upd (upd (upd σ 0 (.int .i32 x0)) 1 (.int .i32 x1)) 7 (.slice x7 x7n x7c)) 8 (.pointer (some ⟨x8, 0, none⟩))) 9 (.slice x9 x9n x9c)) = σ := by rw [upd_id h0, upd_id h1, upd_id h7, upd_id h8, upd_id h9]
  exact cast (congrArg (fun s => vcS Try.prog w0 qs17 (sub c17 [1, 1, 1, 1, 1]) s m (retQ Try.prog Try.f17 R)) es0) (cast (by kernel_rfl) h)
end Go.Proofs.Ytadcbnldahcelaa.V
