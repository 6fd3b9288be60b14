/- Ytkfemiloehkmhaa: a text of our own, by an AI agent: VIsaH -/
import Derived.Test.YtkfemiloehkmhaaCoreA
import Derived.Test.YtkfemiloehkmhaaTabH
namespace Go.Proofs.Ytkfemiloehkmhaa.V
open Go Go.Alog Go.Proofs.Ytkfemiloehkmhaa.T
set_option linter.unusedVariables false
set_option maxRecDepth 100000

/-! 76 delayslot/isa.of -/
def qs76 : Nat → List (Nat × Nat) := fun i => match i with | _ => []
noncomputable def c76 : Code := bodyOf Try.f76
theorem cf76 (w0 : World) (m : AM) (x0 : Int) (R : Value → AM → Prop) (h :
 ∀ b1 : Nat, w0.heap.size ≤ b1 → m b1 = none → let m2 := AM.upd m b1 (.cells #[.bool false, .bool false, .bool false, .bool false] 81);
 IntKind.i64 = IntKind.i64 ∧ (bcase ((x0 : Int) == 0) (
 true = true ∧ StC w0.heap.size m2 ⟨b1, 0, none⟩ (.bool false) fun m3 =>
 StC w0.heap.size m3 ⟨b1, 1, none⟩ (.bool false) fun m4 =>
 StC w0.heap.size m4 ⟨b1, 2, none⟩ (.bool false) fun m5 =>
 StC w0.heap.size m5 ⟨b1, 3, none⟩ (.bool false) fun m6 =>
 ∃ t7 : Bool, m6.cell ⟨b1, 0, none⟩ = some (.bool t7) ∧ ∃ t8 : Bool, m6.cell ⟨b1, 1, none⟩ = some (.bool t8) ∧ ∃ t9 : Bool, m6.cell ⟨b1, 2, none⟩ = some (.bool t9) ∧ ∃ t10 : Bool, m6.cell ⟨b1, 3, none⟩ = some (.bool t10) ∧ RetP R (.tuple #[.agg #[.bool t7, .bool t8, .bool t9, .bool t10], .bool true]) m6) (
 IntKind.i64 = IntKind.i64 ∧ (bcase ((x0 : Int) == 1) (
 vcS Try.prog w0 qs76 (sub c76 [1, 0, 1, 0, 1, 1, 1]) (upd (upd (upd (upd (upd (upd (upd (argS [.int .i64 x0]) 2 (.pointer (some ⟨b1, 0, none⟩))) 3 (.bool false)) 4 (.int .i64 x0)) 6 (.bool ((x0 : Int) == 0))) 5 (.bool ((x0 : Int) == 0))) 9 (.bool ((x0 : Int) == 1))) 8 (.bool ((x0 : Int) == 1))) m2 (blockS 0 (thenS (fun σ m => vcS Try.prog w0 qs76 (sub c76 [1, 1]) σ m (retQ Try.prog Try.f76 R)) (retQ Try.prog Try.f76 R)))) (
 IntKind.i64 = IntKind.i64 ∧ (bcase ((x0 : Int) == 2) (
 vcS Try.prog w0 qs76 (sub c76 [1, 0, 1, 0, 1, 1, 1]) (upd (upd (upd (upd (upd (upd (upd (upd (upd (argS [.int .i64 x0]) 2 (.pointer (some ⟨b1, 0, none⟩))) 3 (.bool false)) 4 (.int .i64 x0)) 6 (.bool ((x0 : Int) == 0))) 5 (.bool ((x0 : Int) == 0))) 9 (.bool ((x0 : Int) == 1))) 8 (.bool ((x0 : Int) == 1))) 10 (.bool ((x0 : Int) == 2))) 8 (.bool ((x0 : Int) == 2))) m2 (blockS 0 (thenS (fun σ m => vcS Try.prog w0 qs76 (sub c76 [1, 1]) σ m (retQ Try.prog Try.f76 R)) (retQ Try.prog Try.f76 R)))) (
 IntKind.i64 = IntKind.i64 ∧ (bcase ((x0 : Int) == 3) (
 vcS Try.prog w0 qs76 (sub c76 [1, 0, 1, 0, 1, 1, 1]) (upd (upd (upd (upd (upd (upd (upd (upd (upd (upd (upd (argS [.int .i64 x0]) 2 (.pointer (some ⟨b1, 0, none⟩))) 3 (.bool false)) 4 (.int .i64 x0)) 6 (.bool ((x0 : Int) == 0))) 5 (.bool ((x0 : Int) == 0))) 9 (.bool ((x0 : Int) == 1))) 8 (.bool ((x0 : Int) == 1))) 10 (.bool ((x0 : Int) == 2))) 8 (.bool ((x0 : Int) == 2))) 11 (.bool ((x0 : Int) == 3))) 8 (.bool ((x0 : Int) == 3))) m2 (blockS 0 (thenS (fun σ m => vcS Try.prog w0 qs76 (sub c76 [1, 1]) σ m (retQ Try.prog Try.f76 R)) (retQ Try.prog Try.f76 R)))) (
 IntKind.i64 = IntKind.i64 ∧ (bcase ((x0 : Int) == 4) (
 vcS Try.prog w0 qs76 (sub c76 [1, 0, 1, 0, 1, 1, 1]) (upd (upd (upd (upd (upd (upd (upd (upd (upd (upd (upd (upd (upd (argS [.int .i64 x0]) 2 (.pointer (some ⟨b1, 0, none⟩))) 3 (.bool false)) 4 (.int .i64 x0)) 6 (.bool ((x0 : Int) == 0))) 5 (.bool ((x0 : Int) == 0))) 9 (.bool ((x0 : Int) == 1))) 8 (.bool ((x0 : Int) == 1))) 10 (.bool ((x0 : Int) == 2))) 8 (.bool ((x0 : Int) == 2))) 11 (.bool ((x0 : Int) == 3))) 8 (.bool ((x0 : Int) == 3))) 12 (.bool ((x0 : Int) == 4))) 8 (.bool ((x0 : Int) == 4))) m2 (blockS 0 (thenS (fun σ m => vcS Try.prog w0 qs76 (sub c76 [1, 1]) σ m (retQ Try.prog Try.f76 R)) (retQ Try.prog Try.f76 R)))) (
 IntKind.i64 = IntKind.i64 ∧ (bcase ((x0 : Int) == 5) (
 vcS Try.prog w0 qs76 (sub c76 [1, 0, 1, 0, 1, 1, 1]) (upd (upd (upd (upd (upd (upd (upd (upd (upd (upd (upd (upd (upd (upd (upd (argS [.int .i64 x0]) 2 (.pointer (some ⟨b1, 0, none⟩))) 3 (.bool false)) 4 (.int .i64 x0)) 6 (.bool ((x0 : Int) == 0))) 5 (.bool ((x0 : Int) == 0))) 9 (.bool ((x0 : Int) == 1))) 8 (.bool ((x0 : Int) == 1))) 10 (.bool ((x0 : Int) == 2))) 8 (.bool ((x0 : Int) == 2))) 11 (.bool ((x0 : Int) == 3))) 8 (.bool ((x0 : Int) == 3))) 12 (.bool ((x0 : Int) == 4))) 8 (.bool ((x0 : Int) == 4))) 13 (.bool ((x0 : Int) == 5))) 8 (.bool ((x0 : Int) == 5))) m2 (blockS 0 (thenS (fun σ m => vcS Try.prog w0 qs76 (sub c76 [1, 1]) σ m (retQ Try.prog Try.f76 R)) (retQ Try.prog Try.f76 R)))) (
 IntKind.i64 = IntKind.i64 ∧ (bcase ((x0 : Int) == 6) (
 vcS Try.prog w0 qs76 (sub c76 [1, 0, 1, 0, 1, 1, 1]) (upd (upd (upd (upd (upd (upd (upd (upd (upd (upd (upd (upd (upd (upd (upd (upd (upd (argS [.int .i64 x0]) 2 (.pointer (some ⟨b1, 0, none⟩))) 3 (.bool false)) 4 (.int .i64 x0)) 6 (.bool ((x0 : Int) == 0))) 5 (.bool ((x0 : Int) == 0))) 9 (.bool ((x0 : Int) == 1))) 8 (.bool ((x0 : Int) == 1))) 10 (.bool ((x0 : Int) == 2))) 8 (.bool ((x0 : Int) == 2))) 11 (.bool ((x0 : Int) == 3))) 8 (.bool ((x0 : Int) == 3))) 12 (.bool ((x0 : Int) == 4))) 8 (.bool ((x0 : Int) == 4))) 13 (.bool ((x0 : Int) == 5))) 8 (.bool ((x0 : Int) == 5))) 14 (.bool ((x0 : Int) == 6))) 8 (.bool ((x0 : Int) == 6))) m2 (blockS 0 (thenS (fun σ m => vcS Try.prog w0 qs76 (sub c76 [1, 1]) σ m (retQ Try.prog Try.f76 R)) (retQ Try.prog Try.f76 R)))) (
 IntKind.i64 = IntKind.i64 ∧ (bcase ((x0 : Int) == 7) (
 vcS Try.prog w0 qs76 (sub c76 [1, 0, 1, 0, 1, 1, 1]) (upd (upd (upd (upd (upd (upd (upd (upd (upd (upd (upd (upd (upd (upd (upd (upd (upd (upd (upd (argS [.int .i64 x0]) 2 (.pointer (some ⟨b1, 0, none⟩))) 3 (.bool false)) 4 (.int .i64 x0)) 6 (.bool ((x0 : Int) == 0))) 5 (.bool ((x0 : Int) == 0))) 9 (.bool ((x0 : Int) == 1))) 8 (.bool ((x0 : Int) == 1))) 10 (.bool ((x0 : Int) == 2))) 8 (.bool ((x0 : Int) == 2))) 11 (.bool ((x0 : Int) == 3))) 8 (.bool ((x0 : Int) == 3))) 12 (.bool ((x0 : Int) == 4))) 8 (.bool ((x0 : Int) == 4))) 13 (.bool ((x0 : Int) == 5))) 8 (.bool ((x0 : Int) == 5))) 14 (.bool ((x0 : Int) == 6))) 8 (.bool ((x0 : Int) == 6))) 15 (.bool ((x0 : Int) == 7))) 8 (.bool ((x0 : Int) == 7))) m2 (blockS 0 (thenS (fun σ m => vcS Try.prog w0 qs76 (sub c76 [1, 1]) σ m (retQ Try.prog Try.f76 R)) (retQ Try.prog Try.f76 R)))) (
 IntKind.i64 = IntKind.i64 ∧ (bcase ((x0 : Int) == 8) (
 vcS Try.prog w0 qs76 (sub c76 [1, 0, 1, 0, 1, 1, 1]) (upd (upd (upd (upd (upd (upd (upd (upd (upd (upd (upd (upd (upd (upd (upd (upd (upd (upd (upd (upd (upd (argS [.int .i64 x0]) 2 (.pointer (some ⟨b1, 0, none⟩))) 3 (.bool false)) 4 (.int .i64 x0)) 6 (.bool ((x0 : Int) == 0))) 5 (.bool ((x0 : Int) == 0))) 9 (.bool ((x0 : Int) == 1))) 8 (.bool ((x0 : Int) == 1))) 10 (.bool ((x0 : Int) == 2))) 8 (.bool ((x0 : Int) == 2))) 11 (.bool ((x0 : Int) == 3))) 8 (.bool ((x0 : Int) == 3))) 12 (.bool ((x0 : Int) == 4))) 8 (.bool ((x0 : Int) == 4))) 13 (.bool ((x0 : Int) == 5))) 8 (.bool ((x0 : Int) == 5))) 14 (.bool ((x0 : Int) == 6))) 8 (.bool ((x0 : Int) == 6))) 15 (.bool ((x0 : Int) == 7))) 8 (.bool ((x0 : Int) == 7))) 16 (.bool ((x0 : Int) == 8))) 8 (.bool ((x0 : Int) == 8))) m2 (blockS 0 (thenS (fun σ m => vcS Try.prog w0 qs76 (sub c76 [1, 1]) σ m (retQ Try.prog Try.f76 R)) (retQ Try.prog Try.f76 R)))) (
 IntKind.i64 = IntKind.i64 ∧ vcS Try.prog w0 qs76 (sub c76 [1, 0, 1, 0, 1, 1, 1]) (upd (upd (upd (upd (upd (upd (upd (upd (upd (upd (upd (upd (upd (upd (upd (upd (upd (upd (upd (upd (upd (upd (upd (argS [.int .i64 x0]) 2 (.pointer (some ⟨b1, 0, none⟩))) 3 (.bool false)) 4 (.int .i64 x0)) 6 (.bool ((x0 : Int) == 0))) 5 (.bool ((x0 : Int) == 0))) 9 (.bool ((x0 : Int) == 1))) 8 (.bool ((x0 : Int) == 1))) 10 (.bool ((x0 : Int) == 2))) 8 (.bool ((x0 : Int) == 2))) 11 (.bool ((x0 : Int) == 3))) 8 (.bool ((x0 : Int) == 3))) 12 (.bool ((x0 : Int) == 4))) 8 (.bool ((x0 : Int) == 4))) 13 (.bool ((x0 : Int) == 5))) 8 (.bool ((x0 : Int) == 5))) 14 (.bool ((x0 : Int) == 6))) 8 (.bool ((x0 : Int) == 6))) 15 (.bool ((x0 : Int) == 7))) 8 (.bool ((x0 : Int) == 7))) 16 (.bool ((x0 : Int) == 8))) 8 (.bool ((x0 : Int) == 8))) 17 (.bool ((x0 : Int) == 9))) 8 (.bool ((x0 : Int) == 9))) m2 (blockS 0 (thenS (fun σ m => vcS Try.prog w0 qs76 (sub c76 [1, 1]) σ m (retQ Try.prog Try.f76 R)) (retQ Try.prog Try.f76 R)))))))))))))))))))))) : CallsA Try.prog w0 76 #[.int .i64 x0] m R :=
  callsA_of (c := c76) (args := [.int .i64 x0]) (by kernel_rfl) Try.func76 (by kernel_rfl) qs76 (by kernel_rfl) (by kernel_rfl) (cast (by kernel_rfl) h)
theorem vk76_1010111 (w0 : World) (m : AM) (σ : Sg) (R : Value → AM → Prop)  (x2 : Nat) (x4 : Int) (x8 : Bool) (h2 : σ 2 = .pointer (some ⟨x2, 0, none⟩)) (h4 : σ 4 = .int .i64 x4) (h8 : σ 8 = .bool x8) (h :
 (bcase x8 (
 true = true ∧ StC w0.heap.size m ⟨x2, 0, none⟩ (.bool true) fun m11 =>
 StC w0.heap.size m11 ⟨x2, 1, none⟩ (.bool true) fun m12 =>
 StC w0.heap.size m12 ⟨x2, 2, none⟩ (.bool true) fun m13 =>
 StC w0.heap.size m13 ⟨x2, 3, none⟩ (.bool false) fun m14 =>
 ∃ t15 : Bool, m14.cell ⟨x2, 0, none⟩ = some (.bool t15) ∧ ∃ t16 : Bool, m14.cell ⟨x2, 1, none⟩ = some (.bool t16) ∧ ∃ t17 : Bool, m14.cell ⟨x2, 2, none⟩ = some (.bool t17) ∧ ∃ t18 : Bool, m14.cell ⟨x2, 3, none⟩ = some (.bool t18) ∧ RetP R (.tuple #[.agg #[.bool t15, .bool t16, .bool t17, .bool t18], .bool true]) m14) (
 IntKind.i64 = IntKind.i64 ∧ (bcase ((x4 : Int) == 10) (
 vcS Try.prog w0 qs76 (sub c76 [1, 0, 1, 0, 1, 1, 1, 1, 1]) (upd (upd (upd (upd (upd σ 2 (.pointer (some ⟨x2, 0, none⟩))) 4 (.int .i64 x4)) 8 (.bool x8)) 20 (.bool ((x4 : Int) == 10))) 19 (.bool ((x4 : Int) == 10))) m (blockS 0 (thenS (fun σ m => vcS Try.prog w0 qs76 (sub c76 [1, 1]) σ m (retQ Try.prog Try.f76 R)) (retQ Try.prog Try.f76 R)))) (
 IntKind.i64 = IntKind.i64 ∧ (bcase ((x4 : Int) == 12) (
 vcS Try.prog w0 qs76 (sub c76 [1, 0, 1, 0, 1, 1, 1, 1, 1]) (upd (upd (upd (upd (upd (upd (upd σ 2 (.pointer (some ⟨x2, 0, none⟩))) 4 (.int .i64 x4)) 8 (.bool x8)) 20 (.bool ((x4 : Int) == 10))) 19 (.bool ((x4 : Int) == 10))) 21 (.bool ((x4 : Int) == 12))) 19 (.bool ((x4 : Int) == 12))) m (blockS 0 (thenS (fun σ m => vcS Try.prog w0 qs76 (sub c76 [1, 1]) σ m (retQ Try.prog Try.f76 R)) (retQ Try.prog Try.f76 R)))) (
 IntKind.i64 = IntKind.i64 ∧ (bcase ((x4 : Int) == 13) (
 vcS Try.prog w0 qs76 (sub c76 [1, 0, 1, 0, 1, 1, 1, 1, 1]) (upd (upd (upd (upd (upd (upd (upd (upd (upd σ 2 (.pointer (some ⟨x2, 0, none⟩))) 4 (.int .i64 x4)) 8 (.bool x8)) 20 (.bool ((x4 : Int) == 10))) 19 (.bool ((x4 : Int) == 10))) 21 (.bool ((x4 : Int) == 12))) 19 (.bool ((x4 : Int) == 12))) 22 (.bool ((x4 : Int) == 13))) 19 (.bool ((x4 : Int) == 13))) m (blockS 0 (thenS (fun σ m => vcS Try.prog w0 qs76 (sub c76 [1, 1]) σ m (retQ Try.prog Try.f76 R)) (retQ Try.prog Try.f76 R)))) (
 IntKind.i64 = IntKind.i64 ∧ (bcase ((x4 : Int) == 15) (
 vcS Try.prog w0 qs76 (sub c76 [1, 0, 1, 0, 1, 1, 1, 1, 1]) (upd (upd (upd (upd (upd (upd (upd (upd (upd (upd (upd σ 2 (.pointer (some ⟨x2, 0, none⟩))) 4 (.int .i64 x4)) 8 (.bool x8)) 20 (.bool ((x4 : Int) == 10))) 19 (.bool ((x4 : Int) == 10))) 21 (.bool ((x4 : Int) == 12))) 19 (.bool ((x4 : Int) == 12))) 22 (.bool ((x4 : Int) == 13))) 19 (.bool ((x4 : Int) == 13))) 23 (.bool ((x4 : Int) == 15))) 19 (.bool ((x4 : Int) == 15))) m (blockS 0 (thenS (fun σ m => vcS Try.prog w0 qs76 (sub c76 [1, 1]) σ m (retQ Try.prog Try.f76 R)) (retQ Try.prog Try.f76 R)))) (
 IntKind.i64 = IntKind.i64 ∧ (bcase ((x4 : Int) == 16) (
 vcS Try.prog w0 qs76 (sub c76 [1, 0, 1, 0, 1, 1, 1, 1, 1]) (upd (upd (upd (upd (upd (upd (upd (upd (upd (upd (upd (upd (upd σ 2 (.pointer (some ⟨x2, 0, none⟩))) 4 (.int .i64 x4)) 8 (.bool x8)) 20 (.bool ((x4 : Int) == 10))) 19 (.bool ((x4 : Int) == 10))) 21 (.bool ((x4 : Int) == 12))) 19 (.bool ((x4 : Int) == 12))) 22 (.bool ((x4 : Int) == 13))) 19 (.bool ((x4 : Int) == 13))) 23 (.bool ((x4 : Int) == 15))) 19 (.bool ((x4 : Int) == 15))) 24 (.bool ((x4 : Int) == 16))) 19 (.bool ((x4 : Int) == 16))) m (blockS 0 (thenS (fun σ m => vcS Try.prog w0 qs76 (sub c76 [1, 1]) σ m (retQ Try.prog Try.f76 R)) (retQ Try.prog Try.f76 R)))) (
 IntKind.i64 = IntKind.i64 ∧ vcS Try.prog w0 qs76 (sub c76 [1, 0, 1, 0, 1, 1, 1, 1, 1]) (upd (upd (upd (upd (upd (upd (upd (upd (upd (upd (upd (upd (upd (upd (upd σ 2 (.pointer (some ⟨x2, 0, none⟩))) 4 (.int .i64 x4)) 8 (.bool x8)) 20 (.bool ((x4 : Int) == 10))) 19 (.bool ((x4 : Int) == 10))) 21 (.bool ((x4 : Int) == 12))) 19 (.bool ((x4 : Int) == 12))) 22 (.bool ((x4 : Int) == 13))) 19 (.bool ((x4 : Int) == 13))) 23 (.bool ((x4 : Int) == 15))) 19 (.bool ((x4 : Int) == 15))) 24 (.bool ((x4 : Int) == 16))) 19 (.bool ((x4 : Int) == 16))) 25 (.bool ((x4 : Int) == 14))) 19 (.bool ((x4 : Int) == 14))) m (blockS 0 (thenS (fun σ m => vcS Try.prog w0 qs76 (sub c76 [1, 1]) σ m (retQ Try.prog Try.f76 R)) (retQ Try.prog Try.f76 R)))))))))))))))) :
 vcS Try.prog w0 qs76 (sub c76 [1, 0, 1, 0, 1, 1, 1]) σ m (blockS 0 (thenS (fun σ m => vcS Try.prog w0 qs76 (sub c76 [1, 1]) σ m (retQ Try.prog Try.f76 R)) (retQ Try.prog Try.f76 R))) := by
  have es0 : (upd (upd (upd σ 2 (.pointer (some ⟨x2, 0, none⟩))) 4 (.int .i64 x4)) 8 (.bool x8)) = σ := by rw [upd_id h2, upd_id h4, upd_id h8]
  exact cast (congrArg (fun s => vcS Try.prog w0 qs76 (sub c76 [1, 0, 1, 0, 1, 1, 1]) s m (blockS 0 (thenS (fun σ m => vcS Try.prog w0 qs76 (sub c76 [1, 1]) σ m (retQ Try.prog Try.f76 R)) (retQ Try.prog Try.f76 R)))) es0) (cast (by kernel_rfl) h)
theorem vk76_101011111 (w0 : World) (m : AM) (σ : Sg) (R : Value → AM → Prop)  (x2 : Nat) (x4 : Int) (x19 : Bool) (h2 : σ 2 = .pointer (some ⟨x2, 0, none⟩)) (h4 : σ 4 = .int .i64 x4) (h19 : σ 19 = .bool x19) (h :
 (bcase x19 (
 true = true ∧ StC w0.heap.size m ⟨x2, 0, none⟩ (.bool true) fun m19 =>
 StC w0.heap.size m19 ⟨x2, 1, none⟩ (.bool true) fun m20 =>
 StC w0.heap.size m20 ⟨x2, 2, none⟩ (.bool false) fun m21 =>
 StC w0.heap.size m21 ⟨x2, 3, none⟩ (.bool true) fun m22 =>
 ∃ t23 : Bool, m22.cell ⟨x2, 0, none⟩ = some (.bool t23) ∧ ∃ t24 : Bool, m22.cell ⟨x2, 1, none⟩ = some (.bool t24) ∧ ∃ t25 : Bool, m22.cell ⟨x2, 2, none⟩ = some (.bool t25) ∧ ∃ t26 : Bool, m22.cell ⟨x2, 3, none⟩ = some (.bool t26) ∧ RetP R (.tuple #[.agg #[.bool t23, .bool t24, .bool t25, .bool t26], .bool true]) m22) (
 IntKind.i64 = IntKind.i64 ∧ (bcase ((x4 : Int) == 11) (
 true = true ∧ StC w0.heap.size m ⟨x2, 0, none⟩ (.bool true) fun m27 =>
 StC w0.heap.size m27 ⟨x2, 1, none⟩ (.bool false) fun m28 =>
 StC w0.heap.size m28 ⟨x2, 2, none⟩ (.bool false) fun m29 =>
 StC w0.heap.size m29 ⟨x2, 3, none⟩ (.bool true) fun m30 =>
 ∃ t31 : Bool, m30.cell ⟨x2, 0, none⟩ = some (.bool t31) ∧ ∃ t32 : Bool, m30.cell ⟨x2, 1, none⟩ = some (.bool t32) ∧ ∃ t33 : Bool, m30.cell ⟨x2, 2, none⟩ = some (.bool t33) ∧ ∃ t34 : Bool, m30.cell ⟨x2, 3, none⟩ = some (.bool t34) ∧ RetP R (.tuple #[.agg #[.bool t31, .bool t32, .bool t33, .bool t34], .bool true]) m30) (
 IntKind.i64 = IntKind.i64 ∧ (bcase ((x4 : Int) == 17) (
 vcS Try.prog w0 qs76 (sub c76 [1, 0, 1, 0, 1, 1, 1, 1, 1, 1, 1, 1, 1]) (upd (upd (upd (upd (upd (upd (upd σ 2 (.pointer (some ⟨x2, 0, none⟩))) 4 (.int .i64 x4)) 19 (.bool x19)) 28 (.bool ((x4 : Int) == 11))) 27 (.bool ((x4 : Int) == 11))) 31 (.bool ((x4 : Int) == 17))) 30 (.bool ((x4 : Int) == 17))) m (blockS 0 (thenS (fun σ m => vcS Try.prog w0 qs76 (sub c76 [1, 1]) σ m (retQ Try.prog Try.f76 R)) (retQ Try.prog Try.f76 R)))) (
 IntKind.i64 = IntKind.i64 ∧ (bcase ((x4 : Int) == 18) (
 vcS Try.prog w0 qs76 (sub c76 [1, 0, 1, 0, 1, 1, 1, 1, 1, 1, 1, 1, 1]) (upd (upd (upd (upd (upd (upd (upd (upd (upd σ 2 (.pointer (some ⟨x2, 0, none⟩))) 4 (.int .i64 x4)) 19 (.bool x19)) 28 (.bool ((x4 : Int) == 11))) 27 (.bool ((x4 : Int) == 11))) 31 (.bool ((x4 : Int) == 17))) 30 (.bool ((x4 : Int) == 17))) 32 (.bool ((x4 : Int) == 18))) 30 (.bool ((x4 : Int) == 18))) m (blockS 0 (thenS (fun σ m => vcS Try.prog w0 qs76 (sub c76 [1, 1]) σ m (retQ Try.prog Try.f76 R)) (retQ Try.prog Try.f76 R)))) (
 IntKind.i64 = IntKind.i64 ∧ vcS Try.prog w0 qs76 (sub c76 [1, 0, 1, 0, 1, 1, 1, 1, 1, 1, 1, 1, 1]) (upd (upd (upd (upd (upd (upd (upd (upd (upd (upd (upd σ 2 (.pointer (some ⟨x2, 0, none⟩))) 4 (.int .i64 x4)) 19 (.bool x19)) 28 (.bool ((x4 : Int) == 11))) 27 (.bool ((x4 : Int) == 11))) 31 (.bool ((x4 : Int) == 17))) 30 (.bool ((x4 : Int) == 17))) 32 (.bool ((x4 : Int) == 18))) 30 (.bool ((x4 : Int) == 18))) 33 (.bool ((x4 : Int) == 20))) 30 (.bool ((x4 : Int) == 20))) m (blockS 0 (thenS (fun σ m => vcS Try.prog w0 qs76 (sub c76 [1, 1]) σ m (retQ Try.prog Try.f76 R)) (retQ Try.prog Try.f76 R)))))))))))) :
 vcS Try.prog w0 qs76 (sub c76 [1, 0, 1, 0, 1, 1, 1, 1, 1]) σ m (blockS 0 (thenS (fun σ m => vcS Try.prog w0 qs76 (sub c76 [1, 1]) σ m (retQ Try.prog Try.f76 R)) (retQ Try.prog Try.f76 R))) := by
  have es0 : (upd (upd (upd σ 2 (.pointer (some ⟨x2, 0, none⟩))) 4 (.int .i64 x4)) 19 (.bool x19)) = σ := by rw [upd_id h2, upd_id h4, upd_id h19]
  exact cast (congrArg (fun s => vcS Try.prog w0 qs76 (sub c76 [1, 0, 1, 0, 1, 1, 1, 1, 1]) s m (blockS 0 (thenS (fun σ m => vcS Try.prog w0 qs76 (sub c76 [1, 1]) σ m (retQ Try.prog Try.f76 R)) (retQ Try.prog Try.f76 R)))) es0) (cast (by kernel_rfl) h)
theorem vk76_1010111111111 (w0 : World) (m : AM) (σ : Sg) (R : Value → AM → Prop)  (x2 : Nat) (x4 : Int) (x30 : Bool) (h2 : σ 2 = .pointer (some ⟨x2, 0, none⟩)) (h4 : σ 4 = .int .i64 x4) (h30 : σ 30 = .bool x30) (h :
 (bcase x30 (
 true = true ∧ StC w0.heap.size m ⟨x2, 0, none⟩ (.bool false) fun m35 =>
 StC w0.heap.size m35 ⟨x2, 1, none⟩ (.bool false) fun m36 =>
 StC w0.heap.size m36 ⟨x2, 2, none⟩ (.bool false) fun m37 =>
 StC w0.heap.size m37 ⟨x2, 3, none⟩ (.bool true) fun m38 =>
 ∃ t39 : Bool, m38.cell ⟨x2, 0, none⟩ = some (.bool t39) ∧ ∃ t40 : Bool, m38.cell ⟨x2, 1, none⟩ = some (.bool t40) ∧ ∃ t41 : Bool, m38.cell ⟨x2, 2, none⟩ = some (.bool t41) ∧ ∃ t42 : Bool, m38.cell ⟨x2, 3, none⟩ = some (.bool t42) ∧ RetP R (.tuple #[.agg #[.bool t39, .bool t40, .bool t41, .bool t42], .bool true]) m38) (
 IntKind.i64 = IntKind.i64 ∧ (bcase ((x4 : Int) == 19) (
 true = true ∧ StC w0.heap.size m ⟨x2, 0, none⟩ (.bool true) fun m43 =>
 StC w0.heap.size m43 ⟨x2, 1, none⟩ (.bool false) fun m44 =>
 StC w0.heap.size m44 ⟨x2, 2, none⟩ (.bool false) fun m45 =>
 StC w0.heap.size m45 ⟨x2, 3, none⟩ (.bool false) fun m46 =>
 ∃ t47 : Bool, m46.cell ⟨x2, 0, none⟩ = some (.bool t47) ∧ ∃ t48 : Bool, m46.cell ⟨x2, 1, none⟩ = some (.bool t48) ∧ ∃ t49 : Bool, m46.cell ⟨x2, 2, none⟩ = some (.bool t49) ∧ ∃ t50 : Bool, m46.cell ⟨x2, 3, none⟩ = some (.bool t50) ∧ RetP R (.tuple #[.agg #[.bool t47, .bool t48, .bool t49, .bool t50], .bool true]) m46) (
 vcS Try.prog w0 qs76 (sub c76 [1, 1]) (upd (upd (upd (upd (upd σ 2 (.pointer (some ⟨x2, 0, none⟩))) 4 (.int .i64 x4)) 30 (.bool x30)) 36 (.bool ((x4 : Int) == 19))) 35 (.bool ((x4 : Int) == 19))) m (retQ Try.prog Try.f76 R)))))) :
 vcS Try.prog w0 qs76 (sub c76 [1, 0, 1, 0, 1, 1, 1, 1, 1, 1, 1, 1, 1]) σ m (blockS 0 (thenS (fun σ m => vcS Try.prog w0 qs76 (sub c76 [1, 1]) σ m (retQ Try.prog Try.f76 R)) (retQ Try.prog Try.f76 R))) := by
  have es0 : (upd (upd (upd σ 2 (.pointer (some ⟨x2, 0, none⟩))) 4 (.int .i64 x4)) 30 (.bool x30)) = σ := by rw [upd_id h2, upd_id h4, upd_id h30]
  exact cast (congrArg (fun s => vcS Try.prog w0 qs76 (sub c76 [1, 0, 1, 0, 1, 1, 1, 1, 1, 1, 1, 1, 1]) s m (blockS 0 (thenS (fun σ m => vcS Try.prog w0 qs76 (sub c76 [1, 1]) σ m (retQ Try.prog Try.f76 R)) (retQ Try.prog Try.f76 R)))) es0) (cast (by kernel_rfl) h)
theorem vk76_11 (w0 : World) (m : AM) (σ : Sg) (R : Value → AM → Prop)  (x2 : Nat) (h2 : σ 2 = .pointer (some ⟨x2, 0, none⟩)) (h :
 true = true ∧ StC w0.heap.size m ⟨x2, 0, none⟩ (.bool false) fun m51 =>
 StC w0.heap.size m51 ⟨x2, 1, none⟩ (.bool false) fun m52 =>
 StC w0.heap.size m52 ⟨x2, 2, none⟩ (.bool false) fun m53 =>
 StC w0.heap.size m53 ⟨x2, 3, none⟩ (.bool false) fun m54 =>
 ∃ t55 : Bool, m54.cell ⟨x2, 0, none⟩ = some (.bool t55) ∧ ∃ t56 : Bool, m54.cell ⟨x2, 1, none⟩ = some (.bool t56) ∧ ∃ t57 : Bool, m54.cell ⟨x2, 2, none⟩ = some (.bool t57) ∧ ∃ t58 : Bool, m54.cell ⟨x2, 3, none⟩ = some (.bool t58) ∧ RetP R (.tuple #[.agg #[.bool t55, .bool t56, .bool t57, .bool t58], .bool false]) m54) :
 vcS Try.prog w0 qs76 (sub c76 [1, 1]) σ m (retQ Try.prog Try.f76 R) := by
  have es0 : (upd σ 2 (.pointer (some ⟨x2, 0, none⟩))) = σ := by rw [upd_id h2]
  exact cast (congrArg (fun s => vcS Try.prog w0 qs76 (sub c76 [1, 1]) s m (retQ Try.prog Try.f76 R)) es0) (cast (by kernel_rfl) h)

/-! 77 delayslot/isa.reg -/
def qs77 : Nat → List (Nat × Nat) := fun i => match i with | _ => []
noncomputable def c77 : Code := bodyOf Try.f77
theorem cf77 (w0 : World) (m : AM) (x0 : Int) (x1 : Bool) (R : Value → AM → Prop) (h :
 IntKind.i64 = IntKind.i64 ∧ (bcase ((x0 : Int) == 0) (
 ((x0 : Int) == 0) = true ∧ RetP R (.bool true) m) (
 (bcase x1 (
 IntKind.i64 = IntKind.i64 ∧ (bcase (bif x1 then decide ((x0 : Int) > 0) else false) (
 IntKind.i64 = IntKind.i64 ∧ RetP R (.bool (bif (x0 : Int) == 0 then true else bif bif x1 then decide ((x0 : Int) > 0) else false then decide ((x0 : Int) < 32) else false)) m) (
 (bif x1 then decide ((x0 : Int) > 0) else false) = false ∧ RetP R (.bool (bif (x0 : Int) == 0 then true else false)) m))) (
 x1 = false ∧ false = false ∧ RetP R (.bool (bif (x0 : Int) == 0 then true else false)) m))))) : CallsA Try.prog w0 77 #[.int .i64 x0, .bool x1] m R :=
  callsA_of (c := c77) (args := [.int .i64 x0, .bool x1]) (by kernel_rfl) Try.func77 (by kernel_rfl) qs77 (by kernel_rfl) (by kernel_rfl) (cast (by kernel_rfl) h)

/-! 78 delayslot/isa.number -/
def qs78 : Nat → List (Nat × Nat) := fun i => match i with | _ => []
noncomputable def c78 : Code := bodyOf Try.f78
theorem cf78 (w0 : World) (m : AM) (x0 : Int) (x1 : Int) (R : Value → AM → Prop) (h :
 IntKind.i64 = IntKind.i64 ∧ (bcase ((x0 : Int) == 17) (
 (bcase ((x0 : Int) == 17) (
 IntKind.i64 = IntKind.i64 ∧ (bcase (decide ((x1 : Int) ≥ 0)) (
 IntKind.i64 = IntKind.i64 ∧ RetP R (.bool (bif decide ((x1 : Int) ≥ 0) then decide ((x1 : Int) ≤ 4096) else false)) m) (
 (decide ((x1 : Int) ≥ 0)) = false ∧ RetP R (.bool false) m))) (
 IntKind.i64 = IntKind.i64 ∧ (bcase ((x0 : Int) == 20) (
 IntKind.i64 = IntKind.i64 ∧ (bcase (decide ((x1 : Int) ≥ 0)) (
 IntKind.i64 = IntKind.i64 ∧ RetP R (.bool (bif decide ((x1 : Int) ≥ 0) then decide ((x1 : Int) ≤ 2) else false)) m) (
 (decide ((x1 : Int) ≥ 0)) = false ∧ RetP R (.bool false) m))) (
 IntKind.i64 = IntKind.i64 ∧ (bcase ((x0 : Int) == 14) (
 IntKind.i64 = IntKind.i64 ∧ (bcase (decide ((x1 : Int) ≥ 0)) (
 CallsA Try.prog w0 94 #[.int .i64 x1, .int .i64 16] m fun r2 m3 =>
 ∃ t1 : Bool, r2 = .bool t1 ∧ RetP R (.bool (bif decide ((x1 : Int) ≥ 0) then t1 else false)) m3) (
 (decide ((x1 : Int) ≥ 0)) = false ∧ RetP R (.bool false) m))) (
 CallsA Try.prog w0 94 #[.int .i64 x1, .int .i64 16] m fun r5 m6 =>
 ∃ t4 : Bool, r5 = .bool t4 ∧ RetP R (.bool t4) m6))))))) (
 IntKind.i64 = IntKind.i64 ∧ (bcase ((x0 : Int) == 18) (
 IntKind.i64 = IntKind.i64 ∧ (bcase (decide ((x1 : Int) ≥ 0)) (
 IntKind.i64 = IntKind.i64 ∧ RetP R (.bool (bif decide ((x1 : Int) ≥ 0) then decide ((x1 : Int) ≤ 4096) else false)) m) (
 (decide ((x1 : Int) ≥ 0)) = false ∧ RetP R (.bool false) m))) (
 IntKind.i64 = IntKind.i64 ∧ (bcase ((x0 : Int) == 20) (
 IntKind.i64 = IntKind.i64 ∧ (bcase (decide ((x1 : Int) ≥ 0)) (
 IntKind.i64 = IntKind.i64 ∧ RetP R (.bool (bif decide ((x1 : Int) ≥ 0) then decide ((x1 : Int) ≤ 2) else false)) m) (
 (decide ((x1 : Int) ≥ 0)) = false ∧ RetP R (.bool false) m))) (
 IntKind.i64 = IntKind.i64 ∧ (bcase ((x0 : Int) == 14) (
 IntKind.i64 = IntKind.i64 ∧ (bcase (decide ((x1 : Int) ≥ 0)) (
 CallsA Try.prog w0 94 #[.int .i64 x1, .int .i64 16] m fun r8 m9 =>
 ∃ t7 : Bool, r8 = .bool t7 ∧ RetP R (.bool (bif decide ((x1 : Int) ≥ 0) then t7 else false)) m9) (
 (decide ((x1 : Int) ≥ 0)) = false ∧ RetP R (.bool false) m))) (
 CallsA Try.prog w0 94 #[.int .i64 x1, .int .i64 16] m fun r11 m12 =>
 ∃ t10 : Bool, r11 = .bool t10 ∧ RetP R (.bool t10) m12))))))))) : CallsA Try.prog w0 78 #[.int .i64 x0, .int .i64 x1] m R :=
  callsA_of (c := c78) (args := [.int .i64 x0, .int .i64 x1]) (by kernel_rfl) Try.func78 (by kernel_rfl) qs78 (by kernel_rfl) (by kernel_rfl) (cast (by kernel_rfl) h)

/-! 45 delayslot/isa.Right -/
def qs45 : Nat → List (Nat × Nat) := fun i => match i with | _ => []
noncomputable def c45 : Code := bodyOf Try.f45
theorem cf45 (w0 : World) (m : AM) (x0_0 : Int) (x0_1 : Int) (x0_2 : Int) (x0_3 : Int) (x0_4 : Int) (R : Value → AM → Prop) (h :
 ∀ b1 : Nat, w0.heap.size ≤ b1 → m b1 = none → let m2 := AM.upd m b1 (.cells #[.int .i64 x0_0, .int .i64 x0_1, .int .i64 x0_2, .int .i64 x0_3, .int .i64 x0_4] 24);
 ∃ i3 : Int, m2.cell ⟨b1, 0, none⟩ = some (.int .i64 i3) ∧ 
 CallsA Try.prog w0 76 #[.int .i64 i3] m2 fun r9 m10 =>
 ∃ t4 : Bool, ∃ t5 : Bool, ∃ t6 : Bool, ∃ t7 : Bool, ∃ t8 : Bool, r9 = .tuple #[.agg #[.bool t4, .bool t5, .bool t6, .bool t7], .bool t8] ∧ ∀ b13 : Nat, w0.heap.size ≤ b13 → m10 b13 = none → let m14 := AM.upd m10 b13 (.cells #[.bool false, .bool false, .bool false, .bool false] 81);
 StC w0.heap.size m14 ⟨b13, 0, none⟩ (.bool t4) fun m15 =>
 StC w0.heap.size m15 ⟨b13, 1, none⟩ (.bool t5) fun m16 =>
 StC w0.heap.size m16 ⟨b13, 2, none⟩ (.bool t6) fun m17 =>
 StC w0.heap.size m17 ⟨b13, 3, none⟩ (.bool t7) fun m18 =>
 (bcase t8 (
 ∃ i19 : Int, m18.cell ⟨b1, 1, none⟩ = some (.int .i64 i19) ∧ 
 ∃ t20 : Bool, m18.cell ⟨b13, 0, none⟩ = some (.bool t20) ∧ 
 CallsA Try.prog w0 77 #[.int .i64 i19, .bool t20] m18 fun r22 m23 =>
 ∃ t21 : Bool, r22 = .bool t21 ∧ (bcase (bif t8 then t21 else false) (
 ∃ i24 : Int, m23.cell ⟨b1, 2, none⟩ = some (.int .i64 i24) ∧ 
 ∃ t25 : Bool, m23.cell ⟨b13, 1, none⟩ = some (.bool t25) ∧ 
 CallsA Try.prog w0 77 #[.int .i64 i24, .bool t25] m23 fun r27 m28 =>
 ∃ t26 : Bool, r27 = .bool t26 ∧ (bcase (bif bif t8 then t21 else false then t26 else false) (
 ∃ i29 : Int, m28.cell ⟨b1, 3, none⟩ = some (.int .i64 i29) ∧ 
 ∃ t30 : Bool, m28.cell ⟨b13, 2, none⟩ = some (.bool t30) ∧ 
 CallsA Try.prog w0 77 #[.int .i64 i29, .bool t30] m28 fun r32 m33 =>
 ∃ t31 : Bool, r32 = .bool t31 ∧ (bcase (bif bif bif t8 then t21 else false then t26 else false then t31 else false) (
 ∃ i34 : Int, m33.cell ⟨b1, 4, none⟩ = some (.int .i64 i34) ∧ 
 IntKind.i64 = IntKind.i64 ∧ (bcase ((i34 : Int) == 0) (
 ((i34 : Int) == 0) = true ∧ RetP R (.bool (bif bif bif bif t8 then t21 else false then t26 else false then t31 else false then true else false)) m33) (
 ∃ t35 : Bool, m33.cell ⟨b13, 3, none⟩ = some (.bool t35) ∧ 
 (bcase t35 (
 ∃ i36 : Int, m33.cell ⟨b1, 0, none⟩ = some (.int .i64 i36) ∧ 
 ∃ i37 : Int, m33.cell ⟨b1, 4, none⟩ = some (.int .i64 i37) ∧ 
 CallsA Try.prog w0 78 #[.int .i64 i36, .int .i64 i37] m33 fun r39 m40 =>
 ∃ t38 : Bool, r39 = .bool t38 ∧ RetP R (.bool (bif bif bif bif t8 then t21 else false then t26 else false then t31 else false then bif (i34 : Int) == 0 then true else bif t35 then t38 else false else false)) m40) (
 t35 = false ∧ RetP R (.bool (bif bif bif bif t8 then t21 else false then t26 else false then t31 else false then bif (i34 : Int) == 0 then true else false else false)) m33))))) (
 (bif bif bif t8 then t21 else false then t26 else false then t31 else false) = false ∧ RetP R (.bool false) m33))) (
 (bif bif t8 then t21 else false then t26 else false) = false ∧ false = false ∧ RetP R (.bool false) m28))) (
 (bif t8 then t21 else false) = false ∧ false = false ∧ false = false ∧ RetP R (.bool false) m23))) (
 t8 = false ∧ false = false ∧ false = false ∧ false = false ∧ RetP R (.bool false) m18))) : CallsA Try.prog w0 45 #[.agg #[.int .i64 x0_0, .int .i64 x0_1, .int .i64 x0_2, .int .i64 x0_3, .int .i64 x0_4]] m R :=
  callsA_of (c := c45) (args := [.agg #[.int .i64 x0_0, .int .i64 x0_1, .int .i64 x0_2, .int .i64 x0_3, .int .i64 x0_4]]) (by kernel_rfl) Try.func45 (by kernel_rfl) qs45 (by kernel_rfl) (by kernel_rfl) (cast (by kernel_rfl) h)
end Go.Proofs.Ytkfemiloehkmhaa.V

