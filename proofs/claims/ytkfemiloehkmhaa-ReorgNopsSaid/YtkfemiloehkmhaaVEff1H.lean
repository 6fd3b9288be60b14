/- Ytkfemiloehkmhaa: a text of our own, by an AI agent: VEff1H -/
import Derived.Test.YtkfemiloehkmhaaCoreA
import Derived.Test.YtkfemiloehkmhaaTabH
namespace Go.Proofs.Ytkfemiloehkmhaa.V
open Go Go.Alog Go.Proofs.Ytkfemiloehkmhaa.T
set_option linter.unusedVariables false
set_option maxRecDepth 100000

/-! 95 delayslot/effect.fields -/
def qs95 : Nat → List (Nat × Nat) := fun i => match i with | 1000011 => [(0, 0)] | 1000014 => [(0, 0)] | _ => []
noncomputable def c95 : Code := bodyOf Try.f95
theorem cf95 (w0 : World) (m : AM) (x0_0 : Int) (x0_1 : Int) (x0_2 : Int) (x0_3 : Int) (x0_4 : Int) (R : Value → AM → Prop) (h :
 ∀ b1 : Nat, w0.heap.size ≤ b1 → m b1 = none → let m2 := AM.upd m b1 (.cells #[.int .i64 x0_0, .int .i64 x0_1, .int .i64 x0_2, .int .i64 x0_3, .int .i64 x0_4] 24);
 ∃ i3 : Int, m2.cell ⟨b1, 0, none⟩ = some (.int .i64 i3) ∧ 
 IntKind.i64 = IntKind.i64 ∧ (bcase ((i3 : Int) == 1) (
 vcS Try.prog w0 qs95 (sub c95 [1, 0, 1, 0, 1]) (upd (upd (upd (upd (upd (upd (upd (argS [.agg #[.int .i64 x0_0, .int .i64 x0_1, .int .i64 x0_2, .int .i64 x0_3, .int .i64 x0_4]]) 1 (.pointer (some ⟨b1, 0, none⟩))) 2 (.slice none 0 0)) 3 (.int .i64 0)) 4 (.pointer (some ⟨b1, 0, none⟩))) 5 (.int .i64 i3)) 7 (.bool ((i3 : Int) == 1))) 6 (.bool ((i3 : Int) == 1))) m2 (blockS 0 (thenS (fun σ m => vcS Try.prog w0 qs95 (sub c95 [1, 1]) σ m (retQ Try.prog Try.f95 R)) (retQ Try.prog Try.f95 R)))) (
 IntKind.i64 = IntKind.i64 ∧ (bcase ((i3 : Int) == 2) (
 vcS Try.prog w0 qs95 (sub c95 [1, 0, 1, 0, 1]) (upd (upd (upd (upd (upd (upd (upd (upd (upd (argS [.agg #[.int .i64 x0_0, .int .i64 x0_1, .int .i64 x0_2, .int .i64 x0_3, .int .i64 x0_4]]) 1 (.pointer (some ⟨b1, 0, none⟩))) 2 (.slice none 0 0)) 3 (.int .i64 0)) 4 (.pointer (some ⟨b1, 0, none⟩))) 5 (.int .i64 i3)) 7 (.bool ((i3 : Int) == 1))) 6 (.bool ((i3 : Int) == 1))) 8 (.bool ((i3 : Int) == 2))) 6 (.bool ((i3 : Int) == 2))) m2 (blockS 0 (thenS (fun σ m => vcS Try.prog w0 qs95 (sub c95 [1, 1]) σ m (retQ Try.prog Try.f95 R)) (retQ Try.prog Try.f95 R)))) (
 IntKind.i64 = IntKind.i64 ∧ (bcase ((i3 : Int) == 3) (
 vcS Try.prog w0 qs95 (sub c95 [1, 0, 1, 0, 1]) (upd (upd (upd (upd (upd (upd (upd (upd (upd (upd (upd (argS [.agg #[.int .i64 x0_0, .int .i64 x0_1, .int .i64 x0_2, .int .i64 x0_3, .int .i64 x0_4]]) 1 (.pointer (some ⟨b1, 0, none⟩))) 2 (.slice none 0 0)) 3 (.int .i64 0)) 4 (.pointer (some ⟨b1, 0, none⟩))) 5 (.int .i64 i3)) 7 (.bool ((i3 : Int) == 1))) 6 (.bool ((i3 : Int) == 1))) 8 (.bool ((i3 : Int) == 2))) 6 (.bool ((i3 : Int) == 2))) 9 (.bool ((i3 : Int) == 3))) 6 (.bool ((i3 : Int) == 3))) m2 (blockS 0 (thenS (fun σ m => vcS Try.prog w0 qs95 (sub c95 [1, 1]) σ m (retQ Try.prog Try.f95 R)) (retQ Try.prog Try.f95 R)))) (
 IntKind.i64 = IntKind.i64 ∧ (bcase ((i3 : Int) == 4) (
 vcS Try.prog w0 qs95 (sub c95 [1, 0, 1, 0, 1]) (upd (upd (upd (upd (upd (upd (upd (upd (upd (upd (upd (upd (upd (argS [.agg #[.int .i64 x0_0, .int .i64 x0_1, .int .i64 x0_2, .int .i64 x0_3, .int .i64 x0_4]]) 1 (.pointer (some ⟨b1, 0, none⟩))) 2 (.slice none 0 0)) 3 (.int .i64 0)) 4 (.pointer (some ⟨b1, 0, none⟩))) 5 (.int .i64 i3)) 7 (.bool ((i3 : Int) == 1))) 6 (.bool ((i3 : Int) == 1))) 8 (.bool ((i3 : Int) == 2))) 6 (.bool ((i3 : Int) == 2))) 9 (.bool ((i3 : Int) == 3))) 6 (.bool ((i3 : Int) == 3))) 10 (.bool ((i3 : Int) == 4))) 6 (.bool ((i3 : Int) == 4))) m2 (blockS 0 (thenS (fun σ m => vcS Try.prog w0 qs95 (sub c95 [1, 1]) σ m (retQ Try.prog Try.f95 R)) (retQ Try.prog Try.f95 R)))) (
 IntKind.i64 = IntKind.i64 ∧ (bcase ((i3 : Int) == 5) (
 vcS Try.prog w0 qs95 (sub c95 [1, 0, 1, 0, 1]) (upd (upd (upd (upd (upd (upd (upd (upd (upd (upd (upd (upd (upd (upd (upd (argS [.agg #[.int .i64 x0_0, .int .i64 x0_1, .int .i64 x0_2, .int .i64 x0_3, .int .i64 x0_4]]) 1 (.pointer (some ⟨b1, 0, none⟩))) 2 (.slice none 0 0)) 3 (.int .i64 0)) 4 (.pointer (some ⟨b1, 0, none⟩))) 5 (.int .i64 i3)) 7 (.bool ((i3 : Int) == 1))) 6 (.bool ((i3 : Int) == 1))) 8 (.bool ((i3 : Int) == 2))) 6 (.bool ((i3 : Int) == 2))) 9 (.bool ((i3 : Int) == 3))) 6 (.bool ((i3 : Int) == 3))) 10 (.bool ((i3 : Int) == 4))) 6 (.bool ((i3 : Int) == 4))) 11 (.bool ((i3 : Int) == 5))) 6 (.bool ((i3 : Int) == 5))) m2 (blockS 0 (thenS (fun σ m => vcS Try.prog w0 qs95 (sub c95 [1, 1]) σ m (retQ Try.prog Try.f95 R)) (retQ Try.prog Try.f95 R)))) (
 IntKind.i64 = IntKind.i64 ∧ (bcase ((i3 : Int) == 6) (
 vcS Try.prog w0 qs95 (sub c95 [1, 0, 1, 0, 1]) (upd (upd (upd (upd (upd (upd (upd (upd (upd (upd (upd (upd (upd (upd (upd (upd (upd (argS [.agg #[.int .i64 x0_0, .int .i64 x0_1, .int .i64 x0_2, .int .i64 x0_3, .int .i64 x0_4]]) 1 (.pointer (some ⟨b1, 0, none⟩))) 2 (.slice none 0 0)) 3 (.int .i64 0)) 4 (.pointer (some ⟨b1, 0, none⟩))) 5 (.int .i64 i3)) 7 (.bool ((i3 : Int) == 1))) 6 (.bool ((i3 : Int) == 1))) 8 (.bool ((i3 : Int) == 2))) 6 (.bool ((i3 : Int) == 2))) 9 (.bool ((i3 : Int) == 3))) 6 (.bool ((i3 : Int) == 3))) 10 (.bool ((i3 : Int) == 4))) 6 (.bool ((i3 : Int) == 4))) 11 (.bool ((i3 : Int) == 5))) 6 (.bool ((i3 : Int) == 5))) 12 (.bool ((i3 : Int) == 6))) 6 (.bool ((i3 : Int) == 6))) m2 (blockS 0 (thenS (fun σ m => vcS Try.prog w0 qs95 (sub c95 [1, 1]) σ m (retQ Try.prog Try.f95 R)) (retQ Try.prog Try.f95 R)))) (
 IntKind.i64 = IntKind.i64 ∧ (bcase ((i3 : Int) == 7) (
 vcS Try.prog w0 qs95 (sub c95 [1, 0, 1, 0, 1]) (upd (upd (upd (upd (upd (upd (upd (upd (upd (upd (upd (upd (upd (upd (upd (upd (upd (upd (upd (argS [.agg #[.int .i64 x0_0, .int .i64 x0_1, .int .i64 x0_2, .int .i64 x0_3, .int .i64 x0_4]]) 1 (.pointer (some ⟨b1, 0, none⟩))) 2 (.slice none 0 0)) 3 (.int .i64 0)) 4 (.pointer (some ⟨b1, 0, none⟩))) 5 (.int .i64 i3)) 7 (.bool ((i3 : Int) == 1))) 6 (.bool ((i3 : Int) == 1))) 8 (.bool ((i3 : Int) == 2))) 6 (.bool ((i3 : Int) == 2))) 9 (.bool ((i3 : Int) == 3))) 6 (.bool ((i3 : Int) == 3))) 10 (.bool ((i3 : Int) == 4))) 6 (.bool ((i3 : Int) == 4))) 11 (.bool ((i3 : Int) == 5))) 6 (.bool ((i3 : Int) == 5))) 12 (.bool ((i3 : Int) == 6))) 6 (.bool ((i3 : Int) == 6))) 13 (.bool ((i3 : Int) == 7))) 6 (.bool ((i3 : Int) == 7))) m2 (blockS 0 (thenS (fun σ m => vcS Try.prog w0 qs95 (sub c95 [1, 1]) σ m (retQ Try.prog Try.f95 R)) (retQ Try.prog Try.f95 R)))) (
 IntKind.i64 = IntKind.i64 ∧ (bcase ((i3 : Int) == 8) (
 vcS Try.prog w0 qs95 (sub c95 [1, 0, 1, 0, 1]) (upd (upd (upd (upd (upd (upd (upd (upd (upd (upd (upd (upd (upd (upd (upd (upd (upd (upd (upd (upd (upd (argS [.agg #[.int .i64 x0_0, .int .i64 x0_1, .int .i64 x0_2, .int .i64 x0_3, .int .i64 x0_4]]) 1 (.pointer (some ⟨b1, 0, none⟩))) 2 (.slice none 0 0)) 3 (.int .i64 0)) 4 (.pointer (some ⟨b1, 0, none⟩))) 5 (.int .i64 i3)) 7 (.bool ((i3 : Int) == 1))) 6 (.bool ((i3 : Int) == 1))) 8 (.bool ((i3 : Int) == 2))) 6 (.bool ((i3 : Int) == 2))) 9 (.bool ((i3 : Int) == 3))) 6 (.bool ((i3 : Int) == 3))) 10 (.bool ((i3 : Int) == 4))) 6 (.bool ((i3 : Int) == 4))) 11 (.bool ((i3 : Int) == 5))) 6 (.bool ((i3 : Int) == 5))) 12 (.bool ((i3 : Int) == 6))) 6 (.bool ((i3 : Int) == 6))) 13 (.bool ((i3 : Int) == 7))) 6 (.bool ((i3 : Int) == 7))) 14 (.bool ((i3 : Int) == 8))) 6 (.bool ((i3 : Int) == 8))) m2 (blockS 0 (thenS (fun σ m => vcS Try.prog w0 qs95 (sub c95 [1, 1]) σ m (retQ Try.prog Try.f95 R)) (retQ Try.prog Try.f95 R)))) (
 IntKind.i64 = IntKind.i64 ∧ vcS Try.prog w0 qs95 (sub c95 [1, 0, 1, 0, 1]) (upd (upd (upd (upd (upd (upd (upd (upd (upd (upd (upd (upd (upd (upd (upd (upd (upd (upd (upd (upd (upd (upd (upd (argS [.agg #[.int .i64 x0_0, .int .i64 x0_1, .int .i64 x0_2, .int .i64 x0_3, .int .i64 x0_4]]) 1 (.pointer (some ⟨b1, 0, none⟩))) 2 (.slice none 0 0)) 3 (.int .i64 0)) 4 (.pointer (some ⟨b1, 0, none⟩))) 5 (.int .i64 i3)) 7 (.bool ((i3 : Int) == 1))) 6 (.bool ((i3 : Int) == 1))) 8 (.bool ((i3 : Int) == 2))) 6 (.bool ((i3 : Int) == 2))) 9 (.bool ((i3 : Int) == 3))) 6 (.bool ((i3 : Int) == 3))) 10 (.bool ((i3 : Int) == 4))) 6 (.bool ((i3 : Int) == 4))) 11 (.bool ((i3 : Int) == 5))) 6 (.bool ((i3 : Int) == 5))) 12 (.bool ((i3 : Int) == 6))) 6 (.bool ((i3 : Int) == 6))) 13 (.bool ((i3 : Int) == 7))) 6 (.bool ((i3 : Int) == 7))) 14 (.bool ((i3 : Int) == 8))) 6 (.bool ((i3 : Int) == 8))) 15 (.bool ((i3 : Int) == 9))) 6 (.bool ((i3 : Int) == 9))) m2 (blockS 0 (thenS (fun σ m => vcS Try.prog w0 qs95 (sub c95 [1, 1]) σ m (retQ Try.prog Try.f95 R)) (retQ Try.prog Try.f95 R)))))))))))))))))))) : CallsA Try.prog w0 95 #[.agg #[.int .i64 x0_0, .int .i64 x0_1, .int .i64 x0_2, .int .i64 x0_3, .int .i64 x0_4]] m R :=
  callsA_of (c := c95) (args := [.agg #[.int .i64 x0_0, .int .i64 x0_1, .int .i64 x0_2, .int .i64 x0_3, .int .i64 x0_4]]) (by kernel_rfl) Try.func95 (by kernel_rfl) qs95 (by kernel_rfl) (by kernel_rfl) (cast (by kernel_rfl) h)
theorem vk95_10101 (w0 : World) (m : AM) (σ : Sg) (R : Value → AM → Prop)  (x1 : Nat) (x5 : Int) (x6 : Bool) (h1 : σ 1 = .pointer (some ⟨x1, 0, none⟩)) (h5 : σ 5 = .int .i64 x5) (h6 : σ 6 = .bool x6) (h :
 (bcase x6 (
 vcS Try.prog w0 qs95 (sub c95 [1, 0, 1, 0, 1, 0, 0]) (upd (upd (upd σ 1 (.pointer (some ⟨x1, 0, none⟩))) 5 (.int .i64 x5)) 6 (.bool x6)) m (thenS (fun σ m => vcS Try.prog w0 qs95 (sub c95 [1, 0, 1, 0, 1, 0, 1]) σ m (blockS 0 (thenS (fun σ m => vcS Try.prog w0 qs95 (sub c95 [1, 1]) σ m (retQ Try.prog Try.f95 R)) (retQ Try.prog Try.f95 R)))) (blockS 0 (thenS (fun σ m => vcS Try.prog w0 qs95 (sub c95 [1, 1]) σ m (retQ Try.prog Try.f95 R)) (retQ Try.prog Try.f95 R))))) (
 IntKind.i64 = IntKind.i64 ∧ (bcase ((x5 : Int) == 10) (
 vcS Try.prog w0 qs95 (sub c95 [1, 0, 1, 0, 1, 1, 1]) (upd (upd (upd (upd (upd σ 1 (.pointer (some ⟨x1, 0, none⟩))) 5 (.int .i64 x5)) 6 (.bool x6)) 24 (.bool ((x5 : Int) == 10))) 23 (.bool ((x5 : Int) == 10))) m (blockS 0 (thenS (fun σ m => vcS Try.prog w0 qs95 (sub c95 [1, 1]) σ m (retQ Try.prog Try.f95 R)) (retQ Try.prog Try.f95 R)))) (
 IntKind.i64 = IntKind.i64 ∧ vcS Try.prog w0 qs95 (sub c95 [1, 0, 1, 0, 1, 1, 1]) (upd (upd (upd (upd (upd (upd (upd σ 1 (.pointer (some ⟨x1, 0, none⟩))) 5 (.int .i64 x5)) 6 (.bool x6)) 24 (.bool ((x5 : Int) == 10))) 23 (.bool ((x5 : Int) == 10))) 25 (.bool ((x5 : Int) == 12))) 23 (.bool ((x5 : Int) == 12))) m (blockS 0 (thenS (fun σ m => vcS Try.prog w0 qs95 (sub c95 [1, 1]) σ m (retQ Try.prog Try.f95 R)) (retQ Try.prog Try.f95 R)))))))) :
 vcS Try.prog w0 qs95 (sub c95 [1, 0, 1, 0, 1]) σ m (blockS 0 (thenS (fun σ m => vcS Try.prog w0 qs95 (sub c95 [1, 1]) σ m (retQ Try.prog Try.f95 R)) (retQ Try.prog Try.f95 R))) := by
  have es0 : (upd (upd (upd σ 1 (.pointer (some ⟨x1, 0, none⟩))) 5 (.int .i64 x5)) 6 (.bool x6)) = σ := by rw [upd_id h1, upd_id h5, upd_id h6]
  exact cast (congrArg (fun s => vcS Try.prog w0 qs95 (sub c95 [1, 0, 1, 0, 1]) s m (blockS 0 (thenS (fun σ m => vcS Try.prog w0 qs95 (sub c95 [1, 1]) σ m (retQ Try.prog Try.f95 R)) (retQ Try.prog Try.f95 R)))) es0) (cast (by kernel_rfl) h)
theorem vr95_1010100 (w0 : World) (m : AM) (σ : Sg) (R : Value → AM → Prop)  (x1 : Nat) (K : Option Addr → Nat → Nat → Int → AM → Prop) (h1 : σ 1 = .pointer (some ⟨x1, 0, none⟩))
 (h_t : 
 ∃ i4 : Int, m.cell ⟨x1, 2, none⟩ = some (.int .i64 i4) ∧ 
 ∃ i5 : Int, m.cell ⟨x1, 3, none⟩ = some (.int .i64 i5) ∧ 
 ∃ i6 : Int, m.cell ⟨x1, 1, none⟩ = some (.int .i64 i6) ∧ 
 true = true ∧ ∀ b7 : Nat, w0.heap.size ≤ b7 → m b7 = none → let m8 := AM.upd m b7 (.cells #[.int .i64 i4, .int .i64 i5] 3);
 true = true ∧ true = true ∧ true = true ∧ K (some ⟨b7, 0, none⟩) 2 2 i6 m8)
 (h_k : ∀ (σ : Sg) (y2 : Option Addr) (y2n : Nat) (y2c : Nat) (y3 : Int) (m : AM), K y2 y2n y2c y3 m → (
 RetP R (.tuple #[.slice y2 y2n y2c, .int .i64 y3]) m)) :
 vcS Try.prog w0 qs95 (sub c95 [1, 0, 1, 0, 1, 0, 0]) σ m (thenS (fun σ m => vcS Try.prog w0 qs95 (sub c95 [1, 0, 1, 0, 1, 0, 1]) σ m (blockS 0 (thenS (fun σ m => vcS Try.prog w0 qs95 (sub c95 [1, 1]) σ m (retQ Try.prog Try.f95 R)) (retQ Try.prog Try.f95 R)))) (blockS 0 (thenS (fun σ m => vcS Try.prog w0 qs95 (sub c95 [1, 1]) σ m (retQ Try.prog Try.f95 R)) (retQ Try.prog Try.f95 R)))) := by
  have es0 : (upd σ 1 (.pointer (some ⟨x1, 0, none⟩))) = σ := by rw [upd_id h1]
  refine vcS_cut (Q0 := (fun σ m => okS (σ 2) = true ∧ okI .i64 (σ 3) = true ∧ K (vSA (σ 2)) (vSN (σ 2)) (vSC (σ 2)) (vI (σ 3)) m)) (by kernel_rfl) (cast (congrArg (fun s => trC Try.prog w0 qs95 (sub c95 [1, 0, 1, 0, 1, 0, 0]) s m (fun σ m => okS (σ 2) = true ∧ okI .i64 (σ 3) = true ∧ K (vSA (σ 2)) (vSN (σ 2)) (vSC (σ 2)) (vI (σ 3)) m)) es0) (cast (by kernel_rfl) h_t)) ?_
  rintro σ m ⟨kk0, kk1, hK⟩
  have es : (upd (upd σ 2 (.slice (vSA (σ 2)) (vSN (σ 2)) (vSC (σ 2)))) 3 (.int .i64 (vI (σ 3)))) = σ := by rw [upd_id (ok_slice kk0), upd_id (ok_int kk1)]
  exact cast (congrArg (fun s => (thenS (fun σ m => vcS Try.prog w0 qs95 (sub c95 [1, 0, 1, 0, 1, 0, 1]) σ m (blockS 0 (thenS (fun σ m => vcS Try.prog w0 qs95 (sub c95 [1, 1]) σ m (retQ Try.prog Try.f95 R)) (retQ Try.prog Try.f95 R)))) (blockS 0 (thenS (fun σ m => vcS Try.prog w0 qs95 (sub c95 [1, 1]) σ m (retQ Try.prog Try.f95 R)) (retQ Try.prog Try.f95 R)))) .normal s m) es) (cast (by kernel_rfl) (h_k σ (vSA (σ 2)) (vSN (σ 2)) (vSC (σ 2)) (vI (σ 3)) m hK))
theorem vk95_1010111 (w0 : World) (m : AM) (σ : Sg) (R : Value → AM → Prop)  (x1 : Nat) (x5 : Int) (x23 : Bool) (h1 : σ 1 = .pointer (some ⟨x1, 0, none⟩)) (h5 : σ 5 = .int .i64 x5) (h23 : σ 23 = .bool x23) (h :
 (bcase x23 (
 vcS Try.prog w0 qs95 (sub c95 [1, 0, 1, 0, 1, 1, 1, 0, 0]) (upd (upd (upd σ 1 (.pointer (some ⟨x1, 0, none⟩))) 5 (.int .i64 x5)) 23 (.bool x23)) m (thenS (fun σ m => vcS Try.prog w0 qs95 (sub c95 [1, 0, 1, 0, 1, 1, 1, 0, 1]) σ m (blockS 0 (thenS (fun σ m => vcS Try.prog w0 qs95 (sub c95 [1, 1]) σ m (retQ Try.prog Try.f95 R)) (retQ Try.prog Try.f95 R)))) (blockS 0 (thenS (fun σ m => vcS Try.prog w0 qs95 (sub c95 [1, 1]) σ m (retQ Try.prog Try.f95 R)) (retQ Try.prog Try.f95 R))))) (
 IntKind.i64 = IntKind.i64 ∧ (bcase ((x5 : Int) == 11) (
 ∃ i9 : Int, m.cell ⟨x1, 1, none⟩ = some (.int .i64 i9) ∧ 
 RetP R (.tuple #[.slice none 0 0, .int .i64 i9]) m) (
 IntKind.i64 = IntKind.i64 ∧ (bcase ((x5 : Int) == 13) (
 vcS Try.prog w0 qs95 (sub c95 [1, 0, 1, 0, 1, 1, 1, 1, 1, 1, 1]) (upd (upd (upd (upd (upd (upd (upd σ 1 (.pointer (some ⟨x1, 0, none⟩))) 5 (.int .i64 x5)) 23 (.bool x23)) 32 (.bool ((x5 : Int) == 11))) 31 (.bool ((x5 : Int) == 11))) 36 (.bool ((x5 : Int) == 13))) 35 (.bool ((x5 : Int) == 13))) m (blockS 0 (thenS (fun σ m => vcS Try.prog w0 qs95 (sub c95 [1, 1]) σ m (retQ Try.prog Try.f95 R)) (retQ Try.prog Try.f95 R)))) (
 IntKind.i64 = IntKind.i64 ∧ (bcase ((x5 : Int) == 15) (
 vcS Try.prog w0 qs95 (sub c95 [1, 0, 1, 0, 1, 1, 1, 1, 1, 1, 1]) (upd (upd (upd (upd (upd (upd (upd (upd (upd σ 1 (.pointer (some ⟨x1, 0, none⟩))) 5 (.int .i64 x5)) 23 (.bool x23)) 32 (.bool ((x5 : Int) == 11))) 31 (.bool ((x5 : Int) == 11))) 36 (.bool ((x5 : Int) == 13))) 35 (.bool ((x5 : Int) == 13))) 37 (.bool ((x5 : Int) == 15))) 35 (.bool ((x5 : Int) == 15))) m (blockS 0 (thenS (fun σ m => vcS Try.prog w0 qs95 (sub c95 [1, 1]) σ m (retQ Try.prog Try.f95 R)) (retQ Try.prog Try.f95 R)))) (
 IntKind.i64 = IntKind.i64 ∧ vcS Try.prog w0 qs95 (sub c95 [1, 0, 1, 0, 1, 1, 1, 1, 1, 1, 1]) (upd (upd (upd (upd (upd (upd (upd (upd (upd (upd (upd σ 1 (.pointer (some ⟨x1, 0, none⟩))) 5 (.int .i64 x5)) 23 (.bool x23)) 32 (.bool ((x5 : Int) == 11))) 31 (.bool ((x5 : Int) == 11))) 36 (.bool ((x5 : Int) == 13))) 35 (.bool ((x5 : Int) == 13))) 37 (.bool ((x5 : Int) == 15))) 35 (.bool ((x5 : Int) == 15))) 38 (.bool ((x5 : Int) == 16))) 35 (.bool ((x5 : Int) == 16))) m (blockS 0 (thenS (fun σ m => vcS Try.prog w0 qs95 (sub c95 [1, 1]) σ m (retQ Try.prog Try.f95 R)) (retQ Try.prog Try.f95 R)))))))))))) :
 vcS Try.prog w0 qs95 (sub c95 [1, 0, 1, 0, 1, 1, 1]) σ m (blockS 0 (thenS (fun σ m => vcS Try.prog w0 qs95 (sub c95 [1, 1]) σ m (retQ Try.prog Try.f95 R)) (retQ Try.prog Try.f95 R))) := by
  have es0 : (upd (upd (upd σ 1 (.pointer (some ⟨x1, 0, none⟩))) 5 (.int .i64 x5)) 23 (.bool x23)) = σ := by rw [upd_id h1, upd_id h5, upd_id h23]
  exact cast (congrArg (fun s => vcS Try.prog w0 qs95 (sub c95 [1, 0, 1, 0, 1, 1, 1]) s m (blockS 0 (thenS (fun σ m => vcS Try.prog w0 qs95 (sub c95 [1, 1]) σ m (retQ Try.prog Try.f95 R)) (retQ Try.prog Try.f95 R)))) es0) (cast (by kernel_rfl) h)
theorem vr95_101011100 (w0 : World) (m : AM) (σ : Sg) (R : Value → AM → Prop)  (x1 : Nat) (K : Option Addr → Nat → Nat → Int → AM → Prop) (h1 : σ 1 = .pointer (some ⟨x1, 0, none⟩))
 (h_t : 
 ∃ i10 : Int, m.cell ⟨x1, 2, none⟩ = some (.int .i64 i10) ∧ 
 ∃ i11 : Int, m.cell ⟨x1, 1, none⟩ = some (.int .i64 i11) ∧ 
 true = true ∧ ∀ b12 : Nat, w0.heap.size ≤ b12 → m b12 = none → let m13 := AM.upd m b12 (.cells #[.int .i64 i10] 3);
 true = true ∧ true = true ∧ true = true ∧ K (some ⟨b12, 0, none⟩) 1 1 i11 m13)
 (h_k : ∀ (σ : Sg) (y2 : Option Addr) (y2n : Nat) (y2c : Nat) (y3 : Int) (m : AM), K y2 y2n y2c y3 m → (
 RetP R (.tuple #[.slice y2 y2n y2c, .int .i64 y3]) m)) :
 vcS Try.prog w0 qs95 (sub c95 [1, 0, 1, 0, 1, 1, 1, 0, 0]) σ m (thenS (fun σ m => vcS Try.prog w0 qs95 (sub c95 [1, 0, 1, 0, 1, 1, 1, 0, 1]) σ m (blockS 0 (thenS (fun σ m => vcS Try.prog w0 qs95 (sub c95 [1, 1]) σ m (retQ Try.prog Try.f95 R)) (retQ Try.prog Try.f95 R)))) (blockS 0 (thenS (fun σ m => vcS Try.prog w0 qs95 (sub c95 [1, 1]) σ m (retQ Try.prog Try.f95 R)) (retQ Try.prog Try.f95 R)))) := by
  have es0 : (upd σ 1 (.pointer (some ⟨x1, 0, none⟩))) = σ := by rw [upd_id h1]
  refine vcS_cut (Q0 := (fun σ m => okS (σ 2) = true ∧ okI .i64 (σ 3) = true ∧ K (vSA (σ 2)) (vSN (σ 2)) (vSC (σ 2)) (vI (σ 3)) m)) (by kernel_rfl) (cast (congrArg (fun s => trC Try.prog w0 qs95 (sub c95 [1, 0, 1, 0, 1, 1, 1, 0, 0]) s m (fun σ m => okS (σ 2) = true ∧ okI .i64 (σ 3) = true ∧ K (vSA (σ 2)) (vSN (σ 2)) (vSC (σ 2)) (vI (σ 3)) m)) es0) (cast (by kernel_rfl) h_t)) ?_
  rintro σ m ⟨kk0, kk1, hK⟩
  have es : (upd (upd σ 2 (.slice (vSA (σ 2)) (vSN (σ 2)) (vSC (σ 2)))) 3 (.int .i64 (vI (σ 3)))) = σ := by rw [upd_id (ok_slice kk0), upd_id (ok_int kk1)]
  exact cast (congrArg (fun s => (thenS (fun σ m => vcS Try.prog w0 qs95 (sub c95 [1, 0, 1, 0, 1, 1, 1, 0, 1]) σ m (blockS 0 (thenS (fun σ m => vcS Try.prog w0 qs95 (sub c95 [1, 1]) σ m (retQ Try.prog Try.f95 R)) (retQ Try.prog Try.f95 R)))) (blockS 0 (thenS (fun σ m => vcS Try.prog w0 qs95 (sub c95 [1, 1]) σ m (retQ Try.prog Try.f95 R)) (retQ Try.prog Try.f95 R)))) .normal s m) es) (cast (by kernel_rfl) (h_k σ (vSA (σ 2)) (vSN (σ 2)) (vSC (σ 2)) (vI (σ 3)) m hK))
theorem vk95_10101111111 (w0 : World) (m : AM) (σ : Sg) (R : Value → AM → Prop)  (x1 : Nat) (x5 : Int) (x35 : Bool) (h1 : σ 1 = .pointer (some ⟨x1, 0, none⟩)) (h5 : σ 5 = .int .i64 x5) (h35 : σ 35 = .bool x35) (h :
 (bcase x35 (
 ∃ i14 : Int, m.cell ⟨x1, 1, none⟩ = some (.int .i64 i14) ∧ 
 ∃ i15 : Int, m.cell ⟨x1, 2, none⟩ = some (.int .i64 i15) ∧ 
 true = true ∧ ∀ b16 : Nat, w0.heap.size ≤ b16 → m b16 = none → let m17 := AM.upd m b16 (.cells #[.int .i64 i14, .int .i64 i15] 3);
 RetP R (.tuple #[.slice (some ⟨b16, 0, none⟩) 2 2, .int .i64 0]) m17) (
 IntKind.i64 = IntKind.i64 ∧ (bcase ((x5 : Int) == 14) (
 (bcase ((x5 : Int) == 14) (
 ∃ i18 : Int, m.cell ⟨x1, 1, none⟩ = some (.int .i64 i18) ∧ 
 true = true ∧ ∀ b19 : Nat, w0.heap.size ≤ b19 → m b19 = none → let m20 := AM.upd m b19 (.cells #[.int .i64 i18] 3);
 RetP R (.tuple #[.slice (some ⟨b19, 0, none⟩) 1 1, .int .i64 0]) m20) (
 IntKind.i64 = IntKind.i64 ∧ (bcase ((x5 : Int) == 18) (
 RetP R (.tuple #[.slice none 0 0, .int .i64 31]) m) (
 IntKind.i64 = IntKind.i64 ∧ (bcase ((x5 : Int) == 20) (
 ∃ i21 : Int, m.cell ⟨x1, 4, none⟩ = some (.int .i64 i21) ∧ 
 CallsA Try.prog w0 112 #[.int .i64 i21] m fun r26 m27 =>
 ∃ (A22 : Option Addr) (n23 c24 : Nat), ∃ i25 : Int, r26 = .tuple #[.slice A22 n23 c24, .int .i64 i25] ∧ RetP R (.tuple #[.slice A22 n23 c24, .int .i64 i25]) m27) (
 RetP R (.tuple #[.slice none 0 0, .int .i64 0]) m))))))) (
 IntKind.i64 = IntKind.i64 ∧ (bcase ((x5 : Int) == 19) (
 ∃ i30 : Int, m.cell ⟨x1, 1, none⟩ = some (.int .i64 i30) ∧ 
 true = true ∧ ∀ b31 : Nat, w0.heap.size ≤ b31 → m b31 = none → let m32 := AM.upd m b31 (.cells #[.int .i64 i30] 3);
 RetP R (.tuple #[.slice (some ⟨b31, 0, none⟩) 1 1, .int .i64 0]) m32) (
 IntKind.i64 = IntKind.i64 ∧ (bcase ((x5 : Int) == 18) (
 RetP R (.tuple #[.slice none 0 0, .int .i64 31]) m) (
 IntKind.i64 = IntKind.i64 ∧ (bcase ((x5 : Int) == 20) (
 ∃ i33 : Int, m.cell ⟨x1, 4, none⟩ = some (.int .i64 i33) ∧ 
 CallsA Try.prog w0 112 #[.int .i64 i33] m fun r38 m39 =>
 ∃ (A34 : Option Addr) (n35 c36 : Nat), ∃ i37 : Int, r38 = .tuple #[.slice A34 n35 c36, .int .i64 i37] ∧ RetP R (.tuple #[.slice A34 n35 c36, .int .i64 i37]) m39) (
 RetP R (.tuple #[.slice none 0 0, .int .i64 0]) m))))))))))) :
 vcS Try.prog w0 qs95 (sub c95 [1, 0, 1, 0, 1, 1, 1, 1, 1, 1, 1]) σ m (blockS 0 (thenS (fun σ m => vcS Try.prog w0 qs95 (sub c95 [1, 1]) σ m (retQ Try.prog Try.f95 R)) (retQ Try.prog Try.f95 R))) := by
  have es0 : (upd (upd (upd σ 1 (.pointer (some ⟨x1, 0, none⟩))) 5 (.int .i64 x5)) 35 (.bool x35)) = σ := by rw [upd_id h1, upd_id h5, upd_id h35]
  exact cast (congrArg (fun s => vcS Try.prog w0 qs95 (sub c95 [1, 0, 1, 0, 1, 1, 1, 1, 1, 1, 1]) s m (blockS 0 (thenS (fun σ m => vcS Try.prog w0 qs95 (sub c95 [1, 1]) σ m (retQ Try.prog Try.f95 R)) (retQ Try.prog Try.f95 R)))) es0) (cast (by kernel_rfl) h)

/-! 112 delayslot/effect.system -/
def qs112 : Nat → List (Nat × Nat) := fun i => match i with | _ => []
noncomputable def c112 : Code := bodyOf Try.f112
theorem cf112 (w0 : World) (m : AM) (x0 : Int) (R : Value → AM → Prop) (h :
 IntKind.i64 = IntKind.i64 ∧ (bcase ((x0 : Int) == 1) (
 RetP R (.tuple #[.slice none 0 0, .int .i64 4]) m) (
 IntKind.i64 = IntKind.i64 ∧ (bcase ((x0 : Int) == 2) (
 true = true ∧ ∀ b1 : Nat, w0.heap.size ≤ b1 → m b1 = none → let m2 := AM.upd m b1 (.cells #[.int .i64 4] 3);
 RetP R (.tuple #[.slice (some ⟨b1, 0, none⟩) 1 1, .int .i64 0]) m2) (
 RetP R (.tuple #[.slice none 0 0, .int .i64 0]) m))))) : CallsA Try.prog w0 112 #[.int .i64 x0] m R :=
  callsA_of (c := c112) (args := [.int .i64 x0]) (by kernel_rfl) Try.func112 (by kernel_rfl) qs112 (by kernel_rfl) (by kernel_rfl) (cast (by kernel_rfl) h)

/-! 80 delayslot/effect.Writes -/
def qs80 : Nat → List (Nat × Nat) := fun i => match i with | _ => []
noncomputable def c80 : Code := bodyOf Try.f80
theorem cf80 (w0 : World) (m : AM) (x0_0 : Int) (x0_1 : Int) (x0_2 : Int) (x0_3 : Int) (x0_4 : Int) (R : Value → AM → Prop) (h :
 ∀ b1 : Nat, w0.heap.size ≤ b1 → m b1 = none → let m2 := AM.upd m b1 (.cells #[.int .i64 x0_0, .int .i64 x0_1, .int .i64 x0_2, .int .i64 x0_3, .int .i64 x0_4] 24);
 ∃ i3 : Int, m2.cell ⟨b1, 0, none⟩ = some (.int .i64 i3) ∧ ∃ i4 : Int, m2.cell ⟨b1, 1, none⟩ = some (.int .i64 i4) ∧ ∃ i5 : Int, m2.cell ⟨b1, 2, none⟩ = some (.int .i64 i5) ∧ ∃ i6 : Int, m2.cell ⟨b1, 3, none⟩ = some (.int .i64 i6) ∧ ∃ i7 : Int, m2.cell ⟨b1, 4, none⟩ = some (.int .i64 i7) ∧ 
 CallsA Try.prog w0 45 #[.agg #[.int .i64 i3, .int .i64 i4, .int .i64 i5, .int .i64 i6, .int .i64 i7]] m2 fun r9 m10 =>
 ∃ t8 : Bool, r9 = .bool t8 ∧ (bcase (!t8) (
 RetP R (.int .i64 0) m10) (
 ∃ i11 : Int, m10.cell ⟨b1, 0, none⟩ = some (.int .i64 i11) ∧ ∃ i12 : Int, m10.cell ⟨b1, 1, none⟩ = some (.int .i64 i12) ∧ ∃ i13 : Int, m10.cell ⟨b1, 2, none⟩ = some (.int .i64 i13) ∧ ∃ i14 : Int, m10.cell ⟨b1, 3, none⟩ = some (.int .i64 i14) ∧ ∃ i15 : Int, m10.cell ⟨b1, 4, none⟩ = some (.int .i64 i15) ∧ 
 CallsA Try.prog w0 95 #[.agg #[.int .i64 i11, .int .i64 i12, .int .i64 i13, .int .i64 i14, .int .i64 i15]] m10 fun r20 m21 =>
 ∃ (A16 : Option Addr) (n17 c18 : Nat), ∃ i19 : Int, r20 = .tuple #[.slice A16 n17 c18, .int .i64 i19] ∧ RetP R (.int .i64 i19) m21))) : CallsA Try.prog w0 80 #[.agg #[.int .i64 x0_0, .int .i64 x0_1, .int .i64 x0_2, .int .i64 x0_3, .int .i64 x0_4]] m R :=
  callsA_of (c := c80) (args := [.agg #[.int .i64 x0_0, .int .i64 x0_1, .int .i64 x0_2, .int .i64 x0_3, .int .i64 x0_4]]) (by kernel_rfl) Try.func80 (by kernel_rfl) qs80 (by kernel_rfl) (by kernel_rfl) (cast (by kernel_rfl) h)

/-! 66 delayslot/effect.Late -/
def qs66 : Nat → List (Nat × Nat) := fun i => match i with | _ => []
noncomputable def c66 : Code := bodyOf Try.f66
theorem cf66 (w0 : World) (m : AM) (x0_0 : Int) (x0_1 : Int) (x0_2 : Int) (x0_3 : Int) (x0_4 : Int) (R : Value → AM → Prop) (h :
 ∀ b1 : Nat, w0.heap.size ≤ b1 → m b1 = none → let m2 := AM.upd m b1 (.cells #[.int .i64 x0_0, .int .i64 x0_1, .int .i64 x0_2, .int .i64 x0_3, .int .i64 x0_4] 24);
 ∃ i3 : Int, m2.cell ⟨b1, 0, none⟩ = some (.int .i64 i3) ∧ ∃ i4 : Int, m2.cell ⟨b1, 1, none⟩ = some (.int .i64 i4) ∧ ∃ i5 : Int, m2.cell ⟨b1, 2, none⟩ = some (.int .i64 i5) ∧ ∃ i6 : Int, m2.cell ⟨b1, 3, none⟩ = some (.int .i64 i6) ∧ ∃ i7 : Int, m2.cell ⟨b1, 4, none⟩ = some (.int .i64 i7) ∧ 
 CallsA Try.prog w0 45 #[.agg #[.int .i64 i3, .int .i64 i4, .int .i64 i5, .int .i64 i6, .int .i64 i7]] m2 fun r9 m10 =>
 ∃ t8 : Bool, r9 = .bool t8 ∧ (bcase t8 (
 ∃ i11 : Int, m10.cell ⟨b1, 0, none⟩ = some (.int .i64 i11) ∧ 
 IntKind.i64 = IntKind.i64 ∧ (bcase ((i11 : Int) == 12) (
 ((i11 : Int) == 12) = true ∧ RetP R (.bool (bif t8 then true else false)) m10) (
 ∃ i12 : Int, m10.cell ⟨b1, 0, none⟩ = some (.int .i64 i12) ∧ 
 IntKind.i64 = IntKind.i64 ∧ (bcase ((i12 : Int) == 20) (
 ∃ i13 : Int, m10.cell ⟨b1, 4, none⟩ = some (.int .i64 i13) ∧ 
 IntKind.i64 = IntKind.i64 ∧ RetP R (.bool (bif t8 then bif (i11 : Int) == 12 then true else bif (i12 : Int) == 20 then (i13 : Int) == 1 else false else false)) m10) (
 ((i12 : Int) == 20) = false ∧ RetP R (.bool (bif t8 then bif (i11 : Int) == 12 then true else false else false)) m10))))) (
 t8 = false ∧ RetP R (.bool false) m10))) : CallsA Try.prog w0 66 #[.agg #[.int .i64 x0_0, .int .i64 x0_1, .int .i64 x0_2, .int .i64 x0_3, .int .i64 x0_4]] m R :=
  callsA_of (c := c66) (args := [.agg #[.int .i64 x0_0, .int .i64 x0_1, .int .i64 x0_2, .int .i64 x0_3, .int .i64 x0_4]]) (by kernel_rfl) Try.func66 (by kernel_rfl) qs66 (by kernel_rfl) (by kernel_rfl) (cast (by kernel_rfl) h)
end Go.Proofs.Ytkfemiloehkmhaa.V

