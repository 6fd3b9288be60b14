/- Ytkfemiloehkmhaa: a text of our own, by an AI agent: VDepH -/
import Derived.Test.YtkfemiloehkmhaaCoreA
import Derived.Test.YtkfemiloehkmhaaTabH
namespace Go.Proofs.Ytkfemiloehkmhaa.V
open Go Go.Alog Go.Proofs.Ytkfemiloehkmhaa.T
set_option linter.unusedVariables false
set_option maxRecDepth 100000

/-! 91 delayslot/depend.reads -/
def qs91 : Nat → List (Nat × Nat) := fun i => match i with | _ => []
noncomputable def c91 : Code := bodyOf Try.f91
theorem cf91 (w0 : World) (m : AM) (x0_0 : Int) (x0_1 : Int) (x0_2 : Int) (x0_3 : Int) (x0_4 : Int) (x1 : Int) (R : Value → AM → Prop) (h :
 ∀ b1 : Nat, w0.heap.size ≤ b1 → m b1 = none → let m2 := AM.upd m b1 (.cells #[.int .i64 x0_0, .int .i64 x0_1, .int .i64 x0_2, .int .i64 x0_3, .int .i64 x0_4] 24);
 IntKind.i64 = IntKind.i64 ∧ (bcase ((x1 : Int) != 0) (
 ∃ i3 : Int, m2.cell ⟨b1, 0, none⟩ = some (.int .i64 i3) ∧ ∃ i4 : Int, m2.cell ⟨b1, 1, none⟩ = some (.int .i64 i4) ∧ ∃ i5 : Int, m2.cell ⟨b1, 2, none⟩ = some (.int .i64 i5) ∧ ∃ i6 : Int, m2.cell ⟨b1, 3, none⟩ = some (.int .i64 i6) ∧ ∃ i7 : Int, m2.cell ⟨b1, 4, none⟩ = some (.int .i64 i7) ∧ 
 CallsA Try.prog w0 82 #[.agg #[.int .i64 i3, .int .i64 i4, .int .i64 i5, .int .i64 i6, .int .i64 i7]] m2 fun r11 m12 =>
 ∃ (A8 : Option Addr) (n9 c10 : Nat), r11 = .slice A8 n9 c10 ∧ CallsA Try.prog w0 81 #[.slice A8 n9 c10, .int .i64 x1] m12 fun r14 m15 =>
 ∃ t13 : Bool, r14 = .bool t13 ∧ RetP R (.bool (bif (x1 : Int) != 0 then t13 else false)) m15) (
 ((x1 : Int) != 0) = false ∧ RetP R (.bool false) m2))) : CallsA Try.prog w0 91 #[.agg #[.int .i64 x0_0, .int .i64 x0_1, .int .i64 x0_2, .int .i64 x0_3, .int .i64 x0_4], .int .i64 x1] m R :=
  callsA_of (c := c91) (args := [.agg #[.int .i64 x0_0, .int .i64 x0_1, .int .i64 x0_2, .int .i64 x0_3, .int .i64 x0_4], .int .i64 x1]) (by kernel_rfl) Try.func91 (by kernel_rfl) qs91 (by kernel_rfl) (by kernel_rfl) (cast (by kernel_rfl) h)

/-! 67 delayslot/depend.Far -/
def qs67 : Nat → List (Nat × Nat) := fun i => match i with | 1 => [(1, 2)] | _ => []
noncomputable def c67 : Code := bodyOf Try.f67
theorem cf67 (w0 : World) (m : AM) (x0_0 : Int) (x0_1 : Int) (x0_2 : Int) (x0_3 : Int) (x0_4 : Int) (x1_0 : Int) (x1_1 : Int) (x1_2 : Int) (x1_3 : Int) (x1_4 : Int) (R : Value → AM → Prop) (h :
 ∀ b1 : Nat, w0.heap.size ≤ b1 → m b1 = none → let m2 := AM.upd m b1 (.cells #[.int .i64 x0_0, .int .i64 x0_1, .int .i64 x0_2, .int .i64 x0_3, .int .i64 x0_4] 24);
 ∀ b3 : Nat, w0.heap.size ≤ b3 → m2 b3 = none → let m4 := AM.upd m2 b3 (.cells #[.int .i64 x1_0, .int .i64 x1_1, .int .i64 x1_2, .int .i64 x1_3, .int .i64 x1_4] 24);
 ∃ i5 : Int, m4.cell ⟨b1, 0, none⟩ = some (.int .i64 i5) ∧ ∃ i6 : Int, m4.cell ⟨b1, 1, none⟩ = some (.int .i64 i6) ∧ ∃ i7 : Int, m4.cell ⟨b1, 2, none⟩ = some (.int .i64 i7) ∧ ∃ i8 : Int, m4.cell ⟨b1, 3, none⟩ = some (.int .i64 i8) ∧ ∃ i9 : Int, m4.cell ⟨b1, 4, none⟩ = some (.int .i64 i9) ∧ 
 ∃ i10 : Int,  CallsA Try.prog w0 80 #[.agg #[.int .i64 i5, .int .i64 i6, .int .i64 i7, .int .i64 i8, .int .i64 i9]] m4 (fun r11 m12 => r11 = .int .i64 i10 ∧ m12 = m4) ∧
 ∃ i13 : Int, m4.cell ⟨b3, 0, none⟩ = some (.int .i64 i13) ∧ ∃ i14 : Int, m4.cell ⟨b3, 1, none⟩ = some (.int .i64 i14) ∧ ∃ i15 : Int, m4.cell ⟨b3, 2, none⟩ = some (.int .i64 i15) ∧ ∃ i16 : Int, m4.cell ⟨b3, 3, none⟩ = some (.int .i64 i16) ∧ ∃ i17 : Int, m4.cell ⟨b3, 4, none⟩ = some (.int .i64 i17) ∧ 
 CallsA Try.prog w0 80 #[.agg #[.int .i64 i13, .int .i64 i14, .int .i64 i15, .int .i64 i16, .int .i64 i17]] m4 fun r19 m20 =>
 ∃ i18 : Int, r19 = .int .i64 i18 ∧ ∃ i21 : Int, m20.cell ⟨b3, 0, none⟩ = some (.int .i64 i21) ∧ ∃ i22 : Int, m20.cell ⟨b3, 1, none⟩ = some (.int .i64 i22) ∧ ∃ i23 : Int, m20.cell ⟨b3, 2, none⟩ = some (.int .i64 i23) ∧ ∃ i24 : Int, m20.cell ⟨b3, 3, none⟩ = some (.int .i64 i24) ∧ ∃ i25 : Int, m20.cell ⟨b3, 4, none⟩ = some (.int .i64 i25) ∧ 
 CallsA Try.prog w0 91 #[.agg #[.int .i64 i21, .int .i64 i22, .int .i64 i23, .int .i64 i24, .int .i64 i25], .int .i64 i10] m20 fun r27 m28 =>
 ∃ t26 : Bool, r27 = .bool t26 ∧ (bcase t26 (
 ∃ i29 : Int, m28.cell ⟨b1, 0, none⟩ = some (.int .i64 i29) ∧ ∃ i30 : Int, m28.cell ⟨b1, 1, none⟩ = some (.int .i64 i30) ∧ ∃ i31 : Int, m28.cell ⟨b1, 2, none⟩ = some (.int .i64 i31) ∧ ∃ i32 : Int, m28.cell ⟨b1, 3, none⟩ = some (.int .i64 i32) ∧ ∃ i33 : Int, m28.cell ⟨b1, 4, none⟩ = some (.int .i64 i33) ∧ 
 CallsA Try.prog w0 66 #[.agg #[.int .i64 i29, .int .i64 i30, .int .i64 i31, .int .i64 i32, .int .i64 i33]] m28 fun r35 m36 =>
 ∃ t34 : Bool, r35 = .bool t34 ∧ vcS Try.prog w0 qs67 (sub c67 [1, 1, 0, 0, 1]) (upd (upd (upd (upd (upd (upd (upd (upd (upd (upd (upd (upd (upd (upd (upd (upd (upd (argS [.agg #[.int .i64 x0_0, .int .i64 x0_1, .int .i64 x0_2, .int .i64 x0_3, .int .i64 x0_4], .agg #[.int .i64 x1_0, .int .i64 x1_1, .int .i64 x1_2, .int .i64 x1_3, .int .i64 x1_4]]) 2 (.pointer (some ⟨b1, 0, none⟩))) 3 (.pointer (some ⟨b3, 0, none⟩))) 4 (.int .i64 0)) 7 (.agg #[.int .i64 i5, .int .i64 i6, .int .i64 i7, .int .i64 i8, .int .i64 i9])) 8 (.int .i64 i10)) 9 (.agg #[.int .i64 i13, .int .i64 i14, .int .i64 i15, .int .i64 i16, .int .i64 i17])) 10 (.int .i64 i18)) 5 (.int .i64 i10)) 6 (.int .i64 i18)) 12 (.agg #[.int .i64 i21, .int .i64 i22, .int .i64 i23, .int .i64 i24, .int .i64 i25])) 13 (.int .i64 i10)) 14 (.bool t26)) 15 (.bool t26)) 16 (.agg #[.int .i64 i29, .int .i64 i30, .int .i64 i31, .int .i64 i32, .int .i64 i33])) 17 (.bool t34)) 18 (.bool (bif t26 then t34 else false))) 11 (.bool (bif t26 then t34 else false))) m36 (blockS 0 (thenS (fun σ m => vcS Try.prog w0 qs67 (sub c67 [1, 1, 1]) σ m (retQ Try.prog Try.f67 R)) (retQ Try.prog Try.f67 R)))) (
 t26 = false ∧ vcS Try.prog w0 qs67 (sub c67 [1, 1, 0, 0, 1]) (upd (upd (upd (upd (upd (upd (upd (upd (upd (upd (upd (upd (upd (upd (upd (upd (upd (argS [.agg #[.int .i64 x0_0, .int .i64 x0_1, .int .i64 x0_2, .int .i64 x0_3, .int .i64 x0_4], .agg #[.int .i64 x1_0, .int .i64 x1_1, .int .i64 x1_2, .int .i64 x1_3, .int .i64 x1_4]]) 2 (.pointer (some ⟨b1, 0, none⟩))) 3 (.pointer (some ⟨b3, 0, none⟩))) 4 (.int .i64 0)) 7 (.agg #[.int .i64 i5, .int .i64 i6, .int .i64 i7, .int .i64 i8, .int .i64 i9])) 8 (.int .i64 i10)) 9 (.agg #[.int .i64 i13, .int .i64 i14, .int .i64 i15, .int .i64 i16, .int .i64 i17])) 10 (.int .i64 i18)) 5 (.int .i64 i10)) 6 (.int .i64 i18)) 12 (.agg #[.int .i64 i21, .int .i64 i22, .int .i64 i23, .int .i64 i24, .int .i64 i25])) 13 (.int .i64 i10)) 14 (.bool t26)) 15 (.bool t26)) 16 (undef)) 17 (undef)) 18 (.bool false)) 11 (.bool false)) m28 (blockS 0 (thenS (fun σ m => vcS Try.prog w0 qs67 (sub c67 [1, 1, 1]) σ m (retQ Try.prog Try.f67 R)) (retQ Try.prog Try.f67 R)))))) : CallsA Try.prog w0 67 #[.agg #[.int .i64 x0_0, .int .i64 x0_1, .int .i64 x0_2, .int .i64 x0_3, .int .i64 x0_4], .agg #[.int .i64 x1_0, .int .i64 x1_1, .int .i64 x1_2, .int .i64 x1_3, .int .i64 x1_4]] m R :=
  callsA_of (c := c67) (args := [.agg #[.int .i64 x0_0, .int .i64 x0_1, .int .i64 x0_2, .int .i64 x0_3, .int .i64 x0_4], .agg #[.int .i64 x1_0, .int .i64 x1_1, .int .i64 x1_2, .int .i64 x1_3, .int .i64 x1_4]]) (by kernel_rfl) Try.func67 (by kernel_rfl) qs67 (by kernel_rfl) (by kernel_rfl) (cast (by kernel_rfl) h)
theorem vk67_11001 (w0 : World) (m : AM) (σ : Sg) (R : Value → AM → Prop)  (x2 : Nat) (x3 : Nat) (x5 : Int) (x6 : Int) (x11 : Bool) (h2 : σ 2 = .pointer (some ⟨x2, 0, none⟩)) (h3 : σ 3 = .pointer (some ⟨x3, 0, none⟩)) (h5 : σ 5 = .int .i64 x5) (h6 : σ 6 = .int .i64 x6) (h11 : σ 11 = .bool x11) (h :
 (bcase x11 (
 RetP R (.int .i64 2) m) (
 ∃ i37 : Int, m.cell ⟨x3, 0, none⟩ = some (.int .i64 i37) ∧ ∃ i38 : Int, m.cell ⟨x3, 1, none⟩ = some (.int .i64 i38) ∧ ∃ i39 : Int, m.cell ⟨x3, 2, none⟩ = some (.int .i64 i39) ∧ ∃ i40 : Int, m.cell ⟨x3, 3, none⟩ = some (.int .i64 i40) ∧ ∃ i41 : Int, m.cell ⟨x3, 4, none⟩ = some (.int .i64 i41) ∧ 
 CallsA Try.prog w0 91 #[.agg #[.int .i64 i37, .int .i64 i38, .int .i64 i39, .int .i64 i40, .int .i64 i41], .int .i64 x5] m fun r43 m44 =>
 ∃ t42 : Bool, r43 = .bool t42 ∧ (bcase t42 (
 t42 = true ∧ true = true ∧ true = true ∧ RetP R (.int .i64 1) m44) (
 IntKind.i64 = IntKind.i64 ∧ (bcase ((x5 : Int) != 0) (
 IntKind.i64 = IntKind.i64 ∧ (bcase (bif t42 then true else bif (x5 : Int) != 0 then (x5 : Int) == x6 else false) (
 (bif t42 then true else bif (x5 : Int) != 0 then (x5 : Int) == x6 else false) = true ∧ true = true ∧ RetP R (.int .i64 1) m44) (
 ∃ i45 : Int, m44.cell ⟨x2, 0, none⟩ = some (.int .i64 i45) ∧ ∃ i46 : Int, m44.cell ⟨x2, 1, none⟩ = some (.int .i64 i46) ∧ ∃ i47 : Int, m44.cell ⟨x2, 2, none⟩ = some (.int .i64 i47) ∧ ∃ i48 : Int, m44.cell ⟨x2, 3, none⟩ = some (.int .i64 i48) ∧ ∃ i49 : Int, m44.cell ⟨x2, 4, none⟩ = some (.int .i64 i49) ∧ 
 CallsA Try.prog w0 91 #[.agg #[.int .i64 i45, .int .i64 i46, .int .i64 i47, .int .i64 i48, .int .i64 i49], .int .i64 x6] m44 fun r51 m52 =>
 ∃ t50 : Bool, r51 = .bool t50 ∧ (bcase (bif bif t42 then true else bif (x5 : Int) != 0 then (x5 : Int) == x6 else false then true else t50) (
 (bif bif t42 then true else bif (x5 : Int) != 0 then (x5 : Int) == x6 else false then true else t50) = true ∧ RetP R (.int .i64 1) m52) (
 ∃ i53 : Int, m52.cell ⟨x2, 0, none⟩ = some (.int .i64 i53) ∧ ∃ i54 : Int, m52.cell ⟨x2, 1, none⟩ = some (.int .i64 i54) ∧ ∃ i55 : Int, m52.cell ⟨x2, 2, none⟩ = some (.int .i64 i55) ∧ ∃ i56 : Int, m52.cell ⟨x2, 3, none⟩ = some (.int .i64 i56) ∧ ∃ i57 : Int, m52.cell ⟨x2, 4, none⟩ = some (.int .i64 i57) ∧ 
 CallsA Try.prog w0 92 #[.agg #[.int .i64 i53, .int .i64 i54, .int .i64 i55, .int .i64 i56, .int .i64 i57]] m52 fun r59 m60 =>
 ∃ t58 : Bool, r59 = .bool t58 ∧ (bcase t58 (
 ∃ i61 : Int, m60.cell ⟨x3, 0, none⟩ = some (.int .i64 i61) ∧ ∃ i62 : Int, m60.cell ⟨x3, 1, none⟩ = some (.int .i64 i62) ∧ ∃ i63 : Int, m60.cell ⟨x3, 2, none⟩ = some (.int .i64 i63) ∧ ∃ i64 : Int, m60.cell ⟨x3, 3, none⟩ = some (.int .i64 i64) ∧ ∃ i65 : Int, m60.cell ⟨x3, 4, none⟩ = some (.int .i64 i65) ∧ 
 CallsA Try.prog w0 92 #[.agg #[.int .i64 i61, .int .i64 i62, .int .i64 i63, .int .i64 i64, .int .i64 i65]] m60 fun r67 m68 =>
 ∃ t66 : Bool, r67 = .bool t66 ∧ (bcase (bif bif bif t42 then true else bif (x5 : Int) != 0 then (x5 : Int) == x6 else false then true else t50 then true else bif t58 then t66 else false) (
 RetP R (.int .i64 1) m68) (
 RetP R (.int .i64 0) m68))) (
 t58 = false ∧ (bcase (bif bif bif t42 then true else bif (x5 : Int) != 0 then (x5 : Int) == x6 else false then true else t50 then true else false) (
 RetP R (.int .i64 1) m60) (
 RetP R (.int .i64 0) m60))))))))) (
 ((x5 : Int) != 0) = false ∧ (bcase (bif t42 then true else false) (
 (bif t42 then true else false) = true ∧ true = true ∧ RetP R (.int .i64 1) m44) (
 ∃ i69 : Int, m44.cell ⟨x2, 0, none⟩ = some (.int .i64 i69) ∧ ∃ i70 : Int, m44.cell ⟨x2, 1, none⟩ = some (.int .i64 i70) ∧ ∃ i71 : Int, m44.cell ⟨x2, 2, none⟩ = some (.int .i64 i71) ∧ ∃ i72 : Int, m44.cell ⟨x2, 3, none⟩ = some (.int .i64 i72) ∧ ∃ i73 : Int, m44.cell ⟨x2, 4, none⟩ = some (.int .i64 i73) ∧ 
 CallsA Try.prog w0 91 #[.agg #[.int .i64 i69, .int .i64 i70, .int .i64 i71, .int .i64 i72, .int .i64 i73], .int .i64 x6] m44 fun r75 m76 =>
 ∃ t74 : Bool, r75 = .bool t74 ∧ (bcase (bif bif t42 then true else false then true else t74) (
 (bif bif t42 then true else false then true else t74) = true ∧ RetP R (.int .i64 1) m76) (
 ∃ i77 : Int, m76.cell ⟨x2, 0, none⟩ = some (.int .i64 i77) ∧ ∃ i78 : Int, m76.cell ⟨x2, 1, none⟩ = some (.int .i64 i78) ∧ ∃ i79 : Int, m76.cell ⟨x2, 2, none⟩ = some (.int .i64 i79) ∧ ∃ i80 : Int, m76.cell ⟨x2, 3, none⟩ = some (.int .i64 i80) ∧ ∃ i81 : Int, m76.cell ⟨x2, 4, none⟩ = some (.int .i64 i81) ∧ 
 CallsA Try.prog w0 92 #[.agg #[.int .i64 i77, .int .i64 i78, .int .i64 i79, .int .i64 i80, .int .i64 i81]] m76 fun r83 m84 =>
 ∃ t82 : Bool, r83 = .bool t82 ∧ (bcase t82 (
 ∃ i85 : Int, m84.cell ⟨x3, 0, none⟩ = some (.int .i64 i85) ∧ ∃ i86 : Int, m84.cell ⟨x3, 1, none⟩ = some (.int .i64 i86) ∧ ∃ i87 : Int, m84.cell ⟨x3, 2, none⟩ = some (.int .i64 i87) ∧ ∃ i88 : Int, m84.cell ⟨x3, 3, none⟩ = some (.int .i64 i88) ∧ ∃ i89 : Int, m84.cell ⟨x3, 4, none⟩ = some (.int .i64 i89) ∧ 
 CallsA Try.prog w0 92 #[.agg #[.int .i64 i85, .int .i64 i86, .int .i64 i87, .int .i64 i88, .int .i64 i89]] m84 fun r91 m92 =>
 ∃ t90 : Bool, r91 = .bool t90 ∧ (bcase (bif bif bif t42 then true else false then true else t74 then true else bif t82 then t90 else false) (
 RetP R (.int .i64 1) m92) (
 RetP R (.int .i64 0) m92))) (
 t82 = false ∧ (bcase (bif bif bif t42 then true else false then true else t74 then true else false) (
 RetP R (.int .i64 1) m84) (
 RetP R (.int .i64 0) m84))))))))))))))) :
 vcS Try.prog w0 qs67 (sub c67 [1, 1, 0, 0, 1]) σ m (blockS 0 (thenS (fun σ m => vcS Try.prog w0 qs67 (sub c67 [1, 1, 1]) σ m (retQ Try.prog Try.f67 R)) (retQ Try.prog Try.f67 R))) := by
  have es0 : (upd (upd (upd (upd (upd σ 2 (.pointer (some ⟨x2, 0, none⟩))) 3 (.pointer (some ⟨x3, 0, none⟩))) 5 (.int .i64 x5)) 6 (.int .i64 x6)) 11 (.bool x11)) = σ := by rw [upd_id h2, upd_id h3, upd_id h5, upd_id h6, upd_id h11]
  exact cast (congrArg (fun s => vcS Try.prog w0 qs67 (sub c67 [1, 1, 0, 0, 1]) s m (blockS 0 (thenS (fun σ m => vcS Try.prog w0 qs67 (sub c67 [1, 1, 1]) σ m (retQ Try.prog Try.f67 R)) (retQ Try.prog Try.f67 R)))) es0) (cast (by kernel_rfl) h)

/-! 59 delayslot/depend.Heights -/
def qs59 : Nat → List (Nat × Nat) := fun i => match i with | _ => []
noncomputable def c59 : Code := bodyOf Try.f59
theorem cf59 (w0 : World) (m : AM) (x0 : Option Addr) (x0n x0c : Nat) (R : Value → AM → Prop) (h :
 ((0 : Int) ≤ ((x0n : Nat) : Int) ∧ (((x0n : Nat) : Int) : Int) ≤ ((x0n : Nat) : Int) ∧ (((x0n : Nat) : Int) : Int) ≤ 9223372036854775807 ∧ ((8 : Nat) : Int) * ((x0n : Nat) : Int) ≤ 281474976710656) ∧ ∀ b1 : Nat, w0.heap.size ≤ b1 → m b1 = none → let m2 := AM.upd m b1 (.cells (zeros [.int .i64 0] (((x0n : Nat) : Int) : Int).toNat).toArray 3);
 IntKind.i64 = IntKind.i64 ∧ vcS Try.prog w0 qs59 (sub c59 [1, 1, 0, 1, 0]) (upd (upd (upd (upd (upd (upd (upd (upd (upd (argS [.slice x0 x0n x0c]) 2 (.slice none 0 0)) 7 (.slice x0 x0n x0c)) 8 (.int .i64 ((x0n : Nat) : Int))) 9 (.slice (some ⟨b1, 0, none⟩) ((((x0n : Nat) : Int) : Int).toNat) ((((x0n : Nat) : Int) : Int).toNat))) 3 (.slice (some ⟨b1, 0, none⟩) ((((x0n : Nat) : Int) : Int).toNat) ((((x0n : Nat) : Int) : Int).toNat))) 10 (.slice x0 x0n x0c)) 11 (.int .i64 ((x0n : Nat) : Int))) 12 (.int .i64 (IntKind.wrap .i64 (((x0n : Nat) : Int) - 1)))) 4 (.int .i64 (IntKind.wrap .i64 (((x0n : Nat) : Int) - 1)))) m2 (blockS 0 (thenS (fun σ m => vcS Try.prog w0 qs59 (sub c59 [1, 1, 1]) σ m (retQ Try.prog Try.f59 R)) (retQ Try.prog Try.f59 R)))) : CallsA Try.prog w0 59 #[.slice x0 x0n x0c] m R :=
  callsA_of (c := c59) (args := [.slice x0 x0n x0c]) (by kernel_rfl) Try.func59 (by kernel_rfl) qs59 (by kernel_rfl) (by kernel_rfl) (cast (by kernel_rfl) h)
def lq59_11010 (R : Value → AM → Prop) (x0 : Option Addr) (x0n x0c : Nat) (x3 : Option Addr) (x3n x3c : Nat) (I0 : Nat → Int → AM → Prop) (E0_0 : AM → Prop) (n0 : Nat) : Exit → Sg → AM → Prop
  | .normal, σ, m => σ 0 = .slice x0 x0n x0c ∧ σ 3 = .slice x3 x3n x3c ∧ okI .i64 (σ 4) = true ∧ ∃ n' : Nat, n' < n0 ∧ I0 n' (vI (σ 4)) m
  | .exit id, σ, m => if id = 0 then σ 0 = .slice x0 x0n x0c ∧ σ 3 = .slice x3 x3n x3c ∧ E0_0  m else False
  | .ret, σ, m => retQ Try.prog Try.f59 R .ret σ m
  | _, _, _ => False
theorem vl59_11010 (w0 : World) (m : AM) (σ : Sg) (R : Value → AM → Prop)  (x0 : Option Addr) (x0n x0c : Nat) (x3 : Option Addr) (x3n x3c : Nat) (x4 : Int) (I0 : Nat → Int → AM → Prop) (E0_0 : AM → Prop) (N : Nat) (h0 : σ 0 = .slice x0 x0n x0c) (h3 : σ 3 = .slice x3 x3n x3c) (h4 : σ 4 = .int .i64 x4)
 (h_0 : I0 N x4 m)
 (h_s : ∀ (n0 : Nat) (σ : Sg) (x4 : Int) (m : AM), I0 n0 x4 m → (
 IntKind.i64 = IntKind.i64 ∧ (bcase (decide ((x4 : Int) ≥ 0)) (
 IntKind.i64 = IntKind.i64 ∧ vcS Try.prog w0 qs59 (sub c59 [1, 1, 0, 1, 0, 0, 1, 0, 0, 1, 0]) (upd (upd (upd (upd (upd (upd (upd (upd σ 0 (.slice x0 x0n x0c)) 3 (.slice x3 x3n x3c)) 4 (.int .i64 x4)) 13 (.int .i64 x4)) 14 (.bool (decide ((x4 : Int) ≥ 0)))) 17 (.int .i64 x4)) 18 (.int .i64 (IntKind.wrap .i64 (x4 + 1)))) 5 (.int .i64 (IntKind.wrap .i64 (x4 + 1)))) m (blockS 2 (blockS 1 (thenS (fun σ m => vcS Try.prog w0 qs59 (sub c59 [1, 1, 0, 1, 0, 0, 1, 1]) σ m (lq59_11010 R x0 x0n x0c x3 x3n x3c I0 E0_0 n0)) (lq59_11010 R x0 x0n x0c x3 x3n x3c I0 E0_0 n0))))) (
 (.slice x0 x0n x0c : Value) = .slice x0 x0n x0c ∧ (.slice x3 x3n x3c : Value) = .slice x3 x3n x3c ∧ E0_0  m))))
 (h_e0 : ∀ (σ : Sg)  (m : AM), E0_0  m → (
 RetP R (.slice x3 x3n x3c) m)) :
 vcS Try.prog w0 qs59 (sub c59 [1, 1, 0, 1, 0]) σ m (blockS 0 (thenS (fun σ m => vcS Try.prog w0 qs59 (sub c59 [1, 1, 1]) σ m (retQ Try.prog Try.f59 R)) (retQ Try.prog Try.f59 R))) := by
  rw [show sub c59 [1, 1, 0, 1, 0] = .loop (sub c59 [1, 1, 0, 1, 0, 0]) from by kernel_rfl]
  refine loopQ (fun n0 σ m => σ 0 = .slice x0 x0n x0c ∧ σ 3 = .slice x3 x3n x3c ∧ okI .i64 (σ 4) = true ∧ I0 n0 (vI (σ 4)) m) N (fun n0 => (lq59_11010 R x0 x0n x0c x3 x3n x3c I0 E0_0 n0)) ⟨h0, h3, (by rw [h4]; rfl), (by rw [h4]; exact h_0)⟩ ?_ ?_ ?_
  · rintro n0 σ m ⟨kk0, kk1, kk2, n', hlt, hI⟩; exact ⟨n', hlt, kk0, kk1, kk2, hI⟩
  · intro n0 e σ m hne h
    cases e with
    | normal => exact absurd rfl hne
    | ret => exact h
    | exit id =>
      by_cases e0 : id = 0
      · subst e0
        obtain ⟨kk0, kk1, hE⟩ := h
        have es : (upd (upd σ 0 (.slice x0 x0n x0c)) 3 (.slice x3 x3n x3c)) = σ := by rw [upd_id kk0, upd_id kk1]
        exact cast (congrArg (fun s => (blockS 0 (thenS (fun σ m => vcS Try.prog w0 qs59 (sub c59 [1, 1, 1]) σ m (retQ Try.prog Try.f59 R)) (retQ Try.prog Try.f59 R))) (.exit 0) s m) es) (cast (by kernel_rfl) (h_e0 σ  m hE))
      · replace h := (if_neg e0 : (if id = 0 then _ else _) = _).mp h
        exact False.elim h
    | _ => exact False.elim h
  · rintro n0 σ m ⟨kk0, kk1, kk2, hI⟩
    have es : (upd (upd (upd σ 0 (.slice x0 x0n x0c)) 3 (.slice x3 x3n x3c)) 4 (.int .i64 (vI (σ 4)))) = σ := by rw [upd_id kk0, upd_id kk1, upd_id (ok_int kk2)]
    exact cast (congrArg (fun s => vcS Try.prog w0 qs59 (sub c59 [1, 1, 0, 1, 0, 0]) s m (lq59_11010 R x0 x0n x0c x3 x3n x3c I0 E0_0 n0)) es) (cast (by kernel_rfl) (h_s n0 σ (vI (σ 4)) m hI))
def lq59_11010010010 (R : Value → AM → Prop) (x0 : Option Addr) (x0n x0c : Nat) (x3 : Option Addr) (x3n x3c : Nat) (x4 : Int) (I1 : Nat → Int → AM → Prop) (E1_2 : AM → Prop) (n1 : Nat) : Exit → Sg → AM → Prop
  | .normal, σ, m => σ 0 = .slice x0 x0n x0c ∧ σ 3 = .slice x3 x3n x3c ∧ σ 4 = .int .i64 x4 ∧ okI .i64 (σ 5) = true ∧ ∃ n' : Nat, n' < n1 ∧ I1 n' (vI (σ 5)) m
  | .exit id, σ, m => if id = 2 then σ 0 = .slice x0 x0n x0c ∧ σ 3 = .slice x3 x3n x3c ∧ σ 4 = .int .i64 x4 ∧ E1_2  m else False
  | .ret, σ, m => retQ Try.prog Try.f59 R .ret σ m
  | _, _, _ => False
theorem vl59_11010010010 (w0 : World) (m : AM) (σ : Sg) (R : Value → AM → Prop) (n0 : Nat) (I0 : Nat → Int → AM → Prop) (E0_0 : AM → Prop) (x0 : Option Addr) (x0n x0c : Nat) (x3 : Option Addr) (x3n x3c : Nat) (x4 : Int) (x5 : Int) (I1 : Nat → Int → AM → Prop) (E1_2 : AM → Prop) (N : Nat) (h0 : σ 0 = .slice x0 x0n x0c) (h3 : σ 3 = .slice x3 x3n x3c) (h4 : σ 4 = .int .i64 x4) (h5 : σ 5 = .int .i64 x5)
 (h_0 : I1 N x5 m)
 (h_s : ∀ (n1 : Nat) (σ : Sg) (x5 : Int) (m : AM), I1 n1 x5 m → (
 IntKind.i64 = IntKind.i64 ∧ (bcase (decide ((x5 : Int) < ((x0n : Nat) : Int))) (
 ((0 : Int) ≤ x4 ∧ x4 < ((x0n : Nat) : Int)) ∧ nilO x0 fun a3 =>
 ∃ i4 : Int, m.cell (a3.add ((x4 : Int).toNat * 5)) = some (.int .i64 i4) ∧ ∃ i5 : Int, m.cell ((a3.add ((x4 : Int).toNat * 5)).add 1) = some (.int .i64 i5) ∧ ∃ i6 : Int, m.cell ((a3.add ((x4 : Int).toNat * 5)).add 2) = some (.int .i64 i6) ∧ ∃ i7 : Int, m.cell ((a3.add ((x4 : Int).toNat * 5)).add 3) = some (.int .i64 i7) ∧ ∃ i8 : Int, m.cell ((a3.add ((x4 : Int).toNat * 5)).add 4) = some (.int .i64 i8) ∧ 
 ((0 : Int) ≤ x5 ∧ x5 < ((x0n : Nat) : Int)) ∧ nilO x0 fun a9 =>
 ∃ i10 : Int, m.cell (a9.add ((x5 : Int).toNat * 5)) = some (.int .i64 i10) ∧ ∃ i11 : Int, m.cell ((a9.add ((x5 : Int).toNat * 5)).add 1) = some (.int .i64 i11) ∧ ∃ i12 : Int, m.cell ((a9.add ((x5 : Int).toNat * 5)).add 2) = some (.int .i64 i12) ∧ ∃ i13 : Int, m.cell ((a9.add ((x5 : Int).toNat * 5)).add 3) = some (.int .i64 i13) ∧ ∃ i14 : Int, m.cell ((a9.add ((x5 : Int).toNat * 5)).add 4) = some (.int .i64 i14) ∧ 
 CallsA Try.prog w0 67 #[.agg #[.int .i64 i4, .int .i64 i5, .int .i64 i6, .int .i64 i7, .int .i64 i8], .agg #[.int .i64 i10, .int .i64 i11, .int .i64 i12, .int .i64 i13, .int .i64 i14]] m fun r16 m17 =>
 ∃ i15 : Int, r16 = .int .i64 i15 ∧ IntKind.i64 = IntKind.i64 ∧ (bcase (decide ((i15 : Int) > 0)) (
 ((0 : Int) ≤ x4 ∧ x4 < ((x3n : Nat) : Int)) ∧ nilO x3 fun a18 =>
 ∃ i19 : Int, m17.cell (a18.add ((x4 : Int).toNat * 1)) = some (.int .i64 i19) ∧ 
 ((0 : Int) ≤ x5 ∧ x5 < ((x3n : Nat) : Int)) ∧ nilO x3 fun a20 =>
 ∃ i21 : Int, m17.cell (a20.add ((x5 : Int).toNat * 1)) = some (.int .i64 i21) ∧ 
 IntKind.i64 = IntKind.i64 ∧ IntKind.i64 = IntKind.i64 ∧ ((0 : Int) ≤ x4 ∧ x4 < ((x3n : Nat) : Int)) ∧ nilO x3 fun a22 =>
 StC w0.heap.size m17 (a22.add ((x4 : Int).toNat * 1)) (.int .i64 (if ((IntKind.wrap .i64 (i15 + i21)) : Int) > i19 then IntKind.wrap .i64 (i15 + i21) else i19)) fun m23 =>
 IntKind.i64 = IntKind.i64 ∧ (.slice x0 x0n x0c : Value) = .slice x0 x0n x0c ∧ (.slice x3 x3n x3c : Value) = .slice x3 x3n x3c ∧ (.int .i64 x4 : Value) = .int .i64 x4 ∧ true = true ∧ ∃ n' : Nat, n' < n1 ∧ I1 n' (IntKind.wrap .i64 (x5 + 1)) m23) (
 IntKind.i64 = IntKind.i64 ∧ (.slice x0 x0n x0c : Value) = .slice x0 x0n x0c ∧ (.slice x3 x3n x3c : Value) = .slice x3 x3n x3c ∧ (.int .i64 x4 : Value) = .int .i64 x4 ∧ true = true ∧ ∃ n' : Nat, n' < n1 ∧ I1 n' (IntKind.wrap .i64 (x5 + 1)) m17))) (
 (.slice x0 x0n x0c : Value) = .slice x0 x0n x0c ∧ (.slice x3 x3n x3c : Value) = .slice x3 x3n x3c ∧ (.int .i64 x4 : Value) = .int .i64 x4 ∧ E1_2  m))))
 (h_e2 : ∀ (σ : Sg)  (m : AM), E1_2  m → (
 IntKind.i64 = IntKind.i64 ∧ (.slice x0 x0n x0c : Value) = .slice x0 x0n x0c ∧ (.slice x3 x3n x3c : Value) = .slice x3 x3n x3c ∧ true = true ∧ ∃ n' : Nat, n' < n0 ∧ I0 n' (IntKind.wrap .i64 (x4 - 1)) m)) :
 vcS Try.prog w0 qs59 (sub c59 [1, 1, 0, 1, 0, 0, 1, 0, 0, 1, 0]) σ m (blockS 2 (blockS 1 (thenS (fun σ m => vcS Try.prog w0 qs59 (sub c59 [1, 1, 0, 1, 0, 0, 1, 1]) σ m (lq59_11010 R x0 x0n x0c x3 x3n x3c I0 E0_0 n0)) (lq59_11010 R x0 x0n x0c x3 x3n x3c I0 E0_0 n0)))) := by
  rw [show sub c59 [1, 1, 0, 1, 0, 0, 1, 0, 0, 1, 0] = .loop (sub c59 [1, 1, 0, 1, 0, 0, 1, 0, 0, 1, 0, 0]) from by kernel_rfl]
  refine loopQ (fun n1 σ m => σ 0 = .slice x0 x0n x0c ∧ σ 3 = .slice x3 x3n x3c ∧ σ 4 = .int .i64 x4 ∧ okI .i64 (σ 5) = true ∧ I1 n1 (vI (σ 5)) m) N (fun n1 => (lq59_11010010010 R x0 x0n x0c x3 x3n x3c x4 I1 E1_2 n1)) ⟨h0, h3, h4, (by rw [h5]; rfl), (by rw [h5]; exact h_0)⟩ ?_ ?_ ?_
  · rintro n1 σ m ⟨kk0, kk1, kk2, kk3, n', hlt, hI⟩; exact ⟨n', hlt, kk0, kk1, kk2, kk3, hI⟩
  · intro n1 e σ m hne h
    cases e with
    | normal => exact absurd rfl hne
    | ret => exact h
    | exit id =>
      by_cases e2 : id = 2
      · subst e2
        obtain ⟨kk0, kk1, kk2, hE⟩ := h
        have es : (upd (upd (upd σ 0 (.slice x0 x0n x0c)) 3 (.slice x3 x3n x3c)) 4 (.int .i64 x4)) = σ := by rw [upd_id kk0, upd_id kk1, upd_id kk2]
        exact cast (congrArg (fun s => (blockS 2 (blockS 1 (thenS (fun σ m => vcS Try.prog w0 qs59 (sub c59 [1, 1, 0, 1, 0, 0, 1, 1]) σ m (lq59_11010 R x0 x0n x0c x3 x3n x3c I0 E0_0 n0)) (lq59_11010 R x0 x0n x0c x3 x3n x3c I0 E0_0 n0)))) (.exit 2) s m) es) (cast (by kernel_rfl) (h_e2 σ  m hE))
      · replace h := (if_neg e2 : (if id = 2 then _ else _) = _).mp h
        exact False.elim h
    | _ => exact False.elim h
  · rintro n1 σ m ⟨kk0, kk1, kk2, kk3, hI⟩
    have es : (upd (upd (upd (upd σ 0 (.slice x0 x0n x0c)) 3 (.slice x3 x3n x3c)) 4 (.int .i64 x4)) 5 (.int .i64 (vI (σ 5)))) = σ := by rw [upd_id kk0, upd_id kk1, upd_id kk2, upd_id (ok_int kk3)]
    exact cast (congrArg (fun s => vcS Try.prog w0 qs59 (sub c59 [1, 1, 0, 1, 0, 0, 1, 0, 0, 1, 0, 0]) s m (lq59_11010010010 R x0 x0n x0c x3 x3n x3c x4 I1 E1_2 n1)) es) (cast (by kernel_rfl) (h_s n1 σ (vI (σ 5)) m hI))

/-! 41 delayslot/delayslotref10.Far -/
/-! 64 delayslot/delayslotref10.Heights -/
noncomputable def c64 : Code := bodyOf Try.f64
/-! 71 delayslot/delayslotref10.where -/
noncomputable def c71 : Code := bodyOf Try.f71
/-! 39 delayslot/delayslotref10.Keeps -/
noncomputable def c39 : Code := bodyOf Try.f39
/-! 33 delayslot/delayslotref05.Same -/
def qs33 : Nat → List (Nat × Nat) := fun i => match i with | _ => []
noncomputable def c33 : Code := bodyOf Try.f33
theorem cf33 (w0 : World) (m : AM) (x0 : Option Addr) (x0n x0c : Nat) (x1 : Option Addr) (x1n x1c : Nat) (R : Value → AM → Prop) (h :
 IntKind.i64 = IntKind.i64 ∧ (bcase ((((x0n : Nat) : Int) : Int) != ((x1n : Nat) : Int)) (
 RetP R (.bool false) m) (
 vcS Try.prog w0 qs33 (sub c33 [1, 1, 0, 1, 0]) (upd (upd (upd (upd (upd (upd (upd (argS [.slice x0 x0n x0c, .slice x1 x1n x1c]) 4 (.bool false)) 6 (.slice x0 x0n x0c)) 7 (.int .i64 ((x0n : Nat) : Int))) 8 (.slice x1 x1n x1c)) 9 (.int .i64 ((x1n : Nat) : Int))) 10 (.bool ((((x0n : Nat) : Int) : Int) != ((x1n : Nat) : Int)))) 5 (.int .i64 0)) m (blockS 0 (thenS (fun σ m => vcS Try.prog w0 qs33 (sub c33 [1, 1, 1]) σ m (retQ Try.prog Try.f33 R)) (retQ Try.prog Try.f33 R)))))) : CallsA Try.prog w0 33 #[.slice x0 x0n x0c, .slice x1 x1n x1c] m R :=
  callsA_of (c := c33) (args := [.slice x0 x0n x0c, .slice x1 x1n x1c]) (by kernel_rfl) Try.func33 (by kernel_rfl) qs33 (by kernel_rfl) (by kernel_rfl) (cast (by kernel_rfl) h)
def lq33_11010 (R : Value → AM → Prop) (x0 : Option Addr) (x0n x0c : Nat) (x1 : Option Addr) (x1n x1c : Nat) (I0 : Nat → Int → AM → Prop) (E0_0 : AM → Prop) (n0 : Nat) : Exit → Sg → AM → Prop
  | .normal, σ, m => σ 0 = .slice x0 x0n x0c ∧ σ 1 = .slice x1 x1n x1c ∧ okI .i64 (σ 5) = true ∧ ∃ n' : Nat, n' < n0 ∧ I0 n' (vI (σ 5)) m
  | .exit id, σ, m => if id = 0 then σ 0 = .slice x0 x0n x0c ∧ σ 1 = .slice x1 x1n x1c ∧ E0_0  m else False
  | .ret, σ, m => retQ Try.prog Try.f33 R .ret σ m
  | _, _, _ => False
theorem vl33_11010 (w0 : World) (m : AM) (σ : Sg) (R : Value → AM → Prop)  (x0 : Option Addr) (x0n x0c : Nat) (x1 : Option Addr) (x1n x1c : Nat) (x5 : Int) (I0 : Nat → Int → AM → Prop) (E0_0 : AM → Prop) (N : Nat) (h0 : σ 0 = .slice x0 x0n x0c) (h1 : σ 1 = .slice x1 x1n x1c) (h5 : σ 5 = .int .i64 x5)
 (h_0 : I0 N x5 m)
 (h_s : ∀ (n0 : Nat) (σ : Sg) (x5 : Int) (m : AM), I0 n0 x5 m → (
 IntKind.i64 = IntKind.i64 ∧ (bcase (decide ((x5 : Int) < ((x0n : Nat) : Int))) (
 ((0 : Int) ≤ x5 ∧ x5 < ((x0n : Nat) : Int)) ∧ nilO x0 fun a1 =>
 ∃ i2 : Int, m.cell (a1.add ((x5 : Int).toNat * 1)) = some (.int .i64 i2) ∧ 
 ((0 : Int) ≤ x5 ∧ x5 < ((x1n : Nat) : Int)) ∧ nilO x1 fun a3 =>
 ∃ i4 : Int, m.cell (a3.add ((x5 : Int).toNat * 1)) = some (.int .i64 i4) ∧ 
 IntKind.i64 = IntKind.i64 ∧ (bcase ((i2 : Int) != i4) (
 RetP R (.bool false) m) (
 IntKind.i64 = IntKind.i64 ∧ (.slice x0 x0n x0c : Value) = .slice x0 x0n x0c ∧ (.slice x1 x1n x1c : Value) = .slice x1 x1n x1c ∧ true = true ∧ ∃ n' : Nat, n' < n0 ∧ I0 n' (IntKind.wrap .i64 (x5 + 1)) m))) (
 (.slice x0 x0n x0c : Value) = .slice x0 x0n x0c ∧ (.slice x1 x1n x1c : Value) = .slice x1 x1n x1c ∧ E0_0  m))))
 (h_e0 : ∀ (σ : Sg)  (m : AM), E0_0  m → (
 RetP R (.bool true) m)) :
 vcS Try.prog w0 qs33 (sub c33 [1, 1, 0, 1, 0]) σ m (blockS 0 (thenS (fun σ m => vcS Try.prog w0 qs33 (sub c33 [1, 1, 1]) σ m (retQ Try.prog Try.f33 R)) (retQ Try.prog Try.f33 R))) := by
  rw [show sub c33 [1, 1, 0, 1, 0] = .loop (sub c33 [1, 1, 0, 1, 0, 0]) from by kernel_rfl]
  refine loopQ (fun n0 σ m => σ 0 = .slice x0 x0n x0c ∧ σ 1 = .slice x1 x1n x1c ∧ okI .i64 (σ 5) = true ∧ I0 n0 (vI (σ 5)) m) N (fun n0 => (lq33_11010 R x0 x0n x0c x1 x1n x1c I0 E0_0 n0)) ⟨h0, h1, (by rw [h5]; rfl), (by rw [h5]; exact h_0)⟩ ?_ ?_ ?_
  · rintro n0 σ m ⟨kk0, kk1, kk2, n', hlt, hI⟩; exact ⟨n', hlt, kk0, kk1, kk2, hI⟩
  · intro n0 e σ m hne h
    cases e with
    | normal => exact absurd rfl hne
    | ret => exact h
    | exit id =>
      by_cases e0 : id = 0
      · subst e0
        obtain ⟨kk0, kk1, hE⟩ := h
        have es : (upd (upd σ 0 (.slice x0 x0n x0c)) 1 (.slice x1 x1n x1c)) = σ := by rw [upd_id kk0, upd_id kk1]
        exact cast (congrArg (fun s => (blockS 0 (thenS (fun σ m => vcS Try.prog w0 qs33 (sub c33 [1, 1, 1]) σ m (retQ Try.prog Try.f33 R)) (retQ Try.prog Try.f33 R))) (.exit 0) s m) es) (cast (by kernel_rfl) (h_e0 σ  m hE))
      · replace h := (if_neg e0 : (if id = 0 then _ else _) = _).mp h
        exact False.elim h
    | _ => exact False.elim h
  · rintro n0 σ m ⟨kk0, kk1, kk2, hI⟩
    have es : (upd (upd (upd σ 0 (.slice x0 x0n x0c)) 1 (.slice x1 x1n x1c)) 5 (.int .i64 (vI (σ 5)))) = σ := by rw [upd_id kk0, upd_id kk1, upd_id (ok_int kk2)]
    exact cast (congrArg (fun s => vcS Try.prog w0 qs33 (sub c33 [1, 1, 0, 1, 0, 0]) s m (lq33_11010 R x0 x0n x0c x1 x1n x1c I0 E0_0 n0)) es) (cast (by kernel_rfl) (h_s n0 σ (vI (σ 5)) m hI))
end Go.Proofs.Ytkfemiloehkmhaa.V

