/- Ythocajnpofdbmaa: a text of our own, by an AI agent: VLaw10G -/
import Derived.Test.YthocajnpofdbmaaCore5
import Derived.Test.YthocajnpofdbmaaTabG
namespace Go.Proofs.Ythocajnpofdbmaa.V
open Go Go.Alog Go.Proofs.Ythocajnpofdbmaa.T
set_option linter.unusedVariables false
set_option maxRecDepth 100000

/-! 41 delayslot/delayslotlaw10.awake -/
def qs41 : Nat → List (Nat × Nat) := fun i => match i with | _ => []
noncomputable def c41 : Code := bodyOf Try.f41
theorem cf41 (w0 : World) (m : AM)  (R : Value → AM → Prop) (h :
 true = true ∧ true = true ∧ ∀ b1 : Nat, w0.heap.size ≤ b1 → m b1 = none → let m2 := AM.upd m b1 (.cells #[.int .i64 0, .int .i64 0, .int .i64 0, .int .i64 0, .int .i64 0] 23);
 ∀ b3 : Nat, w0.heap.size ≤ b3 → m2 b3 = none → let m4 := AM.upd m2 b3 (.cells #[.int .i64 0, .int .i64 0, .int .i64 0, .int .i64 0, .int .i64 0] 23);
 StC w0.heap.size m4 ⟨b1, 0, none⟩ (.int .i64 12) fun m5 =>
 StC w0.heap.size m5 ⟨b1, 1, none⟩ (.int .i64 1) fun m6 =>
 StC w0.heap.size m6 ⟨b1, 2, none⟩ (.int .i64 0) fun m7 =>
 StC w0.heap.size m7 ⟨b1, 3, none⟩ (.int .i64 0) fun m8 =>
 StC w0.heap.size m8 ⟨b1, 4, none⟩ (.int .i64 0) fun m9 =>
 StC w0.heap.size m9 ⟨b3, 0, none⟩ (.int .i64 1) fun m10 =>
 StC w0.heap.size m10 ⟨b3, 1, none⟩ (.int .i64 2) fun m11 =>
 StC w0.heap.size m11 ⟨b3, 2, none⟩ (.int .i64 1) fun m12 =>
 StC w0.heap.size m12 ⟨b3, 3, none⟩ (.int .i64 0) fun m13 =>
 StC w0.heap.size m13 ⟨b3, 4, none⟩ (.int .i64 0) fun m14 =>
 ∃ i15 : Int, m14.cell ⟨b1, 0, none⟩ = some (.int .i64 i15) ∧ ∃ i16 : Int, m14.cell ⟨b1, 1, none⟩ = some (.int .i64 i16) ∧ ∃ i17 : Int, m14.cell ⟨b1, 2, none⟩ = some (.int .i64 i17) ∧ ∃ i18 : Int, m14.cell ⟨b1, 3, none⟩ = some (.int .i64 i18) ∧ ∃ i19 : Int, m14.cell ⟨b1, 4, none⟩ = some (.int .i64 i19) ∧ 
 ∃ i20 : Int, m14.cell ⟨b3, 0, none⟩ = some (.int .i64 i20) ∧ ∃ i21 : Int, m14.cell ⟨b3, 1, none⟩ = some (.int .i64 i21) ∧ ∃ i22 : Int, m14.cell ⟨b3, 2, none⟩ = some (.int .i64 i22) ∧ ∃ i23 : Int, m14.cell ⟨b3, 3, none⟩ = some (.int .i64 i23) ∧ ∃ i24 : Int, m14.cell ⟨b3, 4, none⟩ = some (.int .i64 i24) ∧ 
 true = true ∧ ∀ b25 : Nat, w0.heap.size ≤ b25 → m14 b25 = none → let m26 := AM.upd m14 b25 (.cells #[.int .i64 i15, .int .i64 i16, .int .i64 i17, .int .i64 i18, .int .i64 i19, .int .i64 i20, .int .i64 i21, .int .i64 i22, .int .i64 i23, .int .i64 i24] 23);
 CallsA Try.prog w0 43 #[.slice (some ⟨b25, 0, none⟩) 2 2] m26 fun r30 m31 =>
 ∃ (A27 : Option Addr) (n28 c29 : Nat), r30 = .slice A27 n28 c29 ∧ ∃ i32 : Int, m31.cell ⟨b1, 0, none⟩ = some (.int .i64 i32) ∧ ∃ i33 : Int, m31.cell ⟨b1, 1, none⟩ = some (.int .i64 i33) ∧ ∃ i34 : Int, m31.cell ⟨b1, 2, none⟩ = some (.int .i64 i34) ∧ ∃ i35 : Int, m31.cell ⟨b1, 3, none⟩ = some (.int .i64 i35) ∧ ∃ i36 : Int, m31.cell ⟨b1, 4, none⟩ = some (.int .i64 i36) ∧ 
 ∃ i37 : Int, m31.cell ⟨b3, 0, none⟩ = some (.int .i64 i37) ∧ ∃ i38 : Int, m31.cell ⟨b3, 1, none⟩ = some (.int .i64 i38) ∧ ∃ i39 : Int, m31.cell ⟨b3, 2, none⟩ = some (.int .i64 i39) ∧ ∃ i40 : Int, m31.cell ⟨b3, 3, none⟩ = some (.int .i64 i40) ∧ ∃ i41 : Int, m31.cell ⟨b3, 4, none⟩ = some (.int .i64 i41) ∧ 
 CallsA Try.prog w0 39 #[.agg #[.int .i64 i32, .int .i64 i33, .int .i64 i34, .int .i64 i35, .int .i64 i36], .agg #[.int .i64 i37, .int .i64 i38, .int .i64 i39, .int .i64 i40, .int .i64 i41]] m31 fun r43 m44 =>
 ∃ i42 : Int, r43 = .int .i64 i42 ∧ IntKind.i64 = IntKind.i64 ∧ (bcase ((i42 : Int) == 2) (
 ∃ i45 : Int, m44.cell ⟨b3, 0, none⟩ = some (.int .i64 i45) ∧ ∃ i46 : Int, m44.cell ⟨b3, 1, none⟩ = some (.int .i64 i46) ∧ ∃ i47 : Int, m44.cell ⟨b3, 2, none⟩ = some (.int .i64 i47) ∧ ∃ i48 : Int, m44.cell ⟨b3, 3, none⟩ = some (.int .i64 i48) ∧ ∃ i49 : Int, m44.cell ⟨b3, 4, none⟩ = some (.int .i64 i49) ∧ 
 ∃ i50 : Int, m44.cell ⟨b1, 0, none⟩ = some (.int .i64 i50) ∧ ∃ i51 : Int, m44.cell ⟨b1, 1, none⟩ = some (.int .i64 i51) ∧ ∃ i52 : Int, m44.cell ⟨b1, 2, none⟩ = some (.int .i64 i52) ∧ ∃ i53 : Int, m44.cell ⟨b1, 3, none⟩ = some (.int .i64 i53) ∧ ∃ i54 : Int, m44.cell ⟨b1, 4, none⟩ = some (.int .i64 i54) ∧ 
 CallsA Try.prog w0 39 #[.agg #[.int .i64 i45, .int .i64 i46, .int .i64 i47, .int .i64 i48, .int .i64 i49], .agg #[.int .i64 i50, .int .i64 i51, .int .i64 i52, .int .i64 i53, .int .i64 i54]] m44 fun r56 m57 =>
 ∃ i55 : Int, r56 = .int .i64 i55 ∧ IntKind.i64 = IntKind.i64 ∧ (bcase (bif (i42 : Int) == 2 then (i55 : Int) == 1 else false) (
 true = true ∧ ∃ i58 : Int, m57.cell ⟨b3, 0, none⟩ = some (.int .i64 i58) ∧ ∃ i59 : Int, m57.cell ⟨b3, 1, none⟩ = some (.int .i64 i59) ∧ ∃ i60 : Int, m57.cell ⟨b3, 2, none⟩ = some (.int .i64 i60) ∧ ∃ i61 : Int, m57.cell ⟨b3, 3, none⟩ = some (.int .i64 i61) ∧ ∃ i62 : Int, m57.cell ⟨b3, 4, none⟩ = some (.int .i64 i62) ∧ 
 CallsA Try.prog w0 39 #[.agg #[.int .i64 0, .int .i64 0, .int .i64 0, .int .i64 0, .int .i64 0], .agg #[.int .i64 i58, .int .i64 i59, .int .i64 i60, .int .i64 i61, .int .i64 i62]] m57 fun r64 m65 =>
 ∃ i63 : Int, r64 = .int .i64 i63 ∧ IntKind.i64 = IntKind.i64 ∧ (bcase (bif bif (i42 : Int) == 2 then (i55 : Int) == 1 else false then (i63 : Int) == 0 else false) (
 IntKind.i64 = IntKind.i64 ∧ (bcase (bif bif bif (i42 : Int) == 2 then (i55 : Int) == 1 else false then (i63 : Int) == 0 else false then (((n28 : Nat) : Int) : Int) == 2 else false) (
 ((0 : Int) ≤ 0 ∧ 0 < ((n28 : Nat) : Int)) ∧ nilO A27 fun a66 =>
 ∃ i67 : Int, m65.cell (a66.add (0)) = some (.int .i64 i67) ∧ 
 IntKind.i64 = IntKind.i64 ∧ (bcase (bif bif bif bif (i42 : Int) == 2 then (i55 : Int) == 1 else false then (i63 : Int) == 0 else false then (((n28 : Nat) : Int) : Int) == 2 else false then (i67 : Int) == 2 else false) (
 ∃ i68 : Int, m65.cell ⟨b1, 0, none⟩ = some (.int .i64 i68) ∧ ∃ i69 : Int, m65.cell ⟨b1, 1, none⟩ = some (.int .i64 i69) ∧ ∃ i70 : Int, m65.cell ⟨b1, 2, none⟩ = some (.int .i64 i70) ∧ ∃ i71 : Int, m65.cell ⟨b1, 3, none⟩ = some (.int .i64 i71) ∧ ∃ i72 : Int, m65.cell ⟨b1, 4, none⟩ = some (.int .i64 i72) ∧ 
 ∃ i73 : Int, m65.cell ⟨b3, 0, none⟩ = some (.int .i64 i73) ∧ ∃ i74 : Int, m65.cell ⟨b3, 1, none⟩ = some (.int .i64 i74) ∧ ∃ i75 : Int, m65.cell ⟨b3, 2, none⟩ = some (.int .i64 i75) ∧ ∃ i76 : Int, m65.cell ⟨b3, 3, none⟩ = some (.int .i64 i76) ∧ ∃ i77 : Int, m65.cell ⟨b3, 4, none⟩ = some (.int .i64 i77) ∧ 
 true = true ∧ ∀ b78 : Nat, w0.heap.size ≤ b78 → m65 b78 = none → let m79 := AM.upd m65 b78 (.cells #[.int .i64 i68, .int .i64 i69, .int .i64 i70, .int .i64 i71, .int .i64 i72, .int .i64 i73, .int .i64 i74, .int .i64 i75, .int .i64 i76, .int .i64 i77] 23);
 true = true ∧ ∀ b80 : Nat, w0.heap.size ≤ b80 → m79 b80 = none → let m81 := AM.upd m79 b80 (.cells #[.int .i64 0, .int .i64 (-1), .int .i64 1] 3);
 CallsA Try.prog w0 45 #[.slice (some ⟨b78, 0, none⟩) 2 2, .slice (some ⟨b80, 0, none⟩) 3 3] m81 fun r83 m84 =>
 ∃ t82 : Bool, r83 = .bool t82 ∧ (bcase (bif bif bif bif bif (i42 : Int) == 2 then (i55 : Int) == 1 else false then (i63 : Int) == 0 else false then (((n28 : Nat) : Int) : Int) == 2 else false then (i67 : Int) == 2 else false then t82 else false) (
 ∃ i85 : Int, m84.cell ⟨b1, 0, none⟩ = some (.int .i64 i85) ∧ ∃ i86 : Int, m84.cell ⟨b1, 1, none⟩ = some (.int .i64 i86) ∧ ∃ i87 : Int, m84.cell ⟨b1, 2, none⟩ = some (.int .i64 i87) ∧ ∃ i88 : Int, m84.cell ⟨b1, 3, none⟩ = some (.int .i64 i88) ∧ ∃ i89 : Int, m84.cell ⟨b1, 4, none⟩ = some (.int .i64 i89) ∧ 
 ∃ i90 : Int, m84.cell ⟨b3, 0, none⟩ = some (.int .i64 i90) ∧ ∃ i91 : Int, m84.cell ⟨b3, 1, none⟩ = some (.int .i64 i91) ∧ ∃ i92 : Int, m84.cell ⟨b3, 2, none⟩ = some (.int .i64 i92) ∧ ∃ i93 : Int, m84.cell ⟨b3, 3, none⟩ = some (.int .i64 i93) ∧ ∃ i94 : Int, m84.cell ⟨b3, 4, none⟩ = some (.int .i64 i94) ∧ 
 true = true ∧ ∀ b95 : Nat, w0.heap.size ≤ b95 → m84 b95 = none → let m96 := AM.upd m84 b95 (.cells #[.int .i64 i85, .int .i64 i86, .int .i64 i87, .int .i64 i88, .int .i64 i89, .int .i64 i90, .int .i64 i91, .int .i64 i92, .int .i64 i93, .int .i64 i94] 23);
 true = true ∧ ∀ b97 : Nat, w0.heap.size ≤ b97 → m96 b97 = none → let m98 := AM.upd m96 b97 (.cells #[.int .i64 0, .int .i64 1] 3);
 CallsA Try.prog w0 45 #[.slice (some ⟨b95, 0, none⟩) 2 2, .slice (some ⟨b97, 0, none⟩) 2 2] m98 fun r100 m101 =>
 ∃ t99 : Bool, r100 = .bool t99 ∧ RetP R (.bool (bif bif bif bif bif bif (i42 : Int) == 2 then (i55 : Int) == 1 else false then (i63 : Int) == 0 else false then (((n28 : Nat) : Int) : Int) == 2 else false then (i67 : Int) == 2 else false then t82 else false then !t99 else false)) m101) (
 (bif bif bif bif bif (i42 : Int) == 2 then (i55 : Int) == 1 else false then (i63 : Int) == 0 else false then (((n28 : Nat) : Int) : Int) == 2 else false then (i67 : Int) == 2 else false then t82 else false) = false ∧ RetP R (.bool false) m84))) (
 (bif bif bif bif (i42 : Int) == 2 then (i55 : Int) == 1 else false then (i63 : Int) == 0 else false then (((n28 : Nat) : Int) : Int) == 2 else false then (i67 : Int) == 2 else false) = false ∧ false = false ∧ RetP R (.bool false) m65))) (
 (bif bif bif (i42 : Int) == 2 then (i55 : Int) == 1 else false then (i63 : Int) == 0 else false then (((n28 : Nat) : Int) : Int) == 2 else false) = false ∧ false = false ∧ false = false ∧ RetP R (.bool false) m65))) (
 (bif bif (i42 : Int) == 2 then (i55 : Int) == 1 else false then (i63 : Int) == 0 else false) = false ∧ false = false ∧ false = false ∧ false = false ∧ RetP R (.bool false) m65))) (
 (bif (i42 : Int) == 2 then (i55 : Int) == 1 else false) = false ∧ false = false ∧ false = false ∧ false = false ∧ false = false ∧ RetP R (.bool false) m57))) (
 ((i42 : Int) == 2) = false ∧ false = false ∧ false = false ∧ false = false ∧ false = false ∧ false = false ∧ RetP R (.bool false) m44))) : CallsA Try.prog w0 41 #[] m R :=
  callsA_of (c := c41) (args := []) (by kernel_rfl) Try.func41 (by kernel_rfl) qs41 (by kernel_rfl) (by kernel_rfl) (cast (by kernel_rfl) h)

/-! 14 delayslot/delayslotlaw10.DependFar -/
def qs14 : Nat → List (Nat × Nat) := fun i => match i with | 1 => [(2, 2)] | _ => []
noncomputable def c14 : Code := bodyOf Try.f14
theorem cf14 (w0 : World) (m : AM) (x0_0 : Int) (x0_1 : Int) (x0_2 : Int) (x0_3 : Int) (x0_4 : Int) (x1_0 : Int) (x1_1 : Int) (x1_2 : Int) (x1_3 : Int) (x1_4 : Int) (R : Value → AM → Prop) (h :
 ∀ b1 : Nat, w0.heap.size ≤ b1 → m b1 = none → let m2 := AM.upd m b1 (.cells #[.int .i64 x0_0, .int .i64 x0_1, .int .i64 x0_2, .int .i64 x0_3, .int .i64 x0_4] 23);
 ∀ b3 : Nat, w0.heap.size ≤ b3 → m2 b3 = none → let m4 := AM.upd m2 b3 (.cells #[.int .i64 x1_0, .int .i64 x1_1, .int .i64 x1_2, .int .i64 x1_3, .int .i64 x1_4] 23);
 ∃ i5 : Int, m4.cell ⟨b1, 0, none⟩ = some (.int .i64 i5) ∧ ∃ i6 : Int, m4.cell ⟨b1, 1, none⟩ = some (.int .i64 i6) ∧ ∃ i7 : Int, m4.cell ⟨b1, 2, none⟩ = some (.int .i64 i7) ∧ ∃ i8 : Int, m4.cell ⟨b1, 3, none⟩ = some (.int .i64 i8) ∧ ∃ i9 : Int, m4.cell ⟨b1, 4, none⟩ = some (.int .i64 i9) ∧ 
 ∃ i10 : Int, m4.cell ⟨b3, 0, none⟩ = some (.int .i64 i10) ∧ ∃ i11 : Int, m4.cell ⟨b3, 1, none⟩ = some (.int .i64 i11) ∧ ∃ i12 : Int, m4.cell ⟨b3, 2, none⟩ = some (.int .i64 i12) ∧ ∃ i13 : Int, m4.cell ⟨b3, 3, none⟩ = some (.int .i64 i13) ∧ ∃ i14 : Int, m4.cell ⟨b3, 4, none⟩ = some (.int .i64 i14) ∧ 
 ∃ i15 : Int,  CallsA Try.prog w0 39 #[.agg #[.int .i64 i5, .int .i64 i6, .int .i64 i7, .int .i64 i8, .int .i64 i9], .agg #[.int .i64 i10, .int .i64 i11, .int .i64 i12, .int .i64 i13, .int .i64 i14]] m4 (fun r16 m17 => r16 = .int .i64 i15 ∧ m17 = m4) ∧
 ∃ i18 : Int, m4.cell ⟨b1, 0, none⟩ = some (.int .i64 i18) ∧ ∃ i19 : Int, m4.cell ⟨b1, 1, none⟩ = some (.int .i64 i19) ∧ ∃ i20 : Int, m4.cell ⟨b1, 2, none⟩ = some (.int .i64 i20) ∧ ∃ i21 : Int, m4.cell ⟨b1, 3, none⟩ = some (.int .i64 i21) ∧ ∃ i22 : Int, m4.cell ⟨b1, 4, none⟩ = some (.int .i64 i22) ∧ 
 ∃ i23 : Int, m4.cell ⟨b3, 0, none⟩ = some (.int .i64 i23) ∧ ∃ i24 : Int, m4.cell ⟨b3, 1, none⟩ = some (.int .i64 i24) ∧ ∃ i25 : Int, m4.cell ⟨b3, 2, none⟩ = some (.int .i64 i25) ∧ ∃ i26 : Int, m4.cell ⟨b3, 3, none⟩ = some (.int .i64 i26) ∧ ∃ i27 : Int, m4.cell ⟨b3, 4, none⟩ = some (.int .i64 i27) ∧ 
 CallsA Try.prog w0 40 #[.agg #[.int .i64 i18, .int .i64 i19, .int .i64 i20, .int .i64 i21, .int .i64 i22], .agg #[.int .i64 i23, .int .i64 i24, .int .i64 i25, .int .i64 i26, .int .i64 i27]] m4 fun r29 m30 =>
 ∃ i28 : Int, r29 = .int .i64 i28 ∧ IntKind.i64 = IntKind.i64 ∧ (bcase ((i15 : Int) == i28) (
 CallsA Try.prog w0 41 #[] m30 fun r32 m33 =>
 ∃ t31 : Bool, r32 = .bool t31 ∧ RetP R (.bool (bif (i15 : Int) == i28 then t31 else false)) m33) (
 ((i15 : Int) == i28) = false ∧ RetP R (.bool false) m30))) : CallsA Try.prog w0 14 #[.agg #[.int .i64 x0_0, .int .i64 x0_1, .int .i64 x0_2, .int .i64 x0_3, .int .i64 x0_4], .agg #[.int .i64 x1_0, .int .i64 x1_1, .int .i64 x1_2, .int .i64 x1_3, .int .i64 x1_4]] m R :=
  callsA_of (c := c14) (args := [.agg #[.int .i64 x0_0, .int .i64 x0_1, .int .i64 x0_2, .int .i64 x0_3, .int .i64 x0_4], .agg #[.int .i64 x1_0, .int .i64 x1_1, .int .i64 x1_2, .int .i64 x1_3, .int .i64 x1_4]]) (by kernel_rfl) Try.func14 (by kernel_rfl) qs14 (by kernel_rfl) (by kernel_rfl) (cast (by kernel_rfl) h)

/-! 15 delayslot/delayslotlaw10.DependHeights -/
def qs15 : Nat → List (Nat × Nat) := fun i => match i with | _ => []
noncomputable def c15 : Code := bodyOf Try.f15
theorem cf15 (w0 : World) (m : AM) (x0 : Option Addr) (x0n x0c : Nat) (R : Value → AM → Prop) (h :
 IntKind.i64 = IntKind.i64 ∧ (bcase (decide ((((x0n : Nat) : Int) : Int) > 60)) (
 CallsA Try.prog w0 41 #[] m fun r2 m3 =>
 ∃ t1 : Bool, r2 = .bool t1 ∧ RetP R (.bool t1) m3) (
 CallsA Try.prog w0 43 #[.slice x0 x0n x0c] m fun r7 m8 =>
 ∃ (A4 : Option Addr) (n5 c6 : Nat), r7 = .slice A4 n5 c6 ∧ CallsA Try.prog w0 44 #[.slice x0 x0n x0c] m8 fun r12 m13 =>
 ∃ (A9 : Option Addr) (n10 c11 : Nat), r12 = .slice A9 n10 c11 ∧ CallsA Try.prog w0 42 #[.slice A4 n5 c6, .slice A9 n10 c11] m13 fun r15 m16 =>
 ∃ t14 : Bool, r15 = .bool t14 ∧ (bcase t14 (
 CallsA Try.prog w0 41 #[] m16 fun r18 m19 =>
 ∃ t17 : Bool, r18 = .bool t17 ∧ RetP R (.bool (bif t14 then t17 else false)) m19) (
 t14 = false ∧ RetP R (.bool false) m16))))) : CallsA Try.prog w0 15 #[.slice x0 x0n x0c] m R :=
  callsA_of (c := c15) (args := [.slice x0 x0n x0c]) (by kernel_rfl) Try.func15 (by kernel_rfl) qs15 (by kernel_rfl) (by kernel_rfl) (cast (by kernel_rfl) h)

/-! 16 delayslot/delayslotlaw10.DependKeeps -/
def qs16 : Nat → List (Nat × Nat) := fun i => match i with | _ => []
noncomputable def c16 : Code := bodyOf Try.f16
theorem cf16 (w0 : World) (m : AM) (x0 : Option Addr) (x0n x0c : Nat) (x1 : Option Addr) (x1n x1c : Nat) (R : Value → AM → Prop) (h :
 IntKind.i64 = IntKind.i64 ∧ (bcase (decide ((((x0n : Nat) : Int) : Int) > 60)) (
 (decide ((((x0n : Nat) : Int) : Int) > 60)) = true ∧ CallsA Try.prog w0 41 #[] m fun r2 m3 =>
 ∃ t1 : Bool, r2 = .bool t1 ∧ RetP R (.bool t1) m3) (
 IntKind.i64 = IntKind.i64 ∧ (bcase (bif decide ((((x0n : Nat) : Int) : Int) > 60) then true else decide ((((x1n : Nat) : Int) : Int) > 200)) (
 CallsA Try.prog w0 41 #[] m fun r5 m6 =>
 ∃ t4 : Bool, r5 = .bool t4 ∧ RetP R (.bool t4) m6) (
 CallsA Try.prog w0 45 #[.slice x0 x0n x0c, .slice x1 x1n x1c] m fun r8 m9 =>
 ∃ t7 : Bool, r8 = .bool t7 ∧ CallsA Try.prog w0 46 #[.slice x0 x0n x0c, .slice x1 x1n x1c] m9 fun r11 m12 =>
 ∃ t10 : Bool, r11 = .bool t10 ∧ (bcase ((t7 : Bool) == t10) (
 CallsA Try.prog w0 41 #[] m12 fun r14 m15 =>
 ∃ t13 : Bool, r14 = .bool t13 ∧ RetP R (.bool (bif (t7 : Bool) == t10 then t13 else false)) m15) (
 ((t7 : Bool) == t10) = false ∧ RetP R (.bool false) m12))))))) : CallsA Try.prog w0 16 #[.slice x0 x0n x0c, .slice x1 x1n x1c] m R :=
  callsA_of (c := c16) (args := [.slice x0 x0n x0c, .slice x1 x1n x1c]) (by kernel_rfl) Try.func16 (by kernel_rfl) qs16 (by kernel_rfl) (by kernel_rfl) (cast (by kernel_rfl) h)

/-! 17 delayslot/delayslotlaw10.DependPlain -/
def qs17 : Nat → List (Nat × Nat) := fun i => match i with | 10 => [(20, 2)] | _ => []
noncomputable def c17 : Code := bodyOf Try.f17
theorem cf17 (w0 : World) (m : AM) (x0 : Option Addr) (x0n x0c : Nat) (R : Value → AM → Prop) (h :
 IntKind.i64 = IntKind.i64 ∧ (bcase (decide ((((x0n : Nat) : Int) : Int) > 60)) (
 CallsA Try.prog w0 41 #[] m fun r2 m3 =>
 ∃ t1 : Bool, r2 = .bool t1 ∧ RetP R (.bool t1) m3) (
 vcS Try.prog w0 qs17 (sub c17 [1, 1, 1, 1, 0, 1, 0]) (upd (upd (upd (upd (upd (upd (upd (upd (upd (upd (argS [.slice x0 x0n x0c]) 2 (.bool false)) 7 (.slice x0 x0n x0c)) 8 (.int .i64 ((x0n : Nat) : Int))) 9 (.bool (decide ((((x0n : Nat) : Int) : Int) > 60)))) 3 (.slice none 0 0)) 4 (.slice none 0 0)) 5 (.bool true)) 11 (.slice x0 x0n x0c)) 12 (.int .i64 ((x0n : Nat) : Int))) 13 (.int .i64 0)) m (blockS 0 (thenS (fun σ m => vcS Try.prog w0 qs17 (sub c17 [1, 1, 1, 1, 1]) σ m (retQ Try.prog Try.f17 R)) (retQ Try.prog Try.f17 R)))))) : CallsA Try.prog w0 17 #[.slice x0 x0n x0c] m R :=
  callsA_of (c := c17) (args := [.slice x0 x0n x0c]) (by kernel_rfl) Try.func17 (by kernel_rfl) qs17 (by kernel_rfl) (by kernel_rfl) (cast (by kernel_rfl) h)
def lq17_1111010 (R : Value → AM → Prop) (x0 : Option Addr) (x0n x0c : Nat) (x12 : Int) (I0 : Nat → Option Addr → Nat → Nat → Option Addr → Nat → Nat → Bool → Int → AM → Prop) (E0_0 : Option Addr → Nat → Nat → Option Addr → Nat → Nat → Bool → AM → Prop) (n0 : Nat) : Exit → Sg → AM → Prop
  | .normal, σ, m => σ 0 = .slice x0 x0n x0c ∧ σ 12 = .int .i64 x12 ∧ okS (σ 3) = true ∧ okS (σ 4) = true ∧ okB (σ 5) = true ∧ okI .i64 (σ 13) = true ∧ ∃ n' : Nat, n' < n0 ∧ I0 n' (vSA (σ 3)) (vSN (σ 3)) (vSC (σ 3)) (vSA (σ 4)) (vSN (σ 4)) (vSC (σ 4)) (vB (σ 5)) (vI (σ 13)) m
  | .exit id, σ, m => if id = 0 then σ 0 = .slice x0 x0n x0c ∧ σ 12 = .int .i64 x12 ∧ okS (σ 3) = true ∧ okS (σ 4) = true ∧ okB (σ 5) = true ∧ E0_0 (vSA (σ 3)) (vSN (σ 3)) (vSC (σ 3)) (vSA (σ 4)) (vSN (σ 4)) (vSC (σ 4)) (vB (σ 5)) m else False
  | .ret, σ, m => retQ Try.prog Try.f17 R .ret σ m
  | _, _, _ => False
theorem vl17_1111010 (w0 : World) (m : AM) (σ : Sg) (R : Value → AM → Prop)  (x0 : Option Addr) (x0n x0c : Nat) (x12 : Int) (x3 : Option Addr) (x3n x3c : Nat) (x4 : Option Addr) (x4n x4c : Nat) (x5 : Bool) (x13 : Int) (I0 : Nat → Option Addr → Nat → Nat → Option Addr → Nat → Nat → Bool → Int → AM → Prop) (E0_0 : Option Addr → Nat → Nat → Option Addr → Nat → Nat → Bool → AM → Prop) (N : Nat) (h0 : σ 0 = .slice x0 x0n x0c) (h3 : σ 3 = .slice x3 x3n x3c) (h4 : σ 4 = .slice x4 x4n x4c) (h5 : σ 5 = .bool x5) (h12 : σ 12 = .int .i64 x12) (h13 : σ 13 = .int .i64 x13)
 (h_0 : I0 N x3 x3n x3c x4 x4n x4c x5 x13 m)
 (h_s : ∀ (n0 : Nat) (σ : Sg) (x3 : Option Addr) (x3n : Nat) (x3c : Nat) (x4 : Option Addr) (x4n : Nat) (x4c : Nat) (x5 : Bool) (x13 : Int) (m : AM), I0 n0 x3 x3n x3c x4 x4n x4c x5 x13 m → (
 IntKind.i64 = IntKind.i64 ∧ (bcase (decide ((x13 : Int) < x12)) (
 true = true ∧ ∀ b4 : Nat, w0.heap.size ≤ b4 → m b4 = none → let m5 := AM.upd m b4 (.cells #[.int .i64 x13] 3);
 awp Try.prog w0.heap.size (Builtin.append_ #[24, 24] 24 #[.slice x3 x3n x3c, .slice (some ⟨b4, 0, none⟩) 1 1]) m5 fun v6 m7 =>
 ∃ (A8 : Option Addr) (n9 c10 : Nat), v6 = .slice A8 n9 c10 ∧ true = true ∧ ∀ b11 : Nat, w0.heap.size ≤ b11 → m7 b11 = none → let m12 := AM.upd m7 b11 (.cells #[.int .i64 x13, .int .i64 (-1)] 3);
 awp Try.prog w0.heap.size (Builtin.append_ #[24, 24] 24 #[.slice x4 x4n x4c, .slice (some ⟨b11, 0, none⟩) 2 2]) m12 fun v13 m14 =>
 ∃ (A15 : Option Addr) (n16 c17 : Nat), v13 = .slice A15 n16 c17 ∧ IntKind.i64 = IntKind.i64 ∧ (bcase (decide ((x13 : Int) > 0)) (
 IntKind.i64 = IntKind.i64 ∧ ((0 : Int) ≤ (IntKind.wrap .i64 (x13 - 1)) ∧ (IntKind.wrap .i64 (x13 - 1)) < ((x0n : Nat) : Int)) ∧ nilO x0 fun a18 =>
 ∃ i19 : Int, m14.cell (a18.add ((IntKind.wrap .i64 (x13 - 1) : Int).toNat * 5)) = some (.int .i64 i19) ∧ ∃ i20 : Int, m14.cell ((a18.add ((IntKind.wrap .i64 (x13 - 1) : Int).toNat * 5)).add 1) = some (.int .i64 i20) ∧ ∃ i21 : Int, m14.cell ((a18.add ((IntKind.wrap .i64 (x13 - 1) : Int).toNat * 5)).add 2) = some (.int .i64 i21) ∧ ∃ i22 : Int, m14.cell ((a18.add ((IntKind.wrap .i64 (x13 - 1) : Int).toNat * 5)).add 3) = some (.int .i64 i22) ∧ ∃ i23 : Int, m14.cell ((a18.add ((IntKind.wrap .i64 (x13 - 1) : Int).toNat * 5)).add 4) = some (.int .i64 i23) ∧ 
 CallsA Try.prog w0 32 #[.agg #[.int .i64 i19, .int .i64 i20, .int .i64 i21, .int .i64 i22, .int .i64 i23]] m14 fun r25 m26 =>
 ∃ t24 : Bool, r25 = .bool t24 ∧ (bcase (bif decide ((x13 : Int) > 0) then t24 else false) (
 ((0 : Int) ≤ x13 ∧ x13 < ((x0n : Nat) : Int)) ∧ nilO x0 fun a27 =>
 ∃ i28 : Int, m26.cell (a27.add ((x13 : Int).toNat * 5)) = some (.int .i64 i28) ∧ ∃ i29 : Int, m26.cell ((a27.add ((x13 : Int).toNat * 5)).add 1) = some (.int .i64 i29) ∧ ∃ i30 : Int, m26.cell ((a27.add ((x13 : Int).toNat * 5)).add 2) = some (.int .i64 i30) ∧ ∃ i31 : Int, m26.cell ((a27.add ((x13 : Int).toNat * 5)).add 3) = some (.int .i64 i31) ∧ ∃ i32 : Int, m26.cell ((a27.add ((x13 : Int).toNat * 5)).add 4) = some (.int .i64 i32) ∧ 
 IntKind.i64 = IntKind.i64 ∧ ((0 : Int) ≤ (IntKind.wrap .i64 (x13 - 1)) ∧ (IntKind.wrap .i64 (x13 - 1)) < ((x0n : Nat) : Int)) ∧ nilO x0 fun a33 =>
 ∃ i34 : Int, m26.cell (a33.add ((IntKind.wrap .i64 (x13 - 1) : Int).toNat * 5)) = some (.int .i64 i34) ∧ ∃ i35 : Int, m26.cell ((a33.add ((IntKind.wrap .i64 (x13 - 1) : Int).toNat * 5)).add 1) = some (.int .i64 i35) ∧ ∃ i36 : Int, m26.cell ((a33.add ((IntKind.wrap .i64 (x13 - 1) : Int).toNat * 5)).add 2) = some (.int .i64 i36) ∧ ∃ i37 : Int, m26.cell ((a33.add ((IntKind.wrap .i64 (x13 - 1) : Int).toNat * 5)).add 3) = some (.int .i64 i37) ∧ ∃ i38 : Int, m26.cell ((a33.add ((IntKind.wrap .i64 (x13 - 1) : Int).toNat * 5)).add 4) = some (.int .i64 i38) ∧ 
 ∃ i39 : Int,  CallsA Try.prog w0 24 #[.agg #[.int .i64 i34, .int .i64 i35, .int .i64 i36, .int .i64 i37, .int .i64 i38]] m26 (fun r40 m41 => r40 = .int .i64 i39 ∧ m41 = m26) ∧
 CallsA Try.prog w0 22 #[.agg #[.int .i64 i28, .int .i64 i29, .int .i64 i30, .int .i64 i31, .int .i64 i32], .int .i64 i39] m26 fun r43 m44 =>
 ∃ t42 : Bool, r43 = .bool t42 ∧ (bcase (bif bif decide ((x13 : Int) > 0) then t24 else false then t42 else false) (
 IntKind.i64 = IntKind.i64 ∧ (.slice x0 x0n x0c : Value) = .slice x0 x0n x0c ∧ (.int .i64 x12 : Value) = .int .i64 x12 ∧ true = true ∧ true = true ∧ true = true ∧ true = true ∧ ∃ n' : Nat, n' < n0 ∧ I0 n' A8 n9 c10 A15 n16 c17 false (IntKind.wrap .i64 (x13 + 1)) m44) (
 IntKind.i64 = IntKind.i64 ∧ (.slice x0 x0n x0c : Value) = .slice x0 x0n x0c ∧ (.int .i64 x12 : Value) = .int .i64 x12 ∧ true = true ∧ true = true ∧ true = true ∧ true = true ∧ ∃ n' : Nat, n' < n0 ∧ I0 n' A8 n9 c10 A15 n16 c17 x5 (IntKind.wrap .i64 (x13 + 1)) m44))) (
 (bif decide ((x13 : Int) > 0) then t24 else false) = false ∧ IntKind.i64 = IntKind.i64 ∧ (.slice x0 x0n x0c : Value) = .slice x0 x0n x0c ∧ (.int .i64 x12 : Value) = .int .i64 x12 ∧ true = true ∧ true = true ∧ true = true ∧ true = true ∧ ∃ n' : Nat, n' < n0 ∧ I0 n' A8 n9 c10 A15 n16 c17 x5 (IntKind.wrap .i64 (x13 + 1)) m26))) (
 (decide ((x13 : Int) > 0)) = false ∧ false = false ∧ IntKind.i64 = IntKind.i64 ∧ (.slice x0 x0n x0c : Value) = .slice x0 x0n x0c ∧ (.int .i64 x12 : Value) = .int .i64 x12 ∧ true = true ∧ true = true ∧ true = true ∧ true = true ∧ ∃ n' : Nat, n' < n0 ∧ I0 n' A8 n9 c10 A15 n16 c17 x5 (IntKind.wrap .i64 (x13 + 1)) m14))) (
 (.slice x0 x0n x0c : Value) = .slice x0 x0n x0c ∧ (.int .i64 x12 : Value) = .int .i64 x12 ∧ true = true ∧ true = true ∧ true = true ∧ E0_0 x3 x3n x3c x4 x4n x4c x5 m))))
 (h_e0 : ∀ (σ : Sg) (x3 : Option Addr) (x3n : Nat) (x3c : Nat) (x4 : Option Addr) (x4n : Nat) (x4c : Nat) (x5 : Bool) (m : AM), E0_0 x3 x3n x3c x4 x4n x4c x5 m → (
 CallsA Try.prog w0 45 #[.slice x0 x0n x0c, .slice x3 x3n x3c] m fun r46 m47 =>
 ∃ t45 : Bool, r46 = .bool t45 ∧ (bcase ((t45 : Bool) == x5) (
 CallsA Try.prog w0 45 #[.slice x0 x0n x0c, .slice x4 x4n x4c] m47 fun r49 m50 =>
 ∃ t48 : Bool, r49 = .bool t48 ∧ (bcase (bif (t45 : Bool) == x5 then t48 else false) (
 CallsA Try.prog w0 41 #[] m50 fun r52 m53 =>
 ∃ t51 : Bool, r52 = .bool t51 ∧ RetP R (.bool (bif bif (t45 : Bool) == x5 then t48 else false then t51 else false)) m53) (
 (bif (t45 : Bool) == x5 then t48 else false) = false ∧ RetP R (.bool false) m50))) (
 ((t45 : Bool) == x5) = false ∧ false = false ∧ RetP R (.bool false) m47)))) :
 vcS Try.prog w0 qs17 (sub c17 [1, 1, 1, 1, 0, 1, 0]) σ m (blockS 0 (thenS (fun σ m => vcS Try.prog w0 qs17 (sub c17 [1, 1, 1, 1, 1]) σ m (retQ Try.prog Try.f17 R)) (retQ Try.prog Try.f17 R))) := by
  rw [show sub c17 [1, 1, 1, 1, 0, 1, 0] = .loop (sub c17 [1, 1, 1, 1, 0, 1, 0, 0]) from by kernel_rfl]
  refine loopQ (fun n0 σ m => σ 0 = .slice x0 x0n x0c ∧ σ 12 = .int .i64 x12 ∧ okS (σ 3) = true ∧ okS (σ 4) = true ∧ okB (σ 5) = true ∧ okI .i64 (σ 13) = true ∧ I0 n0 (vSA (σ 3)) (vSN (σ 3)) (vSC (σ 3)) (vSA (σ 4)) (vSN (σ 4)) (vSC (σ 4)) (vB (σ 5)) (vI (σ 13)) m) N (fun n0 => (lq17_1111010 R x0 x0n x0c x12 I0 E0_0 n0)) ⟨h0, h12, (by rw [h3]; rfl), (by rw [h4]; rfl), (by rw [h5]; rfl), (by rw [h13]; rfl), (by rw [h3, h4, h5, h13]; exact h_0)⟩ ?_ ?_ ?_
  · rintro n0 σ m ⟨kk0, kk1, kk2, kk3, kk4, kk5, n', hlt, hI⟩; exact ⟨n', hlt, kk0, kk1, kk2, kk3, kk4, kk5, hI⟩
  · intro n0 e σ m hne h
    cases e with
    | normal => exact absurd rfl hne
    | ret => exact h
    | exit id =>
      by_cases e0 : id = 0
      · subst e0
        obtain ⟨kk0, kk1, kk2, kk3, kk4, hE⟩ := h
        have es : (upd (upd (upd (upd (upd σ 0 (.slice x0 x0n x0c)) 12 (.int .i64 x12)) 3 (.slice (vSA (σ 3)) (vSN (σ 3)) (vSC (σ 3)))) 4 (.slice (vSA (σ 4)) (vSN (σ 4)) (vSC (σ 4)))) 5 (.bool (vB (σ 5)))) = σ := by rw [upd_id kk0, upd_id kk1, upd_id (ok_slice kk2), upd_id (ok_slice kk3), upd_id (ok_bool kk4)]
        exact cast (congrArg (fun s => (blockS 0 (thenS (fun σ m => vcS Try.prog w0 qs17 (sub c17 [1, 1, 1, 1, 1]) σ m (retQ Try.prog Try.f17 R)) (retQ Try.prog Try.f17 R))) (.exit 0) s m) es) (cast (by kernel_rfl) (h_e0 σ (vSA (σ 3)) (vSN (σ 3)) (vSC (σ 3)) (vSA (σ 4)) (vSN (σ 4)) (vSC (σ 4)) (vB (σ 5)) m hE))
      · replace h := (if_neg e0 : (if id = 0 then _ else _) = _).mp h
        exact False.elim h
    | _ => exact False.elim h
  · rintro n0 σ m ⟨kk0, kk1, kk2, kk3, kk4, kk5, hI⟩
    have es : (upd (upd (upd (upd (upd (upd σ 0 (.slice x0 x0n x0c)) 3 (.slice (vSA (σ 3)) (vSN (σ 3)) (vSC (σ 3)))) 4 (.slice (vSA (σ 4)) (vSN (σ 4)) (vSC (σ 4)))) 5 (.bool (vB (σ 5)))) 12 (.int .i64 x12)) 13 (.int .i64 (vI (σ 13)))) = σ := by rw [upd_id kk0, upd_id (ok_slice kk2), upd_id (ok_slice kk3), upd_id (ok_bool kk4), upd_id kk1, upd_id (ok_int kk5)]
    exact cast (congrArg (fun s => vcS Try.prog w0 qs17 (sub c17 [1, 1, 1, 1, 0, 1, 0, 0]) s m (lq17_1111010 R x0 x0n x0c x12 I0 E0_0 n0)) es) (cast (by kernel_rfl) (h_s n0 σ (vSA (σ 3)) (vSN (σ 3)) (vSC (σ 3)) (vSA (σ 4)) (vSN (σ 4)) (vSC (σ 4)) (vB (σ 5)) (vI (σ 13)) m hI))

/-! 18 delayslot/delayslotlaw10.DependPairs -/
def qs18 : Nat → List (Nat × Nat) := fun i => match i with | 1 => [(2, 2)] | _ => []
noncomputable def c18 : Code := bodyOf Try.f18
theorem cf18 (w0 : World) (m : AM) (x0_0 : Int) (x0_1 : Int) (x0_2 : Int) (x0_3 : Int) (x0_4 : Int) (x1_0 : Int) (x1_1 : Int) (x1_2 : Int) (x1_3 : Int) (x1_4 : Int) (R : Value → AM → Prop) (h :
 ∀ b1 : Nat, w0.heap.size ≤ b1 → m b1 = none → let m2 := AM.upd m b1 (.cells #[.int .i64 x0_0, .int .i64 x0_1, .int .i64 x0_2, .int .i64 x0_3, .int .i64 x0_4] 23);
 ∀ b3 : Nat, w0.heap.size ≤ b3 → m2 b3 = none → let m4 := AM.upd m2 b3 (.cells #[.int .i64 x1_0, .int .i64 x1_1, .int .i64 x1_2, .int .i64 x1_3, .int .i64 x1_4] 23);
 ∃ i5 : Int, m4.cell ⟨b1, 0, none⟩ = some (.int .i64 i5) ∧ ∃ i6 : Int, m4.cell ⟨b1, 1, none⟩ = some (.int .i64 i6) ∧ ∃ i7 : Int, m4.cell ⟨b1, 2, none⟩ = some (.int .i64 i7) ∧ ∃ i8 : Int, m4.cell ⟨b1, 3, none⟩ = some (.int .i64 i8) ∧ ∃ i9 : Int, m4.cell ⟨b1, 4, none⟩ = some (.int .i64 i9) ∧ 
 ∃ i10 : Int, m4.cell ⟨b3, 0, none⟩ = some (.int .i64 i10) ∧ ∃ i11 : Int, m4.cell ⟨b3, 1, none⟩ = some (.int .i64 i11) ∧ ∃ i12 : Int, m4.cell ⟨b3, 2, none⟩ = some (.int .i64 i12) ∧ ∃ i13 : Int, m4.cell ⟨b3, 3, none⟩ = some (.int .i64 i13) ∧ ∃ i14 : Int, m4.cell ⟨b3, 4, none⟩ = some (.int .i64 i14) ∧ 
 ∃ i15 : Int,  CallsA Try.prog w0 39 #[.agg #[.int .i64 i5, .int .i64 i6, .int .i64 i7, .int .i64 i8, .int .i64 i9], .agg #[.int .i64 i10, .int .i64 i11, .int .i64 i12, .int .i64 i13, .int .i64 i14]] m4 (fun r16 m17 => r16 = .int .i64 i15 ∧ m17 = m4) ∧
 ∃ i18 : Int, m4.cell ⟨b3, 0, none⟩ = some (.int .i64 i18) ∧ ∃ i19 : Int, m4.cell ⟨b3, 1, none⟩ = some (.int .i64 i19) ∧ ∃ i20 : Int, m4.cell ⟨b3, 2, none⟩ = some (.int .i64 i20) ∧ ∃ i21 : Int, m4.cell ⟨b3, 3, none⟩ = some (.int .i64 i21) ∧ ∃ i22 : Int, m4.cell ⟨b3, 4, none⟩ = some (.int .i64 i22) ∧ 
 ∃ i23 : Int, m4.cell ⟨b1, 0, none⟩ = some (.int .i64 i23) ∧ ∃ i24 : Int, m4.cell ⟨b1, 1, none⟩ = some (.int .i64 i24) ∧ ∃ i25 : Int, m4.cell ⟨b1, 2, none⟩ = some (.int .i64 i25) ∧ ∃ i26 : Int, m4.cell ⟨b1, 3, none⟩ = some (.int .i64 i26) ∧ ∃ i27 : Int, m4.cell ⟨b1, 4, none⟩ = some (.int .i64 i27) ∧ 
 CallsA Try.prog w0 39 #[.agg #[.int .i64 i18, .int .i64 i19, .int .i64 i20, .int .i64 i21, .int .i64 i22], .agg #[.int .i64 i23, .int .i64 i24, .int .i64 i25, .int .i64 i26, .int .i64 i27]] m4 fun r29 m30 =>
 ∃ i28 : Int, r29 = .int .i64 i28 ∧ IntKind.i64 = IntKind.i64 ∧ (bcase (decide ((i15 : Int) ≥ 0)) (
 IntKind.i64 = IntKind.i64 ∧ (bcase (bif decide ((i15 : Int) ≥ 0) then decide ((i15 : Int) ≤ 2) else false) (
 IntKind.i64 = IntKind.i64 ∧ IntKind.i64 = IntKind.i64 ∧ (bcase (bif bif decide ((i15 : Int) ≥ 0) then decide ((i15 : Int) ≤ 2) else false then ((decide ((i15 : Int) > 0)) : Bool) == (decide ((i28 : Int) > 0)) else false) (
 ∃ i31 : Int, m30.cell ⟨b1, 0, none⟩ = some (.int .i64 i31) ∧ ∃ i32 : Int, m30.cell ⟨b1, 1, none⟩ = some (.int .i64 i32) ∧ ∃ i33 : Int, m30.cell ⟨b1, 2, none⟩ = some (.int .i64 i33) ∧ ∃ i34 : Int, m30.cell ⟨b1, 3, none⟩ = some (.int .i64 i34) ∧ ∃ i35 : Int, m30.cell ⟨b1, 4, none⟩ = some (.int .i64 i35) ∧ 
 true = true ∧ CallsA Try.prog w0 39 #[.agg #[.int .i64 i31, .int .i64 i32, .int .i64 i33, .int .i64 i34, .int .i64 i35], .agg #[.int .i64 0, .int .i64 0, .int .i64 0, .int .i64 0, .int .i64 0]] m30 fun r37 m38 =>
 ∃ i36 : Int, r37 = .int .i64 i36 ∧ IntKind.i64 = IntKind.i64 ∧ (bcase (bif bif bif decide ((i15 : Int) ≥ 0) then decide ((i15 : Int) ≤ 2) else false then ((decide ((i15 : Int) > 0)) : Bool) == (decide ((i28 : Int) > 0)) else false then (i36 : Int) == 0 else false) (
 true = true ∧ ∃ i39 : Int, m38.cell ⟨b3, 0, none⟩ = some (.int .i64 i39) ∧ ∃ i40 : Int, m38.cell ⟨b3, 1, none⟩ = some (.int .i64 i40) ∧ ∃ i41 : Int, m38.cell ⟨b3, 2, none⟩ = some (.int .i64 i41) ∧ ∃ i42 : Int, m38.cell ⟨b3, 3, none⟩ = some (.int .i64 i42) ∧ ∃ i43 : Int, m38.cell ⟨b3, 4, none⟩ = some (.int .i64 i43) ∧ 
 CallsA Try.prog w0 39 #[.agg #[.int .i64 0, .int .i64 0, .int .i64 0, .int .i64 0, .int .i64 0], .agg #[.int .i64 i39, .int .i64 i40, .int .i64 i41, .int .i64 i42, .int .i64 i43]] m38 fun r45 m46 =>
 ∃ i44 : Int, r45 = .int .i64 i44 ∧ IntKind.i64 = IntKind.i64 ∧ (bcase (bif bif bif bif decide ((i15 : Int) ≥ 0) then decide ((i15 : Int) ≤ 2) else false then ((decide ((i15 : Int) > 0)) : Bool) == (decide ((i28 : Int) > 0)) else false then (i36 : Int) == 0 else false then (i44 : Int) == 0 else false) (
 CallsA Try.prog w0 41 #[] m46 fun r48 m49 =>
 ∃ t47 : Bool, r48 = .bool t47 ∧ RetP R (.bool (bif bif bif bif bif decide ((i15 : Int) ≥ 0) then decide ((i15 : Int) ≤ 2) else false then ((decide ((i15 : Int) > 0)) : Bool) == (decide ((i28 : Int) > 0)) else false then (i36 : Int) == 0 else false then (i44 : Int) == 0 else false then t47 else false)) m49) (
 (bif bif bif bif decide ((i15 : Int) ≥ 0) then decide ((i15 : Int) ≤ 2) else false then ((decide ((i15 : Int) > 0)) : Bool) == (decide ((i28 : Int) > 0)) else false then (i36 : Int) == 0 else false then (i44 : Int) == 0 else false) = false ∧ RetP R (.bool false) m46))) (
 (bif bif bif decide ((i15 : Int) ≥ 0) then decide ((i15 : Int) ≤ 2) else false then ((decide ((i15 : Int) > 0)) : Bool) == (decide ((i28 : Int) > 0)) else false then (i36 : Int) == 0 else false) = false ∧ false = false ∧ RetP R (.bool false) m38))) (
 (bif bif decide ((i15 : Int) ≥ 0) then decide ((i15 : Int) ≤ 2) else false then ((decide ((i15 : Int) > 0)) : Bool) == (decide ((i28 : Int) > 0)) else false) = false ∧ false = false ∧ false = false ∧ RetP R (.bool false) m30))) (
 (bif decide ((i15 : Int) ≥ 0) then decide ((i15 : Int) ≤ 2) else false) = false ∧ false = false ∧ false = false ∧ false = false ∧ RetP R (.bool false) m30))) (
 (decide ((i15 : Int) ≥ 0)) = false ∧ false = false ∧ false = false ∧ false = false ∧ false = false ∧ RetP R (.bool false) m30))) : CallsA Try.prog w0 18 #[.agg #[.int .i64 x0_0, .int .i64 x0_1, .int .i64 x0_2, .int .i64 x0_3, .int .i64 x0_4], .agg #[.int .i64 x1_0, .int .i64 x1_1, .int .i64 x1_2, .int .i64 x1_3, .int .i64 x1_4]] m R :=
  callsA_of (c := c18) (args := [.agg #[.int .i64 x0_0, .int .i64 x0_1, .int .i64 x0_2, .int .i64 x0_3, .int .i64 x0_4], .agg #[.int .i64 x1_0, .int .i64 x1_1, .int .i64 x1_2, .int .i64 x1_3, .int .i64 x1_4]]) (by kernel_rfl) Try.func18 (by kernel_rfl) qs18 (by kernel_rfl) (by kernel_rfl) (cast (by kernel_rfl) h)

/-! 19 delayslot/delayslotlaw10.DependHigh -/
def qs19 : Nat → List (Nat × Nat) := fun i => match i with | 1000003 => [(0, 0)] | _ => []
noncomputable def c19 : Code := bodyOf Try.f19
theorem cf19 (w0 : World) (m : AM) (x0 : Option Addr) (x0n x0c : Nat) (x1_0 : Int) (x1_1 : Int) (x1_2 : Int) (x1_3 : Int) (x1_4 : Int) (R : Value → AM → Prop) (h :
 ∀ b1 : Nat, w0.heap.size ≤ b1 → m b1 = none → let m2 := AM.upd m b1 (.cells #[.int .i64 x1_0, .int .i64 x1_1, .int .i64 x1_2, .int .i64 x1_3, .int .i64 x1_4] 23);
 IntKind.i64 = IntKind.i64 ∧ (bcase (decide ((((x0n : Nat) : Int) : Int) > 60)) (
 CallsA Try.prog w0 41 #[] m2 fun r4 m5 =>
 ∃ t3 : Bool, r4 = .bool t3 ∧ RetP R (.bool t3) m5) (
 vcS Try.prog w0 qs19 (sub c19 [1, 1, 0]) (upd (upd (upd (upd (upd (argS [.slice x0 x0n x0c, .agg #[.int .i64 x1_0, .int .i64 x1_1, .int .i64 x1_2, .int .i64 x1_3, .int .i64 x1_4]]) 3 (.pointer (some ⟨b1, 0, none⟩))) 4 (.bool false)) 9 (.slice x0 x0n x0c)) 10 (.int .i64 ((x0n : Nat) : Int))) 11 (.bool (decide ((((x0n : Nat) : Int) : Int) > 60)))) m2 (thenS (fun σ m => vcS Try.prog w0 qs19 (sub c19 [1, 1, 1]) σ m (retQ Try.prog Try.f19 R)) (retQ Try.prog Try.f19 R))))) : CallsA Try.prog w0 19 #[.slice x0 x0n x0c, .agg #[.int .i64 x1_0, .int .i64 x1_1, .int .i64 x1_2, .int .i64 x1_3, .int .i64 x1_4]] m R :=
  callsA_of (c := c19) (args := [.slice x0 x0n x0c, .agg #[.int .i64 x1_0, .int .i64 x1_1, .int .i64 x1_2, .int .i64 x1_3, .int .i64 x1_4]]) (by kernel_rfl) Try.func19 (by kernel_rfl) qs19 (by kernel_rfl) (by kernel_rfl) (cast (by kernel_rfl) h)
theorem vr19_110 (w0 : World) (m : AM) (σ : Sg) (R : Value → AM → Prop)  (x0 : Option Addr) (x0n x0c : Nat) (x3 : Nat) (K : Option Addr → Nat → Nat → Option Addr → Nat → Nat → AM → Prop) (h0 : σ 0 = .slice x0 x0n x0c) (h3 : σ 3 = .pointer (some ⟨x3, 0, none⟩))
 (h_t : 
 (CallsA Try.prog w0 43 #[.slice x0 x0n x0c] m fun r9 m10 =>
 ∃ (A6 : Option Addr) (n7 c8 : Nat), r9 = .slice A6 n7 c8 ∧ ∃ i11 : Int, m10.cell ⟨x3, 0, none⟩ = some (.int .i64 i11) ∧ ∃ i12 : Int, m10.cell ⟨x3, 1, none⟩ = some (.int .i64 i12) ∧ ∃ i13 : Int, m10.cell ⟨x3, 2, none⟩ = some (.int .i64 i13) ∧ ∃ i14 : Int, m10.cell ⟨x3, 3, none⟩ = some (.int .i64 i14) ∧ ∃ i15 : Int, m10.cell ⟨x3, 4, none⟩ = some (.int .i64 i15) ∧ 
 true = true ∧ ∀ b16 : Nat, w0.heap.size ≤ b16 → m10 b16 = none → let m17 := AM.upd m10 b16 (.cells #[.int .i64 i11, .int .i64 i12, .int .i64 i13, .int .i64 i14, .int .i64 i15] 23);
 awp Try.prog w0.heap.size (Builtin.append_ #[31, 31] 31 #[.slice (some ⟨b16, 0, none⟩) 1 1, .slice x0 x0n x0c]) m17 fun v18 m19 =>
 ∃ (A20 : Option Addr) (n21 c22 : Nat), v18 = .slice A20 n21 c22 ∧ CallsA Try.prog w0 43 #[.slice A20 n21 c22] m19 fun r26 m27 =>
 ∃ (A23 : Option Addr) (n24 c25 : Nat), r26 = .slice A23 n24 c25 ∧ true = true ∧ (.slice x0 x0n x0c : Value) = .slice x0 x0n x0c ∧ true = true ∧ true = true ∧ K A6 n7 c8 A23 n24 c25 m27) ∧
 (∃ i28 : Int, m.cell ⟨x3, 0, none⟩ = some (.int .i64 i28) ∧ ∃ i29 : Int, m.cell ⟨x3, 1, none⟩ = some (.int .i64 i29) ∧ ∃ i30 : Int, m.cell ⟨x3, 2, none⟩ = some (.int .i64 i30) ∧ ∃ i31 : Int, m.cell ⟨x3, 3, none⟩ = some (.int .i64 i31) ∧ ∃ i32 : Int, m.cell ⟨x3, 4, none⟩ = some (.int .i64 i32) ∧ 
 (CallsA Try.prog w0 43 #[.slice x0 x0n x0c] m fun r36 m37 =>
 ∃ (A33 : Option Addr) (n34 c35 : Nat), r36 = .slice A33 n34 c35 ∧ true = true ∧ ∀ b38 : Nat, w0.heap.size ≤ b38 → m37 b38 = none → let m39 := AM.upd m37 b38 (.cells #[.int .i64 i28, .int .i64 i29, .int .i64 i30, .int .i64 i31, .int .i64 i32] 23);
 awp Try.prog w0.heap.size (Builtin.append_ #[31, 31] 31 #[.slice (some ⟨b38, 0, none⟩) 1 1, .slice x0 x0n x0c]) m39 fun v40 m41 =>
 ∃ (A42 : Option Addr) (n43 c44 : Nat), v40 = .slice A42 n43 c44 ∧ CallsA Try.prog w0 43 #[.slice A42 n43 c44] m41 fun r48 m49 =>
 ∃ (A45 : Option Addr) (n46 c47 : Nat), r48 = .slice A45 n46 c47 ∧ true = true ∧ (.slice x0 x0n x0c : Value) = .slice x0 x0n x0c ∧ true = true ∧ true = true ∧ K A33 n34 c35 A45 n46 c47 m49) ∧
 (true = true ∧ ∀ b50 : Nat, w0.heap.size ≤ b50 → m b50 = none → let m51 := AM.upd m b50 (.cells #[.int .i64 i28, .int .i64 i29, .int .i64 i30, .int .i64 i31, .int .i64 i32] 23);
 CallsA Try.prog w0 43 #[.slice x0 x0n x0c] m51 fun r55 m56 =>
 ∃ (A52 : Option Addr) (n53 c54 : Nat), r55 = .slice A52 n53 c54 ∧ awp Try.prog w0.heap.size (Builtin.append_ #[31, 31] 31 #[.slice (some ⟨b50, 0, none⟩) 1 1, .slice x0 x0n x0c]) m56 fun v57 m58 =>
 ∃ (A59 : Option Addr) (n60 c61 : Nat), v57 = .slice A59 n60 c61 ∧ CallsA Try.prog w0 43 #[.slice A59 n60 c61] m58 fun r65 m66 =>
 ∃ (A62 : Option Addr) (n63 c64 : Nat), r65 = .slice A62 n63 c64 ∧ true = true ∧ (.slice x0 x0n x0c : Value) = .slice x0 x0n x0c ∧ true = true ∧ true = true ∧ K A52 n53 c54 A62 n63 c64 m66)))
 (h_k : ∀ (σ : Sg) (y5 : Option Addr) (y5n : Nat) (y5c : Nat) (y6 : Option Addr) (y6n : Nat) (y6c : Nat) (m : AM), K y5 y5n y5c y6 y6n y6c m → (
 IntKind.i64 = IntKind.i64 ∧ (bcase ((((y5n : Nat) : Int) : Int) != ((x0n : Nat) : Int)) (
 ((((y5n : Nat) : Int) : Int) != ((x0n : Nat) : Int)) = true ∧ RetP R (.bool false) m) (
 IntKind.i64 = IntKind.i64 ∧ IntKind.i64 = IntKind.i64 ∧ (bcase (bif (((y5n : Nat) : Int) : Int) != ((x0n : Nat) : Int) then true else (((y6n : Nat) : Int) : Int) != (IntKind.wrap .i64 (((x0n : Nat) : Int) + 1))) (
 RetP R (.bool false) m) (
 vcS Try.prog w0 qs19 (sub c19 [1, 1, 1, 1, 0, 1, 0]) (upd (upd (upd (upd (upd (upd (upd (upd (upd (upd (upd (upd (upd (upd (upd (upd (upd (upd (upd σ 0 (.slice x0 x0n x0c)) 5 (.slice y5 y5n y5c)) 6 (.slice y6 y6n y6c)) 20 (.slice y5 y5n y5c)) 21 (.int .i64 ((y5n : Nat) : Int))) 22 (.slice x0 x0n x0c)) 23 (.int .i64 ((x0n : Nat) : Int))) 24 (.bool ((((y5n : Nat) : Int) : Int) != ((x0n : Nat) : Int)))) 25 (.bool ((((y5n : Nat) : Int) : Int) != ((x0n : Nat) : Int)))) 26 (.slice y6 y6n y6c)) 27 (.int .i64 ((y6n : Nat) : Int))) 28 (.slice x0 x0n x0c)) 29 (.int .i64 ((x0n : Nat) : Int))) 30 (.int .i64 (IntKind.wrap .i64 (((x0n : Nat) : Int) + 1)))) 31 (.bool ((((y6n : Nat) : Int) : Int) != (IntKind.wrap .i64 (((x0n : Nat) : Int) + 1))))) 32 (.bool (bif (((y5n : Nat) : Int) : Int) != ((x0n : Nat) : Int) then true else (((y6n : Nat) : Int) : Int) != (IntKind.wrap .i64 (((x0n : Nat) : Int) + 1))))) 33 (.slice y5 y5n y5c)) 34 (.int .i64 ((y5n : Nat) : Int))) 35 (.int .i64 0)) m (blockS 0 (thenS (fun σ m => vcS Try.prog w0 qs19 (sub c19 [1, 1, 1, 1, 1]) σ m (retQ Try.prog Try.f19 R)) (retQ Try.prog Try.f19 R))))))))) :
 vcS Try.prog w0 qs19 (sub c19 [1, 1, 0]) σ m (thenS (fun σ m => vcS Try.prog w0 qs19 (sub c19 [1, 1, 1]) σ m (retQ Try.prog Try.f19 R)) (retQ Try.prog Try.f19 R)) := by
  have es0 : (upd (upd σ 0 (.slice x0 x0n x0c)) 3 (.pointer (some ⟨x3, 0, none⟩))) = σ := by rw [upd_id h0, upd_id h3]
  refine vcS_cut (Q0 := (fun σ m => σ 0 = .slice x0 x0n x0c ∧ okS (σ 5) = true ∧ okS (σ 6) = true ∧ K (vSA (σ 5)) (vSN (σ 5)) (vSC (σ 5)) (vSA (σ 6)) (vSN (σ 6)) (vSC (σ 6)) m)) (by kernel_rfl) (cast (congrArg (fun s => trC Try.prog w0 qs19 (sub c19 [1, 1, 0]) s m (fun σ m => σ 0 = .slice x0 x0n x0c ∧ okS (σ 5) = true ∧ okS (σ 6) = true ∧ K (vSA (σ 5)) (vSN (σ 5)) (vSC (σ 5)) (vSA (σ 6)) (vSN (σ 6)) (vSC (σ 6)) m)) es0) (cast (by kernel_rfl) h_t)) ?_
  rintro σ m ⟨kk0, kk1, kk2, hK⟩
  have es : (upd (upd (upd σ 0 (.slice x0 x0n x0c)) 5 (.slice (vSA (σ 5)) (vSN (σ 5)) (vSC (σ 5)))) 6 (.slice (vSA (σ 6)) (vSN (σ 6)) (vSC (σ 6)))) = σ := by rw [upd_id kk0, upd_id (ok_slice kk1), upd_id (ok_slice kk2)]
  exact cast (congrArg (fun s => (thenS (fun σ m => vcS Try.prog w0 qs19 (sub c19 [1, 1, 1]) σ m (retQ Try.prog Try.f19 R)) (retQ Try.prog Try.f19 R)) .normal s m) es) (cast (by kernel_rfl) (h_k σ (vSA (σ 5)) (vSN (σ 5)) (vSC (σ 5)) (vSA (σ 6)) (vSN (σ 6)) (vSC (σ 6)) m hK))
def lq19_1111010 (R : Value → AM → Prop) (x0 : Option Addr) (x0n x0c : Nat) (x6 : Option Addr) (x6n x6c : Nat) (x33 : Option Addr) (x33n x33c : Nat) (x34 : Int) (I0 : Nat → Int → AM → Prop) (E0_0 : AM → Prop) (n0 : Nat) : Exit → Sg → AM → Prop
  | .normal, σ, m => σ 0 = .slice x0 x0n x0c ∧ σ 6 = .slice x6 x6n x6c ∧ σ 33 = .slice x33 x33n x33c ∧ σ 34 = .int .i64 x34 ∧ okI .i64 (σ 35) = true ∧ ∃ n' : Nat, n' < n0 ∧ I0 n' (vI (σ 35)) m
  | .exit id, σ, m => if id = 0 then σ 0 = .slice x0 x0n x0c ∧ σ 6 = .slice x6 x6n x6c ∧ σ 33 = .slice x33 x33n x33c ∧ σ 34 = .int .i64 x34 ∧ E0_0  m else False
  | .ret, σ, m => retQ Try.prog Try.f19 R .ret σ m
  | _, _, _ => False
theorem vl19_1111010 (w0 : World) (m : AM) (σ : Sg) (R : Value → AM → Prop)  (x0 : Option Addr) (x0n x0c : Nat) (x6 : Option Addr) (x6n x6c : Nat) (x33 : Option Addr) (x33n x33c : Nat) (x34 : Int) (x35 : Int) (I0 : Nat → Int → AM → Prop) (E0_0 : AM → Prop) (N : Nat) (h0 : σ 0 = .slice x0 x0n x0c) (h6 : σ 6 = .slice x6 x6n x6c) (h33 : σ 33 = .slice x33 x33n x33c) (h34 : σ 34 = .int .i64 x34) (h35 : σ 35 = .int .i64 x35)
 (h_0 : I0 N x35 m)
 (h_s : ∀ (n0 : Nat) (σ : Sg) (x35 : Int) (m : AM), I0 n0 x35 m → (
 IntKind.i64 = IntKind.i64 ∧ (bcase (decide ((x35 : Int) < x34)) (
 ((0 : Int) ≤ x35 ∧ x35 < ((x33n : Nat) : Int)) ∧ nilO x33 fun a67 =>
 ∃ i68 : Int, m.cell (a67.add ((x35 : Int).toNat * 1)) = some (.int .i64 i68) ∧ 
 IntKind.i64 = IntKind.i64 ∧ (bcase (decide ((i68 : Int) < 0)) (
 (decide ((i68 : Int) < 0)) = true ∧ true = true ∧ RetP R (.bool false) m) (
 IntKind.i64 = IntKind.i64 ∧ IntKind.i64 = IntKind.i64 ∧ IntKind.i64 = IntKind.i64 ∧ IntKind.i64 = IntKind.i64 ∧ (bcase (bif decide ((i68 : Int) < 0) then true else decide ((i68 : Int) > (IntKind.wrap .i64 (2 * (IntKind.wrap .i64 ((IntKind.wrap .i64 (((x0n : Nat) : Int) - 1)) - x35)))))) (
 (bif decide ((i68 : Int) < 0) then true else decide ((i68 : Int) > (IntKind.wrap .i64 (2 * (IntKind.wrap .i64 ((IntKind.wrap .i64 (((x0n : Nat) : Int) - 1)) - x35)))))) = true ∧ RetP R (.bool false) m) (
 IntKind.i64 = IntKind.i64 ∧ ((0 : Int) ≤ (IntKind.wrap .i64 (x35 + 1)) ∧ (IntKind.wrap .i64 (x35 + 1)) < ((x6n : Nat) : Int)) ∧ nilO x6 fun a69 =>
 ∃ i70 : Int, m.cell (a69.add ((IntKind.wrap .i64 (x35 + 1) : Int).toNat * 1)) = some (.int .i64 i70) ∧ 
 IntKind.i64 = IntKind.i64 ∧ (bcase (bif bif decide ((i68 : Int) < 0) then true else decide ((i68 : Int) > (IntKind.wrap .i64 (2 * (IntKind.wrap .i64 ((IntKind.wrap .i64 (((x0n : Nat) : Int) - 1)) - x35))))) then true else (i70 : Int) != i68) (
 RetP R (.bool false) m) (
 IntKind.i64 = IntKind.i64 ∧ (.slice x0 x0n x0c : Value) = .slice x0 x0n x0c ∧ (.slice x6 x6n x6c : Value) = .slice x6 x6n x6c ∧ (.slice x33 x33n x33c : Value) = .slice x33 x33n x33c ∧ (.int .i64 x34 : Value) = .int .i64 x34 ∧ true = true ∧ ∃ n' : Nat, n' < n0 ∧ I0 n' (IntKind.wrap .i64 (x35 + 1)) m))))))) (
 (.slice x0 x0n x0c : Value) = .slice x0 x0n x0c ∧ (.slice x6 x6n x6c : Value) = .slice x6 x6n x6c ∧ (.slice x33 x33n x33c : Value) = .slice x33 x33n x33c ∧ (.int .i64 x34 : Value) = .int .i64 x34 ∧ E0_0  m))))
 (h_e0 : ∀ (σ : Sg)  (m : AM), E0_0  m → (
 CallsA Try.prog w0 41 #[] m fun r72 m73 =>
 ∃ t71 : Bool, r72 = .bool t71 ∧ RetP R (.bool t71) m73)) :
 vcS Try.prog w0 qs19 (sub c19 [1, 1, 1, 1, 0, 1, 0]) σ m (blockS 0 (thenS (fun σ m => vcS Try.prog w0 qs19 (sub c19 [1, 1, 1, 1, 1]) σ m (retQ Try.prog Try.f19 R)) (retQ Try.prog Try.f19 R))) := by
  rw [show sub c19 [1, 1, 1, 1, 0, 1, 0] = .loop (sub c19 [1, 1, 1, 1, 0, 1, 0, 0]) from by kernel_rfl]
  refine loopQ (fun n0 σ m => σ 0 = .slice x0 x0n x0c ∧ σ 6 = .slice x6 x6n x6c ∧ σ 33 = .slice x33 x33n x33c ∧ σ 34 = .int .i64 x34 ∧ okI .i64 (σ 35) = true ∧ I0 n0 (vI (σ 35)) m) N (fun n0 => (lq19_1111010 R x0 x0n x0c x6 x6n x6c x33 x33n x33c x34 I0 E0_0 n0)) ⟨h0, h6, h33, h34, (by rw [h35]; rfl), (by rw [h35]; exact h_0)⟩ ?_ ?_ ?_
  · rintro n0 σ m ⟨kk0, kk1, kk2, kk3, kk4, n', hlt, hI⟩; exact ⟨n', hlt, kk0, kk1, kk2, kk3, kk4, hI⟩
  · intro n0 e σ m hne h
    cases e with
    | normal => exact absurd rfl hne
    | ret => exact h
    | exit id =>
      by_cases e0 : id = 0
      · subst e0
        obtain ⟨kk0, kk1, kk2, kk3, hE⟩ := h
        have es : (upd (upd (upd (upd σ 0 (.slice x0 x0n x0c)) 6 (.slice x6 x6n x6c)) 33 (.slice x33 x33n x33c)) 34 (.int .i64 x34)) = σ := by rw [upd_id kk0, upd_id kk1, upd_id kk2, upd_id kk3]
        exact cast (congrArg (fun s => (blockS 0 (thenS (fun σ m => vcS Try.prog w0 qs19 (sub c19 [1, 1, 1, 1, 1]) σ m (retQ Try.prog Try.f19 R)) (retQ Try.prog Try.f19 R))) (.exit 0) s m) es) (cast (by kernel_rfl) (h_e0 σ  m hE))
      · replace h := (if_neg e0 : (if id = 0 then _ else _) = _).mp h
        exact False.elim h
    | _ => exact False.elim h
  · rintro n0 σ m ⟨kk0, kk1, kk2, kk3, kk4, hI⟩
    have es : (upd (upd (upd (upd (upd σ 0 (.slice x0 x0n x0c)) 6 (.slice x6 x6n x6c)) 33 (.slice x33 x33n x33c)) 34 (.int .i64 x34)) 35 (.int .i64 (vI (σ 35)))) = σ := by rw [upd_id kk0, upd_id kk1, upd_id kk2, upd_id kk3, upd_id (ok_int kk4)]
    exact cast (congrArg (fun s => vcS Try.prog w0 qs19 (sub c19 [1, 1, 1, 1, 0, 1, 0, 0]) s m (lq19_1111010 R x0 x0n x0c x6 x6n x6c x33 x33n x33c x34 I0 E0_0 n0)) es) (cast (by kernel_rfl) (h_s n0 σ (vI (σ 35)) m hI))

/-! 20 delayslot/delayslotlaw10.DependLate -/
def qs20 : Nat → List (Nat × Nat) := fun i => match i with | 1 => [(5, 2)] | _ => []
noncomputable def c20 : Code := bodyOf Try.f20
theorem cf20 (w0 : World) (m : AM) (x0_0 : Int) (x0_1 : Int) (x0_2 : Int) (x0_3 : Int) (x0_4 : Int) (x1_0 : Int) (x1_1 : Int) (x1_2 : Int) (x1_3 : Int) (x1_4 : Int) (R : Value → AM → Prop) (h :
 ∀ b1 : Nat, w0.heap.size ≤ b1 → m b1 = none → let m2 := AM.upd m b1 (.cells #[.int .i64 x0_0, .int .i64 x0_1, .int .i64 x0_2, .int .i64 x0_3, .int .i64 x0_4] 23);
 ∀ b3 : Nat, w0.heap.size ≤ b3 → m2 b3 = none → let m4 := AM.upd m2 b3 (.cells #[.int .i64 x1_0, .int .i64 x1_1, .int .i64 x1_2, .int .i64 x1_3, .int .i64 x1_4] 23);
 ∃ i5 : Int, m4.cell ⟨b1, 0, none⟩ = some (.int .i64 i5) ∧ ∃ i6 : Int, m4.cell ⟨b1, 1, none⟩ = some (.int .i64 i6) ∧ ∃ i7 : Int, m4.cell ⟨b1, 2, none⟩ = some (.int .i64 i7) ∧ ∃ i8 : Int, m4.cell ⟨b1, 3, none⟩ = some (.int .i64 i8) ∧ ∃ i9 : Int, m4.cell ⟨b1, 4, none⟩ = some (.int .i64 i9) ∧ 
 CallsA Try.prog w0 32 #[.agg #[.int .i64 i5, .int .i64 i6, .int .i64 i7, .int .i64 i8, .int .i64 i9]] m4 fun r11 m12 =>
 ∃ t10 : Bool, r11 = .bool t10 ∧ (bcase t10 (
 ∃ i13 : Int, m12.cell ⟨b3, 0, none⟩ = some (.int .i64 i13) ∧ ∃ i14 : Int, m12.cell ⟨b3, 1, none⟩ = some (.int .i64 i14) ∧ ∃ i15 : Int, m12.cell ⟨b3, 2, none⟩ = some (.int .i64 i15) ∧ ∃ i16 : Int, m12.cell ⟨b3, 3, none⟩ = some (.int .i64 i16) ∧ ∃ i17 : Int, m12.cell ⟨b3, 4, none⟩ = some (.int .i64 i17) ∧ 
 ∃ i18 : Int, m12.cell ⟨b1, 0, none⟩ = some (.int .i64 i18) ∧ ∃ i19 : Int, m12.cell ⟨b1, 1, none⟩ = some (.int .i64 i19) ∧ ∃ i20 : Int, m12.cell ⟨b1, 2, none⟩ = some (.int .i64 i20) ∧ ∃ i21 : Int, m12.cell ⟨b1, 3, none⟩ = some (.int .i64 i21) ∧ ∃ i22 : Int, m12.cell ⟨b1, 4, none⟩ = some (.int .i64 i22) ∧ 
 ∃ i23 : Int,  CallsA Try.prog w0 24 #[.agg #[.int .i64 i18, .int .i64 i19, .int .i64 i20, .int .i64 i21, .int .i64 i22]] m12 (fun r24 m25 => r24 = .int .i64 i23 ∧ m25 = m12) ∧
 CallsA Try.prog w0 22 #[.agg #[.int .i64 i13, .int .i64 i14, .int .i64 i15, .int .i64 i16, .int .i64 i17], .int .i64 i23] m12 fun r27 m28 =>
 ∃ t26 : Bool, r27 = .bool t26 ∧ ∃ i29 : Int, m28.cell ⟨b1, 0, none⟩ = some (.int .i64 i29) ∧ ∃ i30 : Int, m28.cell ⟨b1, 1, none⟩ = some (.int .i64 i30) ∧ ∃ i31 : Int, m28.cell ⟨b1, 2, none⟩ = some (.int .i64 i31) ∧ ∃ i32 : Int, m28.cell ⟨b1, 3, none⟩ = some (.int .i64 i32) ∧ ∃ i33 : Int, m28.cell ⟨b1, 4, none⟩ = some (.int .i64 i33) ∧ 
 ∃ i34 : Int, m28.cell ⟨b3, 0, none⟩ = some (.int .i64 i34) ∧ ∃ i35 : Int, m28.cell ⟨b3, 1, none⟩ = some (.int .i64 i35) ∧ ∃ i36 : Int, m28.cell ⟨b3, 2, none⟩ = some (.int .i64 i36) ∧ ∃ i37 : Int, m28.cell ⟨b3, 3, none⟩ = some (.int .i64 i37) ∧ ∃ i38 : Int, m28.cell ⟨b3, 4, none⟩ = some (.int .i64 i38) ∧ 
 CallsA Try.prog w0 39 #[.agg #[.int .i64 i29, .int .i64 i30, .int .i64 i31, .int .i64 i32, .int .i64 i33], .agg #[.int .i64 i34, .int .i64 i35, .int .i64 i36, .int .i64 i37, .int .i64 i38]] m28 fun r40 m41 =>
 ∃ i39 : Int, r40 = .int .i64 i39 ∧ IntKind.i64 = IntKind.i64 ∧ (bcase ((((i39 : Int) == 2) : Bool) == (bif t10 then t26 else false)) (
 CallsA Try.prog w0 41 #[] m41 fun r43 m44 =>
 ∃ t42 : Bool, r43 = .bool t42 ∧ RetP R (.bool (bif (((i39 : Int) == 2) : Bool) == (bif t10 then t26 else false) then t42 else false)) m44) (
 ((((i39 : Int) == 2) : Bool) == (bif t10 then t26 else false)) = false ∧ RetP R (.bool false) m41))) (
 t10 = false ∧ ∃ i45 : Int, m12.cell ⟨b1, 0, none⟩ = some (.int .i64 i45) ∧ ∃ i46 : Int, m12.cell ⟨b1, 1, none⟩ = some (.int .i64 i46) ∧ ∃ i47 : Int, m12.cell ⟨b1, 2, none⟩ = some (.int .i64 i47) ∧ ∃ i48 : Int, m12.cell ⟨b1, 3, none⟩ = some (.int .i64 i48) ∧ ∃ i49 : Int, m12.cell ⟨b1, 4, none⟩ = some (.int .i64 i49) ∧ 
 ∃ i50 : Int, m12.cell ⟨b3, 0, none⟩ = some (.int .i64 i50) ∧ ∃ i51 : Int, m12.cell ⟨b3, 1, none⟩ = some (.int .i64 i51) ∧ ∃ i52 : Int, m12.cell ⟨b3, 2, none⟩ = some (.int .i64 i52) ∧ ∃ i53 : Int, m12.cell ⟨b3, 3, none⟩ = some (.int .i64 i53) ∧ ∃ i54 : Int, m12.cell ⟨b3, 4, none⟩ = some (.int .i64 i54) ∧ 
 CallsA Try.prog w0 39 #[.agg #[.int .i64 i45, .int .i64 i46, .int .i64 i47, .int .i64 i48, .int .i64 i49], .agg #[.int .i64 i50, .int .i64 i51, .int .i64 i52, .int .i64 i53, .int .i64 i54]] m12 fun r56 m57 =>
 ∃ i55 : Int, r56 = .int .i64 i55 ∧ IntKind.i64 = IntKind.i64 ∧ (bcase ((((i55 : Int) == 2) : Bool) == false) (
 CallsA Try.prog w0 41 #[] m57 fun r59 m60 =>
 ∃ t58 : Bool, r59 = .bool t58 ∧ RetP R (.bool (bif (((i55 : Int) == 2) : Bool) == false then t58 else false)) m60) (
 ((((i55 : Int) == 2) : Bool) == false) = false ∧ RetP R (.bool false) m57))))) : CallsA Try.prog w0 20 #[.agg #[.int .i64 x0_0, .int .i64 x0_1, .int .i64 x0_2, .int .i64 x0_3, .int .i64 x0_4], .agg #[.int .i64 x1_0, .int .i64 x1_1, .int .i64 x1_2, .int .i64 x1_3, .int .i64 x1_4]] m R :=
  callsA_of (c := c20) (args := [.agg #[.int .i64 x0_0, .int .i64 x0_1, .int .i64 x0_2, .int .i64 x0_3, .int .i64 x0_4], .agg #[.int .i64 x1_0, .int .i64 x1_1, .int .i64 x1_2, .int .i64 x1_3, .int .i64 x1_4]]) (by kernel_rfl) Try.func20 (by kernel_rfl) qs20 (by kernel_rfl) (by kernel_rfl) (cast (by kernel_rfl) h)
end Go.Proofs.Ythocajnpofdbmaa.V
