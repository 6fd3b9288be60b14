/- Ytijilloaggeepaa: a text of our own, by an AI agent: VEmitE -/
import Derived.Test.YtijilloaggeepaaCore5
import Derived.Test.YtijilloaggeepaaTabE
namespace Go.Proofs.Ytijilloaggeepaa.V
open Go Go.Alog Go.Proofs.Ytijilloaggeepaa.T
set_option linter.unusedVariables false
set_option maxRecDepth 100000

/-! 27 delayslot/emit.far -/
def qs27 : Nat → List (Nat × Nat) := fun i => match i with | _ => []
noncomputable def c27 : Code := bodyOf Try.f27
theorem cf27 (w0 : World) (m : AM) (x0_0 : Int) (x0_1 : Int) (x0_2 : Int) (x0_3 : Int) (x0_4 : Int) (R : Value → AM → Prop) (h :
 ∀ b1 : Nat, w0.heap.size ≤ b1 → m b1 = none → let m2 := AM.upd m b1 (.cells #[.int .i64 x0_0, .int .i64 x0_1, .int .i64 x0_2, .int .i64 x0_3, .int .i64 x0_4] 23);
 ∃ i3 : Int, m2.cell ⟨b1, 0, none⟩ = some (.int .i64 i3) ∧ 
 IntKind.i64 = IntKind.i64 ∧ (bcase ((i3 : Int) == 17) (
 ((i3 : Int) == 17) = true ∧ RetP R (.bool true) m2) (
 ∃ i4 : Int, m2.cell ⟨b1, 0, none⟩ = some (.int .i64 i4) ∧ 
 IntKind.i64 = IntKind.i64 ∧ RetP R (.bool (bif (i3 : Int) == 17 then true else (i4 : Int) == 18)) m2))) : CallsA Try.prog w0 27 #[.agg #[.int .i64 x0_0, .int .i64 x0_1, .int .i64 x0_2, .int .i64 x0_3, .int .i64 x0_4]] m R :=
  callsA_of (c := c27) (args := [.agg #[.int .i64 x0_0, .int .i64 x0_1, .int .i64 x0_2, .int .i64 x0_3, .int .i64 x0_4]]) (by kernel_rfl) Try.func27 (by kernel_rfl) qs27 (by kernel_rfl) (by kernel_rfl) (cast (by kernel_rfl) h)

/-! 12 (*delayslot/emit.Buffer).Put -/
def qs12 : Nat → List (Nat × Nat) := fun i => match i with | _ => []
noncomputable def c12 : Code := bodyOf Try.f12
theorem cf12 (w0 : World) (m : AM) (x0 : Nat) (x1_0 : Int) (x1_1 : Int) (x1_2 : Int) (x1_3 : Int) (x1_4 : Int) (R : Value → AM → Prop) (h :
 ∀ b1 : Nat, w0.heap.size ≤ b1 → m b1 = none → let m2 := AM.upd m b1 (.cells #[.int .i64 x1_0, .int .i64 x1_1, .int .i64 x1_2, .int .i64 x1_3, .int .i64 x1_4] 23);
 ∃ (A3 : Option Addr) (n4 c5 : Nat), m2.cell ⟨x0, 0, none⟩ = some (.slice A3 n4 c5) ∧ 
 ∃ i6 : Int, m2.cell ⟨b1, 0, none⟩ = some (.int .i64 i6) ∧ ∃ i7 : Int, m2.cell ⟨b1, 1, none⟩ = some (.int .i64 i7) ∧ ∃ i8 : Int, m2.cell ⟨b1, 2, none⟩ = some (.int .i64 i8) ∧ ∃ i9 : Int, m2.cell ⟨b1, 3, none⟩ = some (.int .i64 i9) ∧ ∃ i10 : Int, m2.cell ⟨b1, 4, none⟩ = some (.int .i64 i10) ∧ 
 true = true ∧ ∀ b11 : Nat, w0.heap.size ≤ b11 → m2 b11 = none → let m12 := AM.upd m2 b11 (.cells #[.int .i64 i6, .int .i64 i7, .int .i64 i8, .int .i64 i9, .int .i64 i10] 23);
 awp Try.prog w0.heap.size (Builtin.append_ #[24, 24] 24 #[.slice A3 n4 c5, .slice (some ⟨b11, 0, none⟩) 1 1]) m12 fun v13 m14 =>
 ∃ (A15 : Option Addr) (n16 c17 : Nat), v13 = .slice A15 n16 c17 ∧ StC w0.heap.size m14 ⟨x0, 0, none⟩ (.slice A15 n16 c17) fun m18 =>
 ∃ (A19 : Option Addr) (n20 c21 : Nat), m18.cell ⟨x0, 0, none⟩ = some (.slice A19 n20 c21) ∧ 
 IntKind.i64 = IntKind.i64 ∧ RetP R (.int .i64 (IntKind.wrap .i64 (((n20 : Nat) : Int) - 1))) m18) : CallsA Try.prog w0 12 #[.pointer (some ⟨x0, 0, none⟩), .agg #[.int .i64 x1_0, .int .i64 x1_1, .int .i64 x1_2, .int .i64 x1_3, .int .i64 x1_4]] m R :=
  callsA_of (c := c12) (args := [.pointer (some ⟨x0, 0, none⟩), .agg #[.int .i64 x1_0, .int .i64 x1_1, .int .i64 x1_2, .int .i64 x1_3, .int .i64 x1_4]]) (by kernel_rfl) Try.func12 (by kernel_rfl) qs12 (by kernel_rfl) (by kernel_rfl) (cast (by kernel_rfl) h)

/-! 13 (*delayslot/emit.Buffer).Mark -/
def qs13 : Nat → List (Nat × Nat) := fun i => match i with | _ => []
noncomputable def c13 : Code := bodyOf Try.f13
theorem cf13 (w0 : World) (m : AM) (x0 : Nat) (x1_0 : Int) (x1_1 : Int) (x1_2 : Int) (x1_3 : Int) (x1_4 : Int) (x2 : Int) (x3 : Int) (R : Value → AM → Prop) (h :
 ∀ b1 : Nat, w0.heap.size ≤ b1 → m b1 = none → let m2 := AM.upd m b1 (.cells #[.int .i64 x1_0, .int .i64 x1_1, .int .i64 x1_2, .int .i64 x1_3, .int .i64 x1_4] 23);
 ∃ (A3 : Option Addr) (n4 c5 : Nat), m2.cell ⟨x0, 1, none⟩ = some (.slice A3 n4 c5) ∧ 
 ∃ (A6 : Option Addr) (n7 c8 : Nat), m2.cell ⟨x0, 0, none⟩ = some (.slice A6 n7 c8) ∧ 
 true = true ∧ true = true ∧ ∀ b9 : Nat, w0.heap.size ≤ b9 → m2 b9 = none → let m10 := AM.upd m2 b9 (.cells #[.int .i64 ((n7 : Nat) : Int), .int .i64 x2, .int .i64 x3] 34);
 awp Try.prog w0.heap.size (Builtin.append_ #[25, 25] 25 #[.slice A3 n4 c5, .slice (some ⟨b9, 0, none⟩) 1 1]) m10 fun v11 m12 =>
 ∃ (A13 : Option Addr) (n14 c15 : Nat), v11 = .slice A13 n14 c15 ∧ StC w0.heap.size m12 ⟨x0, 1, none⟩ (.slice A13 n14 c15) fun m16 =>
 ∃ i17 : Int, m16.cell ⟨b1, 0, none⟩ = some (.int .i64 i17) ∧ ∃ i18 : Int, m16.cell ⟨b1, 1, none⟩ = some (.int .i64 i18) ∧ ∃ i19 : Int, m16.cell ⟨b1, 2, none⟩ = some (.int .i64 i19) ∧ ∃ i20 : Int, m16.cell ⟨b1, 3, none⟩ = some (.int .i64 i20) ∧ ∃ i21 : Int, m16.cell ⟨b1, 4, none⟩ = some (.int .i64 i21) ∧ 
 CallsA Try.prog w0 12 #[.pointer (some ⟨x0, 0, none⟩), .agg #[.int .i64 i17, .int .i64 i18, .int .i64 i19, .int .i64 i20, .int .i64 i21]] m16 fun r23 m24 =>
 ∃ i22 : Int, r23 = .int .i64 i22 ∧ RetP R (.int .i64 i22) m24) : CallsA Try.prog w0 13 #[.pointer (some ⟨x0, 0, none⟩), .agg #[.int .i64 x1_0, .int .i64 x1_1, .int .i64 x1_2, .int .i64 x1_3, .int .i64 x1_4], .int .i64 x2, .int .i64 x3] m R :=
  callsA_of (c := c13) (args := [.pointer (some ⟨x0, 0, none⟩), .agg #[.int .i64 x1_0, .int .i64 x1_1, .int .i64 x1_2, .int .i64 x1_3, .int .i64 x1_4], .int .i64 x2, .int .i64 x3]) (by kernel_rfl) Try.func13 (by kernel_rfl) qs13 (by kernel_rfl) (by kernel_rfl) (cast (by kernel_rfl) h)

/-! 10 (*delayslot/emit.Buffer).Jump -/
def qs10 : Nat → List (Nat × Nat) := fun i => match i with | _ => []
noncomputable def c10 : Code := bodyOf Try.f10
theorem cf10 (w0 : World) (m : AM) (x0 : Nat) (x1_0 : Int) (x1_1 : Int) (x1_2 : Int) (x1_3 : Int) (x1_4 : Int) (R : Value → AM → Prop) (h :
 ∀ b1 : Nat, w0.heap.size ≤ b1 → m b1 = none → let m2 := AM.upd m b1 (.cells #[.int .i64 x1_0, .int .i64 x1_1, .int .i64 x1_2, .int .i64 x1_3, .int .i64 x1_4] 23);
 ∃ i3 : Int, m2.cell ⟨b1, 0, none⟩ = some (.int .i64 i3) ∧ ∃ i4 : Int, m2.cell ⟨b1, 1, none⟩ = some (.int .i64 i4) ∧ ∃ i5 : Int, m2.cell ⟨b1, 2, none⟩ = some (.int .i64 i5) ∧ ∃ i6 : Int, m2.cell ⟨b1, 3, none⟩ = some (.int .i64 i6) ∧ ∃ i7 : Int, m2.cell ⟨b1, 4, none⟩ = some (.int .i64 i7) ∧ 
 CallsA Try.prog w0 27 #[.agg #[.int .i64 i3, .int .i64 i4, .int .i64 i5, .int .i64 i6, .int .i64 i7]] m2 fun r9 m10 =>
 ∃ t8 : Bool, r9 = .bool t8 ∧ (bcase t8 (
 ∃ i11 : Int, m10.cell ⟨b1, 0, none⟩ = some (.int .i64 i11) ∧ ∃ i12 : Int, m10.cell ⟨b1, 1, none⟩ = some (.int .i64 i12) ∧ ∃ i13 : Int, m10.cell ⟨b1, 2, none⟩ = some (.int .i64 i13) ∧ ∃ i14 : Int, m10.cell ⟨b1, 3, none⟩ = some (.int .i64 i14) ∧ ∃ i15 : Int, m10.cell ⟨b1, 4, none⟩ = some (.int .i64 i15) ∧ 
 CallsA Try.prog w0 13 #[.pointer (some ⟨x0, 0, none⟩), .agg #[.int .i64 i11, .int .i64 i12, .int .i64 i13, .int .i64 i14, .int .i64 i15], .int .i64 0, .int .i64 0] m10 fun r17 m18 =>
 ∃ i16 : Int, r17 = .int .i64 i16 ∧ RetP R (.int .i64 i16) m18) (
 ∃ i19 : Int, m10.cell ⟨b1, 0, none⟩ = some (.int .i64 i19) ∧ ∃ i20 : Int, m10.cell ⟨b1, 1, none⟩ = some (.int .i64 i20) ∧ ∃ i21 : Int, m10.cell ⟨b1, 2, none⟩ = some (.int .i64 i21) ∧ ∃ i22 : Int, m10.cell ⟨b1, 3, none⟩ = some (.int .i64 i22) ∧ ∃ i23 : Int, m10.cell ⟨b1, 4, none⟩ = some (.int .i64 i23) ∧ 
 CallsA Try.prog w0 12 #[.pointer (some ⟨x0, 0, none⟩), .agg #[.int .i64 i19, .int .i64 i20, .int .i64 i21, .int .i64 i22, .int .i64 i23]] m10 fun r25 m26 =>
 ∃ i24 : Int, r25 = .int .i64 i24 ∧ RetP R (.int .i64 i24) m26))) : CallsA Try.prog w0 10 #[.pointer (some ⟨x0, 0, none⟩), .agg #[.int .i64 x1_0, .int .i64 x1_1, .int .i64 x1_2, .int .i64 x1_3, .int .i64 x1_4]] m R :=
  callsA_of (c := c10) (args := [.pointer (some ⟨x0, 0, none⟩), .agg #[.int .i64 x1_0, .int .i64 x1_1, .int .i64 x1_2, .int .i64 x1_3, .int .i64 x1_4]]) (by kernel_rfl) Try.func10 (by kernel_rfl) qs10 (by kernel_rfl) (by kernel_rfl) (cast (by kernel_rfl) h)

/-! 29 (*delayslot/emit.Buffer).aim -/
def qs29 : Nat → List (Nat × Nat) := fun i => match i with | _ => []
noncomputable def c29 : Code := bodyOf Try.f29
theorem cf29 (w0 : World) (m : AM) (x0 : Nat) (x1 : Int) (x2 : Int) (R : Value → AM → Prop) (h :
 IntKind.i64 = IntKind.i64 ∧ (bcase (decide ((x1 : Int) < 0)) (
 (decide ((x1 : Int) < 0)) = true ∧ RetP R (.bool false) m) (
 ∃ (A1 : Option Addr) (n2 c3 : Nat), m.cell ⟨x0, 0, none⟩ = some (.slice A1 n2 c3) ∧ 
 IntKind.i64 = IntKind.i64 ∧ (bcase (bif decide ((x1 : Int) < 0) then true else decide ((x1 : Int) ≥ ((n2 : Nat) : Int))) (
 RetP R (.bool false) m) (
 ∃ (A4 : Option Addr) (n5 c6 : Nat), m.cell ⟨x0, 0, none⟩ = some (.slice A4 n5 c6) ∧ 
 ((0 : Int) ≤ x1 ∧ x1 < ((n5 : Nat) : Int)) ∧ nilO A4 fun a7 =>
 ∃ i8 : Int, m.cell (a7.add ((x1 : Int).toNat * 5)) = some (.int .i64 i8) ∧ ∃ i9 : Int, m.cell ((a7.add ((x1 : Int).toNat * 5)).add 1) = some (.int .i64 i9) ∧ ∃ i10 : Int, m.cell ((a7.add ((x1 : Int).toNat * 5)).add 2) = some (.int .i64 i10) ∧ ∃ i11 : Int, m.cell ((a7.add ((x1 : Int).toNat * 5)).add 3) = some (.int .i64 i11) ∧ ∃ i12 : Int, m.cell ((a7.add ((x1 : Int).toNat * 5)).add 4) = some (.int .i64 i12) ∧ 
 ∀ b13 : Nat, w0.heap.size ≤ b13 → m b13 = none → let m14 := AM.upd m b13 (.cells #[.int .i64 0, .int .i64 0, .int .i64 0, .int .i64 0, .int .i64 0] 23);
 StC w0.heap.size m14 ⟨b13, 0, none⟩ (.int .i64 i8) fun m15 =>
 StC w0.heap.size m15 ⟨b13, 1, none⟩ (.int .i64 i9) fun m16 =>
 StC w0.heap.size m16 ⟨b13, 2, none⟩ (.int .i64 i10) fun m17 =>
 StC w0.heap.size m17 ⟨b13, 3, none⟩ (.int .i64 i11) fun m18 =>
 StC w0.heap.size m18 ⟨b13, 4, none⟩ (.int .i64 i12) fun m19 =>
 ∃ i20 : Int, m19.cell ⟨b13, 0, none⟩ = some (.int .i64 i20) ∧ ∃ i21 : Int, m19.cell ⟨b13, 1, none⟩ = some (.int .i64 i21) ∧ ∃ i22 : Int, m19.cell ⟨b13, 2, none⟩ = some (.int .i64 i22) ∧ ∃ i23 : Int, m19.cell ⟨b13, 3, none⟩ = some (.int .i64 i23) ∧ ∃ i24 : Int, m19.cell ⟨b13, 4, none⟩ = some (.int .i64 i24) ∧ 
 CallsA Try.prog w0 27 #[.agg #[.int .i64 i20, .int .i64 i21, .int .i64 i22, .int .i64 i23, .int .i64 i24]] m19 fun r26 m27 =>
 ∃ t25 : Bool, r26 = .bool t25 ∧ (bcase t25 (
 StC w0.heap.size m27 ⟨b13, 4, none⟩ (.int .i64 x2) fun m28 =>
 ∃ (A29 : Option Addr) (n30 c31 : Nat), m28.cell ⟨x0, 0, none⟩ = some (.slice A29 n30 c31) ∧ 
 ∃ i32 : Int, m28.cell ⟨b13, 0, none⟩ = some (.int .i64 i32) ∧ ∃ i33 : Int, m28.cell ⟨b13, 1, none⟩ = some (.int .i64 i33) ∧ ∃ i34 : Int, m28.cell ⟨b13, 2, none⟩ = some (.int .i64 i34) ∧ ∃ i35 : Int, m28.cell ⟨b13, 3, none⟩ = some (.int .i64 i35) ∧ ∃ i36 : Int, m28.cell ⟨b13, 4, none⟩ = some (.int .i64 i36) ∧ 
 ((0 : Int) ≤ x1 ∧ x1 < ((n30 : Nat) : Int)) ∧ nilO A29 fun a37 =>
 StC w0.heap.size m28 (a37.add ((x1 : Int).toNat * 5)) (.int .i64 i32) fun m38 =>
 StC w0.heap.size m38 ((a37.add ((x1 : Int).toNat * 5)).add 1) (.int .i64 i33) fun m39 =>
 StC w0.heap.size m39 ((a37.add ((x1 : Int).toNat * 5)).add 2) (.int .i64 i34) fun m40 =>
 StC w0.heap.size m40 ((a37.add ((x1 : Int).toNat * 5)).add 3) (.int .i64 i35) fun m41 =>
 StC w0.heap.size m41 ((a37.add ((x1 : Int).toNat * 5)).add 4) (.int .i64 i36) fun m42 =>
 RetP R (.bool true) m42) (
 ∃ i43 : Int, m27.cell ⟨b13, 0, none⟩ = some (.int .i64 i43) ∧ 
 IntKind.i64 = IntKind.i64 ∧ (bcase ((i43 : Int) == 15) (
 ((i43 : Int) == 15) = true ∧ IntKind.i64 = IntKind.i64 ∧ IntKind.i64 = IntKind.i64 ∧ StC w0.heap.size m27 ⟨b13, 4, none⟩ (.int .i64 (IntKind.wrap .i64 ((IntKind.wrap .i64 (x2 - x1)) - 1))) fun m44 =>
 ∃ (A45 : Option Addr) (n46 c47 : Nat), m44.cell ⟨x0, 0, none⟩ = some (.slice A45 n46 c47) ∧ 
 ∃ i48 : Int, m44.cell ⟨b13, 0, none⟩ = some (.int .i64 i48) ∧ ∃ i49 : Int, m44.cell ⟨b13, 1, none⟩ = some (.int .i64 i49) ∧ ∃ i50 : Int, m44.cell ⟨b13, 2, none⟩ = some (.int .i64 i50) ∧ ∃ i51 : Int, m44.cell ⟨b13, 3, none⟩ = some (.int .i64 i51) ∧ ∃ i52 : Int, m44.cell ⟨b13, 4, none⟩ = some (.int .i64 i52) ∧ 
 ((0 : Int) ≤ x1 ∧ x1 < ((n46 : Nat) : Int)) ∧ nilO A45 fun a53 =>
 StC w0.heap.size m44 (a53.add ((x1 : Int).toNat * 5)) (.int .i64 i48) fun m54 =>
 StC w0.heap.size m54 ((a53.add ((x1 : Int).toNat * 5)).add 1) (.int .i64 i49) fun m55 =>
 StC w0.heap.size m55 ((a53.add ((x1 : Int).toNat * 5)).add 2) (.int .i64 i50) fun m56 =>
 StC w0.heap.size m56 ((a53.add ((x1 : Int).toNat * 5)).add 3) (.int .i64 i51) fun m57 =>
 StC w0.heap.size m57 ((a53.add ((x1 : Int).toNat * 5)).add 4) (.int .i64 i52) fun m58 =>
 RetP R (.bool true) m58) (
 ∃ i59 : Int, m27.cell ⟨b13, 0, none⟩ = some (.int .i64 i59) ∧ 
 IntKind.i64 = IntKind.i64 ∧ (bcase (bif (i43 : Int) == 15 then true else (i59 : Int) == 16) (
 IntKind.i64 = IntKind.i64 ∧ IntKind.i64 = IntKind.i64 ∧ StC w0.heap.size m27 ⟨b13, 4, none⟩ (.int .i64 (IntKind.wrap .i64 ((IntKind.wrap .i64 (x2 - x1)) - 1))) fun m60 =>
 ∃ (A61 : Option Addr) (n62 c63 : Nat), m60.cell ⟨x0, 0, none⟩ = some (.slice A61 n62 c63) ∧ 
 ∃ i64 : Int, m60.cell ⟨b13, 0, none⟩ = some (.int .i64 i64) ∧ ∃ i65 : Int, m60.cell ⟨b13, 1, none⟩ = some (.int .i64 i65) ∧ ∃ i66 : Int, m60.cell ⟨b13, 2, none⟩ = some (.int .i64 i66) ∧ ∃ i67 : Int, m60.cell ⟨b13, 3, none⟩ = some (.int .i64 i67) ∧ ∃ i68 : Int, m60.cell ⟨b13, 4, none⟩ = some (.int .i64 i68) ∧ 
 ((0 : Int) ≤ x1 ∧ x1 < ((n62 : Nat) : Int)) ∧ nilO A61 fun a69 =>
 StC w0.heap.size m60 (a69.add ((x1 : Int).toNat * 5)) (.int .i64 i64) fun m70 =>
 StC w0.heap.size m70 ((a69.add ((x1 : Int).toNat * 5)).add 1) (.int .i64 i65) fun m71 =>
 StC w0.heap.size m71 ((a69.add ((x1 : Int).toNat * 5)).add 2) (.int .i64 i66) fun m72 =>
 StC w0.heap.size m72 ((a69.add ((x1 : Int).toNat * 5)).add 3) (.int .i64 i67) fun m73 =>
 StC w0.heap.size m73 ((a69.add ((x1 : Int).toNat * 5)).add 4) (.int .i64 i68) fun m74 =>
 RetP R (.bool true) m74) (
 RetP R (.bool false) m27))))))))))) : CallsA Try.prog w0 29 #[.pointer (some ⟨x0, 0, none⟩), .int .i64 x1, .int .i64 x2] m R :=
  callsA_of (c := c29) (args := [.pointer (some ⟨x0, 0, none⟩), .int .i64 x1, .int .i64 x2]) (by kernel_rfl) Try.func29 (by kernel_rfl) qs29 (by kernel_rfl) (by kernel_rfl) (cast (by kernel_rfl) h)

/-! 14 (*delayslot/emit.Buffer).Land -/
def qs14 : Nat → List (Nat × Nat) := fun i => match i with | _ => []
noncomputable def c14 : Code := bodyOf Try.f14
theorem cf14 (w0 : World) (m : AM) (x0 : Nat) (x1 : Int) (R : Value → AM → Prop) (h :
 ∃ (A1 : Option Addr) (n2 c3 : Nat), m.cell ⟨x0, 0, none⟩ = some (.slice A1 n2 c3) ∧ 
 CallsA Try.prog w0 29 #[.pointer (some ⟨x0, 0, none⟩), .int .i64 x1, .int .i64 ((n2 : Nat) : Int)] m fun r5 m6 =>
 ∃ t4 : Bool, r5 = .bool t4 ∧ RetP R (.bool t4) m6) : CallsA Try.prog w0 14 #[.pointer (some ⟨x0, 0, none⟩), .int .i64 x1] m R :=
  callsA_of (c := c14) (args := [.pointer (some ⟨x0, 0, none⟩), .int .i64 x1]) (by kernel_rfl) Try.func14 (by kernel_rfl) qs14 (by kernel_rfl) (by kernel_rfl) (cast (by kernel_rfl) h)

/-! 24 (*delayslot/emit.Buffer).Back -/
def qs24 : Nat → List (Nat × Nat) := fun i => match i with | _ => []
noncomputable def c24 : Code := bodyOf Try.f24
theorem cf24 (w0 : World) (m : AM) (x0 : Nat) (x1_0 : Int) (x1_1 : Int) (x1_2 : Int) (x1_3 : Int) (x1_4 : Int) (x2 : Int) (R : Value → AM → Prop) (h :
 ∀ b1 : Nat, w0.heap.size ≤ b1 → m b1 = none → let m2 := AM.upd m b1 (.cells #[.int .i64 x1_0, .int .i64 x1_1, .int .i64 x1_2, .int .i64 x1_3, .int .i64 x1_4] 23);
 ∃ i3 : Int, m2.cell ⟨b1, 0, none⟩ = some (.int .i64 i3) ∧ ∃ i4 : Int, m2.cell ⟨b1, 1, none⟩ = some (.int .i64 i4) ∧ ∃ i5 : Int, m2.cell ⟨b1, 2, none⟩ = some (.int .i64 i5) ∧ ∃ i6 : Int, m2.cell ⟨b1, 3, none⟩ = some (.int .i64 i6) ∧ ∃ i7 : Int, m2.cell ⟨b1, 4, none⟩ = some (.int .i64 i7) ∧ 
 CallsA Try.prog w0 10 #[.pointer (some ⟨x0, 0, none⟩), .agg #[.int .i64 i3, .int .i64 i4, .int .i64 i5, .int .i64 i6, .int .i64 i7]] m2 fun r9 m10 =>
 ∃ i8 : Int, r9 = .int .i64 i8 ∧ CallsA Try.prog w0 29 #[.pointer (some ⟨x0, 0, none⟩), .int .i64 i8, .int .i64 x2] m10 fun r12 m13 =>
 ∃ t11 : Bool, r12 = .bool t11 ∧ RetP R (.int .i64 i8) m13) : CallsA Try.prog w0 24 #[.pointer (some ⟨x0, 0, none⟩), .agg #[.int .i64 x1_0, .int .i64 x1_1, .int .i64 x1_2, .int .i64 x1_3, .int .i64 x1_4], .int .i64 x2] m R :=
  callsA_of (c := c24) (args := [.pointer (some ⟨x0, 0, none⟩), .agg #[.int .i64 x1_0, .int .i64 x1_1, .int .i64 x1_2, .int .i64 x1_3, .int .i64 x1_4], .int .i64 x2]) (by kernel_rfl) Try.func24 (by kernel_rfl) qs24 (by kernel_rfl) (by kernel_rfl) (cast (by kernel_rfl) h)

/-! 20 (*delayslot/emit.Buffer).Const -/
def qs20 : Nat → List (Nat × Nat) := fun i => match i with | _ => []
noncomputable def c20 : Code := bodyOf Try.f20
theorem cf20 (w0 : World) (m : AM) (x0 : Nat) (x1 : Int) (x2 : Int) (R : Value → AM → Prop) (h :
 CallsA Try.prog w0 31 #[.int .i64 x2, .int .i64 16] m fun r2 m3 =>
 ∃ t1 : Bool, r2 = .bool t1 ∧ (bcase t1 (
 true = true ∧ CallsA Try.prog w0 12 #[.pointer (some ⟨x0, 0, none⟩), .agg #[.int .i64 10, .int .i64 x1, .int .i64 0, .int .i64 0, .int .i64 x2]] m3 fun r5 m6 =>
 ∃ i4 : Int, r5 = .int .i64 i4 ∧ RetP R (.tuple #[]) m6) (
 CallsA Try.prog w0 32 #[.int .i64 x2] m3 fun r8 m9 =>
 ∃ i7 : Int, r8 = .int .i64 i7 ∧ IntKind.i64 = IntKind.i64 ∧ (0 : Int) ≤ 16 ∧ CallsA Try.prog w0 33 #[.int .i64 (Int.fdiv (IntKind.wrap .i64 (i7 + 32768)) (2 ^ (min (16 : Int).toNat (IntKind.bits .i64)))), .int .i64 16] m9 fun r11 m12 =>
 ∃ i10 : Int, r11 = .int .i64 i10 ∧ true = true ∧ CallsA Try.prog w0 12 #[.pointer (some ⟨x0, 0, none⟩), .agg #[.int .i64 11, .int .i64 x1, .int .i64 0, .int .i64 0, .int .i64 i10]] m12 fun r14 m15 =>
 ∃ i13 : Int, r14 = .int .i64 i13 ∧ CallsA Try.prog w0 33 #[.int .i64 i7, .int .i64 16] m15 fun r17 m18 =>
 ∃ i16 : Int, r17 = .int .i64 i16 ∧ true = true ∧ CallsA Try.prog w0 12 #[.pointer (some ⟨x0, 0, none⟩), .agg #[.int .i64 10, .int .i64 x1, .int .i64 x1, .int .i64 0, .int .i64 i16]] m18 fun r20 m21 =>
 ∃ i19 : Int, r20 = .int .i64 i19 ∧ RetP R (.tuple #[]) m21))) : CallsA Try.prog w0 20 #[.pointer (some ⟨x0, 0, none⟩), .int .i64 x1, .int .i64 x2] m R :=
  callsA_of (c := c20) (args := [.pointer (some ⟨x0, 0, none⟩), .int .i64 x1, .int .i64 x2]) (by kernel_rfl) Try.func20 (by kernel_rfl) qs20 (by kernel_rfl) (by kernel_rfl) (cast (by kernel_rfl) h)

/-! 17 (*delayslot/emit.Buffer).Give -/
def qs17 : Nat → List (Nat × Nat) := fun i => match i with | _ => []
noncomputable def c17 : Code := bodyOf Try.f17
theorem cf17 (w0 : World) (m : AM) (x0 : Nat) (R : Value → AM → Prop) (h :
 ∃ i1 : Int, m.cell ⟨x0, 2, none⟩ = some (.int .i64 i1) ∧ 
 IntKind.i64 = IntKind.i64 ∧ (bcase ((i1 : Int) == 0) (
 RetP R (.bool false) m) (
 ∃ i2 : Int, m.cell ⟨x0, 2, none⟩ = some (.int .i64 i2) ∧ 
 IntKind.i64 = IntKind.i64 ∧ StC w0.heap.size m ⟨x0, 2, none⟩ (.int .i64 (IntKind.wrap .i64 (i2 - 1))) fun m3 =>
 RetP R (.bool true) m3))) : CallsA Try.prog w0 17 #[.pointer (some ⟨x0, 0, none⟩)] m R :=
  callsA_of (c := c17) (args := [.pointer (some ⟨x0, 0, none⟩)]) (by kernel_rfl) Try.func17 (by kernel_rfl) qs17 (by kernel_rfl) (by kernel_rfl) (cast (by kernel_rfl) h)

/-! 18 (*delayslot/emit.Buffer).Take -/
def qs18 : Nat → List (Nat × Nat) := fun i => match i with | _ => []
noncomputable def c18 : Code := bodyOf Try.f18
theorem cf18 (w0 : World) (m : AM) (x0 : Nat) (R : Value → AM → Prop) (h :
 ∃ i1 : Int, m.cell ⟨x0, 2, none⟩ = some (.int .i64 i1) ∧ 
 IntKind.i64 = IntKind.i64 ∧ (bcase ((i1 : Int) == 8) (
 RetP R (.tuple #[.int .i64 0, .bool false]) m) (
 ∃ i2 : Int, m.cell ⟨x0, 2, none⟩ = some (.int .i64 i2) ∧ 
 IntKind.i64 = IntKind.i64 ∧ StC w0.heap.size m ⟨x0, 2, none⟩ (.int .i64 (IntKind.wrap .i64 (i2 + 1))) fun m3 =>
 ∃ i4 : Int, m3.cell ⟨x0, 2, none⟩ = some (.int .i64 i4) ∧ 
 IntKind.i64 = IntKind.i64 ∧ IntKind.i64 = IntKind.i64 ∧ RetP R (.tuple #[.int .i64 (IntKind.wrap .i64 ((IntKind.wrap .i64 (8 + i4)) - 1)), .bool true]) m3))) : CallsA Try.prog w0 18 #[.pointer (some ⟨x0, 0, none⟩)] m R :=
  callsA_of (c := c18) (args := [.pointer (some ⟨x0, 0, none⟩)]) (by kernel_rfl) Try.func18 (by kernel_rfl) qs18 (by kernel_rfl) (by kernel_rfl) (cast (by kernel_rfl) h)

/-! 19 (*delayslot/emit.Buffer).Here -/
def qs19 : Nat → List (Nat × Nat) := fun i => match i with | _ => []
noncomputable def c19 : Code := bodyOf Try.f19
theorem cf19 (w0 : World) (m : AM) (x0 : Nat) (R : Value → AM → Prop) (h :
 ∃ (A1 : Option Addr) (n2 c3 : Nat), m.cell ⟨x0, 0, none⟩ = some (.slice A1 n2 c3) ∧ 
 RetP R (.int .i64 ((n2 : Nat) : Int)) m) : CallsA Try.prog w0 19 #[.pointer (some ⟨x0, 0, none⟩)] m R :=
  callsA_of (c := c19) (args := [.pointer (some ⟨x0, 0, none⟩)]) (by kernel_rfl) Try.func19 (by kernel_rfl) qs19 (by kernel_rfl) (by kernel_rfl) (cast (by kernel_rfl) h)

/-! 11 (*delayslot/emit.Buffer).Code -/
def qs11 : Nat → List (Nat × Nat) := fun i => match i with | _ => []
noncomputable def c11 : Code := bodyOf Try.f11
theorem cf11 (w0 : World) (m : AM) (x0 : Nat) (R : Value → AM → Prop) (h :
 ∃ (A1 : Option Addr) (n2 c3 : Nat), m.cell ⟨x0, 0, none⟩ = some (.slice A1 n2 c3) ∧ 
 CallsA Try.prog w0 28 #[.slice A1 n2 c3] m fun r7 m8 =>
 ∃ (A4 : Option Addr) (n5 c6 : Nat), r7 = .slice A4 n5 c6 ∧ RetP R (.slice A4 n5 c6) m8) : CallsA Try.prog w0 11 #[.pointer (some ⟨x0, 0, none⟩)] m R :=
  callsA_of (c := c11) (args := [.pointer (some ⟨x0, 0, none⟩)]) (by kernel_rfl) Try.func11 (by kernel_rfl) qs11 (by kernel_rfl) (by kernel_rfl) (cast (by kernel_rfl) h)

/-! 15 (*delayslot/emit.Buffer).Patches -/
def qs15 : Nat → List (Nat × Nat) := fun i => match i with | _ => []
noncomputable def c15 : Code := bodyOf Try.f15
theorem cf15 (w0 : World) (m : AM) (x0 : Nat) (R : Value → AM → Prop) (h :
 ∃ (A1 : Option Addr) (n2 c3 : Nat), m.cell ⟨x0, 1, none⟩ = some (.slice A1 n2 c3) ∧ 
 CallsA Try.prog w0 30 #[.slice A1 n2 c3] m fun r7 m8 =>
 ∃ (A4 : Option Addr) (n5 c6 : Nat), r7 = .slice A4 n5 c6 ∧ RetP R (.slice A4 n5 c6) m8) : CallsA Try.prog w0 15 #[.pointer (some ⟨x0, 0, none⟩)] m R :=
  callsA_of (c := c15) (args := [.pointer (some ⟨x0, 0, none⟩)]) (by kernel_rfl) Try.func15 (by kernel_rfl) qs15 (by kernel_rfl) (by kernel_rfl) (cast (by kernel_rfl) h)

/-! 28 slices.Clone[[]delayslot/api.Instr,delayslot/api.Instr] -/
def qs28 : Nat → List (Nat × Nat) := fun i => match i with | _ => []
noncomputable def c28 : Code := bodyOf Try.f28
theorem cf28 (w0 : World) (m : AM) (x0 : Option Addr) (x0n x0c : Nat) (R : Value → AM → Prop) (h :
 (bcase (Option.isNone x0) (
 RetP R (.slice none 0 0) m) (
 true = true ∧ ∀ b1 : Nat, w0.heap.size ≤ b1 → m b1 = none → let m2 := AM.upd m b1 (.cells #[] 23);
 awp Try.prog w0.heap.size (Builtin.append_ #[24, 24] 24 #[.slice (some ⟨b1, 0, none⟩) 0 0, .slice x0 x0n x0c]) m2 fun v3 m4 =>
 ∃ (A5 : Option Addr) (n6 c7 : Nat), v3 = .slice A5 n6 c7 ∧ RetP R (.slice A5 n6 c7) m4))) : CallsA Try.prog w0 28 #[.slice x0 x0n x0c] m R :=
  callsA_of (c := c28) (args := [.slice x0 x0n x0c]) (by kernel_rfl) Try.func28 (by kernel_rfl) qs28 (by kernel_rfl) (by kernel_rfl) (cast (by kernel_rfl) h)

/-! 30 slices.Clone[[]delayslot/object.Patch,delayslot/object.Patch] -/
def qs30 : Nat → List (Nat × Nat) := fun i => match i with | _ => []
noncomputable def c30 : Code := bodyOf Try.f30
theorem cf30 (w0 : World) (m : AM) (x0 : Option Addr) (x0n x0c : Nat) (R : Value → AM → Prop) (h :
 (bcase (Option.isNone x0) (
 RetP R (.slice none 0 0) m) (
 true = true ∧ ∀ b1 : Nat, w0.heap.size ≤ b1 → m b1 = none → let m2 := AM.upd m b1 (.cells #[] 34);
 awp Try.prog w0.heap.size (Builtin.append_ #[25, 25] 25 #[.slice (some ⟨b1, 0, none⟩) 0 0, .slice x0 x0n x0c]) m2 fun v3 m4 =>
 ∃ (A5 : Option Addr) (n6 c7 : Nat), v3 = .slice A5 n6 c7 ∧ RetP R (.slice A5 n6 c7) m4))) : CallsA Try.prog w0 30 #[.slice x0 x0n x0c] m R :=
  callsA_of (c := c30) (args := [.slice x0 x0n x0c]) (by kernel_rfl) Try.func30 (by kernel_rfl) qs30 (by kernel_rfl) (by kernel_rfl) (cast (by kernel_rfl) h)

/-! 31 delayslot/word.Fits -/
def qs31 : Nat → List (Nat × Nat) := fun i => match i with | _ => []
noncomputable def c31 : Code := bodyOf Try.f31
theorem cf31 (w0 : World) (m : AM) (x0 : Int) (x1 : Int) (R : Value → AM → Prop) (h :
 IntKind.i64 = IntKind.i64 ∧ (bcase (decide ((x1 : Int) < 1)) (
 (decide ((x1 : Int) < 1)) = true ∧ RetP R (.bool false) m) (
 IntKind.i64 = IntKind.i64 ∧ (bcase (bif decide ((x1 : Int) < 1) then true else decide ((x1 : Int) > 62)) (
 RetP R (.bool false) m) (
 IntKind.i64 = IntKind.i64 ∧ (0 : Int) ≤ (IntKind.wrap .i64 (x1 - 1)) ∧ IntKind.i64 = IntKind.i64 ∧ (bcase (decide ((x0 : Int) ≥ (IntKind.wrap .i64 (0 - (IntKind.wrap .i64 (1 * 2 ^ (min ((IntKind.wrap .i64 (x1 - 1)) : Int).toNat (IntKind.bits .i64)))))))) (
 IntKind.i64 = IntKind.i64 ∧ RetP R (.bool (bif decide ((x0 : Int) ≥ (IntKind.wrap .i64 (0 - (IntKind.wrap .i64 (1 * 2 ^ (min ((IntKind.wrap .i64 (x1 - 1)) : Int).toNat (IntKind.bits .i64))))))) then decide ((x0 : Int) < (IntKind.wrap .i64 (1 * 2 ^ (min ((IntKind.wrap .i64 (x1 - 1)) : Int).toNat (IntKind.bits .i64))))) else false)) m) (
 (decide ((x0 : Int) ≥ (IntKind.wrap .i64 (0 - (IntKind.wrap .i64 (1 * 2 ^ (min ((IntKind.wrap .i64 (x1 - 1)) : Int).toNat (IntKind.bits .i64)))))))) = false ∧ RetP R (.bool false) m))))))) : CallsA Try.prog w0 31 #[.int .i64 x0, .int .i64 x1] m R :=
  callsA_of (c := c31) (args := [.int .i64 x0, .int .i64 x1]) (by kernel_rfl) Try.func31 (by kernel_rfl) qs31 (by kernel_rfl) (by kernel_rfl) (cast (by kernel_rfl) h)

/-! 32 delayslot/word.Wrap -/
def qs32 : Nat → List (Nat × Nat) := fun i => match i with | _ => []
noncomputable def c32 : Code := bodyOf Try.f32
theorem cf32 (w0 : World) (m : AM) (x0 : Int) (R : Value → AM → Prop) (h :
 RetP R (.int .i64 (IntKind.wrap .i64 (IntKind.wrap .i32 x0))) m) : CallsA Try.prog w0 32 #[.int .i64 x0] m R :=
  callsA_of (c := c32) (args := [.int .i64 x0]) (by kernel_rfl) Try.func32 (by kernel_rfl) qs32 (by kernel_rfl) (by kernel_rfl) (cast (by kernel_rfl) h)

/-! 33 delayslot/word.Extend -/
def qs33 : Nat → List (Nat × Nat) := fun i => match i with | _ => []
noncomputable def c33 : Code := bodyOf Try.f33
theorem cf33 (w0 : World) (m : AM) (x0 : Int) (x1 : Int) (R : Value → AM → Prop) (h :
 IntKind.i64 = IntKind.i64 ∧ (bcase (decide ((x1 : Int) < 1)) (
 (decide ((x1 : Int) < 1)) = true ∧ RetP R (.int .i64 0) m) (
 IntKind.i64 = IntKind.i64 ∧ (bcase (bif decide ((x1 : Int) < 1) then true else decide ((x1 : Int) > 32)) (
 RetP R (.int .i64 0) m) (
 IntKind.i64 = IntKind.i64 ∧ (0 : Int) ≤ (IntKind.wrap .i64 (32 - x1)) ∧ (0 : Int) ≤ (IntKind.wrap .i64 (32 - x1)) ∧ RetP R (.int .i64 (IntKind.wrap .i64 (Int.fdiv (IntKind.wrap .i32 ((IntKind.wrap .i32 x0) * 2 ^ (min ((IntKind.wrap .i64 (32 - x1)) : Int).toNat (IntKind.bits .i32)))) (2 ^ (min ((IntKind.wrap .i64 (32 - x1)) : Int).toNat (IntKind.bits .i32)))))) m))))) : CallsA Try.prog w0 33 #[.int .i64 x0, .int .i64 x1] m R :=
  callsA_of (c := c33) (args := [.int .i64 x0, .int .i64 x1]) (by kernel_rfl) Try.func33 (by kernel_rfl) qs33 (by kernel_rfl) (by kernel_rfl) (cast (by kernel_rfl) h)

/-! 16 delayslot/delayslotlaw18.awake -/
def qs16 : Nat → List (Nat × Nat) := fun i => match i with | _ => []
noncomputable def c16 : Code := bodyOf Try.f16
theorem cf16 (w0 : World) (m : AM)  (R : Value → AM → Prop) (h :
 ∀ b1 : Nat, w0.heap.size ≤ b1 → m b1 = none → let m2 := AM.upd m b1 (.cells #[.slice none 0 0, .slice none 0 0, .int .i64 0] 27);
 true = true ∧ CallsA Try.prog w0 10 #[.pointer (some ⟨b1, 0, none⟩), .agg #[.int .i64 15, .int .i64 0, .int .i64 0, .int .i64 0, .int .i64 0]] m2 fun r4 m5 =>
 ∃ i3 : Int, r4 = .int .i64 i3 ∧ true = true ∧ CallsA Try.prog w0 12 #[.pointer (some ⟨b1, 0, none⟩), .agg #[.int .i64 0, .int .i64 0, .int .i64 0, .int .i64 0, .int .i64 0]] m5 fun r7 m8 =>
 ∃ i6 : Int, r7 = .int .i64 i6 ∧ CallsA Try.prog w0 14 #[.pointer (some ⟨b1, 0, none⟩), .int .i64 i3] m8 fun r10 m11 =>
 ∃ t9 : Bool, r10 = .bool t9 ∧ CallsA Try.prog w0 18 #[.pointer (some ⟨b1, 0, none⟩)] m11 fun r14 m15 =>
 ∃ i12 : Int, ∃ t13 : Bool, r14 = .tuple #[.int .i64 i12, .bool t13] ∧ CallsA Try.prog w0 11 #[.pointer (some ⟨b1, 0, none⟩)] m15 fun r21 m22 =>
 ∃ (A18 : Option Addr) (n19 c20 : Nat), r21 = .slice A18 n19 c20 ∧ IntKind.i64 = IntKind.i64 ∧ (bcase ((i3 : Int) == 0) (
 (bcase (bif (i3 : Int) == 0 then t9 else false) (
 IntKind.i64 = IntKind.i64 ∧ (bcase (bif bif (i3 : Int) == 0 then t9 else false then (i12 : Int) == 8 else false) (
 (bcase (bif bif bif (i3 : Int) == 0 then t9 else false then (i12 : Int) == 8 else false then t13 else false) (
 CallsA Try.prog w0 19 #[.pointer (some ⟨b1, 0, none⟩)] m22 fun r24 m25 =>
 ∃ i23 : Int, r24 = .int .i64 i23 ∧ IntKind.i64 = IntKind.i64 ∧ (bcase (bif bif bif bif (i3 : Int) == 0 then t9 else false then (i12 : Int) == 8 else false then t13 else false then (i23 : Int) == 2 else false) (
 IntKind.i64 = IntKind.i64 ∧ (bcase (bif bif bif bif bif (i3 : Int) == 0 then t9 else false then (i12 : Int) == 8 else false then t13 else false then (i23 : Int) == 2 else false then (((n19 : Nat) : Int) : Int) == 2 else false) (
 ((0 : Int) ≤ 0 ∧ 0 < ((n19 : Nat) : Int)) ∧ nilO A18 fun a26 =>
 ∃ i27 : Int, m25.cell ((a26.add (0)).add 4) = some (.int .i64 i27) ∧ 
 IntKind.i64 = IntKind.i64 ∧ (bcase (bif bif bif bif bif bif (i3 : Int) == 0 then t9 else false then (i12 : Int) == 8 else false then t13 else false then (i23 : Int) == 2 else false then (((n19 : Nat) : Int) : Int) == 2 else false then (i27 : Int) == 1 else false) (
 CallsA Try.prog w0 15 #[.pointer (some ⟨b1, 0, none⟩)] m25 fun r31 m32 =>
 ∃ (A28 : Option Addr) (n29 c30 : Nat), r31 = .slice A28 n29 c30 ∧ IntKind.i64 = IntKind.i64 ∧ RetP R (.bool (bif bif bif bif bif bif bif (i3 : Int) == 0 then t9 else false then (i12 : Int) == 8 else false then t13 else false then (i23 : Int) == 2 else false then (((n19 : Nat) : Int) : Int) == 2 else false then (i27 : Int) == 1 else false then (((n29 : Nat) : Int) : Int) == 0 else false)) m32) (
 (bif bif bif bif bif bif (i3 : Int) == 0 then t9 else false then (i12 : Int) == 8 else false then t13 else false then (i23 : Int) == 2 else false then (((n19 : Nat) : Int) : Int) == 2 else false then (i27 : Int) == 1 else false) = false ∧ RetP R (.bool false) m25))) (
 (bif bif bif bif bif (i3 : Int) == 0 then t9 else false then (i12 : Int) == 8 else false then t13 else false then (i23 : Int) == 2 else false then (((n19 : Nat) : Int) : Int) == 2 else false) = false ∧ false = false ∧ RetP R (.bool false) m25))) (
 (bif bif bif bif (i3 : Int) == 0 then t9 else false then (i12 : Int) == 8 else false then t13 else false then (i23 : Int) == 2 else false) = false ∧ false = false ∧ false = false ∧ RetP R (.bool false) m25))) (
 (bif bif bif (i3 : Int) == 0 then t9 else false then (i12 : Int) == 8 else false then t13 else false) = false ∧ false = false ∧ false = false ∧ false = false ∧ RetP R (.bool false) m22))) (
 (bif bif (i3 : Int) == 0 then t9 else false then (i12 : Int) == 8 else false) = false ∧ false = false ∧ false = false ∧ false = false ∧ false = false ∧ RetP R (.bool false) m22))) (
 (bif (i3 : Int) == 0 then t9 else false) = false ∧ false = false ∧ false = false ∧ false = false ∧ false = false ∧ false = false ∧ RetP R (.bool false) m22))) (
 ((i3 : Int) == 0) = false ∧ false = false ∧ false = false ∧ false = false ∧ false = false ∧ false = false ∧ false = false ∧ RetP R (.bool false) m22))) : CallsA Try.prog w0 16 #[] m R :=
  callsA_of (c := c16) (args := []) (by kernel_rfl) Try.func16 (by kernel_rfl) qs16 (by kernel_rfl) (by kernel_rfl) (cast (by kernel_rfl) h)

/-! 3 delayslot/delayslotlaw18.EmitOwn -/
def qs3 : Nat → List (Nat × Nat) := fun i => match i with | _ => []
noncomputable def c3 : Code := bodyOf Try.f3
theorem cf3 (w0 : World) (m : AM) (x0_0 : Int) (x0_1 : Int) (x0_2 : Int) (x0_3 : Int) (x0_4 : Int) (x1_0 : Int) (x1_1 : Int) (x1_2 : Int) (x1_3 : Int) (x1_4 : Int) (R : Value → AM → Prop) (h :
 ∀ b1 : Nat, w0.heap.size ≤ b1 → m b1 = none → let m2 := AM.upd m b1 (.cells #[.int .i64 x0_0, .int .i64 x0_1, .int .i64 x0_2, .int .i64 x0_3, .int .i64 x0_4] 23);
 ∀ b3 : Nat, w0.heap.size ≤ b3 → m2 b3 = none → let m4 := AM.upd m2 b3 (.cells #[.int .i64 x1_0, .int .i64 x1_1, .int .i64 x1_2, .int .i64 x1_3, .int .i64 x1_4] 23);
 ∀ b5 : Nat, w0.heap.size ≤ b5 → m4 b5 = none → let m6 := AM.upd m4 b5 (.cells #[.slice none 0 0, .slice none 0 0, .int .i64 0] 27);
 true = true ∧ CallsA Try.prog w0 10 #[.pointer (some ⟨b5, 0, none⟩), .agg #[.int .i64 15, .int .i64 0, .int .i64 0, .int .i64 0, .int .i64 77]] m6 fun r8 m9 =>
 ∃ i7 : Int, r8 = .int .i64 i7 ∧ CallsA Try.prog w0 11 #[.pointer (some ⟨b5, 0, none⟩)] m9 fun r13 m14 =>
 ∃ (A10 : Option Addr) (n11 c12 : Nat), r13 = .slice A10 n11 c12 ∧ ∃ i15 : Int, m14.cell ⟨b1, 0, none⟩ = some (.int .i64 i15) ∧ ∃ i16 : Int, m14.cell ⟨b1, 1, none⟩ = some (.int .i64 i16) ∧ ∃ i17 : Int, m14.cell ⟨b1, 2, none⟩ = some (.int .i64 i17) ∧ ∃ i18 : Int, m14.cell ⟨b1, 3, none⟩ = some (.int .i64 i18) ∧ ∃ i19 : Int, m14.cell ⟨b1, 4, none⟩ = some (.int .i64 i19) ∧ 
 CallsA Try.prog w0 12 #[.pointer (some ⟨b5, 0, none⟩), .agg #[.int .i64 i15, .int .i64 i16, .int .i64 i17, .int .i64 i18, .int .i64 i19]] m14 fun r21 m22 =>
 ∃ i20 : Int, r21 = .int .i64 i20 ∧ ∃ i23 : Int, m22.cell ⟨b3, 0, none⟩ = some (.int .i64 i23) ∧ ∃ i24 : Int, m22.cell ⟨b3, 1, none⟩ = some (.int .i64 i24) ∧ ∃ i25 : Int, m22.cell ⟨b3, 2, none⟩ = some (.int .i64 i25) ∧ ∃ i26 : Int, m22.cell ⟨b3, 3, none⟩ = some (.int .i64 i26) ∧ ∃ i27 : Int, m22.cell ⟨b3, 4, none⟩ = some (.int .i64 i27) ∧ 
 CallsA Try.prog w0 13 #[.pointer (some ⟨b5, 0, none⟩), .agg #[.int .i64 i23, .int .i64 i24, .int .i64 i25, .int .i64 i26, .int .i64 i27], .int .i64 1, .int .i64 0] m22 fun r29 m30 =>
 ∃ i28 : Int, r29 = .int .i64 i28 ∧ CallsA Try.prog w0 14 #[.pointer (some ⟨b5, 0, none⟩), .int .i64 i7] m30 fun r32 m33 =>
 ∃ t31 : Bool, r32 = .bool t31 ∧ CallsA Try.prog w0 11 #[.pointer (some ⟨b5, 0, none⟩)] m33 fun r37 m38 =>
 ∃ (A34 : Option Addr) (n35 c36 : Nat), r37 = .slice A34 n35 c36 ∧ CallsA Try.prog w0 15 #[.pointer (some ⟨b5, 0, none⟩)] m38 fun r42 m43 =>
 ∃ (A39 : Option Addr) (n40 c41 : Nat), r42 = .slice A39 n40 c41 ∧ (bcase t31 (
 IntKind.i64 = IntKind.i64 ∧ (bcase (bif t31 then (((n11 : Nat) : Int) : Int) == 1 else false) (
 ((0 : Int) ≤ 0 ∧ 0 < ((n11 : Nat) : Int)) ∧ nilO A10 fun a44 =>
 ∃ i45 : Int, m43.cell ((a44.add (0)).add 4) = some (.int .i64 i45) ∧ 
 IntKind.i64 = IntKind.i64 ∧ (bcase (bif bif t31 then (((n11 : Nat) : Int) : Int) == 1 else false then (i45 : Int) == 77 else false) (
 IntKind.i64 = IntKind.i64 ∧ (bcase (bif bif bif t31 then (((n11 : Nat) : Int) : Int) == 1 else false then (i45 : Int) == 77 else false then (((n35 : Nat) : Int) : Int) == 3 else false) (
 ((0 : Int) ≤ 0 ∧ 0 < ((n35 : Nat) : Int)) ∧ nilO A34 fun a46 =>
 ∃ i47 : Int, m43.cell ((a46.add (0)).add 4) = some (.int .i64 i47) ∧ 
 IntKind.i64 = IntKind.i64 ∧ (bcase (bif bif bif bif t31 then (((n11 : Nat) : Int) : Int) == 1 else false then (i45 : Int) == 77 else false then (((n35 : Nat) : Int) : Int) == 3 else false then (i47 : Int) == 2 else false) (
 ((0 : Int) ≤ 1 ∧ 1 < ((n35 : Nat) : Int)) ∧ nilO A34 fun a48 =>
 ∃ i49 : Int, m43.cell (a48.add (5)) = some (.int .i64 i49) ∧ ∃ i50 : Int, m43.cell ((a48.add (5)).add 1) = some (.int .i64 i50) ∧ ∃ i51 : Int, m43.cell ((a48.add (5)).add 2) = some (.int .i64 i51) ∧ ∃ i52 : Int, m43.cell ((a48.add (5)).add 3) = some (.int .i64 i52) ∧ ∃ i53 : Int, m43.cell ((a48.add (5)).add 4) = some (.int .i64 i53) ∧ 
 ∃ i54 : Int, m43.cell ⟨b1, 0, none⟩ = some (.int .i64 i54) ∧ ∃ i55 : Int, m43.cell ⟨b1, 1, none⟩ = some (.int .i64 i55) ∧ ∃ i56 : Int, m43.cell ⟨b1, 2, none⟩ = some (.int .i64 i56) ∧ ∃ i57 : Int, m43.cell ⟨b1, 3, none⟩ = some (.int .i64 i57) ∧ ∃ i58 : Int, m43.cell ⟨b1, 4, none⟩ = some (.int .i64 i58) ∧ 
 ∃ t59 : Bool, EqP Try.prog .eql 23 (.agg #[.int .i64 i49, .int .i64 i50, .int .i64 i51, .int .i64 i52, .int .i64 i53]) (.agg #[.int .i64 i54, .int .i64 i55, .int .i64 i56, .int .i64 i57, .int .i64 i58]) t59 ∧ (bcase (bif bif bif bif bif t31 then (((n11 : Nat) : Int) : Int) == 1 else false then (i45 : Int) == 77 else false then (((n35 : Nat) : Int) : Int) == 3 else false then (i47 : Int) == 2 else false then t59 else false) (
 ((0 : Int) ≤ 2 ∧ 2 < ((n35 : Nat) : Int)) ∧ nilO A34 fun a60 =>
 ∃ i61 : Int, m43.cell (a60.add (10)) = some (.int .i64 i61) ∧ ∃ i62 : Int, m43.cell ((a60.add (10)).add 1) = some (.int .i64 i62) ∧ ∃ i63 : Int, m43.cell ((a60.add (10)).add 2) = some (.int .i64 i63) ∧ ∃ i64 : Int, m43.cell ((a60.add (10)).add 3) = some (.int .i64 i64) ∧ ∃ i65 : Int, m43.cell ((a60.add (10)).add 4) = some (.int .i64 i65) ∧ 
 ∃ i66 : Int, m43.cell ⟨b3, 0, none⟩ = some (.int .i64 i66) ∧ ∃ i67 : Int, m43.cell ⟨b3, 1, none⟩ = some (.int .i64 i67) ∧ ∃ i68 : Int, m43.cell ⟨b3, 2, none⟩ = some (.int .i64 i68) ∧ ∃ i69 : Int, m43.cell ⟨b3, 3, none⟩ = some (.int .i64 i69) ∧ ∃ i70 : Int, m43.cell ⟨b3, 4, none⟩ = some (.int .i64 i70) ∧ 
 ∃ t71 : Bool, EqP Try.prog .eql 23 (.agg #[.int .i64 i61, .int .i64 i62, .int .i64 i63, .int .i64 i64, .int .i64 i65]) (.agg #[.int .i64 i66, .int .i64 i67, .int .i64 i68, .int .i64 i69, .int .i64 i70]) t71 ∧ (bcase (bif bif bif bif bif bif t31 then (((n11 : Nat) : Int) : Int) == 1 else false then (i45 : Int) == 77 else false then (((n35 : Nat) : Int) : Int) == 3 else false then (i47 : Int) == 2 else false then t59 else false then t71 else false) (
 IntKind.i64 = IntKind.i64 ∧ (bcase (bif bif bif bif bif bif bif t31 then (((n11 : Nat) : Int) : Int) == 1 else false then (i45 : Int) == 77 else false then (((n35 : Nat) : Int) : Int) == 3 else false then (i47 : Int) == 2 else false then t59 else false then t71 else false then (((n40 : Nat) : Int) : Int) == 1 else false) (
 ((0 : Int) ≤ 0 ∧ 0 < ((n40 : Nat) : Int)) ∧ nilO A39 fun a72 =>
 ∃ i73 : Int, m43.cell (a72.add (0)) = some (.int .i64 i73) ∧ 
 IntKind.i64 = IntKind.i64 ∧ (bcase (bif bif bif bif bif bif bif bif t31 then (((n11 : Nat) : Int) : Int) == 1 else false then (i45 : Int) == 77 else false then (((n35 : Nat) : Int) : Int) == 3 else false then (i47 : Int) == 2 else false then t59 else false then t71 else false then (((n40 : Nat) : Int) : Int) == 1 else false then (i73 : Int) == 2 else false) (
 CallsA Try.prog w0 16 #[] m43 fun r75 m76 =>
 ∃ t74 : Bool, r75 = .bool t74 ∧ RetP R (.bool (bif bif bif bif bif bif bif bif bif t31 then (((n11 : Nat) : Int) : Int) == 1 else false then (i45 : Int) == 77 else false then (((n35 : Nat) : Int) : Int) == 3 else false then (i47 : Int) == 2 else false then t59 else false then t71 else false then (((n40 : Nat) : Int) : Int) == 1 else false then (i73 : Int) == 2 else false then t74 else false)) m76) (
 (bif bif bif bif bif bif bif bif t31 then (((n11 : Nat) : Int) : Int) == 1 else false then (i45 : Int) == 77 else false then (((n35 : Nat) : Int) : Int) == 3 else false then (i47 : Int) == 2 else false then t59 else false then t71 else false then (((n40 : Nat) : Int) : Int) == 1 else false then (i73 : Int) == 2 else false) = false ∧ RetP R (.bool false) m43))) (
 (bif bif bif bif bif bif bif t31 then (((n11 : Nat) : Int) : Int) == 1 else false then (i45 : Int) == 77 else false then (((n35 : Nat) : Int) : Int) == 3 else false then (i47 : Int) == 2 else false then t59 else false then t71 else false then (((n40 : Nat) : Int) : Int) == 1 else false) = false ∧ false = false ∧ RetP R (.bool false) m43))) (
 (bif bif bif bif bif bif t31 then (((n11 : Nat) : Int) : Int) == 1 else false then (i45 : Int) == 77 else false then (((n35 : Nat) : Int) : Int) == 3 else false then (i47 : Int) == 2 else false then t59 else false then t71 else false) = false ∧ false = false ∧ false = false ∧ RetP R (.bool false) m43))) (
 (bif bif bif bif bif t31 then (((n11 : Nat) : Int) : Int) == 1 else false then (i45 : Int) == 77 else false then (((n35 : Nat) : Int) : Int) == 3 else false then (i47 : Int) == 2 else false then t59 else false) = false ∧ false = false ∧ false = false ∧ false = false ∧ RetP R (.bool false) m43))) (
 (bif bif bif bif t31 then (((n11 : Nat) : Int) : Int) == 1 else false then (i45 : Int) == 77 else false then (((n35 : Nat) : Int) : Int) == 3 else false then (i47 : Int) == 2 else false) = false ∧ false = false ∧ false = false ∧ false = false ∧ false = false ∧ RetP R (.bool false) m43))) (
 (bif bif bif t31 then (((n11 : Nat) : Int) : Int) == 1 else false then (i45 : Int) == 77 else false then (((n35 : Nat) : Int) : Int) == 3 else false) = false ∧ false = false ∧ false = false ∧ false = false ∧ false = false ∧ false = false ∧ RetP R (.bool false) m43))) (
 (bif bif t31 then (((n11 : Nat) : Int) : Int) == 1 else false then (i45 : Int) == 77 else false) = false ∧ false = false ∧ false = false ∧ false = false ∧ false = false ∧ false = false ∧ false = false ∧ RetP R (.bool false) m43))) (
 (bif t31 then (((n11 : Nat) : Int) : Int) == 1 else false) = false ∧ false = false ∧ false = false ∧ false = false ∧ false = false ∧ false = false ∧ false = false ∧ false = false ∧ RetP R (.bool false) m43))) (
 t31 = false ∧ false = false ∧ false = false ∧ false = false ∧ false = false ∧ false = false ∧ false = false ∧ false = false ∧ false = false ∧ RetP R (.bool false) m43))) : CallsA Try.prog w0 3 #[.agg #[.int .i64 x0_0, .int .i64 x0_1, .int .i64 x0_2, .int .i64 x0_3, .int .i64 x0_4], .agg #[.int .i64 x1_0, .int .i64 x1_1, .int .i64 x1_2, .int .i64 x1_3, .int .i64 x1_4]] m R :=
  callsA_of (c := c3) (args := [.agg #[.int .i64 x0_0, .int .i64 x0_1, .int .i64 x0_2, .int .i64 x0_3, .int .i64 x0_4], .agg #[.int .i64 x1_0, .int .i64 x1_1, .int .i64 x1_2, .int .i64 x1_3, .int .i64 x1_4]]) (by kernel_rfl) Try.func3 (by kernel_rfl) qs3 (by kernel_rfl) (by kernel_rfl) (cast (by kernel_rfl) h)

/-! 4 delayslot/delayslotlaw18.EmitRegs -/
def qs4 : Nat → List (Nat × Nat) := fun i => match i with | _ => []
noncomputable def c4 : Code := bodyOf Try.f4
theorem cf4 (w0 : World) (m : AM) (x0 : Option Addr) (x0n x0c : Nat) (R : Value → AM → Prop) (h :
 ∀ b1 : Nat, w0.heap.size ≤ b1 → m b1 = none → let m2 := AM.upd m b1 (.cells #[.slice none 0 0, .slice none 0 0, .int .i64 0] 27);
 vcS Try.prog w0 qs4 (sub c4 [1, 1, 1, 0, 1, 0]) (upd (upd (upd (upd (argS [.slice x0 x0n x0c]) 2 (.bool false)) 3 (.pointer (some ⟨b1, 0, none⟩))) 4 (.int .i64 0)) 5 (.int .i64 0)) m2 (blockS 0 (thenS (fun σ m => vcS Try.prog w0 qs4 (sub c4 [1, 1, 1, 1]) σ m (retQ Try.prog Try.f4 R)) (retQ Try.prog Try.f4 R)))) : CallsA Try.prog w0 4 #[.slice x0 x0n x0c] m R :=
  callsA_of (c := c4) (args := [.slice x0 x0n x0c]) (by kernel_rfl) Try.func4 (by kernel_rfl) qs4 (by kernel_rfl) (by kernel_rfl) (cast (by kernel_rfl) h)
def lq4_111010 (R : Value → AM → Prop) (x0 : Option Addr) (x0n x0c : Nat) (x3 : Nat) (I0 : Nat → Int → Int → AM → Prop) (E0_0 : AM → Prop) (n0 : Nat) : Exit → Sg → AM → Prop
  | .normal, σ, m => σ 0 = .slice x0 x0n x0c ∧ σ 3 = .pointer (some ⟨x3, 0, none⟩) ∧ okI .i64 (σ 4) = true ∧ okI .i64 (σ 5) = true ∧ ∃ n' : Nat, n' < n0 ∧ I0 n' (vI (σ 4)) (vI (σ 5)) m
  | .exit id, σ, m => if id = 0 then σ 0 = .slice x0 x0n x0c ∧ σ 3 = .pointer (some ⟨x3, 0, none⟩) ∧ E0_0  m else False
  | .ret, σ, m => retQ Try.prog Try.f4 R .ret σ m
  | _, _, _ => False
theorem vl4_111010 (w0 : World) (m : AM) (σ : Sg) (R : Value → AM → Prop)  (x0 : Option Addr) (x0n x0c : Nat) (x3 : Nat) (x4 : Int) (x5 : Int) (I0 : Nat → Int → Int → AM → Prop) (E0_0 : AM → Prop) (N : Nat) (h0 : σ 0 = .slice x0 x0n x0c) (h3 : σ 3 = .pointer (some ⟨x3, 0, none⟩)) (h4 : σ 4 = .int .i64 x4) (h5 : σ 5 = .int .i64 x5)
 (h_0 : I0 N x4 x5 m)
 (h_s : ∀ (n0 : Nat) (σ : Sg) (x4 : Int) (x5 : Int) (m : AM), I0 n0 x4 x5 m → (
 IntKind.i64 = IntKind.i64 ∧ (bcase (decide ((x5 : Int) < ((x0n : Nat) : Int))) (
 IntKind.i64 = IntKind.i64 ∧ (bcase (bif decide ((x5 : Int) < ((x0n : Nat) : Int)) then decide ((x5 : Int) < 60) else false) (
 ((0 : Int) ≤ x5 ∧ x5 < ((x0n : Nat) : Int)) ∧ nilO x0 fun a3 =>
 ∃ t4 : Bool, m.cell (a3.add ((x5 : Int).toNat * 1)) = some (.bool t4) ∧ 
 (bcase (!t4) (
 CallsA Try.prog w0 17 #[.pointer (some ⟨x3, 0, none⟩)] m fun r6 m7 =>
 ∃ t5 : Bool, r6 = .bool t5 ∧ IntKind.i64 = IntKind.i64 ∧ (bcase (!((t5 : Bool) == (decide ((x4 : Int) > 0)))) (
 RetP R (.bool false) m7) (
 IntKind.i64 = IntKind.i64 ∧ IntKind.i64 = IntKind.i64 ∧ IntKind.i64 = IntKind.i64 ∧ (.slice x0 x0n x0c : Value) = .slice x0 x0n x0c ∧ (.pointer (some ⟨x3, 0, none⟩) : Value) = .pointer (some ⟨x3, 0, none⟩) ∧ true = true ∧ true = true ∧ ∃ n' : Nat, n' < n0 ∧ I0 n' (if (0 : Int) > (IntKind.wrap .i64 (x4 - 1)) then 0 else IntKind.wrap .i64 (x4 - 1)) (IntKind.wrap .i64 (x5 + 1)) m7))) (
 CallsA Try.prog w0 18 #[.pointer (some ⟨x3, 0, none⟩)] m fun r10 m11 =>
 ∃ i8 : Int, ∃ t9 : Bool, r10 = .tuple #[.int .i64 i8, .bool t9] ∧ IntKind.i64 = IntKind.i64 ∧ (bcase (!((t9 : Bool) == (decide ((x4 : Int) < 8)))) (
 (!((t9 : Bool) == (decide ((x4 : Int) < 8)))) = true ∧ true = true ∧ RetP R (.bool false) m11) (
 (bcase t9 (
 IntKind.i64 = IntKind.i64 ∧ IntKind.i64 = IntKind.i64 ∧ (bcase (bif !((t9 : Bool) == (decide ((x4 : Int) < 8))) then true else bif t9 then (i8 : Int) != (IntKind.wrap .i64 (8 + x4)) else false) (
 (bif !((t9 : Bool) == (decide ((x4 : Int) < 8))) then true else bif t9 then (i8 : Int) != (IntKind.wrap .i64 (8 + x4)) else false) = true ∧ RetP R (.bool false) m11) (
 (bcase (!t9) (
 IntKind.i64 = IntKind.i64 ∧ (bcase (bif bif !((t9 : Bool) == (decide ((x4 : Int) < 8))) then true else bif t9 then (i8 : Int) != (IntKind.wrap .i64 (8 + x4)) else false then true else bif !t9 then (i8 : Int) != 0 else false) (
 RetP R (.bool false) m11) (
 IntKind.i64 = IntKind.i64 ∧ IntKind.i64 = IntKind.i64 ∧ IntKind.i64 = IntKind.i64 ∧ (.slice x0 x0n x0c : Value) = .slice x0 x0n x0c ∧ (.pointer (some ⟨x3, 0, none⟩) : Value) = .pointer (some ⟨x3, 0, none⟩) ∧ true = true ∧ true = true ∧ ∃ n' : Nat, n' < n0 ∧ I0 n' (if (8 : Int) < (IntKind.wrap .i64 (x4 + 1)) then 8 else IntKind.wrap .i64 (x4 + 1)) (IntKind.wrap .i64 (x5 + 1)) m11))) (
 (!t9) = false ∧ (bcase (bif bif !((t9 : Bool) == (decide ((x4 : Int) < 8))) then true else bif t9 then (i8 : Int) != (IntKind.wrap .i64 (8 + x4)) else false then true else false) (
 RetP R (.bool false) m11) (
 IntKind.i64 = IntKind.i64 ∧ IntKind.i64 = IntKind.i64 ∧ IntKind.i64 = IntKind.i64 ∧ (.slice x0 x0n x0c : Value) = .slice x0 x0n x0c ∧ (.pointer (some ⟨x3, 0, none⟩) : Value) = .pointer (some ⟨x3, 0, none⟩) ∧ true = true ∧ true = true ∧ ∃ n' : Nat, n' < n0 ∧ I0 n' (if (8 : Int) < (IntKind.wrap .i64 (x4 + 1)) then 8 else IntKind.wrap .i64 (x4 + 1)) (IntKind.wrap .i64 (x5 + 1)) m11))))))) (
 t9 = false ∧ (bcase (bif !((t9 : Bool) == (decide ((x4 : Int) < 8))) then true else false) (
 (bif !((t9 : Bool) == (decide ((x4 : Int) < 8))) then true else false) = true ∧ RetP R (.bool false) m11) (
 (bcase (!t9) (
 IntKind.i64 = IntKind.i64 ∧ (bcase (bif bif !((t9 : Bool) == (decide ((x4 : Int) < 8))) then true else false then true else bif !t9 then (i8 : Int) != 0 else false) (
 RetP R (.bool false) m11) (
 IntKind.i64 = IntKind.i64 ∧ IntKind.i64 = IntKind.i64 ∧ IntKind.i64 = IntKind.i64 ∧ (.slice x0 x0n x0c : Value) = .slice x0 x0n x0c ∧ (.pointer (some ⟨x3, 0, none⟩) : Value) = .pointer (some ⟨x3, 0, none⟩) ∧ true = true ∧ true = true ∧ ∃ n' : Nat, n' < n0 ∧ I0 n' (if (8 : Int) < (IntKind.wrap .i64 (x4 + 1)) then 8 else IntKind.wrap .i64 (x4 + 1)) (IntKind.wrap .i64 (x5 + 1)) m11))) (
 (!t9) = false ∧ (bcase (bif bif !((t9 : Bool) == (decide ((x4 : Int) < 8))) then true else false then true else false) (
 RetP R (.bool false) m11) (
 IntKind.i64 = IntKind.i64 ∧ IntKind.i64 = IntKind.i64 ∧ IntKind.i64 = IntKind.i64 ∧ (.slice x0 x0n x0c : Value) = .slice x0 x0n x0c ∧ (.pointer (some ⟨x3, 0, none⟩) : Value) = .pointer (some ⟨x3, 0, none⟩) ∧ true = true ∧ true = true ∧ ∃ n' : Nat, n' < n0 ∧ I0 n' (if (8 : Int) < (IntKind.wrap .i64 (x4 + 1)) then 8 else IntKind.wrap .i64 (x4 + 1)) (IntKind.wrap .i64 (x5 + 1)) m11))))))))))))) (
 (.slice x0 x0n x0c : Value) = .slice x0 x0n x0c ∧ (.pointer (some ⟨x3, 0, none⟩) : Value) = .pointer (some ⟨x3, 0, none⟩) ∧ E0_0  m))) (
 (decide ((x5 : Int) < ((x0n : Nat) : Int))) = false ∧ (.slice x0 x0n x0c : Value) = .slice x0 x0n x0c ∧ (.pointer (some ⟨x3, 0, none⟩) : Value) = .pointer (some ⟨x3, 0, none⟩) ∧ E0_0  m))))
 (h_e0 : ∀ (σ : Sg)  (m : AM), E0_0  m → (
 CallsA Try.prog w0 19 #[.pointer (some ⟨x3, 0, none⟩)] m fun r15 m16 =>
 ∃ i14 : Int, r15 = .int .i64 i14 ∧ IntKind.i64 = IntKind.i64 ∧ (bcase ((i14 : Int) == 0) (
 CallsA Try.prog w0 16 #[] m16 fun r18 m19 =>
 ∃ t17 : Bool, r18 = .bool t17 ∧ RetP R (.bool (bif (i14 : Int) == 0 then t17 else false)) m19) (
 ((i14 : Int) == 0) = false ∧ RetP R (.bool false) m16)))) :
 vcS Try.prog w0 qs4 (sub c4 [1, 1, 1, 0, 1, 0]) σ m (blockS 0 (thenS (fun σ m => vcS Try.prog w0 qs4 (sub c4 [1, 1, 1, 1]) σ m (retQ Try.prog Try.f4 R)) (retQ Try.prog Try.f4 R))) := by
  rw [show sub c4 [1, 1, 1, 0, 1, 0] = .loop (sub c4 [1, 1, 1, 0, 1, 0, 0]) from by kernel_rfl]
  refine loopQ (fun n0 σ m => σ 0 = .slice x0 x0n x0c ∧ σ 3 = .pointer (some ⟨x3, 0, none⟩) ∧ okI .i64 (σ 4) = true ∧ okI .i64 (σ 5) = true ∧ I0 n0 (vI (σ 4)) (vI (σ 5)) m) N (fun n0 => (lq4_111010 R x0 x0n x0c x3 I0 E0_0 n0)) ⟨h0, h3, (by rw [h4]; rfl), (by rw [h5]; rfl), (by rw [h4, h5]; exact h_0)⟩ ?_ ?_ ?_
  · rintro n0 σ m ⟨kk0, kk1, kk2, kk3, n', hlt, hI⟩; exact ⟨n', hlt, kk0, kk1, kk2, kk3, hI⟩
  · intro n0 e σ m hne h
    cases e with
    | normal => exact absurd rfl hne
    | ret => exact h
    | exit id =>
      by_cases e0 : id = 0
      · subst e0
        obtain ⟨kk0, kk1, hE⟩ := h
        have es : (upd (upd σ 0 (.slice x0 x0n x0c)) 3 (.pointer (some ⟨x3, 0, none⟩))) = σ := by rw [upd_id kk0, upd_id kk1]
        exact cast (congrArg (fun s => (blockS 0 (thenS (fun σ m => vcS Try.prog w0 qs4 (sub c4 [1, 1, 1, 1]) σ m (retQ Try.prog Try.f4 R)) (retQ Try.prog Try.f4 R))) (.exit 0) s m) es) (cast (by kernel_rfl) (h_e0 σ  m hE))
      · replace h := (if_neg e0 : (if id = 0 then _ else _) = _).mp h
        exact False.elim h
    | _ => exact False.elim h
  · rintro n0 σ m ⟨kk0, kk1, kk2, kk3, hI⟩
    have es : (upd (upd (upd (upd σ 0 (.slice x0 x0n x0c)) 3 (.pointer (some ⟨x3, 0, none⟩))) 4 (.int .i64 (vI (σ 4)))) 5 (.int .i64 (vI (σ 5)))) = σ := by rw [upd_id kk0, upd_id kk1, upd_id (ok_int kk2), upd_id (ok_int kk3)]
    exact cast (congrArg (fun s => vcS Try.prog w0 qs4 (sub c4 [1, 1, 1, 0, 1, 0, 0]) s m (lq4_111010 R x0 x0n x0c x3 I0 E0_0 n0)) es) (cast (by kernel_rfl) (h_s n0 σ (vI (σ 4)) (vI (σ 5)) m hI))

/-! 5 delayslot/delayslotlaw18.EmitShort -/
def qs5 : Nat → List (Nat × Nat) := fun i => match i with | _ => []
noncomputable def c5 : Code := bodyOf Try.f5
theorem cf5 (w0 : World) (m : AM) (x0 : Int) (x1 : Int) (R : Value → AM → Prop) (h :
 ∀ b1 : Nat, w0.heap.size ≤ b1 → m b1 = none → let m2 := AM.upd m b1 (.cells #[.slice none 0 0, .slice none 0 0, .int .i64 0] 27);
 IntKind.u8 = IntKind.u8 ∧ (32 : Int) ≠ 0 ∧ CallsA Try.prog w0 20 #[.pointer (some ⟨b1, 0, none⟩), .int .i64 (IntKind.wrap .i64 (Int.tmod x0 32)), .int .i64 x1] m2 fun r3 m4 =>
 r3 = .tuple #[] ∧ CallsA Try.prog w0 11 #[.pointer (some ⟨b1, 0, none⟩)] m4 fun r8 m9 =>
 ∃ (A5 : Option Addr) (n6 c7 : Nat), r8 = .slice A5 n6 c7 ∧ IntKind.i64 = IntKind.i64 ∧ (bcase (decide ((x1 : Int) ≥ (-32768))) (
 IntKind.i64 = IntKind.i64 ∧ (bcase (bif decide ((x1 : Int) ≥ (-32768)) then decide ((x1 : Int) ≤ 32767) else false) (
 vcS Try.prog w0 qs5 (sub c5 [1, 1, 1, 1, 1, 1, 0, 1, 0]) (upd (upd (upd (upd (upd (upd (upd (upd (upd (upd (upd (upd (upd (upd (upd (upd (upd (upd (upd (upd (argS [.int .u8 x0, .int .i64 x1]) 4 (.bool false)) 5 (.pointer (some ⟨b1, 0, none⟩))) 10 (.int .u8 x0)) 11 (.int .u8 (Int.tmod x0 32))) 12 (.int .i64 (IntKind.wrap .i64 (Int.tmod x0 32)))) 13 (.int .i64 x1)) 14 (.tuple #[])) 15 (.slice A5 n6 c7)) 6 (.slice A5 n6 c7)) 7 (.int .i64 2)) 16 (.int .i64 x1)) 17 (.bool (decide ((x1 : Int) ≥ (-32768))))) 18 (.bool (decide ((x1 : Int) ≥ (-32768))))) 19 (.int .i64 x1)) 20 (.bool (decide ((x1 : Int) ≤ 32767)))) 21 (.bool (bif decide ((x1 : Int) ≥ (-32768)) then decide ((x1 : Int) ≤ 32767) else false))) 7 (.int .i64 1)) 22 (.slice A5 n6 c7)) 23 (.int .i64 ((n6 : Nat) : Int))) 24 (.int .i64 0)) m9 (blockS 0 (thenS (fun σ m => vcS Try.prog w0 qs5 (sub c5 [1, 1, 1, 1, 1, 1, 1]) σ m (retQ Try.prog Try.f5 R)) (retQ Try.prog Try.f5 R)))) (
 vcS Try.prog w0 qs5 (sub c5 [1, 1, 1, 1, 1, 1, 0, 1, 0]) (upd (upd (upd (upd (upd (upd (upd (upd (upd (upd (upd (upd (upd (upd (upd (upd (upd (upd (upd (argS [.int .u8 x0, .int .i64 x1]) 4 (.bool false)) 5 (.pointer (some ⟨b1, 0, none⟩))) 10 (.int .u8 x0)) 11 (.int .u8 (Int.tmod x0 32))) 12 (.int .i64 (IntKind.wrap .i64 (Int.tmod x0 32)))) 13 (.int .i64 x1)) 14 (.tuple #[])) 15 (.slice A5 n6 c7)) 6 (.slice A5 n6 c7)) 7 (.int .i64 2)) 16 (.int .i64 x1)) 17 (.bool (decide ((x1 : Int) ≥ (-32768))))) 18 (.bool (decide ((x1 : Int) ≥ (-32768))))) 19 (.int .i64 x1)) 20 (.bool (decide ((x1 : Int) ≤ 32767)))) 21 (.bool (bif decide ((x1 : Int) ≥ (-32768)) then decide ((x1 : Int) ≤ 32767) else false))) 22 (.slice A5 n6 c7)) 23 (.int .i64 ((n6 : Nat) : Int))) 24 (.int .i64 0)) m9 (blockS 0 (thenS (fun σ m => vcS Try.prog w0 qs5 (sub c5 [1, 1, 1, 1, 1, 1, 1]) σ m (retQ Try.prog Try.f5 R)) (retQ Try.prog Try.f5 R)))))) (
 (decide ((x1 : Int) ≥ (-32768))) = false ∧ vcS Try.prog w0 qs5 (sub c5 [1, 1, 1, 1, 1, 1, 0, 1, 0]) (upd (upd (upd (upd (upd (upd (upd (upd (upd (upd (upd (upd (upd (upd (upd (upd (upd (upd (upd (argS [.int .u8 x0, .int .i64 x1]) 4 (.bool false)) 5 (.pointer (some ⟨b1, 0, none⟩))) 10 (.int .u8 x0)) 11 (.int .u8 (Int.tmod x0 32))) 12 (.int .i64 (IntKind.wrap .i64 (Int.tmod x0 32)))) 13 (.int .i64 x1)) 14 (.tuple #[])) 15 (.slice A5 n6 c7)) 6 (.slice A5 n6 c7)) 7 (.int .i64 2)) 16 (.int .i64 x1)) 17 (.bool (decide ((x1 : Int) ≥ (-32768))))) 18 (.bool (decide ((x1 : Int) ≥ (-32768))))) 19 (undef)) 20 (undef)) 21 (.bool false)) 22 (.slice A5 n6 c7)) 23 (.int .i64 ((n6 : Nat) : Int))) 24 (.int .i64 0)) m9 (blockS 0 (thenS (fun σ m => vcS Try.prog w0 qs5 (sub c5 [1, 1, 1, 1, 1, 1, 1]) σ m (retQ Try.prog Try.f5 R)) (retQ Try.prog Try.f5 R)))))) : CallsA Try.prog w0 5 #[.int .u8 x0, .int .i64 x1] m R :=
  callsA_of (c := c5) (args := [.int .u8 x0, .int .i64 x1]) (by kernel_rfl) Try.func5 (by kernel_rfl) qs5 (by kernel_rfl) (by kernel_rfl) (cast (by kernel_rfl) h)
def lq5_111111010 (R : Value → AM → Prop) (x0 : Int) (x5 : Nat) (x6 : Option Addr) (x6n x6c : Nat) (x7 : Int) (x22 : Option Addr) (x22n x22c : Nat) (x23 : Int) (I0 : Nat → Int → AM → Prop) (E0_0 : AM → Prop) (n0 : Nat) : Exit → Sg → AM → Prop
  | .normal, σ, m => σ 0 = .int .u8 x0 ∧ σ 5 = .pointer (some ⟨x5, 0, none⟩) ∧ σ 6 = .slice x6 x6n x6c ∧ σ 7 = .int .i64 x7 ∧ σ 22 = .slice x22 x22n x22c ∧ σ 23 = .int .i64 x23 ∧ okI .i64 (σ 24) = true ∧ ∃ n' : Nat, n' < n0 ∧ I0 n' (vI (σ 24)) m
  | .exit id, σ, m => if id = 0 then σ 0 = .int .u8 x0 ∧ σ 5 = .pointer (some ⟨x5, 0, none⟩) ∧ σ 6 = .slice x6 x6n x6c ∧ σ 7 = .int .i64 x7 ∧ σ 22 = .slice x22 x22n x22c ∧ σ 23 = .int .i64 x23 ∧ E0_0  m else False
  | .ret, σ, m => retQ Try.prog Try.f5 R .ret σ m
  | _, _, _ => False
theorem vl5_111111010 (w0 : World) (m : AM) (σ : Sg) (R : Value → AM → Prop)  (x0 : Int) (x5 : Nat) (x6 : Option Addr) (x6n x6c : Nat) (x7 : Int) (x22 : Option Addr) (x22n x22c : Nat) (x23 : Int) (x24 : Int) (I0 : Nat → Int → AM → Prop) (E0_0 : AM → Prop) (N : Nat) (h0 : σ 0 = .int .u8 x0) (h5 : σ 5 = .pointer (some ⟨x5, 0, none⟩)) (h6 : σ 6 = .slice x6 x6n x6c) (h7 : σ 7 = .int .i64 x7) (h22 : σ 22 = .slice x22 x22n x22c) (h23 : σ 23 = .int .i64 x23) (h24 : σ 24 = .int .i64 x24)
 (h_0 : I0 N x24 m)
 (h_s : ∀ (n0 : Nat) (σ : Sg) (x24 : Int) (m : AM), I0 n0 x24 m → (
 IntKind.i64 = IntKind.i64 ∧ (bcase (decide ((x24 : Int) < x23)) (
 ((0 : Int) ≤ x24 ∧ x24 < ((x22n : Nat) : Int)) ∧ nilO x22 fun a10 =>
 ∃ i11 : Int, m.cell (a10.add ((x24 : Int).toNat * 5)) = some (.int .i64 i11) ∧ ∃ i12 : Int, m.cell ((a10.add ((x24 : Int).toNat * 5)).add 1) = some (.int .i64 i12) ∧ ∃ i13 : Int, m.cell ((a10.add ((x24 : Int).toNat * 5)).add 2) = some (.int .i64 i13) ∧ ∃ i14 : Int, m.cell ((a10.add ((x24 : Int).toNat * 5)).add 3) = some (.int .i64 i14) ∧ ∃ i15 : Int, m.cell ((a10.add ((x24 : Int).toNat * 5)).add 4) = some (.int .i64 i15) ∧ 
 ∀ b16 : Nat, w0.heap.size ≤ b16 → m b16 = none → let m17 := AM.upd m b16 (.cells #[.int .i64 0, .int .i64 0, .int .i64 0, .int .i64 0, .int .i64 0] 23);
 StC w0.heap.size m17 ⟨b16, 0, none⟩ (.int .i64 i11) fun m18 =>
 StC w0.heap.size m18 ⟨b16, 1, none⟩ (.int .i64 i12) fun m19 =>
 StC w0.heap.size m19 ⟨b16, 2, none⟩ (.int .i64 i13) fun m20 =>
 StC w0.heap.size m20 ⟨b16, 3, none⟩ (.int .i64 i14) fun m21 =>
 StC w0.heap.size m21 ⟨b16, 4, none⟩ (.int .i64 i15) fun m22 =>
 ∃ i23 : Int, m22.cell ⟨b16, 0, none⟩ = some (.int .i64 i23) ∧ ∃ i24 : Int, m22.cell ⟨b16, 1, none⟩ = some (.int .i64 i24) ∧ ∃ i25 : Int, m22.cell ⟨b16, 2, none⟩ = some (.int .i64 i25) ∧ ∃ i26 : Int, m22.cell ⟨b16, 3, none⟩ = some (.int .i64 i26) ∧ ∃ i27 : Int, m22.cell ⟨b16, 4, none⟩ = some (.int .i64 i27) ∧ 
 CallsA Try.prog w0 21 #[.agg #[.int .i64 i23, .int .i64 i24, .int .i64 i25, .int .i64 i26, .int .i64 i27]] m22 fun r29 m30 =>
 ∃ t28 : Bool, r29 = .bool t28 ∧ (bcase (!t28) (
 (!t28) = true ∧ RetP R (.bool false) m30) (
 ∃ i31 : Int, m30.cell ⟨b16, 1, none⟩ = some (.int .i64 i31) ∧ 
 IntKind.u8 = IntKind.u8 ∧ (32 : Int) ≠ 0 ∧ IntKind.i64 = IntKind.i64 ∧ (bcase (bif !t28 then true else (i31 : Int) != (IntKind.wrap .i64 (Int.tmod x0 32))) (
 RetP R (.bool false) m30) (
 IntKind.i64 = IntKind.i64 ∧ (.int .u8 x0 : Value) = .int .u8 x0 ∧ (.pointer (some ⟨x5, 0, none⟩) : Value) = .pointer (some ⟨x5, 0, none⟩) ∧ (.slice x6 x6n x6c : Value) = .slice x6 x6n x6c ∧ (.int .i64 x7 : Value) = .int .i64 x7 ∧ (.slice x22 x22n x22c : Value) = .slice x22 x22n x22c ∧ (.int .i64 x23 : Value) = .int .i64 x23 ∧ true = true ∧ ∃ n' : Nat, n' < n0 ∧ I0 n' (IntKind.wrap .i64 (x24 + 1)) m30))))) (
 (.int .u8 x0 : Value) = .int .u8 x0 ∧ (.pointer (some ⟨x5, 0, none⟩) : Value) = .pointer (some ⟨x5, 0, none⟩) ∧ (.slice x6 x6n x6c : Value) = .slice x6 x6n x6c ∧ (.int .i64 x7 : Value) = .int .i64 x7 ∧ (.slice x22 x22n x22c : Value) = .slice x22 x22n x22c ∧ (.int .i64 x23 : Value) = .int .i64 x23 ∧ E0_0  m))))
 (h_e0 : ∀ (σ : Sg)  (m : AM), E0_0  m → (
 IntKind.i64 = IntKind.i64 ∧ (bcase ((((x6n : Nat) : Int) : Int) == x7) (
 CallsA Try.prog w0 15 #[.pointer (some ⟨x5, 0, none⟩)] m fun r35 m36 =>
 ∃ (A32 : Option Addr) (n33 c34 : Nat), r35 = .slice A32 n33 c34 ∧ IntKind.i64 = IntKind.i64 ∧ (bcase (bif (((x6n : Nat) : Int) : Int) == x7 then (((n33 : Nat) : Int) : Int) == 0 else false) (
 CallsA Try.prog w0 16 #[] m36 fun r38 m39 =>
 ∃ t37 : Bool, r38 = .bool t37 ∧ RetP R (.bool (bif bif (((x6n : Nat) : Int) : Int) == x7 then (((n33 : Nat) : Int) : Int) == 0 else false then t37 else false)) m39) (
 (bif (((x6n : Nat) : Int) : Int) == x7 then (((n33 : Nat) : Int) : Int) == 0 else false) = false ∧ RetP R (.bool false) m36))) (
 ((((x6n : Nat) : Int) : Int) == x7) = false ∧ false = false ∧ RetP R (.bool false) m)))) :
 vcS Try.prog w0 qs5 (sub c5 [1, 1, 1, 1, 1, 1, 0, 1, 0]) σ m (blockS 0 (thenS (fun σ m => vcS Try.prog w0 qs5 (sub c5 [1, 1, 1, 1, 1, 1, 1]) σ m (retQ Try.prog Try.f5 R)) (retQ Try.prog Try.f5 R))) := by
  rw [show sub c5 [1, 1, 1, 1, 1, 1, 0, 1, 0] = .loop (sub c5 [1, 1, 1, 1, 1, 1, 0, 1, 0, 0]) from by kernel_rfl]
  refine loopQ (fun n0 σ m => σ 0 = .int .u8 x0 ∧ σ 5 = .pointer (some ⟨x5, 0, none⟩) ∧ σ 6 = .slice x6 x6n x6c ∧ σ 7 = .int .i64 x7 ∧ σ 22 = .slice x22 x22n x22c ∧ σ 23 = .int .i64 x23 ∧ okI .i64 (σ 24) = true ∧ I0 n0 (vI (σ 24)) m) N (fun n0 => (lq5_111111010 R x0 x5 x6 x6n x6c x7 x22 x22n x22c x23 I0 E0_0 n0)) ⟨h0, h5, h6, h7, h22, h23, (by rw [h24]; rfl), (by rw [h24]; exact h_0)⟩ ?_ ?_ ?_
  · rintro n0 σ m ⟨kk0, kk1, kk2, kk3, kk4, kk5, kk6, n', hlt, hI⟩; exact ⟨n', hlt, kk0, kk1, kk2, kk3, kk4, kk5, kk6, hI⟩
  · intro n0 e σ m hne h
    cases e with
    | normal => exact absurd rfl hne
    | ret => exact h
    | exit id =>
      by_cases e0 : id = 0
      · subst e0
        obtain ⟨kk0, kk1, kk2, kk3, kk4, kk5, hE⟩ := h
        have es : (upd (upd (upd (upd (upd (upd σ 0 (.int .u8 x0)) 5 (.pointer (some ⟨x5, 0, none⟩))) 6 (.slice x6 x6n x6c)) 7 (.int .i64 x7)) 22 (.slice x22 x22n x22c)) 23 (.int .i64 x23)) = σ := by rw [upd_id kk0, upd_id kk1, upd_id kk2, upd_id kk3, upd_id kk4, upd_id kk5]
        exact cast (congrArg (fun s => (blockS 0 (thenS (fun σ m => vcS Try.prog w0 qs5 (sub c5 [1, 1, 1, 1, 1, 1, 1]) σ m (retQ Try.prog Try.f5 R)) (retQ Try.prog Try.f5 R))) (.exit 0) s m) es) (cast (by kernel_rfl) (h_e0 σ  m hE))
      · replace h := (if_neg e0 : (if id = 0 then _ else _) = _).mp h
        exact False.elim h
    | _ => exact False.elim h
  · rintro n0 σ m ⟨kk0, kk1, kk2, kk3, kk4, kk5, kk6, hI⟩
    have es : (upd (upd (upd (upd (upd (upd (upd σ 0 (.int .u8 x0)) 5 (.pointer (some ⟨x5, 0, none⟩))) 6 (.slice x6 x6n x6c)) 7 (.int .i64 x7)) 22 (.slice x22 x22n x22c)) 23 (.int .i64 x23)) 24 (.int .i64 (vI (σ 24)))) = σ := by rw [upd_id kk0, upd_id kk1, upd_id kk2, upd_id kk3, upd_id kk4, upd_id kk5, upd_id (ok_int kk6)]
    exact cast (congrArg (fun s => vcS Try.prog w0 qs5 (sub c5 [1, 1, 1, 1, 1, 1, 0, 1, 0, 0]) s m (lq5_111111010 R x0 x5 x6 x6n x6c x7 x22 x22n x22c x23 I0 E0_0 n0)) es) (cast (by kernel_rfl) (h_s n0 σ (vI (σ 24)) m hI))

/-! 7 delayslot/delayslotlaw18.EmitPatches -/
def qs7 : Nat → List (Nat × Nat) := fun i => match i with | 15 => [(6, 2)] | _ => []
noncomputable def c7 : Code := bodyOf Try.f7
theorem cf7 (w0 : World) (m : AM) (x0 : Option Addr) (x0n x0c : Nat) (R : Value → AM → Prop) (h :
 ∀ b1 : Nat, w0.heap.size ≤ b1 → m b1 = none → let m2 := AM.upd m b1 (.cells #[.slice none 0 0, .slice none 0 0, .int .i64 0] 27);
 vcS Try.prog w0 qs7 (sub c7 [1, 1, 1, 0, 1, 0]) (upd (upd (upd (upd (argS [.slice x0 x0n x0c]) 2 (.bool false)) 3 (.pointer (some ⟨b1, 0, none⟩))) 4 (.int .i64 0)) 5 (.int .i64 0)) m2 (blockS 0 (thenS (fun σ m => vcS Try.prog w0 qs7 (sub c7 [1, 1, 1, 1]) σ m (retQ Try.prog Try.f7 R)) (retQ Try.prog Try.f7 R)))) : CallsA Try.prog w0 7 #[.slice x0 x0n x0c] m R :=
  callsA_of (c := c7) (args := [.slice x0 x0n x0c]) (by kernel_rfl) Try.func7 (by kernel_rfl) qs7 (by kernel_rfl) (by kernel_rfl) (cast (by kernel_rfl) h)
def lq7_111010 (R : Value → AM → Prop) (x0 : Option Addr) (x0n x0c : Nat) (x3 : Nat) (I0 : Nat → Int → Int → AM → Prop) (E0_0 : Int → AM → Prop) (n0 : Nat) : Exit → Sg → AM → Prop
  | .normal, σ, m => σ 0 = .slice x0 x0n x0c ∧ σ 3 = .pointer (some ⟨x3, 0, none⟩) ∧ okI .i64 (σ 4) = true ∧ okI .i64 (σ 5) = true ∧ ∃ n' : Nat, n' < n0 ∧ I0 n' (vI (σ 4)) (vI (σ 5)) m
  | .exit id, σ, m => if id = 0 then σ 0 = .slice x0 x0n x0c ∧ σ 3 = .pointer (some ⟨x3, 0, none⟩) ∧ okI .i64 (σ 4) = true ∧ E0_0 (vI (σ 4)) m else False
  | .ret, σ, m => retQ Try.prog Try.f7 R .ret σ m
  | _, _, _ => False
theorem vl7_111010 (w0 : World) (m : AM) (σ : Sg) (R : Value → AM → Prop)  (x0 : Option Addr) (x0n x0c : Nat) (x3 : Nat) (x4 : Int) (x5 : Int) (I0 : Nat → Int → Int → AM → Prop) (E0_0 : Int → AM → Prop) (N : Nat) (h0 : σ 0 = .slice x0 x0n x0c) (h3 : σ 3 = .pointer (some ⟨x3, 0, none⟩)) (h4 : σ 4 = .int .i64 x4) (h5 : σ 5 = .int .i64 x5)
 (h_0 : I0 N x4 x5 m)
 (h_s : ∀ (n0 : Nat) (σ : Sg) (x4 : Int) (x5 : Int) (m : AM), I0 n0 x4 x5 m → (
 IntKind.i64 = IntKind.i64 ∧ (bcase (decide ((x5 : Int) < ((x0n : Nat) : Int))) (
 IntKind.i64 = IntKind.i64 ∧ (bcase (bif decide ((x5 : Int) < ((x0n : Nat) : Int)) then decide ((x5 : Int) < 60) else false) (
 ((0 : Int) ≤ x5 ∧ x5 < ((x0n : Nat) : Int)) ∧ nilO x0 fun a3 =>
 ∃ i4 : Int, m.cell (a3.add ((x5 : Int).toNat * 8)) = some (.int .i64 i4) ∧ ∃ i5 : Int, m.cell ((a3.add ((x5 : Int).toNat * 8)).add 1) = some (.int .i64 i5) ∧ ∃ i6 : Int, m.cell ((a3.add ((x5 : Int).toNat * 8)).add 2) = some (.int .i64 i6) ∧ ∃ i7 : Int, m.cell ((a3.add ((x5 : Int).toNat * 8)).add 3) = some (.int .i64 i7) ∧ ∃ i8 : Int, m.cell ((a3.add ((x5 : Int).toNat * 8)).add 4) = some (.int .i64 i8) ∧ ∃ i9 : Int, m.cell ((a3.add ((x5 : Int).toNat * 8)).add 5) = some (.int .i64 i9) ∧ ∃ i10 : Int, m.cell ((a3.add ((x5 : Int).toNat * 8)).add 6) = some (.int .i64 i10) ∧ ∃ i11 : Int, m.cell ((a3.add ((x5 : Int).toNat * 8)).add 7) = some (.int .i64 i11) ∧ 
 ∀ b12 : Nat, w0.heap.size ≤ b12 → m b12 = none → let m13 := AM.upd m b12 (.cells #[.int .i64 0, .int .i64 0, .int .i64 0, .int .i64 0, .int .i64 0, .int .i64 0, .int .i64 0, .int .i64 0] 50);
 StC w0.heap.size m13 ⟨b12, 0, none⟩ (.int .i64 i4) fun m14 =>
 StC w0.heap.size m14 ⟨b12, 1, none⟩ (.int .i64 i5) fun m15 =>
 StC w0.heap.size m15 ⟨b12, 2, none⟩ (.int .i64 i6) fun m16 =>
 StC w0.heap.size m16 ⟨b12, 3, none⟩ (.int .i64 i7) fun m17 =>
 StC w0.heap.size m17 ⟨b12, 4, none⟩ (.int .i64 i8) fun m18 =>
 StC w0.heap.size m18 ⟨b12, 5, none⟩ (.int .i64 i9) fun m19 =>
 StC w0.heap.size m19 ⟨b12, 6, none⟩ (.int .i64 i10) fun m20 =>
 StC w0.heap.size m20 ⟨b12, 7, none⟩ (.int .i64 i11) fun m21 =>
 ∃ i22 : Int, m21.cell ⟨b12, 3, none⟩ = some (.int .i64 i22) ∧ 
 IntKind.i64 = IntKind.i64 ∧ (bcase ((i22 : Int) == 17) (
 ((i22 : Int) == 17) = true ∧ ∃ i23 : Int, m21.cell ⟨b12, 0, none⟩ = some (.int .i64 i23) ∧ 
 IntKind.i64 = IntKind.i64 ∧ (bcase ((i23 : Int) == 1) (
 ((i23 : Int) == 1) = true ∧ IntKind.i64 = IntKind.i64 ∧ ∃ i24 : Int, m21.cell ⟨b12, 0, none⟩ = some (.int .i64 i24) ∧ ∃ i25 : Int, m21.cell ⟨b12, 1, none⟩ = some (.int .i64 i25) ∧ ∃ i26 : Int, m21.cell ⟨b12, 2, none⟩ = some (.int .i64 i26) ∧ ∃ i27 : Int, m21.cell ⟨b12, 3, none⟩ = some (.int .i64 i27) ∧ ∃ i28 : Int, m21.cell ⟨b12, 4, none⟩ = some (.int .i64 i28) ∧ ∃ i29 : Int, m21.cell ⟨b12, 5, none⟩ = some (.int .i64 i29) ∧ ∃ i30 : Int, m21.cell ⟨b12, 6, none⟩ = some (.int .i64 i30) ∧ ∃ i31 : Int, m21.cell ⟨b12, 7, none⟩ = some (.int .i64 i31) ∧ 
 CallsA Try.prog w0 23 #[.pointer (some ⟨x3, 0, none⟩), .agg #[.int .i64 i24, .int .i64 i25, .int .i64 i26, .int .i64 i27, .int .i64 i28, .int .i64 i29, .int .i64 i30, .int .i64 i31]] m21 fun r34 m35 =>
 ∃ i32 : Int, ∃ t33 : Bool, r34 = .tuple #[.int .i64 i32, .bool t33] ∧ IntKind.i64 = IntKind.i64 ∧ (.slice x0 x0n x0c : Value) = .slice x0 x0n x0c ∧ (.pointer (some ⟨x3, 0, none⟩) : Value) = .pointer (some ⟨x3, 0, none⟩) ∧ true = true ∧ true = true ∧ ∃ n' : Nat, n' < n0 ∧ I0 n' (IntKind.wrap .i64 (x4 + 1)) (IntKind.wrap .i64 (x5 + 1)) m35) (
 ∃ i36 : Int, m21.cell ⟨b12, 0, none⟩ = some (.int .i64 i36) ∧ 
 IntKind.i64 = IntKind.i64 ∧ (bcase ((i36 : Int) == 2) (
 ((i36 : Int) == 2) = true ∧ (bcase (bif (i23 : Int) == 1 then true else bif true then true else false) (
 IntKind.i64 = IntKind.i64 ∧ ∃ i37 : Int, m21.cell ⟨b12, 0, none⟩ = some (.int .i64 i37) ∧ ∃ i38 : Int, m21.cell ⟨b12, 1, none⟩ = some (.int .i64 i38) ∧ ∃ i39 : Int, m21.cell ⟨b12, 2, none⟩ = some (.int .i64 i39) ∧ ∃ i40 : Int, m21.cell ⟨b12, 3, none⟩ = some (.int .i64 i40) ∧ ∃ i41 : Int, m21.cell ⟨b12, 4, none⟩ = some (.int .i64 i41) ∧ ∃ i42 : Int, m21.cell ⟨b12, 5, none⟩ = some (.int .i64 i42) ∧ ∃ i43 : Int, m21.cell ⟨b12, 6, none⟩ = some (.int .i64 i43) ∧ ∃ i44 : Int, m21.cell ⟨b12, 7, none⟩ = some (.int .i64 i44) ∧ 
 CallsA Try.prog w0 23 #[.pointer (some ⟨x3, 0, none⟩), .agg #[.int .i64 i37, .int .i64 i38, .int .i64 i39, .int .i64 i40, .int .i64 i41, .int .i64 i42, .int .i64 i43, .int .i64 i44]] m21 fun r47 m48 =>
 ∃ i45 : Int, ∃ t46 : Bool, r47 = .tuple #[.int .i64 i45, .bool t46] ∧ IntKind.i64 = IntKind.i64 ∧ (.slice x0 x0n x0c : Value) = .slice x0 x0n x0c ∧ (.pointer (some ⟨x3, 0, none⟩) : Value) = .pointer (some ⟨x3, 0, none⟩) ∧ true = true ∧ true = true ∧ ∃ n' : Nat, n' < n0 ∧ I0 n' (IntKind.wrap .i64 (x4 + 1)) (IntKind.wrap .i64 (x5 + 1)) m48) (
 ∃ i49 : Int, m21.cell ⟨b12, 0, none⟩ = some (.int .i64 i49) ∧ ∃ i50 : Int, m21.cell ⟨b12, 1, none⟩ = some (.int .i64 i50) ∧ ∃ i51 : Int, m21.cell ⟨b12, 2, none⟩ = some (.int .i64 i51) ∧ ∃ i52 : Int, m21.cell ⟨b12, 3, none⟩ = some (.int .i64 i52) ∧ ∃ i53 : Int, m21.cell ⟨b12, 4, none⟩ = some (.int .i64 i53) ∧ ∃ i54 : Int, m21.cell ⟨b12, 5, none⟩ = some (.int .i64 i54) ∧ ∃ i55 : Int, m21.cell ⟨b12, 6, none⟩ = some (.int .i64 i55) ∧ ∃ i56 : Int, m21.cell ⟨b12, 7, none⟩ = some (.int .i64 i56) ∧ 
 CallsA Try.prog w0 23 #[.pointer (some ⟨x3, 0, none⟩), .agg #[.int .i64 i49, .int .i64 i50, .int .i64 i51, .int .i64 i52, .int .i64 i53, .int .i64 i54, .int .i64 i55, .int .i64 i56]] m21 fun r59 m60 =>
 ∃ i57 : Int, ∃ t58 : Bool, r59 = .tuple #[.int .i64 i57, .bool t58] ∧ IntKind.i64 = IntKind.i64 ∧ (.slice x0 x0n x0c : Value) = .slice x0 x0n x0c ∧ (.pointer (some ⟨x3, 0, none⟩) : Value) = .pointer (some ⟨x3, 0, none⟩) ∧ true = true ∧ true = true ∧ ∃ n' : Nat, n' < n0 ∧ I0 n' x4 (IntKind.wrap .i64 (x5 + 1)) m60))) (
 ∃ i61 : Int, m21.cell ⟨b12, 0, none⟩ = some (.int .i64 i61) ∧ 
 IntKind.i64 = IntKind.i64 ∧ (bcase (bif (i36 : Int) == 2 then true else (i61 : Int) == 4) (
 (bcase (bif (i23 : Int) == 1 then true else bif bif (i36 : Int) == 2 then true else (i61 : Int) == 4 then true else false) (
 IntKind.i64 = IntKind.i64 ∧ ∃ i62 : Int, m21.cell ⟨b12, 0, none⟩ = some (.int .i64 i62) ∧ ∃ i63 : Int, m21.cell ⟨b12, 1, none⟩ = some (.int .i64 i63) ∧ ∃ i64 : Int, m21.cell ⟨b12, 2, none⟩ = some (.int .i64 i64) ∧ ∃ i65 : Int, m21.cell ⟨b12, 3, none⟩ = some (.int .i64 i65) ∧ ∃ i66 : Int, m21.cell ⟨b12, 4, none⟩ = some (.int .i64 i66) ∧ ∃ i67 : Int, m21.cell ⟨b12, 5, none⟩ = some (.int .i64 i67) ∧ ∃ i68 : Int, m21.cell ⟨b12, 6, none⟩ = some (.int .i64 i68) ∧ ∃ i69 : Int, m21.cell ⟨b12, 7, none⟩ = some (.int .i64 i69) ∧ 
 CallsA Try.prog w0 23 #[.pointer (some ⟨x3, 0, none⟩), .agg #[.int .i64 i62, .int .i64 i63, .int .i64 i64, .int .i64 i65, .int .i64 i66, .int .i64 i67, .int .i64 i68, .int .i64 i69]] m21 fun r72 m73 =>
 ∃ i70 : Int, ∃ t71 : Bool, r72 = .tuple #[.int .i64 i70, .bool t71] ∧ IntKind.i64 = IntKind.i64 ∧ (.slice x0 x0n x0c : Value) = .slice x0 x0n x0c ∧ (.pointer (some ⟨x3, 0, none⟩) : Value) = .pointer (some ⟨x3, 0, none⟩) ∧ true = true ∧ true = true ∧ ∃ n' : Nat, n' < n0 ∧ I0 n' (IntKind.wrap .i64 (x4 + 1)) (IntKind.wrap .i64 (x5 + 1)) m73) (
 ∃ i74 : Int, m21.cell ⟨b12, 0, none⟩ = some (.int .i64 i74) ∧ ∃ i75 : Int, m21.cell ⟨b12, 1, none⟩ = some (.int .i64 i75) ∧ ∃ i76 : Int, m21.cell ⟨b12, 2, none⟩ = some (.int .i64 i76) ∧ ∃ i77 : Int, m21.cell ⟨b12, 3, none⟩ = some (.int .i64 i77) ∧ ∃ i78 : Int, m21.cell ⟨b12, 4, none⟩ = some (.int .i64 i78) ∧ ∃ i79 : Int, m21.cell ⟨b12, 5, none⟩ = some (.int .i64 i79) ∧ ∃ i80 : Int, m21.cell ⟨b12, 6, none⟩ = some (.int .i64 i80) ∧ ∃ i81 : Int, m21.cell ⟨b12, 7, none⟩ = some (.int .i64 i81) ∧ 
 CallsA Try.prog w0 23 #[.pointer (some ⟨x3, 0, none⟩), .agg #[.int .i64 i74, .int .i64 i75, .int .i64 i76, .int .i64 i77, .int .i64 i78, .int .i64 i79, .int .i64 i80, .int .i64 i81]] m21 fun r84 m85 =>
 ∃ i82 : Int, ∃ t83 : Bool, r84 = .tuple #[.int .i64 i82, .bool t83] ∧ IntKind.i64 = IntKind.i64 ∧ (.slice x0 x0n x0c : Value) = .slice x0 x0n x0c ∧ (.pointer (some ⟨x3, 0, none⟩) : Value) = .pointer (some ⟨x3, 0, none⟩) ∧ true = true ∧ true = true ∧ ∃ n' : Nat, n' < n0 ∧ I0 n' x4 (IntKind.wrap .i64 (x5 + 1)) m85))) (
 (bif (i36 : Int) == 2 then true else (i61 : Int) == 4) = false ∧ (bcase (bif (i23 : Int) == 1 then true else false) (
 IntKind.i64 = IntKind.i64 ∧ ∃ i86 : Int, m21.cell ⟨b12, 0, none⟩ = some (.int .i64 i86) ∧ ∃ i87 : Int, m21.cell ⟨b12, 1, none⟩ = some (.int .i64 i87) ∧ ∃ i88 : Int, m21.cell ⟨b12, 2, none⟩ = some (.int .i64 i88) ∧ ∃ i89 : Int, m21.cell ⟨b12, 3, none⟩ = some (.int .i64 i89) ∧ ∃ i90 : Int, m21.cell ⟨b12, 4, none⟩ = some (.int .i64 i90) ∧ ∃ i91 : Int, m21.cell ⟨b12, 5, none⟩ = some (.int .i64 i91) ∧ ∃ i92 : Int, m21.cell ⟨b12, 6, none⟩ = some (.int .i64 i92) ∧ ∃ i93 : Int, m21.cell ⟨b12, 7, none⟩ = some (.int .i64 i93) ∧ 
 CallsA Try.prog w0 23 #[.pointer (some ⟨x3, 0, none⟩), .agg #[.int .i64 i86, .int .i64 i87, .int .i64 i88, .int .i64 i89, .int .i64 i90, .int .i64 i91, .int .i64 i92, .int .i64 i93]] m21 fun r96 m97 =>
 ∃ i94 : Int, ∃ t95 : Bool, r96 = .tuple #[.int .i64 i94, .bool t95] ∧ IntKind.i64 = IntKind.i64 ∧ (.slice x0 x0n x0c : Value) = .slice x0 x0n x0c ∧ (.pointer (some ⟨x3, 0, none⟩) : Value) = .pointer (some ⟨x3, 0, none⟩) ∧ true = true ∧ true = true ∧ ∃ n' : Nat, n' < n0 ∧ I0 n' (IntKind.wrap .i64 (x4 + 1)) (IntKind.wrap .i64 (x5 + 1)) m97) (
 ∃ i98 : Int, m21.cell ⟨b12, 0, none⟩ = some (.int .i64 i98) ∧ ∃ i99 : Int, m21.cell ⟨b12, 1, none⟩ = some (.int .i64 i99) ∧ ∃ i100 : Int, m21.cell ⟨b12, 2, none⟩ = some (.int .i64 i100) ∧ ∃ i101 : Int, m21.cell ⟨b12, 3, none⟩ = some (.int .i64 i101) ∧ ∃ i102 : Int, m21.cell ⟨b12, 4, none⟩ = some (.int .i64 i102) ∧ ∃ i103 : Int, m21.cell ⟨b12, 5, none⟩ = some (.int .i64 i103) ∧ ∃ i104 : Int, m21.cell ⟨b12, 6, none⟩ = some (.int .i64 i104) ∧ ∃ i105 : Int, m21.cell ⟨b12, 7, none⟩ = some (.int .i64 i105) ∧ 
 CallsA Try.prog w0 23 #[.pointer (some ⟨x3, 0, none⟩), .agg #[.int .i64 i98, .int .i64 i99, .int .i64 i100, .int .i64 i101, .int .i64 i102, .int .i64 i103, .int .i64 i104, .int .i64 i105]] m21 fun r108 m109 =>
 ∃ i106 : Int, ∃ t107 : Bool, r108 = .tuple #[.int .i64 i106, .bool t107] ∧ IntKind.i64 = IntKind.i64 ∧ (.slice x0 x0n x0c : Value) = .slice x0 x0n x0c ∧ (.pointer (some ⟨x3, 0, none⟩) : Value) = .pointer (some ⟨x3, 0, none⟩) ∧ true = true ∧ true = true ∧ ∃ n' : Nat, n' < n0 ∧ I0 n' x4 (IntKind.wrap .i64 (x5 + 1)) m109))))))))) (
 ∃ i110 : Int, m21.cell ⟨b12, 3, none⟩ = some (.int .i64 i110) ∧ 
 IntKind.i64 = IntKind.i64 ∧ ∃ i111 : Int, m21.cell ⟨b12, 0, none⟩ = some (.int .i64 i111) ∧ 
 IntKind.i64 = IntKind.i64 ∧ (bcase ((i111 : Int) == 1) (
 ((i111 : Int) == 1) = true ∧ IntKind.i64 = IntKind.i64 ∧ ∃ i112 : Int, m21.cell ⟨b12, 0, none⟩ = some (.int .i64 i112) ∧ ∃ i113 : Int, m21.cell ⟨b12, 1, none⟩ = some (.int .i64 i113) ∧ ∃ i114 : Int, m21.cell ⟨b12, 2, none⟩ = some (.int .i64 i114) ∧ ∃ i115 : Int, m21.cell ⟨b12, 3, none⟩ = some (.int .i64 i115) ∧ ∃ i116 : Int, m21.cell ⟨b12, 4, none⟩ = some (.int .i64 i116) ∧ ∃ i117 : Int, m21.cell ⟨b12, 5, none⟩ = some (.int .i64 i117) ∧ ∃ i118 : Int, m21.cell ⟨b12, 6, none⟩ = some (.int .i64 i118) ∧ ∃ i119 : Int, m21.cell ⟨b12, 7, none⟩ = some (.int .i64 i119) ∧ 
 CallsA Try.prog w0 23 #[.pointer (some ⟨x3, 0, none⟩), .agg #[.int .i64 i112, .int .i64 i113, .int .i64 i114, .int .i64 i115, .int .i64 i116, .int .i64 i117, .int .i64 i118, .int .i64 i119]] m21 fun r122 m123 =>
 ∃ i120 : Int, ∃ t121 : Bool, r122 = .tuple #[.int .i64 i120, .bool t121] ∧ IntKind.i64 = IntKind.i64 ∧ (.slice x0 x0n x0c : Value) = .slice x0 x0n x0c ∧ (.pointer (some ⟨x3, 0, none⟩) : Value) = .pointer (some ⟨x3, 0, none⟩) ∧ true = true ∧ true = true ∧ ∃ n' : Nat, n' < n0 ∧ I0 n' (IntKind.wrap .i64 (x4 + 1)) (IntKind.wrap .i64 (x5 + 1)) m123) (
 ∃ i124 : Int, m21.cell ⟨b12, 0, none⟩ = some (.int .i64 i124) ∧ 
 IntKind.i64 = IntKind.i64 ∧ (bcase ((i124 : Int) == 2) (
 ((i124 : Int) == 2) = true ∧ (bcase (bif (i111 : Int) == 1 then true else bif true then bif (i22 : Int) == 17 then true else (i110 : Int) == 18 else false) (
 IntKind.i64 = IntKind.i64 ∧ ∃ i125 : Int, m21.cell ⟨b12, 0, none⟩ = some (.int .i64 i125) ∧ ∃ i126 : Int, m21.cell ⟨b12, 1, none⟩ = some (.int .i64 i126) ∧ ∃ i127 : Int, m21.cell ⟨b12, 2, none⟩ = some (.int .i64 i127) ∧ ∃ i128 : Int, m21.cell ⟨b12, 3, none⟩ = some (.int .i64 i128) ∧ ∃ i129 : Int, m21.cell ⟨b12, 4, none⟩ = some (.int .i64 i129) ∧ ∃ i130 : Int, m21.cell ⟨b12, 5, none⟩ = some (.int .i64 i130) ∧ ∃ i131 : Int, m21.cell ⟨b12, 6, none⟩ = some (.int .i64 i131) ∧ ∃ i132 : Int, m21.cell ⟨b12, 7, none⟩ = some (.int .i64 i132) ∧ 
 CallsA Try.prog w0 23 #[.pointer (some ⟨x3, 0, none⟩), .agg #[.int .i64 i125, .int .i64 i126, .int .i64 i127, .int .i64 i128, .int .i64 i129, .int .i64 i130, .int .i64 i131, .int .i64 i132]] m21 fun r135 m136 =>
 ∃ i133 : Int, ∃ t134 : Bool, r135 = .tuple #[.int .i64 i133, .bool t134] ∧ IntKind.i64 = IntKind.i64 ∧ (.slice x0 x0n x0c : Value) = .slice x0 x0n x0c ∧ (.pointer (some ⟨x3, 0, none⟩) : Value) = .pointer (some ⟨x3, 0, none⟩) ∧ true = true ∧ true = true ∧ ∃ n' : Nat, n' < n0 ∧ I0 n' (IntKind.wrap .i64 (x4 + 1)) (IntKind.wrap .i64 (x5 + 1)) m136) (
 ∃ i137 : Int, m21.cell ⟨b12, 0, none⟩ = some (.int .i64 i137) ∧ ∃ i138 : Int, m21.cell ⟨b12, 1, none⟩ = some (.int .i64 i138) ∧ ∃ i139 : Int, m21.cell ⟨b12, 2, none⟩ = some (.int .i64 i139) ∧ ∃ i140 : Int, m21.cell ⟨b12, 3, none⟩ = some (.int .i64 i140) ∧ ∃ i141 : Int, m21.cell ⟨b12, 4, none⟩ = some (.int .i64 i141) ∧ ∃ i142 : Int, m21.cell ⟨b12, 5, none⟩ = some (.int .i64 i142) ∧ ∃ i143 : Int, m21.cell ⟨b12, 6, none⟩ = some (.int .i64 i143) ∧ ∃ i144 : Int, m21.cell ⟨b12, 7, none⟩ = some (.int .i64 i144) ∧ 
 CallsA Try.prog w0 23 #[.pointer (some ⟨x3, 0, none⟩), .agg #[.int .i64 i137, .int .i64 i138, .int .i64 i139, .int .i64 i140, .int .i64 i141, .int .i64 i142, .int .i64 i143, .int .i64 i144]] m21 fun r147 m148 =>
 ∃ i145 : Int, ∃ t146 : Bool, r147 = .tuple #[.int .i64 i145, .bool t146] ∧ IntKind.i64 = IntKind.i64 ∧ (.slice x0 x0n x0c : Value) = .slice x0 x0n x0c ∧ (.pointer (some ⟨x3, 0, none⟩) : Value) = .pointer (some ⟨x3, 0, none⟩) ∧ true = true ∧ true = true ∧ ∃ n' : Nat, n' < n0 ∧ I0 n' x4 (IntKind.wrap .i64 (x5 + 1)) m148))) (
 ∃ i149 : Int, m21.cell ⟨b12, 0, none⟩ = some (.int .i64 i149) ∧ 
 IntKind.i64 = IntKind.i64 ∧ (bcase (bif (i124 : Int) == 2 then true else (i149 : Int) == 4) (
 (bcase (bif (i111 : Int) == 1 then true else bif bif (i124 : Int) == 2 then true else (i149 : Int) == 4 then bif (i22 : Int) == 17 then true else (i110 : Int) == 18 else false) (
 IntKind.i64 = IntKind.i64 ∧ ∃ i150 : Int, m21.cell ⟨b12, 0, none⟩ = some (.int .i64 i150) ∧ ∃ i151 : Int, m21.cell ⟨b12, 1, none⟩ = some (.int .i64 i151) ∧ ∃ i152 : Int, m21.cell ⟨b12, 2, none⟩ = some (.int .i64 i152) ∧ ∃ i153 : Int, m21.cell ⟨b12, 3, none⟩ = some (.int .i64 i153) ∧ ∃ i154 : Int, m21.cell ⟨b12, 4, none⟩ = some (.int .i64 i154) ∧ ∃ i155 : Int, m21.cell ⟨b12, 5, none⟩ = some (.int .i64 i155) ∧ ∃ i156 : Int, m21.cell ⟨b12, 6, none⟩ = some (.int .i64 i156) ∧ ∃ i157 : Int, m21.cell ⟨b12, 7, none⟩ = some (.int .i64 i157) ∧ 
 CallsA Try.prog w0 23 #[.pointer (some ⟨x3, 0, none⟩), .agg #[.int .i64 i150, .int .i64 i151, .int .i64 i152, .int .i64 i153, .int .i64 i154, .int .i64 i155, .int .i64 i156, .int .i64 i157]] m21 fun r160 m161 =>
 ∃ i158 : Int, ∃ t159 : Bool, r160 = .tuple #[.int .i64 i158, .bool t159] ∧ IntKind.i64 = IntKind.i64 ∧ (.slice x0 x0n x0c : Value) = .slice x0 x0n x0c ∧ (.pointer (some ⟨x3, 0, none⟩) : Value) = .pointer (some ⟨x3, 0, none⟩) ∧ true = true ∧ true = true ∧ ∃ n' : Nat, n' < n0 ∧ I0 n' (IntKind.wrap .i64 (x4 + 1)) (IntKind.wrap .i64 (x5 + 1)) m161) (
 ∃ i162 : Int, m21.cell ⟨b12, 0, none⟩ = some (.int .i64 i162) ∧ ∃ i163 : Int, m21.cell ⟨b12, 1, none⟩ = some (.int .i64 i163) ∧ ∃ i164 : Int, m21.cell ⟨b12, 2, none⟩ = some (.int .i64 i164) ∧ ∃ i165 : Int, m21.cell ⟨b12, 3, none⟩ = some (.int .i64 i165) ∧ ∃ i166 : Int, m21.cell ⟨b12, 4, none⟩ = some (.int .i64 i166) ∧ ∃ i167 : Int, m21.cell ⟨b12, 5, none⟩ = some (.int .i64 i167) ∧ ∃ i168 : Int, m21.cell ⟨b12, 6, none⟩ = some (.int .i64 i168) ∧ ∃ i169 : Int, m21.cell ⟨b12, 7, none⟩ = some (.int .i64 i169) ∧ 
 CallsA Try.prog w0 23 #[.pointer (some ⟨x3, 0, none⟩), .agg #[.int .i64 i162, .int .i64 i163, .int .i64 i164, .int .i64 i165, .int .i64 i166, .int .i64 i167, .int .i64 i168, .int .i64 i169]] m21 fun r172 m173 =>
 ∃ i170 : Int, ∃ t171 : Bool, r172 = .tuple #[.int .i64 i170, .bool t171] ∧ IntKind.i64 = IntKind.i64 ∧ (.slice x0 x0n x0c : Value) = .slice x0 x0n x0c ∧ (.pointer (some ⟨x3, 0, none⟩) : Value) = .pointer (some ⟨x3, 0, none⟩) ∧ true = true ∧ true = true ∧ ∃ n' : Nat, n' < n0 ∧ I0 n' x4 (IntKind.wrap .i64 (x5 + 1)) m173))) (
 (bif (i124 : Int) == 2 then true else (i149 : Int) == 4) = false ∧ (bcase (bif (i111 : Int) == 1 then true else false) (
 IntKind.i64 = IntKind.i64 ∧ ∃ i174 : Int, m21.cell ⟨b12, 0, none⟩ = some (.int .i64 i174) ∧ ∃ i175 : Int, m21.cell ⟨b12, 1, none⟩ = some (.int .i64 i175) ∧ ∃ i176 : Int, m21.cell ⟨b12, 2, none⟩ = some (.int .i64 i176) ∧ ∃ i177 : Int, m21.cell ⟨b12, 3, none⟩ = some (.int .i64 i177) ∧ ∃ i178 : Int, m21.cell ⟨b12, 4, none⟩ = some (.int .i64 i178) ∧ ∃ i179 : Int, m21.cell ⟨b12, 5, none⟩ = some (.int .i64 i179) ∧ ∃ i180 : Int, m21.cell ⟨b12, 6, none⟩ = some (.int .i64 i180) ∧ ∃ i181 : Int, m21.cell ⟨b12, 7, none⟩ = some (.int .i64 i181) ∧ 
 CallsA Try.prog w0 23 #[.pointer (some ⟨x3, 0, none⟩), .agg #[.int .i64 i174, .int .i64 i175, .int .i64 i176, .int .i64 i177, .int .i64 i178, .int .i64 i179, .int .i64 i180, .int .i64 i181]] m21 fun r184 m185 =>
 ∃ i182 : Int, ∃ t183 : Bool, r184 = .tuple #[.int .i64 i182, .bool t183] ∧ IntKind.i64 = IntKind.i64 ∧ (.slice x0 x0n x0c : Value) = .slice x0 x0n x0c ∧ (.pointer (some ⟨x3, 0, none⟩) : Value) = .pointer (some ⟨x3, 0, none⟩) ∧ true = true ∧ true = true ∧ ∃ n' : Nat, n' < n0 ∧ I0 n' (IntKind.wrap .i64 (x4 + 1)) (IntKind.wrap .i64 (x5 + 1)) m185) (
 ∃ i186 : Int, m21.cell ⟨b12, 0, none⟩ = some (.int .i64 i186) ∧ ∃ i187 : Int, m21.cell ⟨b12, 1, none⟩ = some (.int .i64 i187) ∧ ∃ i188 : Int, m21.cell ⟨b12, 2, none⟩ = some (.int .i64 i188) ∧ ∃ i189 : Int, m21.cell ⟨b12, 3, none⟩ = some (.int .i64 i189) ∧ ∃ i190 : Int, m21.cell ⟨b12, 4, none⟩ = some (.int .i64 i190) ∧ ∃ i191 : Int, m21.cell ⟨b12, 5, none⟩ = some (.int .i64 i191) ∧ ∃ i192 : Int, m21.cell ⟨b12, 6, none⟩ = some (.int .i64 i192) ∧ ∃ i193 : Int, m21.cell ⟨b12, 7, none⟩ = some (.int .i64 i193) ∧ 
 CallsA Try.prog w0 23 #[.pointer (some ⟨x3, 0, none⟩), .agg #[.int .i64 i186, .int .i64 i187, .int .i64 i188, .int .i64 i189, .int .i64 i190, .int .i64 i191, .int .i64 i192, .int .i64 i193]] m21 fun r196 m197 =>
 ∃ i194 : Int, ∃ t195 : Bool, r196 = .tuple #[.int .i64 i194, .bool t195] ∧ IntKind.i64 = IntKind.i64 ∧ (.slice x0 x0n x0c : Value) = .slice x0 x0n x0c ∧ (.pointer (some ⟨x3, 0, none⟩) : Value) = .pointer (some ⟨x3, 0, none⟩) ∧ true = true ∧ true = true ∧ ∃ n' : Nat, n' < n0 ∧ I0 n' x4 (IntKind.wrap .i64 (x5 + 1)) m197))))))))))) (
 (.slice x0 x0n x0c : Value) = .slice x0 x0n x0c ∧ (.pointer (some ⟨x3, 0, none⟩) : Value) = .pointer (some ⟨x3, 0, none⟩) ∧ true = true ∧ E0_0 x4 m))) (
 (decide ((x5 : Int) < ((x0n : Nat) : Int))) = false ∧ (.slice x0 x0n x0c : Value) = .slice x0 x0n x0c ∧ (.pointer (some ⟨x3, 0, none⟩) : Value) = .pointer (some ⟨x3, 0, none⟩) ∧ true = true ∧ E0_0 x4 m))))
 (h_e0 : ∀ (σ : Sg) (x4 : Int) (m : AM), E0_0 x4 m → (
 CallsA Try.prog w0 15 #[.pointer (some ⟨x3, 0, none⟩)] m fun r201 m202 =>
 ∃ (A198 : Option Addr) (n199 c200 : Nat), r201 = .slice A198 n199 c200 ∧ vcS Try.prog w0 qs7 (sub c7 [1, 1, 1, 1, 1, 0, 1, 0]) (upd (upd (upd (upd (upd (upd (upd (upd σ 0 (.slice x0 x0n x0c)) 3 (.pointer (some ⟨x3, 0, none⟩))) 4 (.int .i64 x4)) 55 (.slice A198 n199 c200)) 8 (.slice A198 n199 c200)) 56 (.slice A198 n199 c200)) 57 (.int .i64 ((n199 : Nat) : Int))) 58 (.int .i64 0)) m202 (blockS 2 (thenS (fun σ m => vcS Try.prog w0 qs7 (sub c7 [1, 1, 1, 1, 1, 1]) σ m (retQ Try.prog Try.f7 R)) (retQ Try.prog Try.f7 R))))) :
 vcS Try.prog w0 qs7 (sub c7 [1, 1, 1, 0, 1, 0]) σ m (blockS 0 (thenS (fun σ m => vcS Try.prog w0 qs7 (sub c7 [1, 1, 1, 1]) σ m (retQ Try.prog Try.f7 R)) (retQ Try.prog Try.f7 R))) := by
  rw [show sub c7 [1, 1, 1, 0, 1, 0] = .loop (sub c7 [1, 1, 1, 0, 1, 0, 0]) from by kernel_rfl]
  refine loopQ (fun n0 σ m => σ 0 = .slice x0 x0n x0c ∧ σ 3 = .pointer (some ⟨x3, 0, none⟩) ∧ okI .i64 (σ 4) = true ∧ okI .i64 (σ 5) = true ∧ I0 n0 (vI (σ 4)) (vI (σ 5)) m) N (fun n0 => (lq7_111010 R x0 x0n x0c x3 I0 E0_0 n0)) ⟨h0, h3, (by rw [h4]; rfl), (by rw [h5]; rfl), (by rw [h4, h5]; exact h_0)⟩ ?_ ?_ ?_
  · rintro n0 σ m ⟨kk0, kk1, kk2, kk3, n', hlt, hI⟩; exact ⟨n', hlt, kk0, kk1, kk2, kk3, hI⟩
  · intro n0 e σ m hne h
    cases e with
    | normal => exact absurd rfl hne
    | ret => exact h
    | exit id =>
      by_cases e0 : id = 0
      · subst e0
        obtain ⟨kk0, kk1, kk2, hE⟩ := h
        have es : (upd (upd (upd σ 0 (.slice x0 x0n x0c)) 3 (.pointer (some ⟨x3, 0, none⟩))) 4 (.int .i64 (vI (σ 4)))) = σ := by rw [upd_id kk0, upd_id kk1, upd_id (ok_int kk2)]
        exact cast (congrArg (fun s => (blockS 0 (thenS (fun σ m => vcS Try.prog w0 qs7 (sub c7 [1, 1, 1, 1]) σ m (retQ Try.prog Try.f7 R)) (retQ Try.prog Try.f7 R))) (.exit 0) s m) es) (cast (by kernel_rfl) (h_e0 σ (vI (σ 4)) m hE))
      · replace h := (if_neg e0 : (if id = 0 then _ else _) = _).mp h
        exact False.elim h
    | _ => exact False.elim h
  · rintro n0 σ m ⟨kk0, kk1, kk2, kk3, hI⟩
    have es : (upd (upd (upd (upd σ 0 (.slice x0 x0n x0c)) 3 (.pointer (some ⟨x3, 0, none⟩))) 4 (.int .i64 (vI (σ 4)))) 5 (.int .i64 (vI (σ 5)))) = σ := by rw [upd_id kk0, upd_id kk1, upd_id (ok_int kk2), upd_id (ok_int kk3)]
    exact cast (congrArg (fun s => vcS Try.prog w0 qs7 (sub c7 [1, 1, 1, 0, 1, 0, 0]) s m (lq7_111010 R x0 x0n x0c x3 I0 E0_0 n0)) es) (cast (by kernel_rfl) (h_s n0 σ (vI (σ 4)) (vI (σ 5)) m hI))
def lq7_11111010 (R : Value → AM → Prop) (x3 : Nat) (x4 : Int) (x8 : Option Addr) (x8n x8c : Nat) (x56 : Option Addr) (x56n x56c : Nat) (x57 : Int) (I0 : Nat → Int → AM → Prop) (E0_2 : AM → Prop) (n0 : Nat) : Exit → Sg → AM → Prop
  | .normal, σ, m => σ 3 = .pointer (some ⟨x3, 0, none⟩) ∧ σ 4 = .int .i64 x4 ∧ σ 8 = .slice x8 x8n x8c ∧ σ 56 = .slice x56 x56n x56c ∧ σ 57 = .int .i64 x57 ∧ okI .i64 (σ 58) = true ∧ ∃ n' : Nat, n' < n0 ∧ I0 n' (vI (σ 58)) m
  | .exit id, σ, m => if id = 2 then σ 3 = .pointer (some ⟨x3, 0, none⟩) ∧ σ 4 = .int .i64 x4 ∧ σ 8 = .slice x8 x8n x8c ∧ σ 56 = .slice x56 x56n x56c ∧ σ 57 = .int .i64 x57 ∧ E0_2  m else False
  | .ret, σ, m => retQ Try.prog Try.f7 R .ret σ m
  | _, _, _ => False
theorem vl7_11111010 (w0 : World) (m : AM) (σ : Sg) (R : Value → AM → Prop)  (x3 : Nat) (x4 : Int) (x8 : Option Addr) (x8n x8c : Nat) (x56 : Option Addr) (x56n x56c : Nat) (x57 : Int) (x58 : Int) (I0 : Nat → Int → AM → Prop) (E0_2 : AM → Prop) (N : Nat) (h3 : σ 3 = .pointer (some ⟨x3, 0, none⟩)) (h4 : σ 4 = .int .i64 x4) (h8 : σ 8 = .slice x8 x8n x8c) (h56 : σ 56 = .slice x56 x56n x56c) (h57 : σ 57 = .int .i64 x57) (h58 : σ 58 = .int .i64 x58)
 (h_0 : I0 N x58 m)
 (h_s : ∀ (n0 : Nat) (σ : Sg) (x58 : Int) (m : AM), I0 n0 x58 m → (
 IntKind.i64 = IntKind.i64 ∧ (bcase (decide ((x58 : Int) < x57)) (
 ((0 : Int) ≤ x58 ∧ x58 < ((x56n : Nat) : Int)) ∧ nilO x56 fun a203 =>
 ∃ i204 : Int, m.cell (a203.add ((x58 : Int).toNat * 3)) = some (.int .i64 i204) ∧ ∃ i205 : Int, m.cell ((a203.add ((x58 : Int).toNat * 3)).add 1) = some (.int .i64 i205) ∧ ∃ i206 : Int, m.cell ((a203.add ((x58 : Int).toNat * 3)).add 2) = some (.int .i64 i206) ∧ 
 ∀ b207 : Nat, w0.heap.size ≤ b207 → m b207 = none → let m208 := AM.upd m b207 (.cells #[.int .i64 0, .int .i64 0, .int .i64 0] 34);
 StC w0.heap.size m208 ⟨b207, 0, none⟩ (.int .i64 i204) fun m209 =>
 StC w0.heap.size m209 ⟨b207, 1, none⟩ (.int .i64 i205) fun m210 =>
 StC w0.heap.size m210 ⟨b207, 2, none⟩ (.int .i64 i206) fun m211 =>
 ∃ i212 : Int, m211.cell ⟨b207, 0, none⟩ = some (.int .i64 i212) ∧ 
 IntKind.i64 = IntKind.i64 ∧ (bcase (decide ((i212 : Int) < 0)) (
 (decide ((i212 : Int) < 0)) = true ∧ true = true ∧ RetP R (.bool false) m211) (
 ∃ i213 : Int, m211.cell ⟨b207, 0, none⟩ = some (.int .i64 i213) ∧ 
 ∃ i214 : Int,  CallsA Try.prog w0 19 #[.pointer (some ⟨x3, 0, none⟩)] m211 (fun r215 m216 => r215 = .int .i64 i214 ∧ m216 = m211) ∧
 IntKind.i64 = IntKind.i64 ∧ (bcase (bif decide ((i212 : Int) < 0) then true else decide ((i213 : Int) ≥ i214)) (
 (bif decide ((i212 : Int) < 0) then true else decide ((i213 : Int) ≥ i214)) = true ∧ RetP R (.bool false) m211) (
 IntKind.i64 = IntKind.i64 ∧ (bcase (decide ((x58 : Int) > 0)) (
 IntKind.i64 = IntKind.i64 ∧ ((0 : Int) ≤ (IntKind.wrap .i64 (x58 - 1)) ∧ (IntKind.wrap .i64 (x58 - 1)) < ((x8n : Nat) : Int)) ∧ nilO x8 fun a217 =>
 ∃ i218 : Int, m211.cell (a217.add ((IntKind.wrap .i64 (x58 - 1) : Int).toNat * 3)) = some (.int .i64 i218) ∧ 
 ∃ i219 : Int, m211.cell ⟨b207, 0, none⟩ = some (.int .i64 i219) ∧ 
 IntKind.i64 = IntKind.i64 ∧ (bcase (bif bif decide ((i212 : Int) < 0) then true else decide ((i213 : Int) ≥ i214) then true else bif decide ((x58 : Int) > 0) then decide ((i218 : Int) ≥ i219) else false) (
 RetP R (.bool false) m211) (
 IntKind.i64 = IntKind.i64 ∧ (.pointer (some ⟨x3, 0, none⟩) : Value) = .pointer (some ⟨x3, 0, none⟩) ∧ (.int .i64 x4 : Value) = .int .i64 x4 ∧ (.slice x8 x8n x8c : Value) = .slice x8 x8n x8c ∧ (.slice x56 x56n x56c : Value) = .slice x56 x56n x56c ∧ (.int .i64 x57 : Value) = .int .i64 x57 ∧ true = true ∧ ∃ n' : Nat, n' < n0 ∧ I0 n' (IntKind.wrap .i64 (x58 + 1)) m211))) (
 (decide ((x58 : Int) > 0)) = false ∧ (bcase (bif bif decide ((i212 : Int) < 0) then true else decide ((i213 : Int) ≥ i214) then true else false) (
 RetP R (.bool false) m211) (
 IntKind.i64 = IntKind.i64 ∧ (.pointer (some ⟨x3, 0, none⟩) : Value) = .pointer (some ⟨x3, 0, none⟩) ∧ (.int .i64 x4 : Value) = .int .i64 x4 ∧ (.slice x8 x8n x8c : Value) = .slice x8 x8n x8c ∧ (.slice x56 x56n x56c : Value) = .slice x56 x56n x56c ∧ (.int .i64 x57 : Value) = .int .i64 x57 ∧ true = true ∧ ∃ n' : Nat, n' < n0 ∧ I0 n' (IntKind.wrap .i64 (x58 + 1)) m211))))))))) (
 (.pointer (some ⟨x3, 0, none⟩) : Value) = .pointer (some ⟨x3, 0, none⟩) ∧ (.int .i64 x4 : Value) = .int .i64 x4 ∧ (.slice x8 x8n x8c : Value) = .slice x8 x8n x8c ∧ (.slice x56 x56n x56c : Value) = .slice x56 x56n x56c ∧ (.int .i64 x57 : Value) = .int .i64 x57 ∧ E0_2  m))))
 (h_e2 : ∀ (σ : Sg)  (m : AM), E0_2  m → (
 IntKind.i64 = IntKind.i64 ∧ (bcase ((((x8n : Nat) : Int) : Int) == x4) (
 CallsA Try.prog w0 11 #[.pointer (some ⟨x3, 0, none⟩)] m fun r223 m224 =>
 ∃ (A220 : Option Addr) (n221 c222 : Nat), r223 = .slice A220 n221 c222 ∧ CallsA Try.prog w0 19 #[.pointer (some ⟨x3, 0, none⟩)] m224 fun r226 m227 =>
 ∃ i225 : Int, r226 = .int .i64 i225 ∧ IntKind.i64 = IntKind.i64 ∧ (bcase (bif (((x8n : Nat) : Int) : Int) == x4 then (((n221 : Nat) : Int) : Int) == i225 else false) (
 CallsA Try.prog w0 16 #[] m227 fun r229 m230 =>
 ∃ t228 : Bool, r229 = .bool t228 ∧ RetP R (.bool (bif bif (((x8n : Nat) : Int) : Int) == x4 then (((n221 : Nat) : Int) : Int) == i225 else false then t228 else false)) m230) (
 (bif (((x8n : Nat) : Int) : Int) == x4 then (((n221 : Nat) : Int) : Int) == i225 else false) = false ∧ RetP R (.bool false) m227))) (
 ((((x8n : Nat) : Int) : Int) == x4) = false ∧ false = false ∧ RetP R (.bool false) m)))) :
 vcS Try.prog w0 qs7 (sub c7 [1, 1, 1, 1, 1, 0, 1, 0]) σ m (blockS 2 (thenS (fun σ m => vcS Try.prog w0 qs7 (sub c7 [1, 1, 1, 1, 1, 1]) σ m (retQ Try.prog Try.f7 R)) (retQ Try.prog Try.f7 R))) := by
  rw [show sub c7 [1, 1, 1, 1, 1, 0, 1, 0] = .loop (sub c7 [1, 1, 1, 1, 1, 0, 1, 0, 0]) from by kernel_rfl]
  refine loopQ (fun n0 σ m => σ 3 = .pointer (some ⟨x3, 0, none⟩) ∧ σ 4 = .int .i64 x4 ∧ σ 8 = .slice x8 x8n x8c ∧ σ 56 = .slice x56 x56n x56c ∧ σ 57 = .int .i64 x57 ∧ okI .i64 (σ 58) = true ∧ I0 n0 (vI (σ 58)) m) N (fun n0 => (lq7_11111010 R x3 x4 x8 x8n x8c x56 x56n x56c x57 I0 E0_2 n0)) ⟨h3, h4, h8, h56, h57, (by rw [h58]; rfl), (by rw [h58]; exact h_0)⟩ ?_ ?_ ?_
  · rintro n0 σ m ⟨kk0, kk1, kk2, kk3, kk4, kk5, n', hlt, hI⟩; exact ⟨n', hlt, kk0, kk1, kk2, kk3, kk4, kk5, hI⟩
  · intro n0 e σ m hne h
    cases e with
    | normal => exact absurd rfl hne
    | ret => exact h
    | exit id =>
      by_cases e2 : id = 2
      · subst e2
        obtain ⟨kk0, kk1, kk2, kk3, kk4, hE⟩ := h
        have es : (upd (upd (upd (upd (upd σ 3 (.pointer (some ⟨x3, 0, none⟩))) 4 (.int .i64 x4)) 8 (.slice x8 x8n x8c)) 56 (.slice x56 x56n x56c)) 57 (.int .i64 x57)) = σ := by rw [upd_id kk0, upd_id kk1, upd_id kk2, upd_id kk3, upd_id kk4]
        exact cast (congrArg (fun s => (blockS 2 (thenS (fun σ m => vcS Try.prog w0 qs7 (sub c7 [1, 1, 1, 1, 1, 1]) σ m (retQ Try.prog Try.f7 R)) (retQ Try.prog Try.f7 R))) (.exit 2) s m) es) (cast (by kernel_rfl) (h_e2 σ  m hE))
      · replace h := (if_neg e2 : (if id = 2 then _ else _) = _).mp h
        exact False.elim h
    | _ => exact False.elim h
  · rintro n0 σ m ⟨kk0, kk1, kk2, kk3, kk4, kk5, hI⟩
    have es : (upd (upd (upd (upd (upd (upd σ 3 (.pointer (some ⟨x3, 0, none⟩))) 4 (.int .i64 x4)) 8 (.slice x8 x8n x8c)) 56 (.slice x56 x56n x56c)) 57 (.int .i64 x57)) 58 (.int .i64 (vI (σ 58)))) = σ := by rw [upd_id kk0, upd_id kk1, upd_id kk2, upd_id kk3, upd_id kk4, upd_id (ok_int kk5)]
    exact cast (congrArg (fun s => vcS Try.prog w0 qs7 (sub c7 [1, 1, 1, 1, 1, 0, 1, 0, 0]) s m (lq7_11111010 R x3 x4 x8 x8n x8c x56 x56n x56c x57 I0 E0_2 n0)) es) (cast (by kernel_rfl) (h_s n0 σ (vI (σ 58)) m hI))

/-! 23 delayslot/delayslotlaw18.act -/
def qs23 : Nat → List (Nat × Nat) := fun i => match i with | _ => []
noncomputable def c23 : Code := bodyOf Try.f23
theorem cf23 (w0 : World) (m : AM) (x0 : Nat) (x1_0 : Int) (x1_1 : Int) (x1_2 : Int) (x1_3 : Int) (x1_4 : Int) (x1_5 : Int) (x1_6 : Int) (x1_7 : Int) (R : Value → AM → Prop) (h :
 ∀ b1 : Nat, w0.heap.size ≤ b1 → m b1 = none → let m2 := AM.upd m b1 (.cells #[.int .i64 x1_0, .int .i64 x1_1, .int .i64 x1_2, .int .i64 x1_3, .int .i64 x1_4, .int .i64 x1_5, .int .i64 x1_6, .int .i64 x1_7] 50);
 ∃ i3 : Int, m2.cell ⟨b1, 0, none⟩ = some (.int .i64 i3) ∧ 
 IntKind.i64 = IntKind.i64 ∧ (bcase ((i3 : Int) == 0) (
 ∃ i4 : Int, m2.cell ⟨b1, 3, none⟩ = some (.int .i64 i4) ∧ ∃ i5 : Int, m2.cell ⟨b1, 4, none⟩ = some (.int .i64 i5) ∧ ∃ i6 : Int, m2.cell ⟨b1, 5, none⟩ = some (.int .i64 i6) ∧ ∃ i7 : Int, m2.cell ⟨b1, 6, none⟩ = some (.int .i64 i7) ∧ ∃ i8 : Int, m2.cell ⟨b1, 7, none⟩ = some (.int .i64 i8) ∧ 
 CallsA Try.prog w0 12 #[.pointer (some ⟨x0, 0, none⟩), .agg #[.int .i64 i4, .int .i64 i5, .int .i64 i6, .int .i64 i7, .int .i64 i8]] m2 fun r10 m11 =>
 ∃ i9 : Int, r10 = .int .i64 i9 ∧ RetP R (.tuple #[.int .i64 i9, .bool true]) m11) (
 IntKind.i64 = IntKind.i64 ∧ (bcase ((i3 : Int) == 1) (
 ∃ i12 : Int, m2.cell ⟨b1, 3, none⟩ = some (.int .i64 i12) ∧ ∃ i13 : Int, m2.cell ⟨b1, 4, none⟩ = some (.int .i64 i13) ∧ ∃ i14 : Int, m2.cell ⟨b1, 5, none⟩ = some (.int .i64 i14) ∧ ∃ i15 : Int, m2.cell ⟨b1, 6, none⟩ = some (.int .i64 i15) ∧ ∃ i16 : Int, m2.cell ⟨b1, 7, none⟩ = some (.int .i64 i16) ∧ 
 ∃ i17 : Int, m2.cell ⟨b1, 1, none⟩ = some (.int .i64 i17) ∧ 
 ∃ i18 : Int, m2.cell ⟨b1, 2, none⟩ = some (.int .i64 i18) ∧ 
 CallsA Try.prog w0 13 #[.pointer (some ⟨x0, 0, none⟩), .agg #[.int .i64 i12, .int .i64 i13, .int .i64 i14, .int .i64 i15, .int .i64 i16], .int .i64 i17, .int .i64 i18] m2 fun r20 m21 =>
 ∃ i19 : Int, r20 = .int .i64 i19 ∧ RetP R (.tuple #[.int .i64 i19, .bool true]) m21) (
 IntKind.i64 = IntKind.i64 ∧ (bcase ((i3 : Int) == 2) (
 ∃ i22 : Int, m2.cell ⟨b1, 3, none⟩ = some (.int .i64 i22) ∧ ∃ i23 : Int, m2.cell ⟨b1, 4, none⟩ = some (.int .i64 i23) ∧ ∃ i24 : Int, m2.cell ⟨b1, 5, none⟩ = some (.int .i64 i24) ∧ ∃ i25 : Int, m2.cell ⟨b1, 6, none⟩ = some (.int .i64 i25) ∧ ∃ i26 : Int, m2.cell ⟨b1, 7, none⟩ = some (.int .i64 i26) ∧ 
 CallsA Try.prog w0 10 #[.pointer (some ⟨x0, 0, none⟩), .agg #[.int .i64 i22, .int .i64 i23, .int .i64 i24, .int .i64 i25, .int .i64 i26]] m2 fun r28 m29 =>
 ∃ i27 : Int, r28 = .int .i64 i27 ∧ RetP R (.tuple #[.int .i64 i27, .bool true]) m29) (
 IntKind.i64 = IntKind.i64 ∧ (bcase ((i3 : Int) == 3) (
 ∃ i30 : Int, m2.cell ⟨b1, 1, none⟩ = some (.int .i64 i30) ∧ 
 CallsA Try.prog w0 14 #[.pointer (some ⟨x0, 0, none⟩), .int .i64 i30] m2 fun r32 m33 =>
 ∃ t31 : Bool, r32 = .bool t31 ∧ RetP R (.tuple #[.int .i64 0, .bool t31]) m33) (
 IntKind.i64 = IntKind.i64 ∧ (bcase ((i3 : Int) == 4) (
 ∃ i34 : Int, m2.cell ⟨b1, 3, none⟩ = some (.int .i64 i34) ∧ ∃ i35 : Int, m2.cell ⟨b1, 4, none⟩ = some (.int .i64 i35) ∧ ∃ i36 : Int, m2.cell ⟨b1, 5, none⟩ = some (.int .i64 i36) ∧ ∃ i37 : Int, m2.cell ⟨b1, 6, none⟩ = some (.int .i64 i37) ∧ ∃ i38 : Int, m2.cell ⟨b1, 7, none⟩ = some (.int .i64 i38) ∧ 
 ∃ i39 : Int, m2.cell ⟨b1, 1, none⟩ = some (.int .i64 i39) ∧ 
 CallsA Try.prog w0 24 #[.pointer (some ⟨x0, 0, none⟩), .agg #[.int .i64 i34, .int .i64 i35, .int .i64 i36, .int .i64 i37, .int .i64 i38], .int .i64 i39] m2 fun r41 m42 =>
 ∃ i40 : Int, r41 = .int .i64 i40 ∧ RetP R (.tuple #[.int .i64 i40, .bool true]) m42) (
 IntKind.i64 = IntKind.i64 ∧ (bcase ((i3 : Int) == 5) (
 ∃ i43 : Int, m2.cell ⟨b1, 1, none⟩ = some (.int .i64 i43) ∧ 
 ∃ i44 : Int, m2.cell ⟨b1, 2, none⟩ = some (.int .i64 i44) ∧ 
 CallsA Try.prog w0 20 #[.pointer (some ⟨x0, 0, none⟩), .int .i64 i43, .int .i64 i44] m2 fun r45 m46 =>
 r45 = .tuple #[] ∧ RetP R (.tuple #[.int .i64 0, .bool true]) m46) (
 IntKind.i64 = IntKind.i64 ∧ (bcase ((i3 : Int) == 6) (
 CallsA Try.prog w0 18 #[.pointer (some ⟨x0, 0, none⟩)] m2 fun r49 m50 =>
 ∃ i47 : Int, ∃ t48 : Bool, r49 = .tuple #[.int .i64 i47, .bool t48] ∧ RetP R (.tuple #[.int .i64 i47, .bool t48]) m50) (
 CallsA Try.prog w0 17 #[.pointer (some ⟨x0, 0, none⟩)] m2 fun r54 m55 =>
 ∃ t53 : Bool, r54 = .bool t53 ∧ RetP R (.tuple #[.int .i64 0, .bool t53]) m55))))))))))))))) : CallsA Try.prog w0 23 #[.pointer (some ⟨x0, 0, none⟩), .agg #[.int .i64 x1_0, .int .i64 x1_1, .int .i64 x1_2, .int .i64 x1_3, .int .i64 x1_4, .int .i64 x1_5, .int .i64 x1_6, .int .i64 x1_7]] m R :=
  callsA_of (c := c23) (args := [.pointer (some ⟨x0, 0, none⟩), .agg #[.int .i64 x1_0, .int .i64 x1_1, .int .i64 x1_2, .int .i64 x1_3, .int .i64 x1_4, .int .i64 x1_5, .int .i64 x1_6, .int .i64 x1_7]]) (by kernel_rfl) Try.func23 (by kernel_rfl) qs23 (by kernel_rfl) (by kernel_rfl) (cast (by kernel_rfl) h)
end Go.Proofs.Ytijilloaggeepaa.V
