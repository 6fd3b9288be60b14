/- Ythocajnpofdbmaa: a text of our own, by an AI agent: VHazG -/
import Derived.Test.YthocajnpofdbmaaCore5
import Derived.Test.YthocajnpofdbmaaTabG
namespace Go.Proofs.Ythocajnpofdbmaa.V
open Go Go.Alog Go.Proofs.Ythocajnpofdbmaa.T
set_option linter.unusedVariables false
set_option maxRecDepth 100000

/-! 36 delayslot/hazard.At -/
def qs36 : Nat → List (Nat × Nat) := fun i => match i with | 1000012 => [(0, 0)] | _ => []
noncomputable def c36 : Code := bodyOf Try.f36
theorem cf36 (w0 : World) (m : AM) (x0 : Option Addr) (x0n x0c : Nat) (x1 : Int) (R : Value → AM → Prop) (h :
 IntKind.i64 = IntKind.i64 ∧ (bcase (decide ((x1 : Int) < 0)) (
 (decide ((x1 : Int) < 0)) = true ∧ RetP R (.int .i64 0) m) (
 IntKind.i64 = IntKind.i64 ∧ (bcase (bif decide ((x1 : Int) < 0) then true else decide ((x1 : Int) ≥ ((x0n : Nat) : Int))) (
 RetP R (.int .i64 0) m) (
 ((0 : Int) ≤ x1 ∧ x1 < ((x0n : Nat) : Int)) ∧ nilO x0 fun a1 =>
 ∃ i2 : Int, m.cell (a1.add ((x1 : Int).toNat * 5)) = some (.int .i64 i2) ∧ ∃ i3 : Int, m.cell ((a1.add ((x1 : Int).toNat * 5)).add 1) = some (.int .i64 i3) ∧ ∃ i4 : Int, m.cell ((a1.add ((x1 : Int).toNat * 5)).add 2) = some (.int .i64 i4) ∧ ∃ i5 : Int, m.cell ((a1.add ((x1 : Int).toNat * 5)).add 3) = some (.int .i64 i5) ∧ ∃ i6 : Int, m.cell ((a1.add ((x1 : Int).toNat * 5)).add 4) = some (.int .i64 i6) ∧ 
 ∀ b7 : Nat, w0.heap.size ≤ b7 → m b7 = none → let m8 := AM.upd m b7 (.cells #[.int .i64 0, .int .i64 0, .int .i64 0, .int .i64 0, .int .i64 0] 23);
 StC w0.heap.size m8 ⟨b7, 0, none⟩ (.int .i64 i2) fun m9 =>
 StC w0.heap.size m9 ⟨b7, 1, none⟩ (.int .i64 i3) fun m10 =>
 StC w0.heap.size m10 ⟨b7, 2, none⟩ (.int .i64 i4) fun m11 =>
 StC w0.heap.size m11 ⟨b7, 3, none⟩ (.int .i64 i5) fun m12 =>
 StC w0.heap.size m12 ⟨b7, 4, none⟩ (.int .i64 i6) fun m13 =>
 IntKind.i64 = IntKind.i64 ∧ (bcase (decide ((x1 : Int) > 0)) (
 IntKind.i64 = IntKind.i64 ∧ ((0 : Int) ≤ (IntKind.wrap .i64 (x1 - 1)) ∧ (IntKind.wrap .i64 (x1 - 1)) < ((x0n : Nat) : Int)) ∧ nilO x0 fun a14 =>
 ∃ i15 : Int, m13.cell (a14.add ((IntKind.wrap .i64 (x1 - 1) : Int).toNat * 5)) = some (.int .i64 i15) ∧ ∃ i16 : Int, m13.cell ((a14.add ((IntKind.wrap .i64 (x1 - 1) : Int).toNat * 5)).add 1) = some (.int .i64 i16) ∧ ∃ i17 : Int, m13.cell ((a14.add ((IntKind.wrap .i64 (x1 - 1) : Int).toNat * 5)).add 2) = some (.int .i64 i17) ∧ ∃ i18 : Int, m13.cell ((a14.add ((IntKind.wrap .i64 (x1 - 1) : Int).toNat * 5)).add 3) = some (.int .i64 i18) ∧ ∃ i19 : Int, m13.cell ((a14.add ((IntKind.wrap .i64 (x1 - 1) : Int).toNat * 5)).add 4) = some (.int .i64 i19) ∧ 
 CallsA Try.prog w0 29 #[.agg #[.int .i64 i15, .int .i64 i16, .int .i64 i17, .int .i64 i18, .int .i64 i19]] m13 fun r21 m22 =>
 ∃ t20 : Bool, r21 = .bool t20 ∧ vcS Try.prog w0 qs36 (sub c36 [1, 1, 1, 1]) (upd (upd (upd (upd (upd (upd (upd (upd (upd (upd (upd (upd (upd (upd (upd (upd (upd (upd (upd (upd (upd (upd (upd (upd (upd (argS [.slice x0 x0n x0c, .int .i64 x1]) 4 (.int .i64 0)) 8 (.int .i64 x1)) 9 (.bool (decide ((x1 : Int) < 0)))) 10 (.bool (decide ((x1 : Int) < 0)))) 11 (.int .i64 x1)) 12 (.slice x0 x0n x0c)) 13 (.int .i64 ((x0n : Nat) : Int))) 14 (.bool (decide ((x1 : Int) ≥ ((x0n : Nat) : Int))))) 15 (.bool (bif decide ((x1 : Int) < 0) then true else decide ((x1 : Int) ≥ ((x0n : Nat) : Int))))) 16 (.slice x0 x0n x0c)) 17 (.int .i64 x1)) 18 (.pointer (some (a1.add ((x1 : Int).toNat * 5))))) 19 (.agg #[.int .i64 i2, .int .i64 i3, .int .i64 i4, .int .i64 i5, .int .i64 i6])) 5 (.pointer (some ⟨b7, 0, none⟩))) 20 (.int .i64 x1)) 21 (.bool (decide ((x1 : Int) > 0)))) 22 (.bool (decide ((x1 : Int) > 0)))) 23 (.slice x0 x0n x0c)) 24 (.int .i64 x1)) 25 (.int .i64 (IntKind.wrap .i64 (x1 - 1)))) 26 (.pointer (some (a14.add ((IntKind.wrap .i64 (x1 - 1) : Int).toNat * 5))))) 27 (.agg #[.int .i64 i15, .int .i64 i16, .int .i64 i17, .int .i64 i18, .int .i64 i19])) 28 (.bool t20)) 29 (.bool (bif decide ((x1 : Int) > 0) then t20 else false))) 6 (.bool (bif decide ((x1 : Int) > 0) then t20 else false))) m22 (retQ Try.prog Try.f36 R)) (
 (decide ((x1 : Int) > 0)) = false ∧ vcS Try.prog w0 qs36 (sub c36 [1, 1, 1, 1]) (upd (upd (upd (upd (upd (upd (upd (upd (upd (upd (upd (upd (upd (upd (upd (upd (upd (upd (upd (upd (upd (upd (upd (upd (upd (argS [.slice x0 x0n x0c, .int .i64 x1]) 4 (.int .i64 0)) 8 (.int .i64 x1)) 9 (.bool (decide ((x1 : Int) < 0)))) 10 (.bool (decide ((x1 : Int) < 0)))) 11 (.int .i64 x1)) 12 (.slice x0 x0n x0c)) 13 (.int .i64 ((x0n : Nat) : Int))) 14 (.bool (decide ((x1 : Int) ≥ ((x0n : Nat) : Int))))) 15 (.bool (bif decide ((x1 : Int) < 0) then true else decide ((x1 : Int) ≥ ((x0n : Nat) : Int))))) 16 (.slice x0 x0n x0c)) 17 (.int .i64 x1)) 18 (.pointer (some (a1.add ((x1 : Int).toNat * 5))))) 19 (.agg #[.int .i64 i2, .int .i64 i3, .int .i64 i4, .int .i64 i5, .int .i64 i6])) 5 (.pointer (some ⟨b7, 0, none⟩))) 20 (.int .i64 x1)) 21 (.bool (decide ((x1 : Int) > 0)))) 22 (.bool (decide ((x1 : Int) > 0)))) 23 (undef)) 24 (undef)) 25 (undef)) 26 (undef)) 27 (undef)) 28 (undef)) 29 (.bool false)) 6 (.bool false)) m13 (retQ Try.prog Try.f36 R)))))))) : CallsA Try.prog w0 36 #[.slice x0 x0n x0c, .int .i64 x1] m R :=
  callsA_of (c := c36) (args := [.slice x0 x0n x0c, .int .i64 x1]) (by kernel_rfl) Try.func36 (by kernel_rfl) qs36 (by kernel_rfl) (by kernel_rfl) (cast (by kernel_rfl) h)
theorem vk36_1111 (w0 : World) (m : AM) (σ : Sg) (R : Value → AM → Prop)  (x0 : Option Addr) (x0n x0c : Nat) (x1 : Int) (x5 : Nat) (x6 : Bool) (h0 : σ 0 = .slice x0 x0n x0c) (h1 : σ 1 = .int .i64 x1) (h5 : σ 5 = .pointer (some ⟨x5, 0, none⟩)) (h6 : σ 6 = .bool x6) (h :
 IntKind.i64 = IntKind.i64 ∧ IntKind.i64 = IntKind.i64 ∧ ∃ i23 : Int, m.cell ⟨x5, 0, none⟩ = some (.int .i64 i23) ∧ ∃ i24 : Int, m.cell ⟨x5, 1, none⟩ = some (.int .i64 i24) ∧ ∃ i25 : Int, m.cell ⟨x5, 2, none⟩ = some (.int .i64 i25) ∧ ∃ i26 : Int, m.cell ⟨x5, 3, none⟩ = some (.int .i64 i26) ∧ ∃ i27 : Int, m.cell ⟨x5, 4, none⟩ = some (.int .i64 i27) ∧ 
 CallsA Try.prog w0 47 #[.agg #[.int .i64 i23, .int .i64 i24, .int .i64 i25, .int .i64 i26, .int .i64 i27]] m fun r29 m30 =>
 ∃ t28 : Bool, r29 = .bool t28 ∧ (bcase (!t28) (
 RetP R (.int .i64 1) m30) (
 ∃ i31 : Int, m30.cell ⟨x5, 0, none⟩ = some (.int .i64 i31) ∧ ∃ i32 : Int, m30.cell ⟨x5, 1, none⟩ = some (.int .i64 i32) ∧ ∃ i33 : Int, m30.cell ⟨x5, 2, none⟩ = some (.int .i64 i33) ∧ ∃ i34 : Int, m30.cell ⟨x5, 3, none⟩ = some (.int .i64 i34) ∧ ∃ i35 : Int, m30.cell ⟨x5, 4, none⟩ = some (.int .i64 i35) ∧ 
 CallsA Try.prog w0 29 #[.agg #[.int .i64 i31, .int .i64 i32, .int .i64 i33, .int .i64 i34, .int .i64 i35]] m30 fun r37 m38 =>
 ∃ t36 : Bool, r37 = .bool t36 ∧ (bcase t36 (
 (bcase (((IntKind.wrap .i64 (x1 + 1)) : Int) == ((x0n : Nat) : Int)) (
 (((IntKind.wrap .i64 (x1 + 1)) : Int) == ((x0n : Nat) : Int)) = true ∧ vcS Try.prog w0 qs36 (sub c36 [1, 1, 1, 1, 1, 0, 0, 1, 1, 1]) (upd (upd (upd (upd (upd (upd (upd (upd (upd (upd (upd (upd (upd (upd (upd (upd (upd (upd (upd (upd (upd (upd (upd (upd (upd (upd (upd (upd σ 0 (.slice x0 x0n x0c)) 1 (.int .i64 x1)) 5 (.pointer (some ⟨x5, 0, none⟩))) 6 (.bool x6)) 30 (.int .i64 x1)) 31 (.int .i64 (IntKind.wrap .i64 (x1 + 1)))) 32 (.slice x0 x0n x0c)) 33 (.int .i64 ((x0n : Nat) : Int))) 34 (.bool (((IntKind.wrap .i64 (x1 + 1)) : Int) == ((x0n : Nat) : Int)))) 7 (.bool (((IntKind.wrap .i64 (x1 + 1)) : Int) == ((x0n : Nat) : Int)))) 36 (.agg #[.int .i64 i23, .int .i64 i24, .int .i64 i25, .int .i64 i26, .int .i64 i27])) 37 (.bool t28)) 38 (.bool (!t28))) 35 (.bool (!t28))) 40 (.agg #[.int .i64 i31, .int .i64 i32, .int .i64 i33, .int .i64 i34, .int .i64 i35])) 41 (.bool t36)) 42 (.bool t36)) 43 (.bool (((IntKind.wrap .i64 (x1 + 1)) : Int) == ((x0n : Nat) : Int)))) 44 (.bool (((IntKind.wrap .i64 (x1 + 1)) : Int) == ((x0n : Nat) : Int)))) 45 (undef)) 46 (undef)) 47 (undef)) 48 (undef)) 49 (undef)) 50 (undef)) 51 (.bool true)) 52 (.bool (bif t36 then true else false))) 39 (.bool (bif t36 then true else false))) m38 (blockS 0 (thenS (fun σ m => vcS Try.prog w0 qs36 (sub c36 [1, 1, 1, 1, 1, 1]) σ m (retQ Try.prog Try.f36 R)) (retQ Try.prog Try.f36 R)))) (
 IntKind.i64 = IntKind.i64 ∧ ((0 : Int) ≤ (IntKind.wrap .i64 (x1 + 1)) ∧ (IntKind.wrap .i64 (x1 + 1)) < ((x0n : Nat) : Int)) ∧ nilO x0 fun a39 =>
 ∃ i40 : Int, m38.cell (a39.add ((IntKind.wrap .i64 (x1 + 1) : Int).toNat * 5)) = some (.int .i64 i40) ∧ ∃ i41 : Int, m38.cell ((a39.add ((IntKind.wrap .i64 (x1 + 1) : Int).toNat * 5)).add 1) = some (.int .i64 i41) ∧ ∃ i42 : Int, m38.cell ((a39.add ((IntKind.wrap .i64 (x1 + 1) : Int).toNat * 5)).add 2) = some (.int .i64 i42) ∧ ∃ i43 : Int, m38.cell ((a39.add ((IntKind.wrap .i64 (x1 + 1) : Int).toNat * 5)).add 3) = some (.int .i64 i43) ∧ ∃ i44 : Int, m38.cell ((a39.add ((IntKind.wrap .i64 (x1 + 1) : Int).toNat * 5)).add 4) = some (.int .i64 i44) ∧ 
 CallsA Try.prog w0 29 #[.agg #[.int .i64 i40, .int .i64 i41, .int .i64 i42, .int .i64 i43, .int .i64 i44]] m38 fun r46 m47 =>
 ∃ t45 : Bool, r46 = .bool t45 ∧ vcS Try.prog w0 qs36 (sub c36 [1, 1, 1, 1, 1, 0, 0, 1, 1, 1]) (upd (upd (upd (upd (upd (upd (upd (upd (upd (upd (upd (upd (upd (upd (upd (upd (upd (upd (upd (upd (upd (upd (upd (upd (upd (upd (upd (upd σ 0 (.slice x0 x0n x0c)) 1 (.int .i64 x1)) 5 (.pointer (some ⟨x5, 0, none⟩))) 6 (.bool x6)) 30 (.int .i64 x1)) 31 (.int .i64 (IntKind.wrap .i64 (x1 + 1)))) 32 (.slice x0 x0n x0c)) 33 (.int .i64 ((x0n : Nat) : Int))) 34 (.bool (((IntKind.wrap .i64 (x1 + 1)) : Int) == ((x0n : Nat) : Int)))) 7 (.bool (((IntKind.wrap .i64 (x1 + 1)) : Int) == ((x0n : Nat) : Int)))) 36 (.agg #[.int .i64 i23, .int .i64 i24, .int .i64 i25, .int .i64 i26, .int .i64 i27])) 37 (.bool t28)) 38 (.bool (!t28))) 35 (.bool (!t28))) 40 (.agg #[.int .i64 i31, .int .i64 i32, .int .i64 i33, .int .i64 i34, .int .i64 i35])) 41 (.bool t36)) 42 (.bool t36)) 43 (.bool (((IntKind.wrap .i64 (x1 + 1)) : Int) == ((x0n : Nat) : Int)))) 44 (.bool (((IntKind.wrap .i64 (x1 + 1)) : Int) == ((x0n : Nat) : Int)))) 45 (.slice x0 x0n x0c)) 46 (.int .i64 x1)) 47 (.int .i64 (IntKind.wrap .i64 (x1 + 1)))) 48 (.pointer (some (a39.add ((IntKind.wrap .i64 (x1 + 1) : Int).toNat * 5))))) 49 (.agg #[.int .i64 i40, .int .i64 i41, .int .i64 i42, .int .i64 i43, .int .i64 i44])) 50 (.bool t45)) 51 (.bool (bif ((IntKind.wrap .i64 (x1 + 1)) : Int) == ((x0n : Nat) : Int) then true else t45))) 52 (.bool (bif t36 then bif ((IntKind.wrap .i64 (x1 + 1)) : Int) == ((x0n : Nat) : Int) then true else t45 else false))) 39 (.bool (bif t36 then bif ((IntKind.wrap .i64 (x1 + 1)) : Int) == ((x0n : Nat) : Int) then true else t45 else false))) m47 (blockS 0 (thenS (fun σ m => vcS Try.prog w0 qs36 (sub c36 [1, 1, 1, 1, 1, 1]) σ m (retQ Try.prog Try.f36 R)) (retQ Try.prog Try.f36 R)))))) (
 t36 = false ∧ vcS Try.prog w0 qs36 (sub c36 [1, 1, 1, 1, 1, 0, 0, 1, 1, 1]) (upd (upd (upd (upd (upd (upd (upd (upd (upd (upd (upd (upd (upd (upd (upd (upd (upd (upd (upd (upd (upd (upd (upd (upd (upd (upd (upd (upd σ 0 (.slice x0 x0n x0c)) 1 (.int .i64 x1)) 5 (.pointer (some ⟨x5, 0, none⟩))) 6 (.bool x6)) 30 (.int .i64 x1)) 31 (.int .i64 (IntKind.wrap .i64 (x1 + 1)))) 32 (.slice x0 x0n x0c)) 33 (.int .i64 ((x0n : Nat) : Int))) 34 (.bool (((IntKind.wrap .i64 (x1 + 1)) : Int) == ((x0n : Nat) : Int)))) 7 (.bool (((IntKind.wrap .i64 (x1 + 1)) : Int) == ((x0n : Nat) : Int)))) 36 (.agg #[.int .i64 i23, .int .i64 i24, .int .i64 i25, .int .i64 i26, .int .i64 i27])) 37 (.bool t28)) 38 (.bool (!t28))) 35 (.bool (!t28))) 40 (.agg #[.int .i64 i31, .int .i64 i32, .int .i64 i33, .int .i64 i34, .int .i64 i35])) 41 (.bool t36)) 42 (.bool t36)) 43 (undef)) 44 (undef)) 45 (undef)) 46 (undef)) 47 (undef)) 48 (undef)) 49 (undef)) 50 (undef)) 51 (undef)) 52 (.bool false)) 39 (.bool false)) m38 (blockS 0 (thenS (fun σ m => vcS Try.prog w0 qs36 (sub c36 [1, 1, 1, 1, 1, 1]) σ m (retQ Try.prog Try.f36 R)) (retQ Try.prog Try.f36 R)))))))) :
 vcS Try.prog w0 qs36 (sub c36 [1, 1, 1, 1]) σ m (retQ Try.prog Try.f36 R) := by
  have es0 : (upd (upd (upd (upd σ 0 (.slice x0 x0n x0c)) 1 (.int .i64 x1)) 5 (.pointer (some ⟨x5, 0, none⟩))) 6 (.bool x6)) = σ := by rw [upd_id h0, upd_id h1, upd_id h5, upd_id h6]
  exact cast (congrArg (fun s => vcS Try.prog w0 qs36 (sub c36 [1, 1, 1, 1]) s m (retQ Try.prog Try.f36 R)) es0) (cast (by kernel_rfl) h)
theorem vk36_1111100111 (w0 : World) (m : AM) (σ : Sg) (R : Value → AM → Prop)  (x0 : Option Addr) (x0n x0c : Nat) (x1 : Int) (x5 : Nat) (x6 : Bool) (x7 : Bool) (x39 : Bool) (h0 : σ 0 = .slice x0 x0n x0c) (h1 : σ 1 = .int .i64 x1) (h5 : σ 5 = .pointer (some ⟨x5, 0, none⟩)) (h6 : σ 6 = .bool x6) (h7 : σ 7 = .bool x7) (h39 : σ 39 = .bool x39) (h :
 (bcase x39 (
 RetP R (.int .i64 2) m) (
 (bcase x6 (
 ∃ i48 : Int, m.cell ⟨x5, 0, none⟩ = some (.int .i64 i48) ∧ ∃ i49 : Int, m.cell ⟨x5, 1, none⟩ = some (.int .i64 i49) ∧ ∃ i50 : Int, m.cell ⟨x5, 2, none⟩ = some (.int .i64 i50) ∧ ∃ i51 : Int, m.cell ⟨x5, 3, none⟩ = some (.int .i64 i51) ∧ ∃ i52 : Int, m.cell ⟨x5, 4, none⟩ = some (.int .i64 i52) ∧ 
 CallsA Try.prog w0 31 #[.agg #[.int .i64 i48, .int .i64 i49, .int .i64 i50, .int .i64 i51, .int .i64 i52]] m fun r54 m55 =>
 ∃ t53 : Bool, r54 = .bool t53 ∧ (bcase (bif x6 then t53 else false) (
 RetP R (.int .i64 3) m55) (
 vcS Try.prog w0 qs36 (sub c36 [1, 1, 1, 1, 1, 0, 0, 1, 1, 1, 1, 1, 1, 0]) (upd (upd (upd (upd (upd (upd (upd (upd (upd (upd (upd (upd σ 0 (.slice x0 x0n x0c)) 1 (.int .i64 x1)) 5 (.pointer (some ⟨x5, 0, none⟩))) 6 (.bool x6)) 7 (.bool x7)) 39 (.bool x39)) 54 (.bool x6)) 55 (.bool x6)) 56 (.agg #[.int .i64 i48, .int .i64 i49, .int .i64 i50, .int .i64 i51, .int .i64 i52])) 57 (.bool t53)) 58 (.bool (bif x6 then t53 else false))) 53 (.bool (bif x6 then t53 else false))) m55 (thenS (fun σ m => vcS Try.prog w0 qs36 (sub c36 [1, 1, 1, 1, 1, 0, 0, 1, 1, 1, 1, 1, 1, 1]) σ m (blockS 0 (thenS (fun σ m => vcS Try.prog w0 qs36 (sub c36 [1, 1, 1, 1, 1, 1]) σ m (retQ Try.prog Try.f36 R)) (retQ Try.prog Try.f36 R)))) (blockS 0 (thenS (fun σ m => vcS Try.prog w0 qs36 (sub c36 [1, 1, 1, 1, 1, 1]) σ m (retQ Try.prog Try.f36 R)) (retQ Try.prog Try.f36 R))))))) (
 x6 = false ∧ vcS Try.prog w0 qs36 (sub c36 [1, 1, 1, 1, 1, 0, 0, 1, 1, 1, 1, 1, 1, 0]) (upd (upd (upd (upd (upd (upd (upd (upd (upd (upd (upd (upd σ 0 (.slice x0 x0n x0c)) 1 (.int .i64 x1)) 5 (.pointer (some ⟨x5, 0, none⟩))) 6 (.bool x6)) 7 (.bool x7)) 39 (.bool x39)) 54 (.bool x6)) 55 (.bool x6)) 56 (undef)) 57 (undef)) 58 (.bool false)) 53 (.bool false)) m (thenS (fun σ m => vcS Try.prog w0 qs36 (sub c36 [1, 1, 1, 1, 1, 0, 0, 1, 1, 1, 1, 1, 1, 1]) σ m (blockS 0 (thenS (fun σ m => vcS Try.prog w0 qs36 (sub c36 [1, 1, 1, 1, 1, 1]) σ m (retQ Try.prog Try.f36 R)) (retQ Try.prog Try.f36 R)))) (blockS 0 (thenS (fun σ m => vcS Try.prog w0 qs36 (sub c36 [1, 1, 1, 1, 1, 1]) σ m (retQ Try.prog Try.f36 R)) (retQ Try.prog Try.f36 R))))))))) :
 vcS Try.prog w0 qs36 (sub c36 [1, 1, 1, 1, 1, 0, 0, 1, 1, 1]) σ m (blockS 0 (thenS (fun σ m => vcS Try.prog w0 qs36 (sub c36 [1, 1, 1, 1, 1, 1]) σ m (retQ Try.prog Try.f36 R)) (retQ Try.prog Try.f36 R))) := by
  have es0 : (upd (upd (upd (upd (upd (upd σ 0 (.slice x0 x0n x0c)) 1 (.int .i64 x1)) 5 (.pointer (some ⟨x5, 0, none⟩))) 6 (.bool x6)) 7 (.bool x7)) 39 (.bool x39)) = σ := by rw [upd_id h0, upd_id h1, upd_id h5, upd_id h6, upd_id h7, upd_id h39]
  exact cast (congrArg (fun s => vcS Try.prog w0 qs36 (sub c36 [1, 1, 1, 1, 1, 0, 0, 1, 1, 1]) s m (blockS 0 (thenS (fun σ m => vcS Try.prog w0 qs36 (sub c36 [1, 1, 1, 1, 1, 1]) σ m (retQ Try.prog Try.f36 R)) (retQ Try.prog Try.f36 R)))) es0) (cast (by kernel_rfl) h)
theorem vr36_11111001111110 (w0 : World) (m : AM) (σ : Sg) (R : Value → AM → Prop)  (x0 : Option Addr) (x0n x0c : Nat) (x1 : Int) (x5 : Nat) (x7 : Bool) (K : Bool → AM → Prop) (h0 : σ 0 = .slice x0 x0n x0c) (h1 : σ 1 = .int .i64 x1) (h5 : σ 5 = .pointer (some ⟨x5, 0, none⟩)) (h7 : σ 7 = .bool x7)
 (h_t : 
 ∃ i56 : Int, m.cell ⟨x5, 0, none⟩ = some (.int .i64 i56) ∧ ∃ i57 : Int, m.cell ⟨x5, 1, none⟩ = some (.int .i64 i57) ∧ ∃ i58 : Int, m.cell ⟨x5, 2, none⟩ = some (.int .i64 i58) ∧ ∃ i59 : Int, m.cell ⟨x5, 3, none⟩ = some (.int .i64 i59) ∧ ∃ i60 : Int, m.cell ⟨x5, 4, none⟩ = some (.int .i64 i60) ∧ 
 CallsA Try.prog w0 31 #[.agg #[.int .i64 i56, .int .i64 i57, .int .i64 i58, .int .i64 i59, .int .i64 i60]] m fun r62 m63 =>
 ∃ t61 : Bool, r62 = .bool t61 ∧ (bcase t61 (
 (bcase t61 (
 (bcase (bif t61 then !x7 else false) (
 ∃ i64 : Int, m63.cell ⟨x5, 0, none⟩ = some (.int .i64 i64) ∧ ∃ i65 : Int, m63.cell ⟨x5, 1, none⟩ = some (.int .i64 i65) ∧ ∃ i66 : Int, m63.cell ⟨x5, 2, none⟩ = some (.int .i64 i66) ∧ ∃ i67 : Int, m63.cell ⟨x5, 3, none⟩ = some (.int .i64 i67) ∧ ∃ i68 : Int, m63.cell ⟨x5, 4, none⟩ = some (.int .i64 i68) ∧ 
 (bcase (bif t61 then !x7 else false) (
 CallsA Try.prog w0 25 #[.agg #[.int .i64 i64, .int .i64 i65, .int .i64 i66, .int .i64 i67, .int .i64 i68]] m63 fun r70 m71 =>
 ∃ i69 : Int, r70 = .int .i64 i69 ∧ (bcase (bif t61 then !x7 else false) (
 IntKind.i64 = IntKind.i64 ∧ (bcase (bif bif t61 then !x7 else false then (i69 : Int) != 0 else false) (
 (bcase (bif bif t61 then !x7 else false then (i69 : Int) != 0 else false) (
 (bcase (bif bif t61 then !x7 else false then (i69 : Int) != 0 else false) (
 IntKind.i64 = IntKind.i64 ∧ (bcase (bif bif t61 then !x7 else false then (i69 : Int) != 0 else false) (
 ((0 : Int) ≤ (IntKind.wrap .i64 (x1 + 1)) ∧ (IntKind.wrap .i64 (x1 + 1)) < ((x0n : Nat) : Int)) ∧ nilO x0 fun a72 =>
 (bcase (bif bif t61 then !x7 else false then (i69 : Int) != 0 else false) (
 ∃ i73 : Int, m71.cell (a72.add ((IntKind.wrap .i64 (x1 + 1) : Int).toNat * 5)) = some (.int .i64 i73) ∧ ∃ i74 : Int, m71.cell ((a72.add ((IntKind.wrap .i64 (x1 + 1) : Int).toNat * 5)).add 1) = some (.int .i64 i74) ∧ ∃ i75 : Int, m71.cell ((a72.add ((IntKind.wrap .i64 (x1 + 1) : Int).toNat * 5)).add 2) = some (.int .i64 i75) ∧ ∃ i76 : Int, m71.cell ((a72.add ((IntKind.wrap .i64 (x1 + 1) : Int).toNat * 5)).add 3) = some (.int .i64 i76) ∧ ∃ i77 : Int, m71.cell ((a72.add ((IntKind.wrap .i64 (x1 + 1) : Int).toNat * 5)).add 4) = some (.int .i64 i77) ∧ 
 ((bcase (bif bif t61 then !x7 else false then (i69 : Int) != 0 else false) (
 CallsA Try.prog w0 21 #[.agg #[.int .i64 i73, .int .i64 i74, .int .i64 i75, .int .i64 i76, .int .i64 i77]] m71 fun r81 m82 =>
 ∃ (A78 : Option Addr) (n79 c80 : Nat), r81 = .slice A78 n79 c80 ∧ (bcase (bif bif t61 then !x7 else false then (i69 : Int) != 0 else false) (
 ∃ i83 : Int, m82.cell ⟨x5, 0, none⟩ = some (.int .i64 i83) ∧ ∃ i84 : Int, m82.cell ⟨x5, 1, none⟩ = some (.int .i64 i84) ∧ ∃ i85 : Int, m82.cell ⟨x5, 2, none⟩ = some (.int .i64 i85) ∧ ∃ i86 : Int, m82.cell ⟨x5, 3, none⟩ = some (.int .i64 i86) ∧ ∃ i87 : Int, m82.cell ⟨x5, 4, none⟩ = some (.int .i64 i87) ∧ 
 (bcase (bif bif t61 then !x7 else false then (i69 : Int) != 0 else false) (
 CallsA Try.prog w0 25 #[.agg #[.int .i64 i83, .int .i64 i84, .int .i64 i85, .int .i64 i86, .int .i64 i87]] m82 fun r89 m90 =>
 ∃ i88 : Int, r89 = .int .i64 i88 ∧ (bcase (bif bif t61 then !x7 else false then (i69 : Int) != 0 else false) (
 CallsA Try.prog w0 53 #[.slice A78 n79 c80, .int .i64 i88] m90 fun r92 m93 =>
 ∃ t91 : Bool, r92 = .bool t91 ∧ true = true ∧ true = true ∧ K (bif bif bif t61 then !x7 else false then (i69 : Int) != 0 else false then t91 else false) m93) (
 (bif bif t61 then !x7 else false then (i69 : Int) != 0 else false) = false ∧ true = true ∧ true = true ∧ K false m90))) (
 (bcase (bif bif t61 then !x7 else false then (i69 : Int) != 0 else false) (
 CallsA Try.prog w0 53 #[.slice A78 n79 c80, undef] m82 fun r95 m96 =>
 ∃ t94 : Bool, r95 = .bool t94 ∧ true = true ∧ true = true ∧ K (bif bif bif t61 then !x7 else false then (i69 : Int) != 0 else false then t94 else false) m96) (
 (bif bif t61 then !x7 else false then (i69 : Int) != 0 else false) = false ∧ true = true ∧ true = true ∧ K false m82))))) (
 (bcase (bif bif t61 then !x7 else false then (i69 : Int) != 0 else false) (
 CallsA Try.prog w0 25 #[undef] m82 fun r98 m99 =>
 ∃ i97 : Int, r98 = .int .i64 i97 ∧ (bcase (bif bif t61 then !x7 else false then (i69 : Int) != 0 else false) (
 CallsA Try.prog w0 53 #[.slice A78 n79 c80, .int .i64 i97] m99 fun r101 m102 =>
 ∃ t100 : Bool, r101 = .bool t100 ∧ true = true ∧ true = true ∧ K (bif bif bif t61 then !x7 else false then (i69 : Int) != 0 else false then t100 else false) m102) (
 (bif bif t61 then !x7 else false then (i69 : Int) != 0 else false) = false ∧ true = true ∧ true = true ∧ K false m99))) (
 (bcase (bif bif t61 then !x7 else false then (i69 : Int) != 0 else false) (
 CallsA Try.prog w0 53 #[.slice A78 n79 c80, undef] m82 fun r104 m105 =>
 ∃ t103 : Bool, r104 = .bool t103 ∧ true = true ∧ true = true ∧ K (bif bif bif t61 then !x7 else false then (i69 : Int) != 0 else false then t103 else false) m105) (
 (bif bif t61 then !x7 else false then (i69 : Int) != 0 else false) = false ∧ true = true ∧ true = true ∧ K false m82))))))) (
 (bcase (bif bif t61 then !x7 else false then (i69 : Int) != 0 else false) (
 ∃ i106 : Int, m71.cell ⟨x5, 0, none⟩ = some (.int .i64 i106) ∧ ∃ i107 : Int, m71.cell ⟨x5, 1, none⟩ = some (.int .i64 i107) ∧ ∃ i108 : Int, m71.cell ⟨x5, 2, none⟩ = some (.int .i64 i108) ∧ ∃ i109 : Int, m71.cell ⟨x5, 3, none⟩ = some (.int .i64 i109) ∧ ∃ i110 : Int, m71.cell ⟨x5, 4, none⟩ = some (.int .i64 i110) ∧ 
 (bcase (bif bif t61 then !x7 else false then (i69 : Int) != 0 else false) (
 CallsA Try.prog w0 25 #[.agg #[.int .i64 i106, .int .i64 i107, .int .i64 i108, .int .i64 i109, .int .i64 i110]] m71 fun r112 m113 =>
 ∃ i111 : Int, r112 = .int .i64 i111 ∧ (bcase (bif bif t61 then !x7 else false then (i69 : Int) != 0 else false) (
 CallsA Try.prog w0 53 #[undef, .int .i64 i111] m113 fun r115 m116 =>
 ∃ t114 : Bool, r115 = .bool t114 ∧ true = true ∧ true = true ∧ K (bif bif bif t61 then !x7 else false then (i69 : Int) != 0 else false then t114 else false) m116) (
 (bif bif t61 then !x7 else false then (i69 : Int) != 0 else false) = false ∧ true = true ∧ true = true ∧ K false m113))) (
 (bcase (bif bif t61 then !x7 else false then (i69 : Int) != 0 else false) (
 CallsA Try.prog w0 53 #[undef, undef] m71 fun r118 m119 =>
 ∃ t117 : Bool, r118 = .bool t117 ∧ true = true ∧ true = true ∧ K (bif bif bif t61 then !x7 else false then (i69 : Int) != 0 else false then t117 else false) m119) (
 (bif bif t61 then !x7 else false then (i69 : Int) != 0 else false) = false ∧ true = true ∧ true = true ∧ K false m71))))) (
 (bcase (bif bif t61 then !x7 else false then (i69 : Int) != 0 else false) (
 CallsA Try.prog w0 25 #[undef] m71 fun r121 m122 =>
 ∃ i120 : Int, r121 = .int .i64 i120 ∧ (bcase (bif bif t61 then !x7 else false then (i69 : Int) != 0 else false) (
 CallsA Try.prog w0 53 #[undef, .int .i64 i120] m122 fun r124 m125 =>
 ∃ t123 : Bool, r124 = .bool t123 ∧ true = true ∧ true = true ∧ K (bif bif bif t61 then !x7 else false then (i69 : Int) != 0 else false then t123 else false) m125) (
 (bif bif t61 then !x7 else false then (i69 : Int) != 0 else false) = false ∧ true = true ∧ true = true ∧ K false m122))) (
 (bcase (bif bif t61 then !x7 else false then (i69 : Int) != 0 else false) (
 CallsA Try.prog w0 53 #[undef, undef] m71 fun r127 m128 =>
 ∃ t126 : Bool, r127 = .bool t126 ∧ true = true ∧ true = true ∧ K (bif bif bif t61 then !x7 else false then (i69 : Int) != 0 else false then t126 else false) m128) (
 (bif bif t61 then !x7 else false then (i69 : Int) != 0 else false) = false ∧ true = true ∧ true = true ∧ K false m71))))))))) ∧
 ((bcase (bif bif t61 then !x7 else false then (i69 : Int) != 0 else false) (
 ∃ i129 : Int, m71.cell ⟨x5, 0, none⟩ = some (.int .i64 i129) ∧ ∃ i130 : Int, m71.cell ⟨x5, 1, none⟩ = some (.int .i64 i130) ∧ ∃ i131 : Int, m71.cell ⟨x5, 2, none⟩ = some (.int .i64 i131) ∧ ∃ i132 : Int, m71.cell ⟨x5, 3, none⟩ = some (.int .i64 i132) ∧ ∃ i133 : Int, m71.cell ⟨x5, 4, none⟩ = some (.int .i64 i133) ∧ 
 (bcase (bif bif t61 then !x7 else false then (i69 : Int) != 0 else false) (
 CallsA Try.prog w0 21 #[.agg #[.int .i64 i73, .int .i64 i74, .int .i64 i75, .int .i64 i76, .int .i64 i77]] m71 fun r137 m138 =>
 ∃ (A134 : Option Addr) (n135 c136 : Nat), r137 = .slice A134 n135 c136 ∧ (bcase (bif bif t61 then !x7 else false then (i69 : Int) != 0 else false) (
 CallsA Try.prog w0 25 #[.agg #[.int .i64 i129, .int .i64 i130, .int .i64 i131, .int .i64 i132, .int .i64 i133]] m138 fun r140 m141 =>
 ∃ i139 : Int, r140 = .int .i64 i139 ∧ (bcase (bif bif t61 then !x7 else false then (i69 : Int) != 0 else false) (
 CallsA Try.prog w0 53 #[.slice A134 n135 c136, .int .i64 i139] m141 fun r143 m144 =>
 ∃ t142 : Bool, r143 = .bool t142 ∧ true = true ∧ true = true ∧ K (bif bif bif t61 then !x7 else false then (i69 : Int) != 0 else false then t142 else false) m144) (
 (bif bif t61 then !x7 else false then (i69 : Int) != 0 else false) = false ∧ true = true ∧ true = true ∧ K false m141))) (
 (bcase (bif bif t61 then !x7 else false then (i69 : Int) != 0 else false) (
 CallsA Try.prog w0 53 #[.slice A134 n135 c136, undef] m138 fun r146 m147 =>
 ∃ t145 : Bool, r146 = .bool t145 ∧ true = true ∧ true = true ∧ K (bif bif bif t61 then !x7 else false then (i69 : Int) != 0 else false then t145 else false) m147) (
 (bif bif t61 then !x7 else false then (i69 : Int) != 0 else false) = false ∧ true = true ∧ true = true ∧ K false m138))))) (
 (bcase (bif bif t61 then !x7 else false then (i69 : Int) != 0 else false) (
 CallsA Try.prog w0 25 #[.agg #[.int .i64 i129, .int .i64 i130, .int .i64 i131, .int .i64 i132, .int .i64 i133]] m71 fun r149 m150 =>
 ∃ i148 : Int, r149 = .int .i64 i148 ∧ (bcase (bif bif t61 then !x7 else false then (i69 : Int) != 0 else false) (
 CallsA Try.prog w0 53 #[undef, .int .i64 i148] m150 fun r152 m153 =>
 ∃ t151 : Bool, r152 = .bool t151 ∧ true = true ∧ true = true ∧ K (bif bif bif t61 then !x7 else false then (i69 : Int) != 0 else false then t151 else false) m153) (
 (bif bif t61 then !x7 else false then (i69 : Int) != 0 else false) = false ∧ true = true ∧ true = true ∧ K false m150))) (
 (bcase (bif bif t61 then !x7 else false then (i69 : Int) != 0 else false) (
 CallsA Try.prog w0 53 #[undef, undef] m71 fun r155 m156 =>
 ∃ t154 : Bool, r155 = .bool t154 ∧ true = true ∧ true = true ∧ K (bif bif bif t61 then !x7 else false then (i69 : Int) != 0 else false then t154 else false) m156) (
 (bif bif t61 then !x7 else false then (i69 : Int) != 0 else false) = false ∧ true = true ∧ true = true ∧ K false m71))))))) (
 (bcase (bif bif t61 then !x7 else false then (i69 : Int) != 0 else false) (
 CallsA Try.prog w0 21 #[.agg #[.int .i64 i73, .int .i64 i74, .int .i64 i75, .int .i64 i76, .int .i64 i77]] m71 fun r160 m161 =>
 ∃ (A157 : Option Addr) (n158 c159 : Nat), r160 = .slice A157 n158 c159 ∧ (bcase (bif bif t61 then !x7 else false then (i69 : Int) != 0 else false) (
 CallsA Try.prog w0 25 #[undef] m161 fun r163 m164 =>
 ∃ i162 : Int, r163 = .int .i64 i162 ∧ (bcase (bif bif t61 then !x7 else false then (i69 : Int) != 0 else false) (
 CallsA Try.prog w0 53 #[.slice A157 n158 c159, .int .i64 i162] m164 fun r166 m167 =>
 ∃ t165 : Bool, r166 = .bool t165 ∧ true = true ∧ true = true ∧ K (bif bif bif t61 then !x7 else false then (i69 : Int) != 0 else false then t165 else false) m167) (
 (bif bif t61 then !x7 else false then (i69 : Int) != 0 else false) = false ∧ true = true ∧ true = true ∧ K false m164))) (
 (bcase (bif bif t61 then !x7 else false then (i69 : Int) != 0 else false) (
 CallsA Try.prog w0 53 #[.slice A157 n158 c159, undef] m161 fun r169 m170 =>
 ∃ t168 : Bool, r169 = .bool t168 ∧ true = true ∧ true = true ∧ K (bif bif bif t61 then !x7 else false then (i69 : Int) != 0 else false then t168 else false) m170) (
 (bif bif t61 then !x7 else false then (i69 : Int) != 0 else false) = false ∧ true = true ∧ true = true ∧ K false m161))))) (
 (bcase (bif bif t61 then !x7 else false then (i69 : Int) != 0 else false) (
 CallsA Try.prog w0 25 #[undef] m71 fun r172 m173 =>
 ∃ i171 : Int, r172 = .int .i64 i171 ∧ (bcase (bif bif t61 then !x7 else false then (i69 : Int) != 0 else false) (
 CallsA Try.prog w0 53 #[undef, .int .i64 i171] m173 fun r175 m176 =>
 ∃ t174 : Bool, r175 = .bool t174 ∧ true = true ∧ true = true ∧ K (bif bif bif t61 then !x7 else false then (i69 : Int) != 0 else false then t174 else false) m176) (
 (bif bif t61 then !x7 else false then (i69 : Int) != 0 else false) = false ∧ true = true ∧ true = true ∧ K false m173))) (
 (bcase (bif bif t61 then !x7 else false then (i69 : Int) != 0 else false) (
 CallsA Try.prog w0 53 #[undef, undef] m71 fun r178 m179 =>
 ∃ t177 : Bool, r178 = .bool t177 ∧ true = true ∧ true = true ∧ K (bif bif bif t61 then !x7 else false then (i69 : Int) != 0 else false then t177 else false) m179) (
 (bif bif t61 then !x7 else false then (i69 : Int) != 0 else false) = false ∧ true = true ∧ true = true ∧ K false m71)))))))))) (
 ((bcase (bif bif t61 then !x7 else false then (i69 : Int) != 0 else false) (
 CallsA Try.prog w0 21 #[undef] m71 fun r183 m184 =>
 ∃ (A180 : Option Addr) (n181 c182 : Nat), r183 = .slice A180 n181 c182 ∧ (bcase (bif bif t61 then !x7 else false then (i69 : Int) != 0 else false) (
 ∃ i185 : Int, m184.cell ⟨x5, 0, none⟩ = some (.int .i64 i185) ∧ ∃ i186 : Int, m184.cell ⟨x5, 1, none⟩ = some (.int .i64 i186) ∧ ∃ i187 : Int, m184.cell ⟨x5, 2, none⟩ = some (.int .i64 i187) ∧ ∃ i188 : Int, m184.cell ⟨x5, 3, none⟩ = some (.int .i64 i188) ∧ ∃ i189 : Int, m184.cell ⟨x5, 4, none⟩ = some (.int .i64 i189) ∧ 
 (bcase (bif bif t61 then !x7 else false then (i69 : Int) != 0 else false) (
 CallsA Try.prog w0 25 #[.agg #[.int .i64 i185, .int .i64 i186, .int .i64 i187, .int .i64 i188, .int .i64 i189]] m184 fun r191 m192 =>
 ∃ i190 : Int, r191 = .int .i64 i190 ∧ (bcase (bif bif t61 then !x7 else false then (i69 : Int) != 0 else false) (
 CallsA Try.prog w0 53 #[.slice A180 n181 c182, .int .i64 i190] m192 fun r194 m195 =>
 ∃ t193 : Bool, r194 = .bool t193 ∧ true = true ∧ true = true ∧ K (bif bif bif t61 then !x7 else false then (i69 : Int) != 0 else false then t193 else false) m195) (
 (bif bif t61 then !x7 else false then (i69 : Int) != 0 else false) = false ∧ true = true ∧ true = true ∧ K false m192))) (
 (bcase (bif bif t61 then !x7 else false then (i69 : Int) != 0 else false) (
 CallsA Try.prog w0 53 #[.slice A180 n181 c182, undef] m184 fun r197 m198 =>
 ∃ t196 : Bool, r197 = .bool t196 ∧ true = true ∧ true = true ∧ K (bif bif bif t61 then !x7 else false then (i69 : Int) != 0 else false then t196 else false) m198) (
 (bif bif t61 then !x7 else false then (i69 : Int) != 0 else false) = false ∧ true = true ∧ true = true ∧ K false m184))))) (
 (bcase (bif bif t61 then !x7 else false then (i69 : Int) != 0 else false) (
 CallsA Try.prog w0 25 #[undef] m184 fun r200 m201 =>
 ∃ i199 : Int, r200 = .int .i64 i199 ∧ (bcase (bif bif t61 then !x7 else false then (i69 : Int) != 0 else false) (
 CallsA Try.prog w0 53 #[.slice A180 n181 c182, .int .i64 i199] m201 fun r203 m204 =>
 ∃ t202 : Bool, r203 = .bool t202 ∧ true = true ∧ true = true ∧ K (bif bif bif t61 then !x7 else false then (i69 : Int) != 0 else false then t202 else false) m204) (
 (bif bif t61 then !x7 else false then (i69 : Int) != 0 else false) = false ∧ true = true ∧ true = true ∧ K false m201))) (
 (bcase (bif bif t61 then !x7 else false then (i69 : Int) != 0 else false) (
 CallsA Try.prog w0 53 #[.slice A180 n181 c182, undef] m184 fun r206 m207 =>
 ∃ t205 : Bool, r206 = .bool t205 ∧ true = true ∧ true = true ∧ K (bif bif bif t61 then !x7 else false then (i69 : Int) != 0 else false then t205 else false) m207) (
 (bif bif t61 then !x7 else false then (i69 : Int) != 0 else false) = false ∧ true = true ∧ true = true ∧ K false m184))))))) (
 (bcase (bif bif t61 then !x7 else false then (i69 : Int) != 0 else false) (
 ∃ i208 : Int, m71.cell ⟨x5, 0, none⟩ = some (.int .i64 i208) ∧ ∃ i209 : Int, m71.cell ⟨x5, 1, none⟩ = some (.int .i64 i209) ∧ ∃ i210 : Int, m71.cell ⟨x5, 2, none⟩ = some (.int .i64 i210) ∧ ∃ i211 : Int, m71.cell ⟨x5, 3, none⟩ = some (.int .i64 i211) ∧ ∃ i212 : Int, m71.cell ⟨x5, 4, none⟩ = some (.int .i64 i212) ∧ 
 (bcase (bif bif t61 then !x7 else false then (i69 : Int) != 0 else false) (
 CallsA Try.prog w0 25 #[.agg #[.int .i64 i208, .int .i64 i209, .int .i64 i210, .int .i64 i211, .int .i64 i212]] m71 fun r214 m215 =>
 ∃ i213 : Int, r214 = .int .i64 i213 ∧ (bcase (bif bif t61 then !x7 else false then (i69 : Int) != 0 else false) (
 CallsA Try.prog w0 53 #[undef, .int .i64 i213] m215 fun r217 m218 =>
 ∃ t216 : Bool, r217 = .bool t216 ∧ true = true ∧ true = true ∧ K (bif bif bif t61 then !x7 else false then (i69 : Int) != 0 else false then t216 else false) m218) (
 (bif bif t61 then !x7 else false then (i69 : Int) != 0 else false) = false ∧ true = true ∧ true = true ∧ K false m215))) (
 (bcase (bif bif t61 then !x7 else false then (i69 : Int) != 0 else false) (
 CallsA Try.prog w0 53 #[undef, undef] m71 fun r220 m221 =>
 ∃ t219 : Bool, r220 = .bool t219 ∧ true = true ∧ true = true ∧ K (bif bif bif t61 then !x7 else false then (i69 : Int) != 0 else false then t219 else false) m221) (
 (bif bif t61 then !x7 else false then (i69 : Int) != 0 else false) = false ∧ true = true ∧ true = true ∧ K false m71))))) (
 (bcase (bif bif t61 then !x7 else false then (i69 : Int) != 0 else false) (
 CallsA Try.prog w0 25 #[undef] m71 fun r223 m224 =>
 ∃ i222 : Int, r223 = .int .i64 i222 ∧ (bcase (bif bif t61 then !x7 else false then (i69 : Int) != 0 else false) (
 CallsA Try.prog w0 53 #[undef, .int .i64 i222] m224 fun r226 m227 =>
 ∃ t225 : Bool, r226 = .bool t225 ∧ true = true ∧ true = true ∧ K (bif bif bif t61 then !x7 else false then (i69 : Int) != 0 else false then t225 else false) m227) (
 (bif bif t61 then !x7 else false then (i69 : Int) != 0 else false) = false ∧ true = true ∧ true = true ∧ K false m224))) (
 (bcase (bif bif t61 then !x7 else false then (i69 : Int) != 0 else false) (
 CallsA Try.prog w0 53 #[undef, undef] m71 fun r229 m230 =>
 ∃ t228 : Bool, r229 = .bool t228 ∧ true = true ∧ true = true ∧ K (bif bif bif t61 then !x7 else false then (i69 : Int) != 0 else false then t228 else false) m230) (
 (bif bif t61 then !x7 else false then (i69 : Int) != 0 else false) = false ∧ true = true ∧ true = true ∧ K false m71))))))))) ∧
 ((bcase (bif bif t61 then !x7 else false then (i69 : Int) != 0 else false) (
 ∃ i231 : Int, m71.cell ⟨x5, 0, none⟩ = some (.int .i64 i231) ∧ ∃ i232 : Int, m71.cell ⟨x5, 1, none⟩ = some (.int .i64 i232) ∧ ∃ i233 : Int, m71.cell ⟨x5, 2, none⟩ = some (.int .i64 i233) ∧ ∃ i234 : Int, m71.cell ⟨x5, 3, none⟩ = some (.int .i64 i234) ∧ ∃ i235 : Int, m71.cell ⟨x5, 4, none⟩ = some (.int .i64 i235) ∧ 
 (bcase (bif bif t61 then !x7 else false then (i69 : Int) != 0 else false) (
 CallsA Try.prog w0 21 #[undef] m71 fun r239 m240 =>
 ∃ (A236 : Option Addr) (n237 c238 : Nat), r239 = .slice A236 n237 c238 ∧ (bcase (bif bif t61 then !x7 else false then (i69 : Int) != 0 else false) (
 CallsA Try.prog w0 25 #[.agg #[.int .i64 i231, .int .i64 i232, .int .i64 i233, .int .i64 i234, .int .i64 i235]] m240 fun r242 m243 =>
 ∃ i241 : Int, r242 = .int .i64 i241 ∧ (bcase (bif bif t61 then !x7 else false then (i69 : Int) != 0 else false) (
 CallsA Try.prog w0 53 #[.slice A236 n237 c238, .int .i64 i241] m243 fun r245 m246 =>
 ∃ t244 : Bool, r245 = .bool t244 ∧ true = true ∧ true = true ∧ K (bif bif bif t61 then !x7 else false then (i69 : Int) != 0 else false then t244 else false) m246) (
 (bif bif t61 then !x7 else false then (i69 : Int) != 0 else false) = false ∧ true = true ∧ true = true ∧ K false m243))) (
 (bcase (bif bif t61 then !x7 else false then (i69 : Int) != 0 else false) (
 CallsA Try.prog w0 53 #[.slice A236 n237 c238, undef] m240 fun r248 m249 =>
 ∃ t247 : Bool, r248 = .bool t247 ∧ true = true ∧ true = true ∧ K (bif bif bif t61 then !x7 else false then (i69 : Int) != 0 else false then t247 else false) m249) (
 (bif bif t61 then !x7 else false then (i69 : Int) != 0 else false) = false ∧ true = true ∧ true = true ∧ K false m240))))) (
 (bcase (bif bif t61 then !x7 else false then (i69 : Int) != 0 else false) (
 CallsA Try.prog w0 25 #[.agg #[.int .i64 i231, .int .i64 i232, .int .i64 i233, .int .i64 i234, .int .i64 i235]] m71 fun r251 m252 =>
 ∃ i250 : Int, r251 = .int .i64 i250 ∧ (bcase (bif bif t61 then !x7 else false then (i69 : Int) != 0 else false) (
 CallsA Try.prog w0 53 #[undef, .int .i64 i250] m252 fun r254 m255 =>
 ∃ t253 : Bool, r254 = .bool t253 ∧ true = true ∧ true = true ∧ K (bif bif bif t61 then !x7 else false then (i69 : Int) != 0 else false then t253 else false) m255) (
 (bif bif t61 then !x7 else false then (i69 : Int) != 0 else false) = false ∧ true = true ∧ true = true ∧ K false m252))) (
 (bcase (bif bif t61 then !x7 else false then (i69 : Int) != 0 else false) (
 CallsA Try.prog w0 53 #[undef, undef] m71 fun r257 m258 =>
 ∃ t256 : Bool, r257 = .bool t256 ∧ true = true ∧ true = true ∧ K (bif bif bif t61 then !x7 else false then (i69 : Int) != 0 else false then t256 else false) m258) (
 (bif bif t61 then !x7 else false then (i69 : Int) != 0 else false) = false ∧ true = true ∧ true = true ∧ K false m71))))))) (
 (bcase (bif bif t61 then !x7 else false then (i69 : Int) != 0 else false) (
 CallsA Try.prog w0 21 #[undef] m71 fun r262 m263 =>
 ∃ (A259 : Option Addr) (n260 c261 : Nat), r262 = .slice A259 n260 c261 ∧ (bcase (bif bif t61 then !x7 else false then (i69 : Int) != 0 else false) (
 CallsA Try.prog w0 25 #[undef] m263 fun r265 m266 =>
 ∃ i264 : Int, r265 = .int .i64 i264 ∧ (bcase (bif bif t61 then !x7 else false then (i69 : Int) != 0 else false) (
 CallsA Try.prog w0 53 #[.slice A259 n260 c261, .int .i64 i264] m266 fun r268 m269 =>
 ∃ t267 : Bool, r268 = .bool t267 ∧ true = true ∧ true = true ∧ K (bif bif bif t61 then !x7 else false then (i69 : Int) != 0 else false then t267 else false) m269) (
 (bif bif t61 then !x7 else false then (i69 : Int) != 0 else false) = false ∧ true = true ∧ true = true ∧ K false m266))) (
 (bcase (bif bif t61 then !x7 else false then (i69 : Int) != 0 else false) (
 CallsA Try.prog w0 53 #[.slice A259 n260 c261, undef] m263 fun r271 m272 =>
 ∃ t270 : Bool, r271 = .bool t270 ∧ true = true ∧ true = true ∧ K (bif bif bif t61 then !x7 else false then (i69 : Int) != 0 else false then t270 else false) m272) (
 (bif bif t61 then !x7 else false then (i69 : Int) != 0 else false) = false ∧ true = true ∧ true = true ∧ K false m263))))) (
 (bcase (bif bif t61 then !x7 else false then (i69 : Int) != 0 else false) (
 CallsA Try.prog w0 25 #[undef] m71 fun r274 m275 =>
 ∃ i273 : Int, r274 = .int .i64 i273 ∧ (bcase (bif bif t61 then !x7 else false then (i69 : Int) != 0 else false) (
 CallsA Try.prog w0 53 #[undef, .int .i64 i273] m275 fun r277 m278 =>
 ∃ t276 : Bool, r277 = .bool t276 ∧ true = true ∧ true = true ∧ K (bif bif bif t61 then !x7 else false then (i69 : Int) != 0 else false then t276 else false) m278) (
 (bif bif t61 then !x7 else false then (i69 : Int) != 0 else false) = false ∧ true = true ∧ true = true ∧ K false m275))) (
 (bcase (bif bif t61 then !x7 else false then (i69 : Int) != 0 else false) (
 CallsA Try.prog w0 53 #[undef, undef] m71 fun r280 m281 =>
 ∃ t279 : Bool, r280 = .bool t279 ∧ true = true ∧ true = true ∧ K (bif bif bif t61 then !x7 else false then (i69 : Int) != 0 else false then t279 else false) m281) (
 (bif bif t61 then !x7 else false then (i69 : Int) != 0 else false) = false ∧ true = true ∧ true = true ∧ K false m71)))))))))))) (
 (bcase (bif bif t61 then !x7 else false then (i69 : Int) != 0 else false) (
 False) (
 ((bcase (bif bif t61 then !x7 else false then (i69 : Int) != 0 else false) (
 CallsA Try.prog w0 21 #[undef] m71 fun r285 m286 =>
 ∃ (A282 : Option Addr) (n283 c284 : Nat), r285 = .slice A282 n283 c284 ∧ (bcase (bif bif t61 then !x7 else false then (i69 : Int) != 0 else false) (
 ∃ i287 : Int, m286.cell ⟨x5, 0, none⟩ = some (.int .i64 i287) ∧ ∃ i288 : Int, m286.cell ⟨x5, 1, none⟩ = some (.int .i64 i288) ∧ ∃ i289 : Int, m286.cell ⟨x5, 2, none⟩ = some (.int .i64 i289) ∧ ∃ i290 : Int, m286.cell ⟨x5, 3, none⟩ = some (.int .i64 i290) ∧ ∃ i291 : Int, m286.cell ⟨x5, 4, none⟩ = some (.int .i64 i291) ∧ 
 (bcase (bif bif t61 then !x7 else false then (i69 : Int) != 0 else false) (
 CallsA Try.prog w0 25 #[.agg #[.int .i64 i287, .int .i64 i288, .int .i64 i289, .int .i64 i290, .int .i64 i291]] m286 fun r293 m294 =>
 ∃ i292 : Int, r293 = .int .i64 i292 ∧ (bcase (bif bif t61 then !x7 else false then (i69 : Int) != 0 else false) (
 CallsA Try.prog w0 53 #[.slice A282 n283 c284, .int .i64 i292] m294 fun r296 m297 =>
 ∃ t295 : Bool, r296 = .bool t295 ∧ true = true ∧ true = true ∧ K (bif bif bif t61 then !x7 else false then (i69 : Int) != 0 else false then t295 else false) m297) (
 (bif bif t61 then !x7 else false then (i69 : Int) != 0 else false) = false ∧ true = true ∧ true = true ∧ K false m294))) (
 (bcase (bif bif t61 then !x7 else false then (i69 : Int) != 0 else false) (
 CallsA Try.prog w0 53 #[.slice A282 n283 c284, undef] m286 fun r299 m300 =>
 ∃ t298 : Bool, r299 = .bool t298 ∧ true = true ∧ true = true ∧ K (bif bif bif t61 then !x7 else false then (i69 : Int) != 0 else false then t298 else false) m300) (
 (bif bif t61 then !x7 else false then (i69 : Int) != 0 else false) = false ∧ true = true ∧ true = true ∧ K false m286))))) (
 (bcase (bif bif t61 then !x7 else false then (i69 : Int) != 0 else false) (
 CallsA Try.prog w0 25 #[undef] m286 fun r302 m303 =>
 ∃ i301 : Int, r302 = .int .i64 i301 ∧ (bcase (bif bif t61 then !x7 else false then (i69 : Int) != 0 else false) (
 CallsA Try.prog w0 53 #[.slice A282 n283 c284, .int .i64 i301] m303 fun r305 m306 =>
 ∃ t304 : Bool, r305 = .bool t304 ∧ true = true ∧ true = true ∧ K (bif bif bif t61 then !x7 else false then (i69 : Int) != 0 else false then t304 else false) m306) (
 (bif bif t61 then !x7 else false then (i69 : Int) != 0 else false) = false ∧ true = true ∧ true = true ∧ K false m303))) (
 (bcase (bif bif t61 then !x7 else false then (i69 : Int) != 0 else false) (
 CallsA Try.prog w0 53 #[.slice A282 n283 c284, undef] m286 fun r308 m309 =>
 ∃ t307 : Bool, r308 = .bool t307 ∧ true = true ∧ true = true ∧ K (bif bif bif t61 then !x7 else false then (i69 : Int) != 0 else false then t307 else false) m309) (
 (bif bif t61 then !x7 else false then (i69 : Int) != 0 else false) = false ∧ true = true ∧ true = true ∧ K false m286))))))) (
 (bcase (bif bif t61 then !x7 else false then (i69 : Int) != 0 else false) (
 ∃ i310 : Int, m71.cell ⟨x5, 0, none⟩ = some (.int .i64 i310) ∧ ∃ i311 : Int, m71.cell ⟨x5, 1, none⟩ = some (.int .i64 i311) ∧ ∃ i312 : Int, m71.cell ⟨x5, 2, none⟩ = some (.int .i64 i312) ∧ ∃ i313 : Int, m71.cell ⟨x5, 3, none⟩ = some (.int .i64 i313) ∧ ∃ i314 : Int, m71.cell ⟨x5, 4, none⟩ = some (.int .i64 i314) ∧ 
 (bcase (bif bif t61 then !x7 else false then (i69 : Int) != 0 else false) (
 CallsA Try.prog w0 25 #[.agg #[.int .i64 i310, .int .i64 i311, .int .i64 i312, .int .i64 i313, .int .i64 i314]] m71 fun r316 m317 =>
 ∃ i315 : Int, r316 = .int .i64 i315 ∧ (bcase (bif bif t61 then !x7 else false then (i69 : Int) != 0 else false) (
 CallsA Try.prog w0 53 #[undef, .int .i64 i315] m317 fun r319 m320 =>
 ∃ t318 : Bool, r319 = .bool t318 ∧ true = true ∧ true = true ∧ K (bif bif bif t61 then !x7 else false then (i69 : Int) != 0 else false then t318 else false) m320) (
 (bif bif t61 then !x7 else false then (i69 : Int) != 0 else false) = false ∧ true = true ∧ true = true ∧ K false m317))) (
 (bcase (bif bif t61 then !x7 else false then (i69 : Int) != 0 else false) (
 CallsA Try.prog w0 53 #[undef, undef] m71 fun r322 m323 =>
 ∃ t321 : Bool, r322 = .bool t321 ∧ true = true ∧ true = true ∧ K (bif bif bif t61 then !x7 else false then (i69 : Int) != 0 else false then t321 else false) m323) (
 (bif bif t61 then !x7 else false then (i69 : Int) != 0 else false) = false ∧ true = true ∧ true = true ∧ K false m71))))) (
 (bcase (bif bif t61 then !x7 else false then (i69 : Int) != 0 else false) (
 CallsA Try.prog w0 25 #[undef] m71 fun r325 m326 =>
 ∃ i324 : Int, r325 = .int .i64 i324 ∧ (bcase (bif bif t61 then !x7 else false then (i69 : Int) != 0 else false) (
 CallsA Try.prog w0 53 #[undef, .int .i64 i324] m326 fun r328 m329 =>
 ∃ t327 : Bool, r328 = .bool t327 ∧ true = true ∧ true = true ∧ K (bif bif bif t61 then !x7 else false then (i69 : Int) != 0 else false then t327 else false) m329) (
 (bif bif t61 then !x7 else false then (i69 : Int) != 0 else false) = false ∧ true = true ∧ true = true ∧ K false m326))) (
 (bcase (bif bif t61 then !x7 else false then (i69 : Int) != 0 else false) (
 CallsA Try.prog w0 53 #[undef, undef] m71 fun r331 m332 =>
 ∃ t330 : Bool, r331 = .bool t330 ∧ true = true ∧ true = true ∧ K (bif bif bif t61 then !x7 else false then (i69 : Int) != 0 else false then t330 else false) m332) (
 (bif bif t61 then !x7 else false then (i69 : Int) != 0 else false) = false ∧ true = true ∧ true = true ∧ K false m71))))))))) ∧
 ((bcase (bif bif t61 then !x7 else false then (i69 : Int) != 0 else false) (
 ∃ i333 : Int, m71.cell ⟨x5, 0, none⟩ = some (.int .i64 i333) ∧ ∃ i334 : Int, m71.cell ⟨x5, 1, none⟩ = some (.int .i64 i334) ∧ ∃ i335 : Int, m71.cell ⟨x5, 2, none⟩ = some (.int .i64 i335) ∧ ∃ i336 : Int, m71.cell ⟨x5, 3, none⟩ = some (.int .i64 i336) ∧ ∃ i337 : Int, m71.cell ⟨x5, 4, none⟩ = some (.int .i64 i337) ∧ 
 (bcase (bif bif t61 then !x7 else false then (i69 : Int) != 0 else false) (
 CallsA Try.prog w0 21 #[undef] m71 fun r341 m342 =>
 ∃ (A338 : Option Addr) (n339 c340 : Nat), r341 = .slice A338 n339 c340 ∧ (bcase (bif bif t61 then !x7 else false then (i69 : Int) != 0 else false) (
 CallsA Try.prog w0 25 #[.agg #[.int .i64 i333, .int .i64 i334, .int .i64 i335, .int .i64 i336, .int .i64 i337]] m342 fun r344 m345 =>
 ∃ i343 : Int, r344 = .int .i64 i343 ∧ (bcase (bif bif t61 then !x7 else false then (i69 : Int) != 0 else false) (
 CallsA Try.prog w0 53 #[.slice A338 n339 c340, .int .i64 i343] m345 fun r347 m348 =>
 ∃ t346 : Bool, r347 = .bool t346 ∧ true = true ∧ true = true ∧ K (bif bif bif t61 then !x7 else false then (i69 : Int) != 0 else false then t346 else false) m348) (
 (bif bif t61 then !x7 else false then (i69 : Int) != 0 else false) = false ∧ true = true ∧ true = true ∧ K false m345))) (
 (bcase (bif bif t61 then !x7 else false then (i69 : Int) != 0 else false) (
 CallsA Try.prog w0 53 #[.slice A338 n339 c340, undef] m342 fun r350 m351 =>
 ∃ t349 : Bool, r350 = .bool t349 ∧ true = true ∧ true = true ∧ K (bif bif bif t61 then !x7 else false then (i69 : Int) != 0 else false then t349 else false) m351) (
 (bif bif t61 then !x7 else false then (i69 : Int) != 0 else false) = false ∧ true = true ∧ true = true ∧ K false m342))))) (
 (bcase (bif bif t61 then !x7 else false then (i69 : Int) != 0 else false) (
 CallsA Try.prog w0 25 #[.agg #[.int .i64 i333, .int .i64 i334, .int .i64 i335, .int .i64 i336, .int .i64 i337]] m71 fun r353 m354 =>
 ∃ i352 : Int, r353 = .int .i64 i352 ∧ (bcase (bif bif t61 then !x7 else false then (i69 : Int) != 0 else false) (
 CallsA Try.prog w0 53 #[undef, .int .i64 i352] m354 fun r356 m357 =>
 ∃ t355 : Bool, r356 = .bool t355 ∧ true = true ∧ true = true ∧ K (bif bif bif t61 then !x7 else false then (i69 : Int) != 0 else false then t355 else false) m357) (
 (bif bif t61 then !x7 else false then (i69 : Int) != 0 else false) = false ∧ true = true ∧ true = true ∧ K false m354))) (
 (bcase (bif bif t61 then !x7 else false then (i69 : Int) != 0 else false) (
 CallsA Try.prog w0 53 #[undef, undef] m71 fun r359 m360 =>
 ∃ t358 : Bool, r359 = .bool t358 ∧ true = true ∧ true = true ∧ K (bif bif bif t61 then !x7 else false then (i69 : Int) != 0 else false then t358 else false) m360) (
 (bif bif t61 then !x7 else false then (i69 : Int) != 0 else false) = false ∧ true = true ∧ true = true ∧ K false m71))))))) (
 (bcase (bif bif t61 then !x7 else false then (i69 : Int) != 0 else false) (
 CallsA Try.prog w0 21 #[undef] m71 fun r364 m365 =>
 ∃ (A361 : Option Addr) (n362 c363 : Nat), r364 = .slice A361 n362 c363 ∧ (bcase (bif bif t61 then !x7 else false then (i69 : Int) != 0 else false) (
 CallsA Try.prog w0 25 #[undef] m365 fun r367 m368 =>
 ∃ i366 : Int, r367 = .int .i64 i366 ∧ (bcase (bif bif t61 then !x7 else false then (i69 : Int) != 0 else false) (
 CallsA Try.prog w0 53 #[.slice A361 n362 c363, .int .i64 i366] m368 fun r370 m371 =>
 ∃ t369 : Bool, r370 = .bool t369 ∧ true = true ∧ true = true ∧ K (bif bif bif t61 then !x7 else false then (i69 : Int) != 0 else false then t369 else false) m371) (
 (bif bif t61 then !x7 else false then (i69 : Int) != 0 else false) = false ∧ true = true ∧ true = true ∧ K false m368))) (
 (bcase (bif bif t61 then !x7 else false then (i69 : Int) != 0 else false) (
 CallsA Try.prog w0 53 #[.slice A361 n362 c363, undef] m365 fun r373 m374 =>
 ∃ t372 : Bool, r373 = .bool t372 ∧ true = true ∧ true = true ∧ K (bif bif bif t61 then !x7 else false then (i69 : Int) != 0 else false then t372 else false) m374) (
 (bif bif t61 then !x7 else false then (i69 : Int) != 0 else false) = false ∧ true = true ∧ true = true ∧ K false m365))))) (
 (bcase (bif bif t61 then !x7 else false then (i69 : Int) != 0 else false) (
 CallsA Try.prog w0 25 #[undef] m71 fun r376 m377 =>
 ∃ i375 : Int, r376 = .int .i64 i375 ∧ (bcase (bif bif t61 then !x7 else false then (i69 : Int) != 0 else false) (
 CallsA Try.prog w0 53 #[undef, .int .i64 i375] m377 fun r379 m380 =>
 ∃ t378 : Bool, r379 = .bool t378 ∧ true = true ∧ true = true ∧ K (bif bif bif t61 then !x7 else false then (i69 : Int) != 0 else false then t378 else false) m380) (
 (bif bif t61 then !x7 else false then (i69 : Int) != 0 else false) = false ∧ true = true ∧ true = true ∧ K false m377))) (
 (bcase (bif bif t61 then !x7 else false then (i69 : Int) != 0 else false) (
 CallsA Try.prog w0 53 #[undef, undef] m71 fun r382 m383 =>
 ∃ t381 : Bool, r382 = .bool t381 ∧ true = true ∧ true = true ∧ K (bif bif bif t61 then !x7 else false then (i69 : Int) != 0 else false then t381 else false) m383) (
 (bif bif t61 then !x7 else false then (i69 : Int) != 0 else false) = false ∧ true = true ∧ true = true ∧ K false m71)))))))))))))) (
 (bcase (bif bif t61 then !x7 else false then (i69 : Int) != 0 else false) (
 False) (
 (bcase (bif bif t61 then !x7 else false then (i69 : Int) != 0 else false) (
 False) (
 ((bcase (bif bif t61 then !x7 else false then (i69 : Int) != 0 else false) (
 CallsA Try.prog w0 21 #[undef] m71 fun r387 m388 =>
 ∃ (A384 : Option Addr) (n385 c386 : Nat), r387 = .slice A384 n385 c386 ∧ (bcase (bif bif t61 then !x7 else false then (i69 : Int) != 0 else false) (
 ∃ i389 : Int, m388.cell ⟨x5, 0, none⟩ = some (.int .i64 i389) ∧ ∃ i390 : Int, m388.cell ⟨x5, 1, none⟩ = some (.int .i64 i390) ∧ ∃ i391 : Int, m388.cell ⟨x5, 2, none⟩ = some (.int .i64 i391) ∧ ∃ i392 : Int, m388.cell ⟨x5, 3, none⟩ = some (.int .i64 i392) ∧ ∃ i393 : Int, m388.cell ⟨x5, 4, none⟩ = some (.int .i64 i393) ∧ 
 (bcase (bif bif t61 then !x7 else false then (i69 : Int) != 0 else false) (
 CallsA Try.prog w0 25 #[.agg #[.int .i64 i389, .int .i64 i390, .int .i64 i391, .int .i64 i392, .int .i64 i393]] m388 fun r395 m396 =>
 ∃ i394 : Int, r395 = .int .i64 i394 ∧ (bcase (bif bif t61 then !x7 else false then (i69 : Int) != 0 else false) (
 CallsA Try.prog w0 53 #[.slice A384 n385 c386, .int .i64 i394] m396 fun r398 m399 =>
 ∃ t397 : Bool, r398 = .bool t397 ∧ true = true ∧ true = true ∧ K (bif bif bif t61 then !x7 else false then (i69 : Int) != 0 else false then t397 else false) m399) (
 (bif bif t61 then !x7 else false then (i69 : Int) != 0 else false) = false ∧ true = true ∧ true = true ∧ K false m396))) (
 (bcase (bif bif t61 then !x7 else false then (i69 : Int) != 0 else false) (
 CallsA Try.prog w0 53 #[.slice A384 n385 c386, undef] m388 fun r401 m402 =>
 ∃ t400 : Bool, r401 = .bool t400 ∧ true = true ∧ true = true ∧ K (bif bif bif t61 then !x7 else false then (i69 : Int) != 0 else false then t400 else false) m402) (
 (bif bif t61 then !x7 else false then (i69 : Int) != 0 else false) = false ∧ true = true ∧ true = true ∧ K false m388))))) (
 (bcase (bif bif t61 then !x7 else false then (i69 : Int) != 0 else false) (
 CallsA Try.prog w0 25 #[undef] m388 fun r404 m405 =>
 ∃ i403 : Int, r404 = .int .i64 i403 ∧ (bcase (bif bif t61 then !x7 else false then (i69 : Int) != 0 else false) (
 CallsA Try.prog w0 53 #[.slice A384 n385 c386, .int .i64 i403] m405 fun r407 m408 =>
 ∃ t406 : Bool, r407 = .bool t406 ∧ true = true ∧ true = true ∧ K (bif bif bif t61 then !x7 else false then (i69 : Int) != 0 else false then t406 else false) m408) (
 (bif bif t61 then !x7 else false then (i69 : Int) != 0 else false) = false ∧ true = true ∧ true = true ∧ K false m405))) (
 (bcase (bif bif t61 then !x7 else false then (i69 : Int) != 0 else false) (
 CallsA Try.prog w0 53 #[.slice A384 n385 c386, undef] m388 fun r410 m411 =>
 ∃ t409 : Bool, r410 = .bool t409 ∧ true = true ∧ true = true ∧ K (bif bif bif t61 then !x7 else false then (i69 : Int) != 0 else false then t409 else false) m411) (
 (bif bif t61 then !x7 else false then (i69 : Int) != 0 else false) = false ∧ true = true ∧ true = true ∧ K false m388))))))) (
 (bcase (bif bif t61 then !x7 else false then (i69 : Int) != 0 else false) (
 ∃ i412 : Int, m71.cell ⟨x5, 0, none⟩ = some (.int .i64 i412) ∧ ∃ i413 : Int, m71.cell ⟨x5, 1, none⟩ = some (.int .i64 i413) ∧ ∃ i414 : Int, m71.cell ⟨x5, 2, none⟩ = some (.int .i64 i414) ∧ ∃ i415 : Int, m71.cell ⟨x5, 3, none⟩ = some (.int .i64 i415) ∧ ∃ i416 : Int, m71.cell ⟨x5, 4, none⟩ = some (.int .i64 i416) ∧ 
 (bcase (bif bif t61 then !x7 else false then (i69 : Int) != 0 else false) (
 CallsA Try.prog w0 25 #[.agg #[.int .i64 i412, .int .i64 i413, .int .i64 i414, .int .i64 i415, .int .i64 i416]] m71 fun r418 m419 =>
 ∃ i417 : Int, r418 = .int .i64 i417 ∧ (bcase (bif bif t61 then !x7 else false then (i69 : Int) != 0 else false) (
 CallsA Try.prog w0 53 #[undef, .int .i64 i417] m419 fun r421 m422 =>
 ∃ t420 : Bool, r421 = .bool t420 ∧ true = true ∧ true = true ∧ K (bif bif bif t61 then !x7 else false then (i69 : Int) != 0 else false then t420 else false) m422) (
 (bif bif t61 then !x7 else false then (i69 : Int) != 0 else false) = false ∧ true = true ∧ true = true ∧ K false m419))) (
 (bcase (bif bif t61 then !x7 else false then (i69 : Int) != 0 else false) (
 CallsA Try.prog w0 53 #[undef, undef] m71 fun r424 m425 =>
 ∃ t423 : Bool, r424 = .bool t423 ∧ true = true ∧ true = true ∧ K (bif bif bif t61 then !x7 else false then (i69 : Int) != 0 else false then t423 else false) m425) (
 (bif bif t61 then !x7 else false then (i69 : Int) != 0 else false) = false ∧ true = true ∧ true = true ∧ K false m71))))) (
 (bcase (bif bif t61 then !x7 else false then (i69 : Int) != 0 else false) (
 CallsA Try.prog w0 25 #[undef] m71 fun r427 m428 =>
 ∃ i426 : Int, r427 = .int .i64 i426 ∧ (bcase (bif bif t61 then !x7 else false then (i69 : Int) != 0 else false) (
 CallsA Try.prog w0 53 #[undef, .int .i64 i426] m428 fun r430 m431 =>
 ∃ t429 : Bool, r430 = .bool t429 ∧ true = true ∧ true = true ∧ K (bif bif bif t61 then !x7 else false then (i69 : Int) != 0 else false then t429 else false) m431) (
 (bif bif t61 then !x7 else false then (i69 : Int) != 0 else false) = false ∧ true = true ∧ true = true ∧ K false m428))) (
 (bcase (bif bif t61 then !x7 else false then (i69 : Int) != 0 else false) (
 CallsA Try.prog w0 53 #[undef, undef] m71 fun r433 m434 =>
 ∃ t432 : Bool, r433 = .bool t432 ∧ true = true ∧ true = true ∧ K (bif bif bif t61 then !x7 else false then (i69 : Int) != 0 else false then t432 else false) m434) (
 (bif bif t61 then !x7 else false then (i69 : Int) != 0 else false) = false ∧ true = true ∧ true = true ∧ K false m71))))))))) ∧
 ((bcase (bif bif t61 then !x7 else false then (i69 : Int) != 0 else false) (
 ∃ i435 : Int, m71.cell ⟨x5, 0, none⟩ = some (.int .i64 i435) ∧ ∃ i436 : Int, m71.cell ⟨x5, 1, none⟩ = some (.int .i64 i436) ∧ ∃ i437 : Int, m71.cell ⟨x5, 2, none⟩ = some (.int .i64 i437) ∧ ∃ i438 : Int, m71.cell ⟨x5, 3, none⟩ = some (.int .i64 i438) ∧ ∃ i439 : Int, m71.cell ⟨x5, 4, none⟩ = some (.int .i64 i439) ∧ 
 (bcase (bif bif t61 then !x7 else false then (i69 : Int) != 0 else false) (
 CallsA Try.prog w0 21 #[undef] m71 fun r443 m444 =>
 ∃ (A440 : Option Addr) (n441 c442 : Nat), r443 = .slice A440 n441 c442 ∧ (bcase (bif bif t61 then !x7 else false then (i69 : Int) != 0 else false) (
 CallsA Try.prog w0 25 #[.agg #[.int .i64 i435, .int .i64 i436, .int .i64 i437, .int .i64 i438, .int .i64 i439]] m444 fun r446 m447 =>
 ∃ i445 : Int, r446 = .int .i64 i445 ∧ (bcase (bif bif t61 then !x7 else false then (i69 : Int) != 0 else false) (
 CallsA Try.prog w0 53 #[.slice A440 n441 c442, .int .i64 i445] m447 fun r449 m450 =>
 ∃ t448 : Bool, r449 = .bool t448 ∧ true = true ∧ true = true ∧ K (bif bif bif t61 then !x7 else false then (i69 : Int) != 0 else false then t448 else false) m450) (
 (bif bif t61 then !x7 else false then (i69 : Int) != 0 else false) = false ∧ true = true ∧ true = true ∧ K false m447))) (
 (bcase (bif bif t61 then !x7 else false then (i69 : Int) != 0 else false) (
 CallsA Try.prog w0 53 #[.slice A440 n441 c442, undef] m444 fun r452 m453 =>
 ∃ t451 : Bool, r452 = .bool t451 ∧ true = true ∧ true = true ∧ K (bif bif bif t61 then !x7 else false then (i69 : Int) != 0 else false then t451 else false) m453) (
 (bif bif t61 then !x7 else false then (i69 : Int) != 0 else false) = false ∧ true = true ∧ true = true ∧ K false m444))))) (
 (bcase (bif bif t61 then !x7 else false then (i69 : Int) != 0 else false) (
 CallsA Try.prog w0 25 #[.agg #[.int .i64 i435, .int .i64 i436, .int .i64 i437, .int .i64 i438, .int .i64 i439]] m71 fun r455 m456 =>
 ∃ i454 : Int, r455 = .int .i64 i454 ∧ (bcase (bif bif t61 then !x7 else false then (i69 : Int) != 0 else false) (
 CallsA Try.prog w0 53 #[undef, .int .i64 i454] m456 fun r458 m459 =>
 ∃ t457 : Bool, r458 = .bool t457 ∧ true = true ∧ true = true ∧ K (bif bif bif t61 then !x7 else false then (i69 : Int) != 0 else false then t457 else false) m459) (
 (bif bif t61 then !x7 else false then (i69 : Int) != 0 else false) = false ∧ true = true ∧ true = true ∧ K false m456))) (
 (bcase (bif bif t61 then !x7 else false then (i69 : Int) != 0 else false) (
 CallsA Try.prog w0 53 #[undef, undef] m71 fun r461 m462 =>
 ∃ t460 : Bool, r461 = .bool t460 ∧ true = true ∧ true = true ∧ K (bif bif bif t61 then !x7 else false then (i69 : Int) != 0 else false then t460 else false) m462) (
 (bif bif t61 then !x7 else false then (i69 : Int) != 0 else false) = false ∧ true = true ∧ true = true ∧ K false m71))))))) (
 (bcase (bif bif t61 then !x7 else false then (i69 : Int) != 0 else false) (
 CallsA Try.prog w0 21 #[undef] m71 fun r466 m467 =>
 ∃ (A463 : Option Addr) (n464 c465 : Nat), r466 = .slice A463 n464 c465 ∧ (bcase (bif bif t61 then !x7 else false then (i69 : Int) != 0 else false) (
 CallsA Try.prog w0 25 #[undef] m467 fun r469 m470 =>
 ∃ i468 : Int, r469 = .int .i64 i468 ∧ (bcase (bif bif t61 then !x7 else false then (i69 : Int) != 0 else false) (
 CallsA Try.prog w0 53 #[.slice A463 n464 c465, .int .i64 i468] m470 fun r472 m473 =>
 ∃ t471 : Bool, r472 = .bool t471 ∧ true = true ∧ true = true ∧ K (bif bif bif t61 then !x7 else false then (i69 : Int) != 0 else false then t471 else false) m473) (
 (bif bif t61 then !x7 else false then (i69 : Int) != 0 else false) = false ∧ true = true ∧ true = true ∧ K false m470))) (
 (bcase (bif bif t61 then !x7 else false then (i69 : Int) != 0 else false) (
 CallsA Try.prog w0 53 #[.slice A463 n464 c465, undef] m467 fun r475 m476 =>
 ∃ t474 : Bool, r475 = .bool t474 ∧ true = true ∧ true = true ∧ K (bif bif bif t61 then !x7 else false then (i69 : Int) != 0 else false then t474 else false) m476) (
 (bif bif t61 then !x7 else false then (i69 : Int) != 0 else false) = false ∧ true = true ∧ true = true ∧ K false m467))))) (
 (bcase (bif bif t61 then !x7 else false then (i69 : Int) != 0 else false) (
 CallsA Try.prog w0 25 #[undef] m71 fun r478 m479 =>
 ∃ i477 : Int, r478 = .int .i64 i477 ∧ (bcase (bif bif t61 then !x7 else false then (i69 : Int) != 0 else false) (
 CallsA Try.prog w0 53 #[undef, .int .i64 i477] m479 fun r481 m482 =>
 ∃ t480 : Bool, r481 = .bool t480 ∧ true = true ∧ true = true ∧ K (bif bif bif t61 then !x7 else false then (i69 : Int) != 0 else false then t480 else false) m482) (
 (bif bif t61 then !x7 else false then (i69 : Int) != 0 else false) = false ∧ true = true ∧ true = true ∧ K false m479))) (
 (bcase (bif bif t61 then !x7 else false then (i69 : Int) != 0 else false) (
 CallsA Try.prog w0 53 #[undef, undef] m71 fun r484 m485 =>
 ∃ t483 : Bool, r484 = .bool t483 ∧ true = true ∧ true = true ∧ K (bif bif bif t61 then !x7 else false then (i69 : Int) != 0 else false then t483 else false) m485) (
 (bif bif t61 then !x7 else false then (i69 : Int) != 0 else false) = false ∧ true = true ∧ true = true ∧ K false m71)))))))))))))))) (
 (bcase (bif bif t61 then !x7 else false then (i69 : Int) != 0 else false) (
 False) (
 (bcase (bif bif t61 then !x7 else false then (i69 : Int) != 0 else false) (
 False) (
 (bcase (bif bif t61 then !x7 else false then (i69 : Int) != 0 else false) (
 False) (
 ((bcase (bif bif t61 then !x7 else false then (i69 : Int) != 0 else false) (
 CallsA Try.prog w0 21 #[undef] m71 fun r489 m490 =>
 ∃ (A486 : Option Addr) (n487 c488 : Nat), r489 = .slice A486 n487 c488 ∧ (bcase (bif bif t61 then !x7 else false then (i69 : Int) != 0 else false) (
 ∃ i491 : Int, m490.cell ⟨x5, 0, none⟩ = some (.int .i64 i491) ∧ ∃ i492 : Int, m490.cell ⟨x5, 1, none⟩ = some (.int .i64 i492) ∧ ∃ i493 : Int, m490.cell ⟨x5, 2, none⟩ = some (.int .i64 i493) ∧ ∃ i494 : Int, m490.cell ⟨x5, 3, none⟩ = some (.int .i64 i494) ∧ ∃ i495 : Int, m490.cell ⟨x5, 4, none⟩ = some (.int .i64 i495) ∧ 
 (bcase (bif bif t61 then !x7 else false then (i69 : Int) != 0 else false) (
 CallsA Try.prog w0 25 #[.agg #[.int .i64 i491, .int .i64 i492, .int .i64 i493, .int .i64 i494, .int .i64 i495]] m490 fun r497 m498 =>
 ∃ i496 : Int, r497 = .int .i64 i496 ∧ (bcase (bif bif t61 then !x7 else false then (i69 : Int) != 0 else false) (
 CallsA Try.prog w0 53 #[.slice A486 n487 c488, .int .i64 i496] m498 fun r500 m501 =>
 ∃ t499 : Bool, r500 = .bool t499 ∧ true = true ∧ true = true ∧ K (bif bif bif t61 then !x7 else false then (i69 : Int) != 0 else false then t499 else false) m501) (
 (bif bif t61 then !x7 else false then (i69 : Int) != 0 else false) = false ∧ true = true ∧ true = true ∧ K false m498))) (
 (bcase (bif bif t61 then !x7 else false then (i69 : Int) != 0 else false) (
 CallsA Try.prog w0 53 #[.slice A486 n487 c488, undef] m490 fun r503 m504 =>
 ∃ t502 : Bool, r503 = .bool t502 ∧ true = true ∧ true = true ∧ K (bif bif bif t61 then !x7 else false then (i69 : Int) != 0 else false then t502 else false) m504) (
 (bif bif t61 then !x7 else false then (i69 : Int) != 0 else false) = false ∧ true = true ∧ true = true ∧ K false m490))))) (
 (bcase (bif bif t61 then !x7 else false then (i69 : Int) != 0 else false) (
 CallsA Try.prog w0 25 #[undef] m490 fun r506 m507 =>
 ∃ i505 : Int, r506 = .int .i64 i505 ∧ (bcase (bif bif t61 then !x7 else false then (i69 : Int) != 0 else false) (
 CallsA Try.prog w0 53 #[.slice A486 n487 c488, .int .i64 i505] m507 fun r509 m510 =>
 ∃ t508 : Bool, r509 = .bool t508 ∧ true = true ∧ true = true ∧ K (bif bif bif t61 then !x7 else false then (i69 : Int) != 0 else false then t508 else false) m510) (
 (bif bif t61 then !x7 else false then (i69 : Int) != 0 else false) = false ∧ true = true ∧ true = true ∧ K false m507))) (
 (bcase (bif bif t61 then !x7 else false then (i69 : Int) != 0 else false) (
 CallsA Try.prog w0 53 #[.slice A486 n487 c488, undef] m490 fun r512 m513 =>
 ∃ t511 : Bool, r512 = .bool t511 ∧ true = true ∧ true = true ∧ K (bif bif bif t61 then !x7 else false then (i69 : Int) != 0 else false then t511 else false) m513) (
 (bif bif t61 then !x7 else false then (i69 : Int) != 0 else false) = false ∧ true = true ∧ true = true ∧ K false m490))))))) (
 (bcase (bif bif t61 then !x7 else false then (i69 : Int) != 0 else false) (
 ∃ i514 : Int, m71.cell ⟨x5, 0, none⟩ = some (.int .i64 i514) ∧ ∃ i515 : Int, m71.cell ⟨x5, 1, none⟩ = some (.int .i64 i515) ∧ ∃ i516 : Int, m71.cell ⟨x5, 2, none⟩ = some (.int .i64 i516) ∧ ∃ i517 : Int, m71.cell ⟨x5, 3, none⟩ = some (.int .i64 i517) ∧ ∃ i518 : Int, m71.cell ⟨x5, 4, none⟩ = some (.int .i64 i518) ∧ 
 (bcase (bif bif t61 then !x7 else false then (i69 : Int) != 0 else false) (
 CallsA Try.prog w0 25 #[.agg #[.int .i64 i514, .int .i64 i515, .int .i64 i516, .int .i64 i517, .int .i64 i518]] m71 fun r520 m521 =>
 ∃ i519 : Int, r520 = .int .i64 i519 ∧ (bcase (bif bif t61 then !x7 else false then (i69 : Int) != 0 else false) (
 CallsA Try.prog w0 53 #[undef, .int .i64 i519] m521 fun r523 m524 =>
 ∃ t522 : Bool, r523 = .bool t522 ∧ true = true ∧ true = true ∧ K (bif bif bif t61 then !x7 else false then (i69 : Int) != 0 else false then t522 else false) m524) (
 (bif bif t61 then !x7 else false then (i69 : Int) != 0 else false) = false ∧ true = true ∧ true = true ∧ K false m521))) (
 (bcase (bif bif t61 then !x7 else false then (i69 : Int) != 0 else false) (
 CallsA Try.prog w0 53 #[undef, undef] m71 fun r526 m527 =>
 ∃ t525 : Bool, r526 = .bool t525 ∧ true = true ∧ true = true ∧ K (bif bif bif t61 then !x7 else false then (i69 : Int) != 0 else false then t525 else false) m527) (
 (bif bif t61 then !x7 else false then (i69 : Int) != 0 else false) = false ∧ true = true ∧ true = true ∧ K false m71))))) (
 (bcase (bif bif t61 then !x7 else false then (i69 : Int) != 0 else false) (
 CallsA Try.prog w0 25 #[undef] m71 fun r529 m530 =>
 ∃ i528 : Int, r529 = .int .i64 i528 ∧ (bcase (bif bif t61 then !x7 else false then (i69 : Int) != 0 else false) (
 CallsA Try.prog w0 53 #[undef, .int .i64 i528] m530 fun r532 m533 =>
 ∃ t531 : Bool, r532 = .bool t531 ∧ true = true ∧ true = true ∧ K (bif bif bif t61 then !x7 else false then (i69 : Int) != 0 else false then t531 else false) m533) (
 (bif bif t61 then !x7 else false then (i69 : Int) != 0 else false) = false ∧ true = true ∧ true = true ∧ K false m530))) (
 (bcase (bif bif t61 then !x7 else false then (i69 : Int) != 0 else false) (
 CallsA Try.prog w0 53 #[undef, undef] m71 fun r535 m536 =>
 ∃ t534 : Bool, r535 = .bool t534 ∧ true = true ∧ true = true ∧ K (bif bif bif t61 then !x7 else false then (i69 : Int) != 0 else false then t534 else false) m536) (
 (bif bif t61 then !x7 else false then (i69 : Int) != 0 else false) = false ∧ true = true ∧ true = true ∧ K false m71))))))))) ∧
 ((bcase (bif bif t61 then !x7 else false then (i69 : Int) != 0 else false) (
 ∃ i537 : Int, m71.cell ⟨x5, 0, none⟩ = some (.int .i64 i537) ∧ ∃ i538 : Int, m71.cell ⟨x5, 1, none⟩ = some (.int .i64 i538) ∧ ∃ i539 : Int, m71.cell ⟨x5, 2, none⟩ = some (.int .i64 i539) ∧ ∃ i540 : Int, m71.cell ⟨x5, 3, none⟩ = some (.int .i64 i540) ∧ ∃ i541 : Int, m71.cell ⟨x5, 4, none⟩ = some (.int .i64 i541) ∧ 
 (bcase (bif bif t61 then !x7 else false then (i69 : Int) != 0 else false) (
 CallsA Try.prog w0 21 #[undef] m71 fun r545 m546 =>
 ∃ (A542 : Option Addr) (n543 c544 : Nat), r545 = .slice A542 n543 c544 ∧ (bcase (bif bif t61 then !x7 else false then (i69 : Int) != 0 else false) (
 CallsA Try.prog w0 25 #[.agg #[.int .i64 i537, .int .i64 i538, .int .i64 i539, .int .i64 i540, .int .i64 i541]] m546 fun r548 m549 =>
 ∃ i547 : Int, r548 = .int .i64 i547 ∧ (bcase (bif bif t61 then !x7 else false then (i69 : Int) != 0 else false) (
 CallsA Try.prog w0 53 #[.slice A542 n543 c544, .int .i64 i547] m549 fun r551 m552 =>
 ∃ t550 : Bool, r551 = .bool t550 ∧ true = true ∧ true = true ∧ K (bif bif bif t61 then !x7 else false then (i69 : Int) != 0 else false then t550 else false) m552) (
 (bif bif t61 then !x7 else false then (i69 : Int) != 0 else false) = false ∧ true = true ∧ true = true ∧ K false m549))) (
 (bcase (bif bif t61 then !x7 else false then (i69 : Int) != 0 else false) (
 CallsA Try.prog w0 53 #[.slice A542 n543 c544, undef] m546 fun r554 m555 =>
 ∃ t553 : Bool, r554 = .bool t553 ∧ true = true ∧ true = true ∧ K (bif bif bif t61 then !x7 else false then (i69 : Int) != 0 else false then t553 else false) m555) (
 (bif bif t61 then !x7 else false then (i69 : Int) != 0 else false) = false ∧ true = true ∧ true = true ∧ K false m546))))) (
 (bcase (bif bif t61 then !x7 else false then (i69 : Int) != 0 else false) (
 CallsA Try.prog w0 25 #[.agg #[.int .i64 i537, .int .i64 i538, .int .i64 i539, .int .i64 i540, .int .i64 i541]] m71 fun r557 m558 =>
 ∃ i556 : Int, r557 = .int .i64 i556 ∧ (bcase (bif bif t61 then !x7 else false then (i69 : Int) != 0 else false) (
 CallsA Try.prog w0 53 #[undef, .int .i64 i556] m558 fun r560 m561 =>
 ∃ t559 : Bool, r560 = .bool t559 ∧ true = true ∧ true = true ∧ K (bif bif bif t61 then !x7 else false then (i69 : Int) != 0 else false then t559 else false) m561) (
 (bif bif t61 then !x7 else false then (i69 : Int) != 0 else false) = false ∧ true = true ∧ true = true ∧ K false m558))) (
 (bcase (bif bif t61 then !x7 else false then (i69 : Int) != 0 else false) (
 CallsA Try.prog w0 53 #[undef, undef] m71 fun r563 m564 =>
 ∃ t562 : Bool, r563 = .bool t562 ∧ true = true ∧ true = true ∧ K (bif bif bif t61 then !x7 else false then (i69 : Int) != 0 else false then t562 else false) m564) (
 (bif bif t61 then !x7 else false then (i69 : Int) != 0 else false) = false ∧ true = true ∧ true = true ∧ K false m71))))))) (
 (bcase (bif bif t61 then !x7 else false then (i69 : Int) != 0 else false) (
 CallsA Try.prog w0 21 #[undef] m71 fun r568 m569 =>
 ∃ (A565 : Option Addr) (n566 c567 : Nat), r568 = .slice A565 n566 c567 ∧ (bcase (bif bif t61 then !x7 else false then (i69 : Int) != 0 else false) (
 CallsA Try.prog w0 25 #[undef] m569 fun r571 m572 =>
 ∃ i570 : Int, r571 = .int .i64 i570 ∧ (bcase (bif bif t61 then !x7 else false then (i69 : Int) != 0 else false) (
 CallsA Try.prog w0 53 #[.slice A565 n566 c567, .int .i64 i570] m572 fun r574 m575 =>
 ∃ t573 : Bool, r574 = .bool t573 ∧ true = true ∧ true = true ∧ K (bif bif bif t61 then !x7 else false then (i69 : Int) != 0 else false then t573 else false) m575) (
 (bif bif t61 then !x7 else false then (i69 : Int) != 0 else false) = false ∧ true = true ∧ true = true ∧ K false m572))) (
 (bcase (bif bif t61 then !x7 else false then (i69 : Int) != 0 else false) (
 CallsA Try.prog w0 53 #[.slice A565 n566 c567, undef] m569 fun r577 m578 =>
 ∃ t576 : Bool, r577 = .bool t576 ∧ true = true ∧ true = true ∧ K (bif bif bif t61 then !x7 else false then (i69 : Int) != 0 else false then t576 else false) m578) (
 (bif bif t61 then !x7 else false then (i69 : Int) != 0 else false) = false ∧ true = true ∧ true = true ∧ K false m569))))) (
 (bcase (bif bif t61 then !x7 else false then (i69 : Int) != 0 else false) (
 CallsA Try.prog w0 25 #[undef] m71 fun r580 m581 =>
 ∃ i579 : Int, r580 = .int .i64 i579 ∧ (bcase (bif bif t61 then !x7 else false then (i69 : Int) != 0 else false) (
 CallsA Try.prog w0 53 #[undef, .int .i64 i579] m581 fun r583 m584 =>
 ∃ t582 : Bool, r583 = .bool t582 ∧ true = true ∧ true = true ∧ K (bif bif bif t61 then !x7 else false then (i69 : Int) != 0 else false then t582 else false) m584) (
 (bif bif t61 then !x7 else false then (i69 : Int) != 0 else false) = false ∧ true = true ∧ true = true ∧ K false m581))) (
 (bcase (bif bif t61 then !x7 else false then (i69 : Int) != 0 else false) (
 CallsA Try.prog w0 53 #[undef, undef] m71 fun r586 m587 =>
 ∃ t585 : Bool, r586 = .bool t585 ∧ true = true ∧ true = true ∧ K (bif bif bif t61 then !x7 else false then (i69 : Int) != 0 else false then t585 else false) m587) (
 (bif bif t61 then !x7 else false then (i69 : Int) != 0 else false) = false ∧ true = true ∧ true = true ∧ K false m71)))))))))))))))))) (
 (bcase (bif bif t61 then !x7 else false then (i69 : Int) != 0 else false) (
 (bcase (bif bif t61 then !x7 else false then (i69 : Int) != 0 else false) (
 IntKind.i64 = IntKind.i64 ∧ (bcase (bif bif t61 then !x7 else false then (i69 : Int) != 0 else false) (
 False) (
 (bcase (bif bif t61 then !x7 else false then (i69 : Int) != 0 else false) (
 False) (
 ((bcase (bif bif t61 then !x7 else false then (i69 : Int) != 0 else false) (
 CallsA Try.prog w0 21 #[undef] m71 fun r591 m592 =>
 ∃ (A588 : Option Addr) (n589 c590 : Nat), r591 = .slice A588 n589 c590 ∧ (bcase (bif bif t61 then !x7 else false then (i69 : Int) != 0 else false) (
 ∃ i593 : Int, m592.cell ⟨x5, 0, none⟩ = some (.int .i64 i593) ∧ ∃ i594 : Int, m592.cell ⟨x5, 1, none⟩ = some (.int .i64 i594) ∧ ∃ i595 : Int, m592.cell ⟨x5, 2, none⟩ = some (.int .i64 i595) ∧ ∃ i596 : Int, m592.cell ⟨x5, 3, none⟩ = some (.int .i64 i596) ∧ ∃ i597 : Int, m592.cell ⟨x5, 4, none⟩ = some (.int .i64 i597) ∧ 
 (bcase (bif bif t61 then !x7 else false then (i69 : Int) != 0 else false) (
 CallsA Try.prog w0 25 #[.agg #[.int .i64 i593, .int .i64 i594, .int .i64 i595, .int .i64 i596, .int .i64 i597]] m592 fun r599 m600 =>
 ∃ i598 : Int, r599 = .int .i64 i598 ∧ (bcase (bif bif t61 then !x7 else false then (i69 : Int) != 0 else false) (
 CallsA Try.prog w0 53 #[.slice A588 n589 c590, .int .i64 i598] m600 fun r602 m603 =>
 ∃ t601 : Bool, r602 = .bool t601 ∧ true = true ∧ true = true ∧ K (bif bif bif t61 then !x7 else false then (i69 : Int) != 0 else false then t601 else false) m603) (
 (bif bif t61 then !x7 else false then (i69 : Int) != 0 else false) = false ∧ true = true ∧ true = true ∧ K false m600))) (
 (bcase (bif bif t61 then !x7 else false then (i69 : Int) != 0 else false) (
 CallsA Try.prog w0 53 #[.slice A588 n589 c590, undef] m592 fun r605 m606 =>
 ∃ t604 : Bool, r605 = .bool t604 ∧ true = true ∧ true = true ∧ K (bif bif bif t61 then !x7 else false then (i69 : Int) != 0 else false then t604 else false) m606) (
 (bif bif t61 then !x7 else false then (i69 : Int) != 0 else false) = false ∧ true = true ∧ true = true ∧ K false m592))))) (
 (bcase (bif bif t61 then !x7 else false then (i69 : Int) != 0 else false) (
 CallsA Try.prog w0 25 #[undef] m592 fun r608 m609 =>
 ∃ i607 : Int, r608 = .int .i64 i607 ∧ (bcase (bif bif t61 then !x7 else false then (i69 : Int) != 0 else false) (
 CallsA Try.prog w0 53 #[.slice A588 n589 c590, .int .i64 i607] m609 fun r611 m612 =>
 ∃ t610 : Bool, r611 = .bool t610 ∧ true = true ∧ true = true ∧ K (bif bif bif t61 then !x7 else false then (i69 : Int) != 0 else false then t610 else false) m612) (
 (bif bif t61 then !x7 else false then (i69 : Int) != 0 else false) = false ∧ true = true ∧ true = true ∧ K false m609))) (
 (bcase (bif bif t61 then !x7 else false then (i69 : Int) != 0 else false) (
 CallsA Try.prog w0 53 #[.slice A588 n589 c590, undef] m592 fun r614 m615 =>
 ∃ t613 : Bool, r614 = .bool t613 ∧ true = true ∧ true = true ∧ K (bif bif bif t61 then !x7 else false then (i69 : Int) != 0 else false then t613 else false) m615) (
 (bif bif t61 then !x7 else false then (i69 : Int) != 0 else false) = false ∧ true = true ∧ true = true ∧ K false m592))))))) (
 (bcase (bif bif t61 then !x7 else false then (i69 : Int) != 0 else false) (
 ∃ i616 : Int, m71.cell ⟨x5, 0, none⟩ = some (.int .i64 i616) ∧ ∃ i617 : Int, m71.cell ⟨x5, 1, none⟩ = some (.int .i64 i617) ∧ ∃ i618 : Int, m71.cell ⟨x5, 2, none⟩ = some (.int .i64 i618) ∧ ∃ i619 : Int, m71.cell ⟨x5, 3, none⟩ = some (.int .i64 i619) ∧ ∃ i620 : Int, m71.cell ⟨x5, 4, none⟩ = some (.int .i64 i620) ∧ 
 (bcase (bif bif t61 then !x7 else false then (i69 : Int) != 0 else false) (
 CallsA Try.prog w0 25 #[.agg #[.int .i64 i616, .int .i64 i617, .int .i64 i618, .int .i64 i619, .int .i64 i620]] m71 fun r622 m623 =>
 ∃ i621 : Int, r622 = .int .i64 i621 ∧ (bcase (bif bif t61 then !x7 else false then (i69 : Int) != 0 else false) (
 CallsA Try.prog w0 53 #[undef, .int .i64 i621] m623 fun r625 m626 =>
 ∃ t624 : Bool, r625 = .bool t624 ∧ true = true ∧ true = true ∧ K (bif bif bif t61 then !x7 else false then (i69 : Int) != 0 else false then t624 else false) m626) (
 (bif bif t61 then !x7 else false then (i69 : Int) != 0 else false) = false ∧ true = true ∧ true = true ∧ K false m623))) (
 (bcase (bif bif t61 then !x7 else false then (i69 : Int) != 0 else false) (
 CallsA Try.prog w0 53 #[undef, undef] m71 fun r628 m629 =>
 ∃ t627 : Bool, r628 = .bool t627 ∧ true = true ∧ true = true ∧ K (bif bif bif t61 then !x7 else false then (i69 : Int) != 0 else false then t627 else false) m629) (
 (bif bif t61 then !x7 else false then (i69 : Int) != 0 else false) = false ∧ true = true ∧ true = true ∧ K false m71))))) (
 (bcase (bif bif t61 then !x7 else false then (i69 : Int) != 0 else false) (
 CallsA Try.prog w0 25 #[undef] m71 fun r631 m632 =>
 ∃ i630 : Int, r631 = .int .i64 i630 ∧ (bcase (bif bif t61 then !x7 else false then (i69 : Int) != 0 else false) (
 CallsA Try.prog w0 53 #[undef, .int .i64 i630] m632 fun r634 m635 =>
 ∃ t633 : Bool, r634 = .bool t633 ∧ true = true ∧ true = true ∧ K (bif bif bif t61 then !x7 else false then (i69 : Int) != 0 else false then t633 else false) m635) (
 (bif bif t61 then !x7 else false then (i69 : Int) != 0 else false) = false ∧ true = true ∧ true = true ∧ K false m632))) (
 (bcase (bif bif t61 then !x7 else false then (i69 : Int) != 0 else false) (
 CallsA Try.prog w0 53 #[undef, undef] m71 fun r637 m638 =>
 ∃ t636 : Bool, r637 = .bool t636 ∧ true = true ∧ true = true ∧ K (bif bif bif t61 then !x7 else false then (i69 : Int) != 0 else false then t636 else false) m638) (
 (bif bif t61 then !x7 else false then (i69 : Int) != 0 else false) = false ∧ true = true ∧ true = true ∧ K false m71))))))))) ∧
 ((bcase (bif bif t61 then !x7 else false then (i69 : Int) != 0 else false) (
 ∃ i639 : Int, m71.cell ⟨x5, 0, none⟩ = some (.int .i64 i639) ∧ ∃ i640 : Int, m71.cell ⟨x5, 1, none⟩ = some (.int .i64 i640) ∧ ∃ i641 : Int, m71.cell ⟨x5, 2, none⟩ = some (.int .i64 i641) ∧ ∃ i642 : Int, m71.cell ⟨x5, 3, none⟩ = some (.int .i64 i642) ∧ ∃ i643 : Int, m71.cell ⟨x5, 4, none⟩ = some (.int .i64 i643) ∧ 
 (bcase (bif bif t61 then !x7 else false then (i69 : Int) != 0 else false) (
 CallsA Try.prog w0 21 #[undef] m71 fun r647 m648 =>
 ∃ (A644 : Option Addr) (n645 c646 : Nat), r647 = .slice A644 n645 c646 ∧ (bcase (bif bif t61 then !x7 else false then (i69 : Int) != 0 else false) (
 CallsA Try.prog w0 25 #[.agg #[.int .i64 i639, .int .i64 i640, .int .i64 i641, .int .i64 i642, .int .i64 i643]] m648 fun r650 m651 =>
 ∃ i649 : Int, r650 = .int .i64 i649 ∧ (bcase (bif bif t61 then !x7 else false then (i69 : Int) != 0 else false) (
 CallsA Try.prog w0 53 #[.slice A644 n645 c646, .int .i64 i649] m651 fun r653 m654 =>
 ∃ t652 : Bool, r653 = .bool t652 ∧ true = true ∧ true = true ∧ K (bif bif bif t61 then !x7 else false then (i69 : Int) != 0 else false then t652 else false) m654) (
 (bif bif t61 then !x7 else false then (i69 : Int) != 0 else false) = false ∧ true = true ∧ true = true ∧ K false m651))) (
 (bcase (bif bif t61 then !x7 else false then (i69 : Int) != 0 else false) (
 CallsA Try.prog w0 53 #[.slice A644 n645 c646, undef] m648 fun r656 m657 =>
 ∃ t655 : Bool, r656 = .bool t655 ∧ true = true ∧ true = true ∧ K (bif bif bif t61 then !x7 else false then (i69 : Int) != 0 else false then t655 else false) m657) (
 (bif bif t61 then !x7 else false then (i69 : Int) != 0 else false) = false ∧ true = true ∧ true = true ∧ K false m648))))) (
 (bcase (bif bif t61 then !x7 else false then (i69 : Int) != 0 else false) (
 CallsA Try.prog w0 25 #[.agg #[.int .i64 i639, .int .i64 i640, .int .i64 i641, .int .i64 i642, .int .i64 i643]] m71 fun r659 m660 =>
 ∃ i658 : Int, r659 = .int .i64 i658 ∧ (bcase (bif bif t61 then !x7 else false then (i69 : Int) != 0 else false) (
 CallsA Try.prog w0 53 #[undef, .int .i64 i658] m660 fun r662 m663 =>
 ∃ t661 : Bool, r662 = .bool t661 ∧ true = true ∧ true = true ∧ K (bif bif bif t61 then !x7 else false then (i69 : Int) != 0 else false then t661 else false) m663) (
 (bif bif t61 then !x7 else false then (i69 : Int) != 0 else false) = false ∧ true = true ∧ true = true ∧ K false m660))) (
 (bcase (bif bif t61 then !x7 else false then (i69 : Int) != 0 else false) (
 CallsA Try.prog w0 53 #[undef, undef] m71 fun r665 m666 =>
 ∃ t664 : Bool, r665 = .bool t664 ∧ true = true ∧ true = true ∧ K (bif bif bif t61 then !x7 else false then (i69 : Int) != 0 else false then t664 else false) m666) (
 (bif bif t61 then !x7 else false then (i69 : Int) != 0 else false) = false ∧ true = true ∧ true = true ∧ K false m71))))))) (
 (bcase (bif bif t61 then !x7 else false then (i69 : Int) != 0 else false) (
 CallsA Try.prog w0 21 #[undef] m71 fun r670 m671 =>
 ∃ (A667 : Option Addr) (n668 c669 : Nat), r670 = .slice A667 n668 c669 ∧ (bcase (bif bif t61 then !x7 else false then (i69 : Int) != 0 else false) (
 CallsA Try.prog w0 25 #[undef] m671 fun r673 m674 =>
 ∃ i672 : Int, r673 = .int .i64 i672 ∧ (bcase (bif bif t61 then !x7 else false then (i69 : Int) != 0 else false) (
 CallsA Try.prog w0 53 #[.slice A667 n668 c669, .int .i64 i672] m674 fun r676 m677 =>
 ∃ t675 : Bool, r676 = .bool t675 ∧ true = true ∧ true = true ∧ K (bif bif bif t61 then !x7 else false then (i69 : Int) != 0 else false then t675 else false) m677) (
 (bif bif t61 then !x7 else false then (i69 : Int) != 0 else false) = false ∧ true = true ∧ true = true ∧ K false m674))) (
 (bcase (bif bif t61 then !x7 else false then (i69 : Int) != 0 else false) (
 CallsA Try.prog w0 53 #[.slice A667 n668 c669, undef] m671 fun r679 m680 =>
 ∃ t678 : Bool, r679 = .bool t678 ∧ true = true ∧ true = true ∧ K (bif bif bif t61 then !x7 else false then (i69 : Int) != 0 else false then t678 else false) m680) (
 (bif bif t61 then !x7 else false then (i69 : Int) != 0 else false) = false ∧ true = true ∧ true = true ∧ K false m671))))) (
 (bcase (bif bif t61 then !x7 else false then (i69 : Int) != 0 else false) (
 CallsA Try.prog w0 25 #[undef] m71 fun r682 m683 =>
 ∃ i681 : Int, r682 = .int .i64 i681 ∧ (bcase (bif bif t61 then !x7 else false then (i69 : Int) != 0 else false) (
 CallsA Try.prog w0 53 #[undef, .int .i64 i681] m683 fun r685 m686 =>
 ∃ t684 : Bool, r685 = .bool t684 ∧ true = true ∧ true = true ∧ K (bif bif bif t61 then !x7 else false then (i69 : Int) != 0 else false then t684 else false) m686) (
 (bif bif t61 then !x7 else false then (i69 : Int) != 0 else false) = false ∧ true = true ∧ true = true ∧ K false m683))) (
 (bcase (bif bif t61 then !x7 else false then (i69 : Int) != 0 else false) (
 CallsA Try.prog w0 53 #[undef, undef] m71 fun r688 m689 =>
 ∃ t687 : Bool, r688 = .bool t687 ∧ true = true ∧ true = true ∧ K (bif bif bif t61 then !x7 else false then (i69 : Int) != 0 else false then t687 else false) m689) (
 (bif bif t61 then !x7 else false then (i69 : Int) != 0 else false) = false ∧ true = true ∧ true = true ∧ K false m71)))))))))))))) (
 (bcase (bif bif t61 then !x7 else false then (i69 : Int) != 0 else false) (
 False) (
 (bcase (bif bif t61 then !x7 else false then (i69 : Int) != 0 else false) (
 False) (
 ((bcase (bif bif t61 then !x7 else false then (i69 : Int) != 0 else false) (
 CallsA Try.prog w0 21 #[undef] m71 fun r693 m694 =>
 ∃ (A690 : Option Addr) (n691 c692 : Nat), r693 = .slice A690 n691 c692 ∧ (bcase (bif bif t61 then !x7 else false then (i69 : Int) != 0 else false) (
 ∃ i695 : Int, m694.cell ⟨x5, 0, none⟩ = some (.int .i64 i695) ∧ ∃ i696 : Int, m694.cell ⟨x5, 1, none⟩ = some (.int .i64 i696) ∧ ∃ i697 : Int, m694.cell ⟨x5, 2, none⟩ = some (.int .i64 i697) ∧ ∃ i698 : Int, m694.cell ⟨x5, 3, none⟩ = some (.int .i64 i698) ∧ ∃ i699 : Int, m694.cell ⟨x5, 4, none⟩ = some (.int .i64 i699) ∧ 
 (bcase (bif bif t61 then !x7 else false then (i69 : Int) != 0 else false) (
 CallsA Try.prog w0 25 #[.agg #[.int .i64 i695, .int .i64 i696, .int .i64 i697, .int .i64 i698, .int .i64 i699]] m694 fun r701 m702 =>
 ∃ i700 : Int, r701 = .int .i64 i700 ∧ (bcase (bif bif t61 then !x7 else false then (i69 : Int) != 0 else false) (
 CallsA Try.prog w0 53 #[.slice A690 n691 c692, .int .i64 i700] m702 fun r704 m705 =>
 ∃ t703 : Bool, r704 = .bool t703 ∧ true = true ∧ true = true ∧ K (bif bif bif t61 then !x7 else false then (i69 : Int) != 0 else false then t703 else false) m705) (
 (bif bif t61 then !x7 else false then (i69 : Int) != 0 else false) = false ∧ true = true ∧ true = true ∧ K false m702))) (
 (bcase (bif bif t61 then !x7 else false then (i69 : Int) != 0 else false) (
 CallsA Try.prog w0 53 #[.slice A690 n691 c692, undef] m694 fun r707 m708 =>
 ∃ t706 : Bool, r707 = .bool t706 ∧ true = true ∧ true = true ∧ K (bif bif bif t61 then !x7 else false then (i69 : Int) != 0 else false then t706 else false) m708) (
 (bif bif t61 then !x7 else false then (i69 : Int) != 0 else false) = false ∧ true = true ∧ true = true ∧ K false m694))))) (
 (bcase (bif bif t61 then !x7 else false then (i69 : Int) != 0 else false) (
 CallsA Try.prog w0 25 #[undef] m694 fun r710 m711 =>
 ∃ i709 : Int, r710 = .int .i64 i709 ∧ (bcase (bif bif t61 then !x7 else false then (i69 : Int) != 0 else false) (
 CallsA Try.prog w0 53 #[.slice A690 n691 c692, .int .i64 i709] m711 fun r713 m714 =>
 ∃ t712 : Bool, r713 = .bool t712 ∧ true = true ∧ true = true ∧ K (bif bif bif t61 then !x7 else false then (i69 : Int) != 0 else false then t712 else false) m714) (
 (bif bif t61 then !x7 else false then (i69 : Int) != 0 else false) = false ∧ true = true ∧ true = true ∧ K false m711))) (
 (bcase (bif bif t61 then !x7 else false then (i69 : Int) != 0 else false) (
 CallsA Try.prog w0 53 #[.slice A690 n691 c692, undef] m694 fun r716 m717 =>
 ∃ t715 : Bool, r716 = .bool t715 ∧ true = true ∧ true = true ∧ K (bif bif bif t61 then !x7 else false then (i69 : Int) != 0 else false then t715 else false) m717) (
 (bif bif t61 then !x7 else false then (i69 : Int) != 0 else false) = false ∧ true = true ∧ true = true ∧ K false m694))))))) (
 (bcase (bif bif t61 then !x7 else false then (i69 : Int) != 0 else false) (
 ∃ i718 : Int, m71.cell ⟨x5, 0, none⟩ = some (.int .i64 i718) ∧ ∃ i719 : Int, m71.cell ⟨x5, 1, none⟩ = some (.int .i64 i719) ∧ ∃ i720 : Int, m71.cell ⟨x5, 2, none⟩ = some (.int .i64 i720) ∧ ∃ i721 : Int, m71.cell ⟨x5, 3, none⟩ = some (.int .i64 i721) ∧ ∃ i722 : Int, m71.cell ⟨x5, 4, none⟩ = some (.int .i64 i722) ∧ 
 (bcase (bif bif t61 then !x7 else false then (i69 : Int) != 0 else false) (
 CallsA Try.prog w0 25 #[.agg #[.int .i64 i718, .int .i64 i719, .int .i64 i720, .int .i64 i721, .int .i64 i722]] m71 fun r724 m725 =>
 ∃ i723 : Int, r724 = .int .i64 i723 ∧ (bcase (bif bif t61 then !x7 else false then (i69 : Int) != 0 else false) (
 CallsA Try.prog w0 53 #[undef, .int .i64 i723] m725 fun r727 m728 =>
 ∃ t726 : Bool, r727 = .bool t726 ∧ true = true ∧ true = true ∧ K (bif bif bif t61 then !x7 else false then (i69 : Int) != 0 else false then t726 else false) m728) (
 (bif bif t61 then !x7 else false then (i69 : Int) != 0 else false) = false ∧ true = true ∧ true = true ∧ K false m725))) (
 (bcase (bif bif t61 then !x7 else false then (i69 : Int) != 0 else false) (
 CallsA Try.prog w0 53 #[undef, undef] m71 fun r730 m731 =>
 ∃ t729 : Bool, r730 = .bool t729 ∧ true = true ∧ true = true ∧ K (bif bif bif t61 then !x7 else false then (i69 : Int) != 0 else false then t729 else false) m731) (
 (bif bif t61 then !x7 else false then (i69 : Int) != 0 else false) = false ∧ true = true ∧ true = true ∧ K false m71))))) (
 (bcase (bif bif t61 then !x7 else false then (i69 : Int) != 0 else false) (
 CallsA Try.prog w0 25 #[undef] m71 fun r733 m734 =>
 ∃ i732 : Int, r733 = .int .i64 i732 ∧ (bcase (bif bif t61 then !x7 else false then (i69 : Int) != 0 else false) (
 CallsA Try.prog w0 53 #[undef, .int .i64 i732] m734 fun r736 m737 =>
 ∃ t735 : Bool, r736 = .bool t735 ∧ true = true ∧ true = true ∧ K (bif bif bif t61 then !x7 else false then (i69 : Int) != 0 else false then t735 else false) m737) (
 (bif bif t61 then !x7 else false then (i69 : Int) != 0 else false) = false ∧ true = true ∧ true = true ∧ K false m734))) (
 (bcase (bif bif t61 then !x7 else false then (i69 : Int) != 0 else false) (
 CallsA Try.prog w0 53 #[undef, undef] m71 fun r739 m740 =>
 ∃ t738 : Bool, r739 = .bool t738 ∧ true = true ∧ true = true ∧ K (bif bif bif t61 then !x7 else false then (i69 : Int) != 0 else false then t738 else false) m740) (
 (bif bif t61 then !x7 else false then (i69 : Int) != 0 else false) = false ∧ true = true ∧ true = true ∧ K false m71))))))))) ∧
 ((bcase (bif bif t61 then !x7 else false then (i69 : Int) != 0 else false) (
 ∃ i741 : Int, m71.cell ⟨x5, 0, none⟩ = some (.int .i64 i741) ∧ ∃ i742 : Int, m71.cell ⟨x5, 1, none⟩ = some (.int .i64 i742) ∧ ∃ i743 : Int, m71.cell ⟨x5, 2, none⟩ = some (.int .i64 i743) ∧ ∃ i744 : Int, m71.cell ⟨x5, 3, none⟩ = some (.int .i64 i744) ∧ ∃ i745 : Int, m71.cell ⟨x5, 4, none⟩ = some (.int .i64 i745) ∧ 
 (bcase (bif bif t61 then !x7 else false then (i69 : Int) != 0 else false) (
 CallsA Try.prog w0 21 #[undef] m71 fun r749 m750 =>
 ∃ (A746 : Option Addr) (n747 c748 : Nat), r749 = .slice A746 n747 c748 ∧ (bcase (bif bif t61 then !x7 else false then (i69 : Int) != 0 else false) (
 CallsA Try.prog w0 25 #[.agg #[.int .i64 i741, .int .i64 i742, .int .i64 i743, .int .i64 i744, .int .i64 i745]] m750 fun r752 m753 =>
 ∃ i751 : Int, r752 = .int .i64 i751 ∧ (bcase (bif bif t61 then !x7 else false then (i69 : Int) != 0 else false) (
 CallsA Try.prog w0 53 #[.slice A746 n747 c748, .int .i64 i751] m753 fun r755 m756 =>
 ∃ t754 : Bool, r755 = .bool t754 ∧ true = true ∧ true = true ∧ K (bif bif bif t61 then !x7 else false then (i69 : Int) != 0 else false then t754 else false) m756) (
 (bif bif t61 then !x7 else false then (i69 : Int) != 0 else false) = false ∧ true = true ∧ true = true ∧ K false m753))) (
 (bcase (bif bif t61 then !x7 else false then (i69 : Int) != 0 else false) (
 CallsA Try.prog w0 53 #[.slice A746 n747 c748, undef] m750 fun r758 m759 =>
 ∃ t757 : Bool, r758 = .bool t757 ∧ true = true ∧ true = true ∧ K (bif bif bif t61 then !x7 else false then (i69 : Int) != 0 else false then t757 else false) m759) (
 (bif bif t61 then !x7 else false then (i69 : Int) != 0 else false) = false ∧ true = true ∧ true = true ∧ K false m750))))) (
 (bcase (bif bif t61 then !x7 else false then (i69 : Int) != 0 else false) (
 CallsA Try.prog w0 25 #[.agg #[.int .i64 i741, .int .i64 i742, .int .i64 i743, .int .i64 i744, .int .i64 i745]] m71 fun r761 m762 =>
 ∃ i760 : Int, r761 = .int .i64 i760 ∧ (bcase (bif bif t61 then !x7 else false then (i69 : Int) != 0 else false) (
 CallsA Try.prog w0 53 #[undef, .int .i64 i760] m762 fun r764 m765 =>
 ∃ t763 : Bool, r764 = .bool t763 ∧ true = true ∧ true = true ∧ K (bif bif bif t61 then !x7 else false then (i69 : Int) != 0 else false then t763 else false) m765) (
 (bif bif t61 then !x7 else false then (i69 : Int) != 0 else false) = false ∧ true = true ∧ true = true ∧ K false m762))) (
 (bcase (bif bif t61 then !x7 else false then (i69 : Int) != 0 else false) (
 CallsA Try.prog w0 53 #[undef, undef] m71 fun r767 m768 =>
 ∃ t766 : Bool, r767 = .bool t766 ∧ true = true ∧ true = true ∧ K (bif bif bif t61 then !x7 else false then (i69 : Int) != 0 else false then t766 else false) m768) (
 (bif bif t61 then !x7 else false then (i69 : Int) != 0 else false) = false ∧ true = true ∧ true = true ∧ K false m71))))))) (
 (bcase (bif bif t61 then !x7 else false then (i69 : Int) != 0 else false) (
 CallsA Try.prog w0 21 #[undef] m71 fun r772 m773 =>
 ∃ (A769 : Option Addr) (n770 c771 : Nat), r772 = .slice A769 n770 c771 ∧ (bcase (bif bif t61 then !x7 else false then (i69 : Int) != 0 else false) (
 CallsA Try.prog w0 25 #[undef] m773 fun r775 m776 =>
 ∃ i774 : Int, r775 = .int .i64 i774 ∧ (bcase (bif bif t61 then !x7 else false then (i69 : Int) != 0 else false) (
 CallsA Try.prog w0 53 #[.slice A769 n770 c771, .int .i64 i774] m776 fun r778 m779 =>
 ∃ t777 : Bool, r778 = .bool t777 ∧ true = true ∧ true = true ∧ K (bif bif bif t61 then !x7 else false then (i69 : Int) != 0 else false then t777 else false) m779) (
 (bif bif t61 then !x7 else false then (i69 : Int) != 0 else false) = false ∧ true = true ∧ true = true ∧ K false m776))) (
 (bcase (bif bif t61 then !x7 else false then (i69 : Int) != 0 else false) (
 CallsA Try.prog w0 53 #[.slice A769 n770 c771, undef] m773 fun r781 m782 =>
 ∃ t780 : Bool, r781 = .bool t780 ∧ true = true ∧ true = true ∧ K (bif bif bif t61 then !x7 else false then (i69 : Int) != 0 else false then t780 else false) m782) (
 (bif bif t61 then !x7 else false then (i69 : Int) != 0 else false) = false ∧ true = true ∧ true = true ∧ K false m773))))) (
 (bcase (bif bif t61 then !x7 else false then (i69 : Int) != 0 else false) (
 CallsA Try.prog w0 25 #[undef] m71 fun r784 m785 =>
 ∃ i783 : Int, r784 = .int .i64 i783 ∧ (bcase (bif bif t61 then !x7 else false then (i69 : Int) != 0 else false) (
 CallsA Try.prog w0 53 #[undef, .int .i64 i783] m785 fun r787 m788 =>
 ∃ t786 : Bool, r787 = .bool t786 ∧ true = true ∧ true = true ∧ K (bif bif bif t61 then !x7 else false then (i69 : Int) != 0 else false then t786 else false) m788) (
 (bif bif t61 then !x7 else false then (i69 : Int) != 0 else false) = false ∧ true = true ∧ true = true ∧ K false m785))) (
 (bcase (bif bif t61 then !x7 else false then (i69 : Int) != 0 else false) (
 CallsA Try.prog w0 53 #[undef, undef] m71 fun r790 m791 =>
 ∃ t789 : Bool, r790 = .bool t789 ∧ true = true ∧ true = true ∧ K (bif bif bif t61 then !x7 else false then (i69 : Int) != 0 else false then t789 else false) m791) (
 (bif bif t61 then !x7 else false then (i69 : Int) != 0 else false) = false ∧ true = true ∧ true = true ∧ K false m71)))))))))))))))) (
 (bcase (bif bif t61 then !x7 else false then (i69 : Int) != 0 else false) (
 False) (
 (bcase (bif bif t61 then !x7 else false then (i69 : Int) != 0 else false) (
 False) (
 (bcase (bif bif t61 then !x7 else false then (i69 : Int) != 0 else false) (
 False) (
 ((bcase (bif bif t61 then !x7 else false then (i69 : Int) != 0 else false) (
 CallsA Try.prog w0 21 #[undef] m71 fun r795 m796 =>
 ∃ (A792 : Option Addr) (n793 c794 : Nat), r795 = .slice A792 n793 c794 ∧ (bcase (bif bif t61 then !x7 else false then (i69 : Int) != 0 else false) (
 ∃ i797 : Int, m796.cell ⟨x5, 0, none⟩ = some (.int .i64 i797) ∧ ∃ i798 : Int, m796.cell ⟨x5, 1, none⟩ = some (.int .i64 i798) ∧ ∃ i799 : Int, m796.cell ⟨x5, 2, none⟩ = some (.int .i64 i799) ∧ ∃ i800 : Int, m796.cell ⟨x5, 3, none⟩ = some (.int .i64 i800) ∧ ∃ i801 : Int, m796.cell ⟨x5, 4, none⟩ = some (.int .i64 i801) ∧ 
 (bcase (bif bif t61 then !x7 else false then (i69 : Int) != 0 else false) (
 CallsA Try.prog w0 25 #[.agg #[.int .i64 i797, .int .i64 i798, .int .i64 i799, .int .i64 i800, .int .i64 i801]] m796 fun r803 m804 =>
 ∃ i802 : Int, r803 = .int .i64 i802 ∧ (bcase (bif bif t61 then !x7 else false then (i69 : Int) != 0 else false) (
 CallsA Try.prog w0 53 #[.slice A792 n793 c794, .int .i64 i802] m804 fun r806 m807 =>
 ∃ t805 : Bool, r806 = .bool t805 ∧ true = true ∧ true = true ∧ K (bif bif bif t61 then !x7 else false then (i69 : Int) != 0 else false then t805 else false) m807) (
 (bif bif t61 then !x7 else false then (i69 : Int) != 0 else false) = false ∧ true = true ∧ true = true ∧ K false m804))) (
 (bcase (bif bif t61 then !x7 else false then (i69 : Int) != 0 else false) (
 CallsA Try.prog w0 53 #[.slice A792 n793 c794, undef] m796 fun r809 m810 =>
 ∃ t808 : Bool, r809 = .bool t808 ∧ true = true ∧ true = true ∧ K (bif bif bif t61 then !x7 else false then (i69 : Int) != 0 else false then t808 else false) m810) (
 (bif bif t61 then !x7 else false then (i69 : Int) != 0 else false) = false ∧ true = true ∧ true = true ∧ K false m796))))) (
 (bcase (bif bif t61 then !x7 else false then (i69 : Int) != 0 else false) (
 CallsA Try.prog w0 25 #[undef] m796 fun r812 m813 =>
 ∃ i811 : Int, r812 = .int .i64 i811 ∧ (bcase (bif bif t61 then !x7 else false then (i69 : Int) != 0 else false) (
 CallsA Try.prog w0 53 #[.slice A792 n793 c794, .int .i64 i811] m813 fun r815 m816 =>
 ∃ t814 : Bool, r815 = .bool t814 ∧ true = true ∧ true = true ∧ K (bif bif bif t61 then !x7 else false then (i69 : Int) != 0 else false then t814 else false) m816) (
 (bif bif t61 then !x7 else false then (i69 : Int) != 0 else false) = false ∧ true = true ∧ true = true ∧ K false m813))) (
 (bcase (bif bif t61 then !x7 else false then (i69 : Int) != 0 else false) (
 CallsA Try.prog w0 53 #[.slice A792 n793 c794, undef] m796 fun r818 m819 =>
 ∃ t817 : Bool, r818 = .bool t817 ∧ true = true ∧ true = true ∧ K (bif bif bif t61 then !x7 else false then (i69 : Int) != 0 else false then t817 else false) m819) (
 (bif bif t61 then !x7 else false then (i69 : Int) != 0 else false) = false ∧ true = true ∧ true = true ∧ K false m796))))))) (
 (bcase (bif bif t61 then !x7 else false then (i69 : Int) != 0 else false) (
 ∃ i820 : Int, m71.cell ⟨x5, 0, none⟩ = some (.int .i64 i820) ∧ ∃ i821 : Int, m71.cell ⟨x5, 1, none⟩ = some (.int .i64 i821) ∧ ∃ i822 : Int, m71.cell ⟨x5, 2, none⟩ = some (.int .i64 i822) ∧ ∃ i823 : Int, m71.cell ⟨x5, 3, none⟩ = some (.int .i64 i823) ∧ ∃ i824 : Int, m71.cell ⟨x5, 4, none⟩ = some (.int .i64 i824) ∧ 
 (bcase (bif bif t61 then !x7 else false then (i69 : Int) != 0 else false) (
 CallsA Try.prog w0 25 #[.agg #[.int .i64 i820, .int .i64 i821, .int .i64 i822, .int .i64 i823, .int .i64 i824]] m71 fun r826 m827 =>
 ∃ i825 : Int, r826 = .int .i64 i825 ∧ (bcase (bif bif t61 then !x7 else false then (i69 : Int) != 0 else false) (
 CallsA Try.prog w0 53 #[undef, .int .i64 i825] m827 fun r829 m830 =>
 ∃ t828 : Bool, r829 = .bool t828 ∧ true = true ∧ true = true ∧ K (bif bif bif t61 then !x7 else false then (i69 : Int) != 0 else false then t828 else false) m830) (
 (bif bif t61 then !x7 else false then (i69 : Int) != 0 else false) = false ∧ true = true ∧ true = true ∧ K false m827))) (
 (bcase (bif bif t61 then !x7 else false then (i69 : Int) != 0 else false) (
 CallsA Try.prog w0 53 #[undef, undef] m71 fun r832 m833 =>
 ∃ t831 : Bool, r832 = .bool t831 ∧ true = true ∧ true = true ∧ K (bif bif bif t61 then !x7 else false then (i69 : Int) != 0 else false then t831 else false) m833) (
 (bif bif t61 then !x7 else false then (i69 : Int) != 0 else false) = false ∧ true = true ∧ true = true ∧ K false m71))))) (
 (bcase (bif bif t61 then !x7 else false then (i69 : Int) != 0 else false) (
 CallsA Try.prog w0 25 #[undef] m71 fun r835 m836 =>
 ∃ i834 : Int, r835 = .int .i64 i834 ∧ (bcase (bif bif t61 then !x7 else false then (i69 : Int) != 0 else false) (
 CallsA Try.prog w0 53 #[undef, .int .i64 i834] m836 fun r838 m839 =>
 ∃ t837 : Bool, r838 = .bool t837 ∧ true = true ∧ true = true ∧ K (bif bif bif t61 then !x7 else false then (i69 : Int) != 0 else false then t837 else false) m839) (
 (bif bif t61 then !x7 else false then (i69 : Int) != 0 else false) = false ∧ true = true ∧ true = true ∧ K false m836))) (
 (bcase (bif bif t61 then !x7 else false then (i69 : Int) != 0 else false) (
 CallsA Try.prog w0 53 #[undef, undef] m71 fun r841 m842 =>
 ∃ t840 : Bool, r841 = .bool t840 ∧ true = true ∧ true = true ∧ K (bif bif bif t61 then !x7 else false then (i69 : Int) != 0 else false then t840 else false) m842) (
 (bif bif t61 then !x7 else false then (i69 : Int) != 0 else false) = false ∧ true = true ∧ true = true ∧ K false m71))))))))) ∧
 ((bcase (bif bif t61 then !x7 else false then (i69 : Int) != 0 else false) (
 ∃ i843 : Int, m71.cell ⟨x5, 0, none⟩ = some (.int .i64 i843) ∧ ∃ i844 : Int, m71.cell ⟨x5, 1, none⟩ = some (.int .i64 i844) ∧ ∃ i845 : Int, m71.cell ⟨x5, 2, none⟩ = some (.int .i64 i845) ∧ ∃ i846 : Int, m71.cell ⟨x5, 3, none⟩ = some (.int .i64 i846) ∧ ∃ i847 : Int, m71.cell ⟨x5, 4, none⟩ = some (.int .i64 i847) ∧ 
 (bcase (bif bif t61 then !x7 else false then (i69 : Int) != 0 else false) (
 CallsA Try.prog w0 21 #[undef] m71 fun r851 m852 =>
 ∃ (A848 : Option Addr) (n849 c850 : Nat), r851 = .slice A848 n849 c850 ∧ (bcase (bif bif t61 then !x7 else false then (i69 : Int) != 0 else false) (
 CallsA Try.prog w0 25 #[.agg #[.int .i64 i843, .int .i64 i844, .int .i64 i845, .int .i64 i846, .int .i64 i847]] m852 fun r854 m855 =>
 ∃ i853 : Int, r854 = .int .i64 i853 ∧ (bcase (bif bif t61 then !x7 else false then (i69 : Int) != 0 else false) (
 CallsA Try.prog w0 53 #[.slice A848 n849 c850, .int .i64 i853] m855 fun r857 m858 =>
 ∃ t856 : Bool, r857 = .bool t856 ∧ true = true ∧ true = true ∧ K (bif bif bif t61 then !x7 else false then (i69 : Int) != 0 else false then t856 else false) m858) (
 (bif bif t61 then !x7 else false then (i69 : Int) != 0 else false) = false ∧ true = true ∧ true = true ∧ K false m855))) (
 (bcase (bif bif t61 then !x7 else false then (i69 : Int) != 0 else false) (
 CallsA Try.prog w0 53 #[.slice A848 n849 c850, undef] m852 fun r860 m861 =>
 ∃ t859 : Bool, r860 = .bool t859 ∧ true = true ∧ true = true ∧ K (bif bif bif t61 then !x7 else false then (i69 : Int) != 0 else false then t859 else false) m861) (
 (bif bif t61 then !x7 else false then (i69 : Int) != 0 else false) = false ∧ true = true ∧ true = true ∧ K false m852))))) (
 (bcase (bif bif t61 then !x7 else false then (i69 : Int) != 0 else false) (
 CallsA Try.prog w0 25 #[.agg #[.int .i64 i843, .int .i64 i844, .int .i64 i845, .int .i64 i846, .int .i64 i847]] m71 fun r863 m864 =>
 ∃ i862 : Int, r863 = .int .i64 i862 ∧ (bcase (bif bif t61 then !x7 else false then (i69 : Int) != 0 else false) (
 CallsA Try.prog w0 53 #[undef, .int .i64 i862] m864 fun r866 m867 =>
 ∃ t865 : Bool, r866 = .bool t865 ∧ true = true ∧ true = true ∧ K (bif bif bif t61 then !x7 else false then (i69 : Int) != 0 else false then t865 else false) m867) (
 (bif bif t61 then !x7 else false then (i69 : Int) != 0 else false) = false ∧ true = true ∧ true = true ∧ K false m864))) (
 (bcase (bif bif t61 then !x7 else false then (i69 : Int) != 0 else false) (
 CallsA Try.prog w0 53 #[undef, undef] m71 fun r869 m870 =>
 ∃ t868 : Bool, r869 = .bool t868 ∧ true = true ∧ true = true ∧ K (bif bif bif t61 then !x7 else false then (i69 : Int) != 0 else false then t868 else false) m870) (
 (bif bif t61 then !x7 else false then (i69 : Int) != 0 else false) = false ∧ true = true ∧ true = true ∧ K false m71))))))) (
 (bcase (bif bif t61 then !x7 else false then (i69 : Int) != 0 else false) (
 CallsA Try.prog w0 21 #[undef] m71 fun r874 m875 =>
 ∃ (A871 : Option Addr) (n872 c873 : Nat), r874 = .slice A871 n872 c873 ∧ (bcase (bif bif t61 then !x7 else false then (i69 : Int) != 0 else false) (
 CallsA Try.prog w0 25 #[undef] m875 fun r877 m878 =>
 ∃ i876 : Int, r877 = .int .i64 i876 ∧ (bcase (bif bif t61 then !x7 else false then (i69 : Int) != 0 else false) (
 CallsA Try.prog w0 53 #[.slice A871 n872 c873, .int .i64 i876] m878 fun r880 m881 =>
 ∃ t879 : Bool, r880 = .bool t879 ∧ true = true ∧ true = true ∧ K (bif bif bif t61 then !x7 else false then (i69 : Int) != 0 else false then t879 else false) m881) (
 (bif bif t61 then !x7 else false then (i69 : Int) != 0 else false) = false ∧ true = true ∧ true = true ∧ K false m878))) (
 (bcase (bif bif t61 then !x7 else false then (i69 : Int) != 0 else false) (
 CallsA Try.prog w0 53 #[.slice A871 n872 c873, undef] m875 fun r883 m884 =>
 ∃ t882 : Bool, r883 = .bool t882 ∧ true = true ∧ true = true ∧ K (bif bif bif t61 then !x7 else false then (i69 : Int) != 0 else false then t882 else false) m884) (
 (bif bif t61 then !x7 else false then (i69 : Int) != 0 else false) = false ∧ true = true ∧ true = true ∧ K false m875))))) (
 (bcase (bif bif t61 then !x7 else false then (i69 : Int) != 0 else false) (
 CallsA Try.prog w0 25 #[undef] m71 fun r886 m887 =>
 ∃ i885 : Int, r886 = .int .i64 i885 ∧ (bcase (bif bif t61 then !x7 else false then (i69 : Int) != 0 else false) (
 CallsA Try.prog w0 53 #[undef, .int .i64 i885] m887 fun r889 m890 =>
 ∃ t888 : Bool, r889 = .bool t888 ∧ true = true ∧ true = true ∧ K (bif bif bif t61 then !x7 else false then (i69 : Int) != 0 else false then t888 else false) m890) (
 (bif bif t61 then !x7 else false then (i69 : Int) != 0 else false) = false ∧ true = true ∧ true = true ∧ K false m887))) (
 (bcase (bif bif t61 then !x7 else false then (i69 : Int) != 0 else false) (
 CallsA Try.prog w0 53 #[undef, undef] m71 fun r892 m893 =>
 ∃ t891 : Bool, r892 = .bool t891 ∧ true = true ∧ true = true ∧ K (bif bif bif t61 then !x7 else false then (i69 : Int) != 0 else false then t891 else false) m893) (
 (bif bif t61 then !x7 else false then (i69 : Int) != 0 else false) = false ∧ true = true ∧ true = true ∧ K false m71)))))))))))))))))))) (
 (bif t61 then !x7 else false) = false ∧ (false = false ∧ true = true ∧ true = true ∧ K false m71) ∧
 (false = false ∧ true = true ∧ true = true ∧ K false m71)))) (
 (bcase (bif t61 then !x7 else false) (
 False) (
 (bif t61 then !x7 else false) = false ∧ (false = false ∧ true = true ∧ true = true ∧ K false m63) ∧
 (false = false ∧ true = true ∧ true = true ∧ K false m63)))))) (
 (bcase (bif t61 then !x7 else false) (
 CallsA Try.prog w0 25 #[undef] m63 fun r895 m896 =>
 ∃ i894 : Int, r895 = .int .i64 i894 ∧ (bcase (bif t61 then !x7 else false) (
 IntKind.i64 = IntKind.i64 ∧ (bcase (bif bif t61 then !x7 else false then (i894 : Int) != 0 else false) (
 (bcase (bif bif t61 then !x7 else false then (i894 : Int) != 0 else false) (
 (bcase (bif bif t61 then !x7 else false then (i894 : Int) != 0 else false) (
 IntKind.i64 = IntKind.i64 ∧ (bcase (bif bif t61 then !x7 else false then (i894 : Int) != 0 else false) (
 ((0 : Int) ≤ (IntKind.wrap .i64 (x1 + 1)) ∧ (IntKind.wrap .i64 (x1 + 1)) < ((x0n : Nat) : Int)) ∧ nilO x0 fun a897 =>
 (bcase (bif bif t61 then !x7 else false then (i894 : Int) != 0 else false) (
 ∃ i898 : Int, m896.cell (a897.add ((IntKind.wrap .i64 (x1 + 1) : Int).toNat * 5)) = some (.int .i64 i898) ∧ ∃ i899 : Int, m896.cell ((a897.add ((IntKind.wrap .i64 (x1 + 1) : Int).toNat * 5)).add 1) = some (.int .i64 i899) ∧ ∃ i900 : Int, m896.cell ((a897.add ((IntKind.wrap .i64 (x1 + 1) : Int).toNat * 5)).add 2) = some (.int .i64 i900) ∧ ∃ i901 : Int, m896.cell ((a897.add ((IntKind.wrap .i64 (x1 + 1) : Int).toNat * 5)).add 3) = some (.int .i64 i901) ∧ ∃ i902 : Int, m896.cell ((a897.add ((IntKind.wrap .i64 (x1 + 1) : Int).toNat * 5)).add 4) = some (.int .i64 i902) ∧ 
 ((bcase (bif bif t61 then !x7 else false then (i894 : Int) != 0 else false) (
 CallsA Try.prog w0 21 #[.agg #[.int .i64 i898, .int .i64 i899, .int .i64 i900, .int .i64 i901, .int .i64 i902]] m896 fun r906 m907 =>
 ∃ (A903 : Option Addr) (n904 c905 : Nat), r906 = .slice A903 n904 c905 ∧ (bcase (bif bif t61 then !x7 else false then (i894 : Int) != 0 else false) (
 ∃ i908 : Int, m907.cell ⟨x5, 0, none⟩ = some (.int .i64 i908) ∧ ∃ i909 : Int, m907.cell ⟨x5, 1, none⟩ = some (.int .i64 i909) ∧ ∃ i910 : Int, m907.cell ⟨x5, 2, none⟩ = some (.int .i64 i910) ∧ ∃ i911 : Int, m907.cell ⟨x5, 3, none⟩ = some (.int .i64 i911) ∧ ∃ i912 : Int, m907.cell ⟨x5, 4, none⟩ = some (.int .i64 i912) ∧ 
 (bcase (bif bif t61 then !x7 else false then (i894 : Int) != 0 else false) (
 CallsA Try.prog w0 25 #[.agg #[.int .i64 i908, .int .i64 i909, .int .i64 i910, .int .i64 i911, .int .i64 i912]] m907 fun r914 m915 =>
 ∃ i913 : Int, r914 = .int .i64 i913 ∧ (bcase (bif bif t61 then !x7 else false then (i894 : Int) != 0 else false) (
 CallsA Try.prog w0 53 #[.slice A903 n904 c905, .int .i64 i913] m915 fun r917 m918 =>
 ∃ t916 : Bool, r917 = .bool t916 ∧ true = true ∧ true = true ∧ K (bif bif bif t61 then !x7 else false then (i894 : Int) != 0 else false then t916 else false) m918) (
 (bif bif t61 then !x7 else false then (i894 : Int) != 0 else false) = false ∧ true = true ∧ true = true ∧ K false m915))) (
 (bcase (bif bif t61 then !x7 else false then (i894 : Int) != 0 else false) (
 CallsA Try.prog w0 53 #[.slice A903 n904 c905, undef] m907 fun r920 m921 =>
 ∃ t919 : Bool, r920 = .bool t919 ∧ true = true ∧ true = true ∧ K (bif bif bif t61 then !x7 else false then (i894 : Int) != 0 else false then t919 else false) m921) (
 (bif bif t61 then !x7 else false then (i894 : Int) != 0 else false) = false ∧ true = true ∧ true = true ∧ K false m907))))) (
 (bcase (bif bif t61 then !x7 else false then (i894 : Int) != 0 else false) (
 CallsA Try.prog w0 25 #[undef] m907 fun r923 m924 =>
 ∃ i922 : Int, r923 = .int .i64 i922 ∧ (bcase (bif bif t61 then !x7 else false then (i894 : Int) != 0 else false) (
 CallsA Try.prog w0 53 #[.slice A903 n904 c905, .int .i64 i922] m924 fun r926 m927 =>
 ∃ t925 : Bool, r926 = .bool t925 ∧ true = true ∧ true = true ∧ K (bif bif bif t61 then !x7 else false then (i894 : Int) != 0 else false then t925 else false) m927) (
 (bif bif t61 then !x7 else false then (i894 : Int) != 0 else false) = false ∧ true = true ∧ true = true ∧ K false m924))) (
 (bcase (bif bif t61 then !x7 else false then (i894 : Int) != 0 else false) (
 CallsA Try.prog w0 53 #[.slice A903 n904 c905, undef] m907 fun r929 m930 =>
 ∃ t928 : Bool, r929 = .bool t928 ∧ true = true ∧ true = true ∧ K (bif bif bif t61 then !x7 else false then (i894 : Int) != 0 else false then t928 else false) m930) (
 (bif bif t61 then !x7 else false then (i894 : Int) != 0 else false) = false ∧ true = true ∧ true = true ∧ K false m907))))))) (
 (bcase (bif bif t61 then !x7 else false then (i894 : Int) != 0 else false) (
 ∃ i931 : Int, m896.cell ⟨x5, 0, none⟩ = some (.int .i64 i931) ∧ ∃ i932 : Int, m896.cell ⟨x5, 1, none⟩ = some (.int .i64 i932) ∧ ∃ i933 : Int, m896.cell ⟨x5, 2, none⟩ = some (.int .i64 i933) ∧ ∃ i934 : Int, m896.cell ⟨x5, 3, none⟩ = some (.int .i64 i934) ∧ ∃ i935 : Int, m896.cell ⟨x5, 4, none⟩ = some (.int .i64 i935) ∧ 
 (bcase (bif bif t61 then !x7 else false then (i894 : Int) != 0 else false) (
 CallsA Try.prog w0 25 #[.agg #[.int .i64 i931, .int .i64 i932, .int .i64 i933, .int .i64 i934, .int .i64 i935]] m896 fun r937 m938 =>
 ∃ i936 : Int, r937 = .int .i64 i936 ∧ (bcase (bif bif t61 then !x7 else false then (i894 : Int) != 0 else false) (
 CallsA Try.prog w0 53 #[undef, .int .i64 i936] m938 fun r940 m941 =>
 ∃ t939 : Bool, r940 = .bool t939 ∧ true = true ∧ true = true ∧ K (bif bif bif t61 then !x7 else false then (i894 : Int) != 0 else false then t939 else false) m941) (
 (bif bif t61 then !x7 else false then (i894 : Int) != 0 else false) = false ∧ true = true ∧ true = true ∧ K false m938))) (
 (bcase (bif bif t61 then !x7 else false then (i894 : Int) != 0 else false) (
 CallsA Try.prog w0 53 #[undef, undef] m896 fun r943 m944 =>
 ∃ t942 : Bool, r943 = .bool t942 ∧ true = true ∧ true = true ∧ K (bif bif bif t61 then !x7 else false then (i894 : Int) != 0 else false then t942 else false) m944) (
 (bif bif t61 then !x7 else false then (i894 : Int) != 0 else false) = false ∧ true = true ∧ true = true ∧ K false m896))))) (
 (bcase (bif bif t61 then !x7 else false then (i894 : Int) != 0 else false) (
 CallsA Try.prog w0 25 #[undef] m896 fun r946 m947 =>
 ∃ i945 : Int, r946 = .int .i64 i945 ∧ (bcase (bif bif t61 then !x7 else false then (i894 : Int) != 0 else false) (
 CallsA Try.prog w0 53 #[undef, .int .i64 i945] m947 fun r949 m950 =>
 ∃ t948 : Bool, r949 = .bool t948 ∧ true = true ∧ true = true ∧ K (bif bif bif t61 then !x7 else false then (i894 : Int) != 0 else false then t948 else false) m950) (
 (bif bif t61 then !x7 else false then (i894 : Int) != 0 else false) = false ∧ true = true ∧ true = true ∧ K false m947))) (
 (bcase (bif bif t61 then !x7 else false then (i894 : Int) != 0 else false) (
 CallsA Try.prog w0 53 #[undef, undef] m896 fun r952 m953 =>
 ∃ t951 : Bool, r952 = .bool t951 ∧ true = true ∧ true = true ∧ K (bif bif bif t61 then !x7 else false then (i894 : Int) != 0 else false then t951 else false) m953) (
 (bif bif t61 then !x7 else false then (i894 : Int) != 0 else false) = false ∧ true = true ∧ true = true ∧ K false m896))))))))) ∧
 ((bcase (bif bif t61 then !x7 else false then (i894 : Int) != 0 else false) (
 ∃ i954 : Int, m896.cell ⟨x5, 0, none⟩ = some (.int .i64 i954) ∧ ∃ i955 : Int, m896.cell ⟨x5, 1, none⟩ = some (.int .i64 i955) ∧ ∃ i956 : Int, m896.cell ⟨x5, 2, none⟩ = some (.int .i64 i956) ∧ ∃ i957 : Int, m896.cell ⟨x5, 3, none⟩ = some (.int .i64 i957) ∧ ∃ i958 : Int, m896.cell ⟨x5, 4, none⟩ = some (.int .i64 i958) ∧ 
 (bcase (bif bif t61 then !x7 else false then (i894 : Int) != 0 else false) (
 CallsA Try.prog w0 21 #[.agg #[.int .i64 i898, .int .i64 i899, .int .i64 i900, .int .i64 i901, .int .i64 i902]] m896 fun r962 m963 =>
 ∃ (A959 : Option Addr) (n960 c961 : Nat), r962 = .slice A959 n960 c961 ∧ (bcase (bif bif t61 then !x7 else false then (i894 : Int) != 0 else false) (
 CallsA Try.prog w0 25 #[.agg #[.int .i64 i954, .int .i64 i955, .int .i64 i956, .int .i64 i957, .int .i64 i958]] m963 fun r965 m966 =>
 ∃ i964 : Int, r965 = .int .i64 i964 ∧ (bcase (bif bif t61 then !x7 else false then (i894 : Int) != 0 else false) (
 CallsA Try.prog w0 53 #[.slice A959 n960 c961, .int .i64 i964] m966 fun r968 m969 =>
 ∃ t967 : Bool, r968 = .bool t967 ∧ true = true ∧ true = true ∧ K (bif bif bif t61 then !x7 else false then (i894 : Int) != 0 else false then t967 else false) m969) (
 (bif bif t61 then !x7 else false then (i894 : Int) != 0 else false) = false ∧ true = true ∧ true = true ∧ K false m966))) (
 (bcase (bif bif t61 then !x7 else false then (i894 : Int) != 0 else false) (
 CallsA Try.prog w0 53 #[.slice A959 n960 c961, undef] m963 fun r971 m972 =>
 ∃ t970 : Bool, r971 = .bool t970 ∧ true = true ∧ true = true ∧ K (bif bif bif t61 then !x7 else false then (i894 : Int) != 0 else false then t970 else false) m972) (
 (bif bif t61 then !x7 else false then (i894 : Int) != 0 else false) = false ∧ true = true ∧ true = true ∧ K false m963))))) (
 (bcase (bif bif t61 then !x7 else false then (i894 : Int) != 0 else false) (
 CallsA Try.prog w0 25 #[.agg #[.int .i64 i954, .int .i64 i955, .int .i64 i956, .int .i64 i957, .int .i64 i958]] m896 fun r974 m975 =>
 ∃ i973 : Int, r974 = .int .i64 i973 ∧ (bcase (bif bif t61 then !x7 else false then (i894 : Int) != 0 else false) (
 CallsA Try.prog w0 53 #[undef, .int .i64 i973] m975 fun r977 m978 =>
 ∃ t976 : Bool, r977 = .bool t976 ∧ true = true ∧ true = true ∧ K (bif bif bif t61 then !x7 else false then (i894 : Int) != 0 else false then t976 else false) m978) (
 (bif bif t61 then !x7 else false then (i894 : Int) != 0 else false) = false ∧ true = true ∧ true = true ∧ K false m975))) (
 (bcase (bif bif t61 then !x7 else false then (i894 : Int) != 0 else false) (
 CallsA Try.prog w0 53 #[undef, undef] m896 fun r980 m981 =>
 ∃ t979 : Bool, r980 = .bool t979 ∧ true = true ∧ true = true ∧ K (bif bif bif t61 then !x7 else false then (i894 : Int) != 0 else false then t979 else false) m981) (
 (bif bif t61 then !x7 else false then (i894 : Int) != 0 else false) = false ∧ true = true ∧ true = true ∧ K false m896))))))) (
 (bcase (bif bif t61 then !x7 else false then (i894 : Int) != 0 else false) (
 CallsA Try.prog w0 21 #[.agg #[.int .i64 i898, .int .i64 i899, .int .i64 i900, .int .i64 i901, .int .i64 i902]] m896 fun r985 m986 =>
 ∃ (A982 : Option Addr) (n983 c984 : Nat), r985 = .slice A982 n983 c984 ∧ (bcase (bif bif t61 then !x7 else false then (i894 : Int) != 0 else false) (
 CallsA Try.prog w0 25 #[undef] m986 fun r988 m989 =>
 ∃ i987 : Int, r988 = .int .i64 i987 ∧ (bcase (bif bif t61 then !x7 else false then (i894 : Int) != 0 else false) (
 CallsA Try.prog w0 53 #[.slice A982 n983 c984, .int .i64 i987] m989 fun r991 m992 =>
 ∃ t990 : Bool, r991 = .bool t990 ∧ true = true ∧ true = true ∧ K (bif bif bif t61 then !x7 else false then (i894 : Int) != 0 else false then t990 else false) m992) (
 (bif bif t61 then !x7 else false then (i894 : Int) != 0 else false) = false ∧ true = true ∧ true = true ∧ K false m989))) (
 (bcase (bif bif t61 then !x7 else false then (i894 : Int) != 0 else false) (
 CallsA Try.prog w0 53 #[.slice A982 n983 c984, undef] m986 fun r994 m995 =>
 ∃ t993 : Bool, r994 = .bool t993 ∧ true = true ∧ true = true ∧ K (bif bif bif t61 then !x7 else false then (i894 : Int) != 0 else false then t993 else false) m995) (
 (bif bif t61 then !x7 else false then (i894 : Int) != 0 else false) = false ∧ true = true ∧ true = true ∧ K false m986))))) (
 (bcase (bif bif t61 then !x7 else false then (i894 : Int) != 0 else false) (
 CallsA Try.prog w0 25 #[undef] m896 fun r997 m998 =>
 ∃ i996 : Int, r997 = .int .i64 i996 ∧ (bcase (bif bif t61 then !x7 else false then (i894 : Int) != 0 else false) (
 CallsA Try.prog w0 53 #[undef, .int .i64 i996] m998 fun r1000 m1001 =>
 ∃ t999 : Bool, r1000 = .bool t999 ∧ true = true ∧ true = true ∧ K (bif bif bif t61 then !x7 else false then (i894 : Int) != 0 else false then t999 else false) m1001) (
 (bif bif t61 then !x7 else false then (i894 : Int) != 0 else false) = false ∧ true = true ∧ true = true ∧ K false m998))) (
 (bcase (bif bif t61 then !x7 else false then (i894 : Int) != 0 else false) (
 CallsA Try.prog w0 53 #[undef, undef] m896 fun r1003 m1004 =>
 ∃ t1002 : Bool, r1003 = .bool t1002 ∧ true = true ∧ true = true ∧ K (bif bif bif t61 then !x7 else false then (i894 : Int) != 0 else false then t1002 else false) m1004) (
 (bif bif t61 then !x7 else false then (i894 : Int) != 0 else false) = false ∧ true = true ∧ true = true ∧ K false m896)))))))))) (
 ((bcase (bif bif t61 then !x7 else false then (i894 : Int) != 0 else false) (
 CallsA Try.prog w0 21 #[undef] m896 fun r1008 m1009 =>
 ∃ (A1005 : Option Addr) (n1006 c1007 : Nat), r1008 = .slice A1005 n1006 c1007 ∧ (bcase (bif bif t61 then !x7 else false then (i894 : Int) != 0 else false) (
 ∃ i1010 : Int, m1009.cell ⟨x5, 0, none⟩ = some (.int .i64 i1010) ∧ ∃ i1011 : Int, m1009.cell ⟨x5, 1, none⟩ = some (.int .i64 i1011) ∧ ∃ i1012 : Int, m1009.cell ⟨x5, 2, none⟩ = some (.int .i64 i1012) ∧ ∃ i1013 : Int, m1009.cell ⟨x5, 3, none⟩ = some (.int .i64 i1013) ∧ ∃ i1014 : Int, m1009.cell ⟨x5, 4, none⟩ = some (.int .i64 i1014) ∧ 
 (bcase (bif bif t61 then !x7 else false then (i894 : Int) != 0 else false) (
 CallsA Try.prog w0 25 #[.agg #[.int .i64 i1010, .int .i64 i1011, .int .i64 i1012, .int .i64 i1013, .int .i64 i1014]] m1009 fun r1016 m1017 =>
 ∃ i1015 : Int, r1016 = .int .i64 i1015 ∧ (bcase (bif bif t61 then !x7 else false then (i894 : Int) != 0 else false) (
 CallsA Try.prog w0 53 #[.slice A1005 n1006 c1007, .int .i64 i1015] m1017 fun r1019 m1020 =>
 ∃ t1018 : Bool, r1019 = .bool t1018 ∧ true = true ∧ true = true ∧ K (bif bif bif t61 then !x7 else false then (i894 : Int) != 0 else false then t1018 else false) m1020) (
 (bif bif t61 then !x7 else false then (i894 : Int) != 0 else false) = false ∧ true = true ∧ true = true ∧ K false m1017))) (
 (bcase (bif bif t61 then !x7 else false then (i894 : Int) != 0 else false) (
 CallsA Try.prog w0 53 #[.slice A1005 n1006 c1007, undef] m1009 fun r1022 m1023 =>
 ∃ t1021 : Bool, r1022 = .bool t1021 ∧ true = true ∧ true = true ∧ K (bif bif bif t61 then !x7 else false then (i894 : Int) != 0 else false then t1021 else false) m1023) (
 (bif bif t61 then !x7 else false then (i894 : Int) != 0 else false) = false ∧ true = true ∧ true = true ∧ K false m1009))))) (
 (bcase (bif bif t61 then !x7 else false then (i894 : Int) != 0 else false) (
 CallsA Try.prog w0 25 #[undef] m1009 fun r1025 m1026 =>
 ∃ i1024 : Int, r1025 = .int .i64 i1024 ∧ (bcase (bif bif t61 then !x7 else false then (i894 : Int) != 0 else false) (
 CallsA Try.prog w0 53 #[.slice A1005 n1006 c1007, .int .i64 i1024] m1026 fun r1028 m1029 =>
 ∃ t1027 : Bool, r1028 = .bool t1027 ∧ true = true ∧ true = true ∧ K (bif bif bif t61 then !x7 else false then (i894 : Int) != 0 else false then t1027 else false) m1029) (
 (bif bif t61 then !x7 else false then (i894 : Int) != 0 else false) = false ∧ true = true ∧ true = true ∧ K false m1026))) (
 (bcase (bif bif t61 then !x7 else false then (i894 : Int) != 0 else false) (
 CallsA Try.prog w0 53 #[.slice A1005 n1006 c1007, undef] m1009 fun r1031 m1032 =>
 ∃ t1030 : Bool, r1031 = .bool t1030 ∧ true = true ∧ true = true ∧ K (bif bif bif t61 then !x7 else false then (i894 : Int) != 0 else false then t1030 else false) m1032) (
 (bif bif t61 then !x7 else false then (i894 : Int) != 0 else false) = false ∧ true = true ∧ true = true ∧ K false m1009))))))) (
 (bcase (bif bif t61 then !x7 else false then (i894 : Int) != 0 else false) (
 ∃ i1033 : Int, m896.cell ⟨x5, 0, none⟩ = some (.int .i64 i1033) ∧ ∃ i1034 : Int, m896.cell ⟨x5, 1, none⟩ = some (.int .i64 i1034) ∧ ∃ i1035 : Int, m896.cell ⟨x5, 2, none⟩ = some (.int .i64 i1035) ∧ ∃ i1036 : Int, m896.cell ⟨x5, 3, none⟩ = some (.int .i64 i1036) ∧ ∃ i1037 : Int, m896.cell ⟨x5, 4, none⟩ = some (.int .i64 i1037) ∧ 
 (bcase (bif bif t61 then !x7 else false then (i894 : Int) != 0 else false) (
 CallsA Try.prog w0 25 #[.agg #[.int .i64 i1033, .int .i64 i1034, .int .i64 i1035, .int .i64 i1036, .int .i64 i1037]] m896 fun r1039 m1040 =>
 ∃ i1038 : Int, r1039 = .int .i64 i1038 ∧ (bcase (bif bif t61 then !x7 else false then (i894 : Int) != 0 else false) (
 CallsA Try.prog w0 53 #[undef, .int .i64 i1038] m1040 fun r1042 m1043 =>
 ∃ t1041 : Bool, r1042 = .bool t1041 ∧ true = true ∧ true = true ∧ K (bif bif bif t61 then !x7 else false then (i894 : Int) != 0 else false then t1041 else false) m1043) (
 (bif bif t61 then !x7 else false then (i894 : Int) != 0 else false) = false ∧ true = true ∧ true = true ∧ K false m1040))) (
 (bcase (bif bif t61 then !x7 else false then (i894 : Int) != 0 else false) (
 CallsA Try.prog w0 53 #[undef, undef] m896 fun r1045 m1046 =>
 ∃ t1044 : Bool, r1045 = .bool t1044 ∧ true = true ∧ true = true ∧ K (bif bif bif t61 then !x7 else false then (i894 : Int) != 0 else false then t1044 else false) m1046) (
 (bif bif t61 then !x7 else false then (i894 : Int) != 0 else false) = false ∧ true = true ∧ true = true ∧ K false m896))))) (
 (bcase (bif bif t61 then !x7 else false then (i894 : Int) != 0 else false) (
 CallsA Try.prog w0 25 #[undef] m896 fun r1048 m1049 =>
 ∃ i1047 : Int, r1048 = .int .i64 i1047 ∧ (bcase (bif bif t61 then !x7 else false then (i894 : Int) != 0 else false) (
 CallsA Try.prog w0 53 #[undef, .int .i64 i1047] m1049 fun r1051 m1052 =>
 ∃ t1050 : Bool, r1051 = .bool t1050 ∧ true = true ∧ true = true ∧ K (bif bif bif t61 then !x7 else false then (i894 : Int) != 0 else false then t1050 else false) m1052) (
 (bif bif t61 then !x7 else false then (i894 : Int) != 0 else false) = false ∧ true = true ∧ true = true ∧ K false m1049))) (
 (bcase (bif bif t61 then !x7 else false then (i894 : Int) != 0 else false) (
 CallsA Try.prog w0 53 #[undef, undef] m896 fun r1054 m1055 =>
 ∃ t1053 : Bool, r1054 = .bool t1053 ∧ true = true ∧ true = true ∧ K (bif bif bif t61 then !x7 else false then (i894 : Int) != 0 else false then t1053 else false) m1055) (
 (bif bif t61 then !x7 else false then (i894 : Int) != 0 else false) = false ∧ true = true ∧ true = true ∧ K false m896))))))))) ∧
 ((bcase (bif bif t61 then !x7 else false then (i894 : Int) != 0 else false) (
 ∃ i1056 : Int, m896.cell ⟨x5, 0, none⟩ = some (.int .i64 i1056) ∧ ∃ i1057 : Int, m896.cell ⟨x5, 1, none⟩ = some (.int .i64 i1057) ∧ ∃ i1058 : Int, m896.cell ⟨x5, 2, none⟩ = some (.int .i64 i1058) ∧ ∃ i1059 : Int, m896.cell ⟨x5, 3, none⟩ = some (.int .i64 i1059) ∧ ∃ i1060 : Int, m896.cell ⟨x5, 4, none⟩ = some (.int .i64 i1060) ∧ 
 (bcase (bif bif t61 then !x7 else false then (i894 : Int) != 0 else false) (
 CallsA Try.prog w0 21 #[undef] m896 fun r1064 m1065 =>
 ∃ (A1061 : Option Addr) (n1062 c1063 : Nat), r1064 = .slice A1061 n1062 c1063 ∧ (bcase (bif bif t61 then !x7 else false then (i894 : Int) != 0 else false) (
 CallsA Try.prog w0 25 #[.agg #[.int .i64 i1056, .int .i64 i1057, .int .i64 i1058, .int .i64 i1059, .int .i64 i1060]] m1065 fun r1067 m1068 =>
 ∃ i1066 : Int, r1067 = .int .i64 i1066 ∧ (bcase (bif bif t61 then !x7 else false then (i894 : Int) != 0 else false) (
 CallsA Try.prog w0 53 #[.slice A1061 n1062 c1063, .int .i64 i1066] m1068 fun r1070 m1071 =>
 ∃ t1069 : Bool, r1070 = .bool t1069 ∧ true = true ∧ true = true ∧ K (bif bif bif t61 then !x7 else false then (i894 : Int) != 0 else false then t1069 else false) m1071) (
 (bif bif t61 then !x7 else false then (i894 : Int) != 0 else false) = false ∧ true = true ∧ true = true ∧ K false m1068))) (
 (bcase (bif bif t61 then !x7 else false then (i894 : Int) != 0 else false) (
 CallsA Try.prog w0 53 #[.slice A1061 n1062 c1063, undef] m1065 fun r1073 m1074 =>
 ∃ t1072 : Bool, r1073 = .bool t1072 ∧ true = true ∧ true = true ∧ K (bif bif bif t61 then !x7 else false then (i894 : Int) != 0 else false then t1072 else false) m1074) (
 (bif bif t61 then !x7 else false then (i894 : Int) != 0 else false) = false ∧ true = true ∧ true = true ∧ K false m1065))))) (
 (bcase (bif bif t61 then !x7 else false then (i894 : Int) != 0 else false) (
 CallsA Try.prog w0 25 #[.agg #[.int .i64 i1056, .int .i64 i1057, .int .i64 i1058, .int .i64 i1059, .int .i64 i1060]] m896 fun r1076 m1077 =>
 ∃ i1075 : Int, r1076 = .int .i64 i1075 ∧ (bcase (bif bif t61 then !x7 else false then (i894 : Int) != 0 else false) (
 CallsA Try.prog w0 53 #[undef, .int .i64 i1075] m1077 fun r1079 m1080 =>
 ∃ t1078 : Bool, r1079 = .bool t1078 ∧ true = true ∧ true = true ∧ K (bif bif bif t61 then !x7 else false then (i894 : Int) != 0 else false then t1078 else false) m1080) (
 (bif bif t61 then !x7 else false then (i894 : Int) != 0 else false) = false ∧ true = true ∧ true = true ∧ K false m1077))) (
 (bcase (bif bif t61 then !x7 else false then (i894 : Int) != 0 else false) (
 CallsA Try.prog w0 53 #[undef, undef] m896 fun r1082 m1083 =>
 ∃ t1081 : Bool, r1082 = .bool t1081 ∧ true = true ∧ true = true ∧ K (bif bif bif t61 then !x7 else false then (i894 : Int) != 0 else false then t1081 else false) m1083) (
 (bif bif t61 then !x7 else false then (i894 : Int) != 0 else false) = false ∧ true = true ∧ true = true ∧ K false m896))))))) (
 (bcase (bif bif t61 then !x7 else false then (i894 : Int) != 0 else false) (
 CallsA Try.prog w0 21 #[undef] m896 fun r1087 m1088 =>
 ∃ (A1084 : Option Addr) (n1085 c1086 : Nat), r1087 = .slice A1084 n1085 c1086 ∧ (bcase (bif bif t61 then !x7 else false then (i894 : Int) != 0 else false) (
 CallsA Try.prog w0 25 #[undef] m1088 fun r1090 m1091 =>
 ∃ i1089 : Int, r1090 = .int .i64 i1089 ∧ (bcase (bif bif t61 then !x7 else false then (i894 : Int) != 0 else false) (
 CallsA Try.prog w0 53 #[.slice A1084 n1085 c1086, .int .i64 i1089] m1091 fun r1093 m1094 =>
 ∃ t1092 : Bool, r1093 = .bool t1092 ∧ true = true ∧ true = true ∧ K (bif bif bif t61 then !x7 else false then (i894 : Int) != 0 else false then t1092 else false) m1094) (
 (bif bif t61 then !x7 else false then (i894 : Int) != 0 else false) = false ∧ true = true ∧ true = true ∧ K false m1091))) (
 (bcase (bif bif t61 then !x7 else false then (i894 : Int) != 0 else false) (
 CallsA Try.prog w0 53 #[.slice A1084 n1085 c1086, undef] m1088 fun r1096 m1097 =>
 ∃ t1095 : Bool, r1096 = .bool t1095 ∧ true = true ∧ true = true ∧ K (bif bif bif t61 then !x7 else false then (i894 : Int) != 0 else false then t1095 else false) m1097) (
 (bif bif t61 then !x7 else false then (i894 : Int) != 0 else false) = false ∧ true = true ∧ true = true ∧ K false m1088))))) (
 (bcase (bif bif t61 then !x7 else false then (i894 : Int) != 0 else false) (
 CallsA Try.prog w0 25 #[undef] m896 fun r1099 m1100 =>
 ∃ i1098 : Int, r1099 = .int .i64 i1098 ∧ (bcase (bif bif t61 then !x7 else false then (i894 : Int) != 0 else false) (
 CallsA Try.prog w0 53 #[undef, .int .i64 i1098] m1100 fun r1102 m1103 =>
 ∃ t1101 : Bool, r1102 = .bool t1101 ∧ true = true ∧ true = true ∧ K (bif bif bif t61 then !x7 else false then (i894 : Int) != 0 else false then t1101 else false) m1103) (
 (bif bif t61 then !x7 else false then (i894 : Int) != 0 else false) = false ∧ true = true ∧ true = true ∧ K false m1100))) (
 (bcase (bif bif t61 then !x7 else false then (i894 : Int) != 0 else false) (
 CallsA Try.prog w0 53 #[undef, undef] m896 fun r1105 m1106 =>
 ∃ t1104 : Bool, r1105 = .bool t1104 ∧ true = true ∧ true = true ∧ K (bif bif bif t61 then !x7 else false then (i894 : Int) != 0 else false then t1104 else false) m1106) (
 (bif bif t61 then !x7 else false then (i894 : Int) != 0 else false) = false ∧ true = true ∧ true = true ∧ K false m896)))))))))))) (
 (bcase (bif bif t61 then !x7 else false then (i894 : Int) != 0 else false) (
 False) (
 ((bcase (bif bif t61 then !x7 else false then (i894 : Int) != 0 else false) (
 CallsA Try.prog w0 21 #[undef] m896 fun r1110 m1111 =>
 ∃ (A1107 : Option Addr) (n1108 c1109 : Nat), r1110 = .slice A1107 n1108 c1109 ∧ (bcase (bif bif t61 then !x7 else false then (i894 : Int) != 0 else false) (
 ∃ i1112 : Int, m1111.cell ⟨x5, 0, none⟩ = some (.int .i64 i1112) ∧ ∃ i1113 : Int, m1111.cell ⟨x5, 1, none⟩ = some (.int .i64 i1113) ∧ ∃ i1114 : Int, m1111.cell ⟨x5, 2, none⟩ = some (.int .i64 i1114) ∧ ∃ i1115 : Int, m1111.cell ⟨x5, 3, none⟩ = some (.int .i64 i1115) ∧ ∃ i1116 : Int, m1111.cell ⟨x5, 4, none⟩ = some (.int .i64 i1116) ∧ 
 (bcase (bif bif t61 then !x7 else false then (i894 : Int) != 0 else false) (
 CallsA Try.prog w0 25 #[.agg #[.int .i64 i1112, .int .i64 i1113, .int .i64 i1114, .int .i64 i1115, .int .i64 i1116]] m1111 fun r1118 m1119 =>
 ∃ i1117 : Int, r1118 = .int .i64 i1117 ∧ (bcase (bif bif t61 then !x7 else false then (i894 : Int) != 0 else false) (
 CallsA Try.prog w0 53 #[.slice A1107 n1108 c1109, .int .i64 i1117] m1119 fun r1121 m1122 =>
 ∃ t1120 : Bool, r1121 = .bool t1120 ∧ true = true ∧ true = true ∧ K (bif bif bif t61 then !x7 else false then (i894 : Int) != 0 else false then t1120 else false) m1122) (
 (bif bif t61 then !x7 else false then (i894 : Int) != 0 else false) = false ∧ true = true ∧ true = true ∧ K false m1119))) (
 (bcase (bif bif t61 then !x7 else false then (i894 : Int) != 0 else false) (
 CallsA Try.prog w0 53 #[.slice A1107 n1108 c1109, undef] m1111 fun r1124 m1125 =>
 ∃ t1123 : Bool, r1124 = .bool t1123 ∧ true = true ∧ true = true ∧ K (bif bif bif t61 then !x7 else false then (i894 : Int) != 0 else false then t1123 else false) m1125) (
 (bif bif t61 then !x7 else false then (i894 : Int) != 0 else false) = false ∧ true = true ∧ true = true ∧ K false m1111))))) (
 (bcase (bif bif t61 then !x7 else false then (i894 : Int) != 0 else false) (
 CallsA Try.prog w0 25 #[undef] m1111 fun r1127 m1128 =>
 ∃ i1126 : Int, r1127 = .int .i64 i1126 ∧ (bcase (bif bif t61 then !x7 else false then (i894 : Int) != 0 else false) (
 CallsA Try.prog w0 53 #[.slice A1107 n1108 c1109, .int .i64 i1126] m1128 fun r1130 m1131 =>
 ∃ t1129 : Bool, r1130 = .bool t1129 ∧ true = true ∧ true = true ∧ K (bif bif bif t61 then !x7 else false then (i894 : Int) != 0 else false then t1129 else false) m1131) (
 (bif bif t61 then !x7 else false then (i894 : Int) != 0 else false) = false ∧ true = true ∧ true = true ∧ K false m1128))) (
 (bcase (bif bif t61 then !x7 else false then (i894 : Int) != 0 else false) (
 CallsA Try.prog w0 53 #[.slice A1107 n1108 c1109, undef] m1111 fun r1133 m1134 =>
 ∃ t1132 : Bool, r1133 = .bool t1132 ∧ true = true ∧ true = true ∧ K (bif bif bif t61 then !x7 else false then (i894 : Int) != 0 else false then t1132 else false) m1134) (
 (bif bif t61 then !x7 else false then (i894 : Int) != 0 else false) = false ∧ true = true ∧ true = true ∧ K false m1111))))))) (
 (bcase (bif bif t61 then !x7 else false then (i894 : Int) != 0 else false) (
 ∃ i1135 : Int, m896.cell ⟨x5, 0, none⟩ = some (.int .i64 i1135) ∧ ∃ i1136 : Int, m896.cell ⟨x5, 1, none⟩ = some (.int .i64 i1136) ∧ ∃ i1137 : Int, m896.cell ⟨x5, 2, none⟩ = some (.int .i64 i1137) ∧ ∃ i1138 : Int, m896.cell ⟨x5, 3, none⟩ = some (.int .i64 i1138) ∧ ∃ i1139 : Int, m896.cell ⟨x5, 4, none⟩ = some (.int .i64 i1139) ∧ 
 (bcase (bif bif t61 then !x7 else false then (i894 : Int) != 0 else false) (
 CallsA Try.prog w0 25 #[.agg #[.int .i64 i1135, .int .i64 i1136, .int .i64 i1137, .int .i64 i1138, .int .i64 i1139]] m896 fun r1141 m1142 =>
 ∃ i1140 : Int, r1141 = .int .i64 i1140 ∧ (bcase (bif bif t61 then !x7 else false then (i894 : Int) != 0 else false) (
 CallsA Try.prog w0 53 #[undef, .int .i64 i1140] m1142 fun r1144 m1145 =>
 ∃ t1143 : Bool, r1144 = .bool t1143 ∧ true = true ∧ true = true ∧ K (bif bif bif t61 then !x7 else false then (i894 : Int) != 0 else false then t1143 else false) m1145) (
 (bif bif t61 then !x7 else false then (i894 : Int) != 0 else false) = false ∧ true = true ∧ true = true ∧ K false m1142))) (
 (bcase (bif bif t61 then !x7 else false then (i894 : Int) != 0 else false) (
 CallsA Try.prog w0 53 #[undef, undef] m896 fun r1147 m1148 =>
 ∃ t1146 : Bool, r1147 = .bool t1146 ∧ true = true ∧ true = true ∧ K (bif bif bif t61 then !x7 else false then (i894 : Int) != 0 else false then t1146 else false) m1148) (
 (bif bif t61 then !x7 else false then (i894 : Int) != 0 else false) = false ∧ true = true ∧ true = true ∧ K false m896))))) (
 (bcase (bif bif t61 then !x7 else false then (i894 : Int) != 0 else false) (
 CallsA Try.prog w0 25 #[undef] m896 fun r1150 m1151 =>
 ∃ i1149 : Int, r1150 = .int .i64 i1149 ∧ (bcase (bif bif t61 then !x7 else false then (i894 : Int) != 0 else false) (
 CallsA Try.prog w0 53 #[undef, .int .i64 i1149] m1151 fun r1153 m1154 =>
 ∃ t1152 : Bool, r1153 = .bool t1152 ∧ true = true ∧ true = true ∧ K (bif bif bif t61 then !x7 else false then (i894 : Int) != 0 else false then t1152 else false) m1154) (
 (bif bif t61 then !x7 else false then (i894 : Int) != 0 else false) = false ∧ true = true ∧ true = true ∧ K false m1151))) (
 (bcase (bif bif t61 then !x7 else false then (i894 : Int) != 0 else false) (
 CallsA Try.prog w0 53 #[undef, undef] m896 fun r1156 m1157 =>
 ∃ t1155 : Bool, r1156 = .bool t1155 ∧ true = true ∧ true = true ∧ K (bif bif bif t61 then !x7 else false then (i894 : Int) != 0 else false then t1155 else false) m1157) (
 (bif bif t61 then !x7 else false then (i894 : Int) != 0 else false) = false ∧ true = true ∧ true = true ∧ K false m896))))))))) ∧
 ((bcase (bif bif t61 then !x7 else false then (i894 : Int) != 0 else false) (
 ∃ i1158 : Int, m896.cell ⟨x5, 0, none⟩ = some (.int .i64 i1158) ∧ ∃ i1159 : Int, m896.cell ⟨x5, 1, none⟩ = some (.int .i64 i1159) ∧ ∃ i1160 : Int, m896.cell ⟨x5, 2, none⟩ = some (.int .i64 i1160) ∧ ∃ i1161 : Int, m896.cell ⟨x5, 3, none⟩ = some (.int .i64 i1161) ∧ ∃ i1162 : Int, m896.cell ⟨x5, 4, none⟩ = some (.int .i64 i1162) ∧ 
 (bcase (bif bif t61 then !x7 else false then (i894 : Int) != 0 else false) (
 CallsA Try.prog w0 21 #[undef] m896 fun r1166 m1167 =>
 ∃ (A1163 : Option Addr) (n1164 c1165 : Nat), r1166 = .slice A1163 n1164 c1165 ∧ (bcase (bif bif t61 then !x7 else false then (i894 : Int) != 0 else false) (
 CallsA Try.prog w0 25 #[.agg #[.int .i64 i1158, .int .i64 i1159, .int .i64 i1160, .int .i64 i1161, .int .i64 i1162]] m1167 fun r1169 m1170 =>
 ∃ i1168 : Int, r1169 = .int .i64 i1168 ∧ (bcase (bif bif t61 then !x7 else false then (i894 : Int) != 0 else false) (
 CallsA Try.prog w0 53 #[.slice A1163 n1164 c1165, .int .i64 i1168] m1170 fun r1172 m1173 =>
 ∃ t1171 : Bool, r1172 = .bool t1171 ∧ true = true ∧ true = true ∧ K (bif bif bif t61 then !x7 else false then (i894 : Int) != 0 else false then t1171 else false) m1173) (
 (bif bif t61 then !x7 else false then (i894 : Int) != 0 else false) = false ∧ true = true ∧ true = true ∧ K false m1170))) (
 (bcase (bif bif t61 then !x7 else false then (i894 : Int) != 0 else false) (
 CallsA Try.prog w0 53 #[.slice A1163 n1164 c1165, undef] m1167 fun r1175 m1176 =>
 ∃ t1174 : Bool, r1175 = .bool t1174 ∧ true = true ∧ true = true ∧ K (bif bif bif t61 then !x7 else false then (i894 : Int) != 0 else false then t1174 else false) m1176) (
 (bif bif t61 then !x7 else false then (i894 : Int) != 0 else false) = false ∧ true = true ∧ true = true ∧ K false m1167))))) (
 (bcase (bif bif t61 then !x7 else false then (i894 : Int) != 0 else false) (
 CallsA Try.prog w0 25 #[.agg #[.int .i64 i1158, .int .i64 i1159, .int .i64 i1160, .int .i64 i1161, .int .i64 i1162]] m896 fun r1178 m1179 =>
 ∃ i1177 : Int, r1178 = .int .i64 i1177 ∧ (bcase (bif bif t61 then !x7 else false then (i894 : Int) != 0 else false) (
 CallsA Try.prog w0 53 #[undef, .int .i64 i1177] m1179 fun r1181 m1182 =>
 ∃ t1180 : Bool, r1181 = .bool t1180 ∧ true = true ∧ true = true ∧ K (bif bif bif t61 then !x7 else false then (i894 : Int) != 0 else false then t1180 else false) m1182) (
 (bif bif t61 then !x7 else false then (i894 : Int) != 0 else false) = false ∧ true = true ∧ true = true ∧ K false m1179))) (
 (bcase (bif bif t61 then !x7 else false then (i894 : Int) != 0 else false) (
 CallsA Try.prog w0 53 #[undef, undef] m896 fun r1184 m1185 =>
 ∃ t1183 : Bool, r1184 = .bool t1183 ∧ true = true ∧ true = true ∧ K (bif bif bif t61 then !x7 else false then (i894 : Int) != 0 else false then t1183 else false) m1185) (
 (bif bif t61 then !x7 else false then (i894 : Int) != 0 else false) = false ∧ true = true ∧ true = true ∧ K false m896))))))) (
 (bcase (bif bif t61 then !x7 else false then (i894 : Int) != 0 else false) (
 CallsA Try.prog w0 21 #[undef] m896 fun r1189 m1190 =>
 ∃ (A1186 : Option Addr) (n1187 c1188 : Nat), r1189 = .slice A1186 n1187 c1188 ∧ (bcase (bif bif t61 then !x7 else false then (i894 : Int) != 0 else false) (
 CallsA Try.prog w0 25 #[undef] m1190 fun r1192 m1193 =>
 ∃ i1191 : Int, r1192 = .int .i64 i1191 ∧ (bcase (bif bif t61 then !x7 else false then (i894 : Int) != 0 else false) (
 CallsA Try.prog w0 53 #[.slice A1186 n1187 c1188, .int .i64 i1191] m1193 fun r1195 m1196 =>
 ∃ t1194 : Bool, r1195 = .bool t1194 ∧ true = true ∧ true = true ∧ K (bif bif bif t61 then !x7 else false then (i894 : Int) != 0 else false then t1194 else false) m1196) (
 (bif bif t61 then !x7 else false then (i894 : Int) != 0 else false) = false ∧ true = true ∧ true = true ∧ K false m1193))) (
 (bcase (bif bif t61 then !x7 else false then (i894 : Int) != 0 else false) (
 CallsA Try.prog w0 53 #[.slice A1186 n1187 c1188, undef] m1190 fun r1198 m1199 =>
 ∃ t1197 : Bool, r1198 = .bool t1197 ∧ true = true ∧ true = true ∧ K (bif bif bif t61 then !x7 else false then (i894 : Int) != 0 else false then t1197 else false) m1199) (
 (bif bif t61 then !x7 else false then (i894 : Int) != 0 else false) = false ∧ true = true ∧ true = true ∧ K false m1190))))) (
 (bcase (bif bif t61 then !x7 else false then (i894 : Int) != 0 else false) (
 CallsA Try.prog w0 25 #[undef] m896 fun r1201 m1202 =>
 ∃ i1200 : Int, r1201 = .int .i64 i1200 ∧ (bcase (bif bif t61 then !x7 else false then (i894 : Int) != 0 else false) (
 CallsA Try.prog w0 53 #[undef, .int .i64 i1200] m1202 fun r1204 m1205 =>
 ∃ t1203 : Bool, r1204 = .bool t1203 ∧ true = true ∧ true = true ∧ K (bif bif bif t61 then !x7 else false then (i894 : Int) != 0 else false then t1203 else false) m1205) (
 (bif bif t61 then !x7 else false then (i894 : Int) != 0 else false) = false ∧ true = true ∧ true = true ∧ K false m1202))) (
 (bcase (bif bif t61 then !x7 else false then (i894 : Int) != 0 else false) (
 CallsA Try.prog w0 53 #[undef, undef] m896 fun r1207 m1208 =>
 ∃ t1206 : Bool, r1207 = .bool t1206 ∧ true = true ∧ true = true ∧ K (bif bif bif t61 then !x7 else false then (i894 : Int) != 0 else false then t1206 else false) m1208) (
 (bif bif t61 then !x7 else false then (i894 : Int) != 0 else false) = false ∧ true = true ∧ true = true ∧ K false m896)))))))))))))) (
 (bcase (bif bif t61 then !x7 else false then (i894 : Int) != 0 else false) (
 False) (
 (bcase (bif bif t61 then !x7 else false then (i894 : Int) != 0 else false) (
 False) (
 ((bcase (bif bif t61 then !x7 else false then (i894 : Int) != 0 else false) (
 CallsA Try.prog w0 21 #[undef] m896 fun r1212 m1213 =>
 ∃ (A1209 : Option Addr) (n1210 c1211 : Nat), r1212 = .slice A1209 n1210 c1211 ∧ (bcase (bif bif t61 then !x7 else false then (i894 : Int) != 0 else false) (
 ∃ i1214 : Int, m1213.cell ⟨x5, 0, none⟩ = some (.int .i64 i1214) ∧ ∃ i1215 : Int, m1213.cell ⟨x5, 1, none⟩ = some (.int .i64 i1215) ∧ ∃ i1216 : Int, m1213.cell ⟨x5, 2, none⟩ = some (.int .i64 i1216) ∧ ∃ i1217 : Int, m1213.cell ⟨x5, 3, none⟩ = some (.int .i64 i1217) ∧ ∃ i1218 : Int, m1213.cell ⟨x5, 4, none⟩ = some (.int .i64 i1218) ∧ 
 (bcase (bif bif t61 then !x7 else false then (i894 : Int) != 0 else false) (
 CallsA Try.prog w0 25 #[.agg #[.int .i64 i1214, .int .i64 i1215, .int .i64 i1216, .int .i64 i1217, .int .i64 i1218]] m1213 fun r1220 m1221 =>
 ∃ i1219 : Int, r1220 = .int .i64 i1219 ∧ (bcase (bif bif t61 then !x7 else false then (i894 : Int) != 0 else false) (
 CallsA Try.prog w0 53 #[.slice A1209 n1210 c1211, .int .i64 i1219] m1221 fun r1223 m1224 =>
 ∃ t1222 : Bool, r1223 = .bool t1222 ∧ true = true ∧ true = true ∧ K (bif bif bif t61 then !x7 else false then (i894 : Int) != 0 else false then t1222 else false) m1224) (
 (bif bif t61 then !x7 else false then (i894 : Int) != 0 else false) = false ∧ true = true ∧ true = true ∧ K false m1221))) (
 (bcase (bif bif t61 then !x7 else false then (i894 : Int) != 0 else false) (
 CallsA Try.prog w0 53 #[.slice A1209 n1210 c1211, undef] m1213 fun r1226 m1227 =>
 ∃ t1225 : Bool, r1226 = .bool t1225 ∧ true = true ∧ true = true ∧ K (bif bif bif t61 then !x7 else false then (i894 : Int) != 0 else false then t1225 else false) m1227) (
 (bif bif t61 then !x7 else false then (i894 : Int) != 0 else false) = false ∧ true = true ∧ true = true ∧ K false m1213))))) (
 (bcase (bif bif t61 then !x7 else false then (i894 : Int) != 0 else false) (
 CallsA Try.prog w0 25 #[undef] m1213 fun r1229 m1230 =>
 ∃ i1228 : Int, r1229 = .int .i64 i1228 ∧ (bcase (bif bif t61 then !x7 else false then (i894 : Int) != 0 else false) (
 CallsA Try.prog w0 53 #[.slice A1209 n1210 c1211, .int .i64 i1228] m1230 fun r1232 m1233 =>
 ∃ t1231 : Bool, r1232 = .bool t1231 ∧ true = true ∧ true = true ∧ K (bif bif bif t61 then !x7 else false then (i894 : Int) != 0 else false then t1231 else false) m1233) (
 (bif bif t61 then !x7 else false then (i894 : Int) != 0 else false) = false ∧ true = true ∧ true = true ∧ K false m1230))) (
 (bcase (bif bif t61 then !x7 else false then (i894 : Int) != 0 else false) (
 CallsA Try.prog w0 53 #[.slice A1209 n1210 c1211, undef] m1213 fun r1235 m1236 =>
 ∃ t1234 : Bool, r1235 = .bool t1234 ∧ true = true ∧ true = true ∧ K (bif bif bif t61 then !x7 else false then (i894 : Int) != 0 else false then t1234 else false) m1236) (
 (bif bif t61 then !x7 else false then (i894 : Int) != 0 else false) = false ∧ true = true ∧ true = true ∧ K false m1213))))))) (
 (bcase (bif bif t61 then !x7 else false then (i894 : Int) != 0 else false) (
 ∃ i1237 : Int, m896.cell ⟨x5, 0, none⟩ = some (.int .i64 i1237) ∧ ∃ i1238 : Int, m896.cell ⟨x5, 1, none⟩ = some (.int .i64 i1238) ∧ ∃ i1239 : Int, m896.cell ⟨x5, 2, none⟩ = some (.int .i64 i1239) ∧ ∃ i1240 : Int, m896.cell ⟨x5, 3, none⟩ = some (.int .i64 i1240) ∧ ∃ i1241 : Int, m896.cell ⟨x5, 4, none⟩ = some (.int .i64 i1241) ∧ 
 (bcase (bif bif t61 then !x7 else false then (i894 : Int) != 0 else false) (
 CallsA Try.prog w0 25 #[.agg #[.int .i64 i1237, .int .i64 i1238, .int .i64 i1239, .int .i64 i1240, .int .i64 i1241]] m896 fun r1243 m1244 =>
 ∃ i1242 : Int, r1243 = .int .i64 i1242 ∧ (bcase (bif bif t61 then !x7 else false then (i894 : Int) != 0 else false) (
 CallsA Try.prog w0 53 #[undef, .int .i64 i1242] m1244 fun r1246 m1247 =>
 ∃ t1245 : Bool, r1246 = .bool t1245 ∧ true = true ∧ true = true ∧ K (bif bif bif t61 then !x7 else false then (i894 : Int) != 0 else false then t1245 else false) m1247) (
 (bif bif t61 then !x7 else false then (i894 : Int) != 0 else false) = false ∧ true = true ∧ true = true ∧ K false m1244))) (
 (bcase (bif bif t61 then !x7 else false then (i894 : Int) != 0 else false) (
 CallsA Try.prog w0 53 #[undef, undef] m896 fun r1249 m1250 =>
 ∃ t1248 : Bool, r1249 = .bool t1248 ∧ true = true ∧ true = true ∧ K (bif bif bif t61 then !x7 else false then (i894 : Int) != 0 else false then t1248 else false) m1250) (
 (bif bif t61 then !x7 else false then (i894 : Int) != 0 else false) = false ∧ true = true ∧ true = true ∧ K false m896))))) (
 (bcase (bif bif t61 then !x7 else false then (i894 : Int) != 0 else false) (
 CallsA Try.prog w0 25 #[undef] m896 fun r1252 m1253 =>
 ∃ i1251 : Int, r1252 = .int .i64 i1251 ∧ (bcase (bif bif t61 then !x7 else false then (i894 : Int) != 0 else false) (
 CallsA Try.prog w0 53 #[undef, .int .i64 i1251] m1253 fun r1255 m1256 =>
 ∃ t1254 : Bool, r1255 = .bool t1254 ∧ true = true ∧ true = true ∧ K (bif bif bif t61 then !x7 else false then (i894 : Int) != 0 else false then t1254 else false) m1256) (
 (bif bif t61 then !x7 else false then (i894 : Int) != 0 else false) = false ∧ true = true ∧ true = true ∧ K false m1253))) (
 (bcase (bif bif t61 then !x7 else false then (i894 : Int) != 0 else false) (
 CallsA Try.prog w0 53 #[undef, undef] m896 fun r1258 m1259 =>
 ∃ t1257 : Bool, r1258 = .bool t1257 ∧ true = true ∧ true = true ∧ K (bif bif bif t61 then !x7 else false then (i894 : Int) != 0 else false then t1257 else false) m1259) (
 (bif bif t61 then !x7 else false then (i894 : Int) != 0 else false) = false ∧ true = true ∧ true = true ∧ K false m896))))))))) ∧
 ((bcase (bif bif t61 then !x7 else false then (i894 : Int) != 0 else false) (
 ∃ i1260 : Int, m896.cell ⟨x5, 0, none⟩ = some (.int .i64 i1260) ∧ ∃ i1261 : Int, m896.cell ⟨x5, 1, none⟩ = some (.int .i64 i1261) ∧ ∃ i1262 : Int, m896.cell ⟨x5, 2, none⟩ = some (.int .i64 i1262) ∧ ∃ i1263 : Int, m896.cell ⟨x5, 3, none⟩ = some (.int .i64 i1263) ∧ ∃ i1264 : Int, m896.cell ⟨x5, 4, none⟩ = some (.int .i64 i1264) ∧ 
 (bcase (bif bif t61 then !x7 else false then (i894 : Int) != 0 else false) (
 CallsA Try.prog w0 21 #[undef] m896 fun r1268 m1269 =>
 ∃ (A1265 : Option Addr) (n1266 c1267 : Nat), r1268 = .slice A1265 n1266 c1267 ∧ (bcase (bif bif t61 then !x7 else false then (i894 : Int) != 0 else false) (
 CallsA Try.prog w0 25 #[.agg #[.int .i64 i1260, .int .i64 i1261, .int .i64 i1262, .int .i64 i1263, .int .i64 i1264]] m1269 fun r1271 m1272 =>
 ∃ i1270 : Int, r1271 = .int .i64 i1270 ∧ (bcase (bif bif t61 then !x7 else false then (i894 : Int) != 0 else false) (
 CallsA Try.prog w0 53 #[.slice A1265 n1266 c1267, .int .i64 i1270] m1272 fun r1274 m1275 =>
 ∃ t1273 : Bool, r1274 = .bool t1273 ∧ true = true ∧ true = true ∧ K (bif bif bif t61 then !x7 else false then (i894 : Int) != 0 else false then t1273 else false) m1275) (
 (bif bif t61 then !x7 else false then (i894 : Int) != 0 else false) = false ∧ true = true ∧ true = true ∧ K false m1272))) (
 (bcase (bif bif t61 then !x7 else false then (i894 : Int) != 0 else false) (
 CallsA Try.prog w0 53 #[.slice A1265 n1266 c1267, undef] m1269 fun r1277 m1278 =>
 ∃ t1276 : Bool, r1277 = .bool t1276 ∧ true = true ∧ true = true ∧ K (bif bif bif t61 then !x7 else false then (i894 : Int) != 0 else false then t1276 else false) m1278) (
 (bif bif t61 then !x7 else false then (i894 : Int) != 0 else false) = false ∧ true = true ∧ true = true ∧ K false m1269))))) (
 (bcase (bif bif t61 then !x7 else false then (i894 : Int) != 0 else false) (
 CallsA Try.prog w0 25 #[.agg #[.int .i64 i1260, .int .i64 i1261, .int .i64 i1262, .int .i64 i1263, .int .i64 i1264]] m896 fun r1280 m1281 =>
 ∃ i1279 : Int, r1280 = .int .i64 i1279 ∧ (bcase (bif bif t61 then !x7 else false then (i894 : Int) != 0 else false) (
 CallsA Try.prog w0 53 #[undef, .int .i64 i1279] m1281 fun r1283 m1284 =>
 ∃ t1282 : Bool, r1283 = .bool t1282 ∧ true = true ∧ true = true ∧ K (bif bif bif t61 then !x7 else false then (i894 : Int) != 0 else false then t1282 else false) m1284) (
 (bif bif t61 then !x7 else false then (i894 : Int) != 0 else false) = false ∧ true = true ∧ true = true ∧ K false m1281))) (
 (bcase (bif bif t61 then !x7 else false then (i894 : Int) != 0 else false) (
 CallsA Try.prog w0 53 #[undef, undef] m896 fun r1286 m1287 =>
 ∃ t1285 : Bool, r1286 = .bool t1285 ∧ true = true ∧ true = true ∧ K (bif bif bif t61 then !x7 else false then (i894 : Int) != 0 else false then t1285 else false) m1287) (
 (bif bif t61 then !x7 else false then (i894 : Int) != 0 else false) = false ∧ true = true ∧ true = true ∧ K false m896))))))) (
 (bcase (bif bif t61 then !x7 else false then (i894 : Int) != 0 else false) (
 CallsA Try.prog w0 21 #[undef] m896 fun r1291 m1292 =>
 ∃ (A1288 : Option Addr) (n1289 c1290 : Nat), r1291 = .slice A1288 n1289 c1290 ∧ (bcase (bif bif t61 then !x7 else false then (i894 : Int) != 0 else false) (
 CallsA Try.prog w0 25 #[undef] m1292 fun r1294 m1295 =>
 ∃ i1293 : Int, r1294 = .int .i64 i1293 ∧ (bcase (bif bif t61 then !x7 else false then (i894 : Int) != 0 else false) (
 CallsA Try.prog w0 53 #[.slice A1288 n1289 c1290, .int .i64 i1293] m1295 fun r1297 m1298 =>
 ∃ t1296 : Bool, r1297 = .bool t1296 ∧ true = true ∧ true = true ∧ K (bif bif bif t61 then !x7 else false then (i894 : Int) != 0 else false then t1296 else false) m1298) (
 (bif bif t61 then !x7 else false then (i894 : Int) != 0 else false) = false ∧ true = true ∧ true = true ∧ K false m1295))) (
 (bcase (bif bif t61 then !x7 else false then (i894 : Int) != 0 else false) (
 CallsA Try.prog w0 53 #[.slice A1288 n1289 c1290, undef] m1292 fun r1300 m1301 =>
 ∃ t1299 : Bool, r1300 = .bool t1299 ∧ true = true ∧ true = true ∧ K (bif bif bif t61 then !x7 else false then (i894 : Int) != 0 else false then t1299 else false) m1301) (
 (bif bif t61 then !x7 else false then (i894 : Int) != 0 else false) = false ∧ true = true ∧ true = true ∧ K false m1292))))) (
 (bcase (bif bif t61 then !x7 else false then (i894 : Int) != 0 else false) (
 CallsA Try.prog w0 25 #[undef] m896 fun r1303 m1304 =>
 ∃ i1302 : Int, r1303 = .int .i64 i1302 ∧ (bcase (bif bif t61 then !x7 else false then (i894 : Int) != 0 else false) (
 CallsA Try.prog w0 53 #[undef, .int .i64 i1302] m1304 fun r1306 m1307 =>
 ∃ t1305 : Bool, r1306 = .bool t1305 ∧ true = true ∧ true = true ∧ K (bif bif bif t61 then !x7 else false then (i894 : Int) != 0 else false then t1305 else false) m1307) (
 (bif bif t61 then !x7 else false then (i894 : Int) != 0 else false) = false ∧ true = true ∧ true = true ∧ K false m1304))) (
 (bcase (bif bif t61 then !x7 else false then (i894 : Int) != 0 else false) (
 CallsA Try.prog w0 53 #[undef, undef] m896 fun r1309 m1310 =>
 ∃ t1308 : Bool, r1309 = .bool t1308 ∧ true = true ∧ true = true ∧ K (bif bif bif t61 then !x7 else false then (i894 : Int) != 0 else false then t1308 else false) m1310) (
 (bif bif t61 then !x7 else false then (i894 : Int) != 0 else false) = false ∧ true = true ∧ true = true ∧ K false m896)))))))))))))))) (
 (bcase (bif bif t61 then !x7 else false then (i894 : Int) != 0 else false) (
 False) (
 (bcase (bif bif t61 then !x7 else false then (i894 : Int) != 0 else false) (
 False) (
 (bcase (bif bif t61 then !x7 else false then (i894 : Int) != 0 else false) (
 False) (
 ((bcase (bif bif t61 then !x7 else false then (i894 : Int) != 0 else false) (
 CallsA Try.prog w0 21 #[undef] m896 fun r1314 m1315 =>
 ∃ (A1311 : Option Addr) (n1312 c1313 : Nat), r1314 = .slice A1311 n1312 c1313 ∧ (bcase (bif bif t61 then !x7 else false then (i894 : Int) != 0 else false) (
 ∃ i1316 : Int, m1315.cell ⟨x5, 0, none⟩ = some (.int .i64 i1316) ∧ ∃ i1317 : Int, m1315.cell ⟨x5, 1, none⟩ = some (.int .i64 i1317) ∧ ∃ i1318 : Int, m1315.cell ⟨x5, 2, none⟩ = some (.int .i64 i1318) ∧ ∃ i1319 : Int, m1315.cell ⟨x5, 3, none⟩ = some (.int .i64 i1319) ∧ ∃ i1320 : Int, m1315.cell ⟨x5, 4, none⟩ = some (.int .i64 i1320) ∧ 
 (bcase (bif bif t61 then !x7 else false then (i894 : Int) != 0 else false) (
 CallsA Try.prog w0 25 #[.agg #[.int .i64 i1316, .int .i64 i1317, .int .i64 i1318, .int .i64 i1319, .int .i64 i1320]] m1315 fun r1322 m1323 =>
 ∃ i1321 : Int, r1322 = .int .i64 i1321 ∧ (bcase (bif bif t61 then !x7 else false then (i894 : Int) != 0 else false) (
 CallsA Try.prog w0 53 #[.slice A1311 n1312 c1313, .int .i64 i1321] m1323 fun r1325 m1326 =>
 ∃ t1324 : Bool, r1325 = .bool t1324 ∧ true = true ∧ true = true ∧ K (bif bif bif t61 then !x7 else false then (i894 : Int) != 0 else false then t1324 else false) m1326) (
 (bif bif t61 then !x7 else false then (i894 : Int) != 0 else false) = false ∧ true = true ∧ true = true ∧ K false m1323))) (
 (bcase (bif bif t61 then !x7 else false then (i894 : Int) != 0 else false) (
 CallsA Try.prog w0 53 #[.slice A1311 n1312 c1313, undef] m1315 fun r1328 m1329 =>
 ∃ t1327 : Bool, r1328 = .bool t1327 ∧ true = true ∧ true = true ∧ K (bif bif bif t61 then !x7 else false then (i894 : Int) != 0 else false then t1327 else false) m1329) (
 (bif bif t61 then !x7 else false then (i894 : Int) != 0 else false) = false ∧ true = true ∧ true = true ∧ K false m1315))))) (
 (bcase (bif bif t61 then !x7 else false then (i894 : Int) != 0 else false) (
 CallsA Try.prog w0 25 #[undef] m1315 fun r1331 m1332 =>
 ∃ i1330 : Int, r1331 = .int .i64 i1330 ∧ (bcase (bif bif t61 then !x7 else false then (i894 : Int) != 0 else false) (
 CallsA Try.prog w0 53 #[.slice A1311 n1312 c1313, .int .i64 i1330] m1332 fun r1334 m1335 =>
 ∃ t1333 : Bool, r1334 = .bool t1333 ∧ true = true ∧ true = true ∧ K (bif bif bif t61 then !x7 else false then (i894 : Int) != 0 else false then t1333 else false) m1335) (
 (bif bif t61 then !x7 else false then (i894 : Int) != 0 else false) = false ∧ true = true ∧ true = true ∧ K false m1332))) (
 (bcase (bif bif t61 then !x7 else false then (i894 : Int) != 0 else false) (
 CallsA Try.prog w0 53 #[.slice A1311 n1312 c1313, undef] m1315 fun r1337 m1338 =>
 ∃ t1336 : Bool, r1337 = .bool t1336 ∧ true = true ∧ true = true ∧ K (bif bif bif t61 then !x7 else false then (i894 : Int) != 0 else false then t1336 else false) m1338) (
 (bif bif t61 then !x7 else false then (i894 : Int) != 0 else false) = false ∧ true = true ∧ true = true ∧ K false m1315))))))) (
 (bcase (bif bif t61 then !x7 else false then (i894 : Int) != 0 else false) (
 ∃ i1339 : Int, m896.cell ⟨x5, 0, none⟩ = some (.int .i64 i1339) ∧ ∃ i1340 : Int, m896.cell ⟨x5, 1, none⟩ = some (.int .i64 i1340) ∧ ∃ i1341 : Int, m896.cell ⟨x5, 2, none⟩ = some (.int .i64 i1341) ∧ ∃ i1342 : Int, m896.cell ⟨x5, 3, none⟩ = some (.int .i64 i1342) ∧ ∃ i1343 : Int, m896.cell ⟨x5, 4, none⟩ = some (.int .i64 i1343) ∧ 
 (bcase (bif bif t61 then !x7 else false then (i894 : Int) != 0 else false) (
 CallsA Try.prog w0 25 #[.agg #[.int .i64 i1339, .int .i64 i1340, .int .i64 i1341, .int .i64 i1342, .int .i64 i1343]] m896 fun r1345 m1346 =>
 ∃ i1344 : Int, r1345 = .int .i64 i1344 ∧ (bcase (bif bif t61 then !x7 else false then (i894 : Int) != 0 else false) (
 CallsA Try.prog w0 53 #[undef, .int .i64 i1344] m1346 fun r1348 m1349 =>
 ∃ t1347 : Bool, r1348 = .bool t1347 ∧ true = true ∧ true = true ∧ K (bif bif bif t61 then !x7 else false then (i894 : Int) != 0 else false then t1347 else false) m1349) (
 (bif bif t61 then !x7 else false then (i894 : Int) != 0 else false) = false ∧ true = true ∧ true = true ∧ K false m1346))) (
 (bcase (bif bif t61 then !x7 else false then (i894 : Int) != 0 else false) (
 CallsA Try.prog w0 53 #[undef, undef] m896 fun r1351 m1352 =>
 ∃ t1350 : Bool, r1351 = .bool t1350 ∧ true = true ∧ true = true ∧ K (bif bif bif t61 then !x7 else false then (i894 : Int) != 0 else false then t1350 else false) m1352) (
 (bif bif t61 then !x7 else false then (i894 : Int) != 0 else false) = false ∧ true = true ∧ true = true ∧ K false m896))))) (
 (bcase (bif bif t61 then !x7 else false then (i894 : Int) != 0 else false) (
 CallsA Try.prog w0 25 #[undef] m896 fun r1354 m1355 =>
 ∃ i1353 : Int, r1354 = .int .i64 i1353 ∧ (bcase (bif bif t61 then !x7 else false then (i894 : Int) != 0 else false) (
 CallsA Try.prog w0 53 #[undef, .int .i64 i1353] m1355 fun r1357 m1358 =>
 ∃ t1356 : Bool, r1357 = .bool t1356 ∧ true = true ∧ true = true ∧ K (bif bif bif t61 then !x7 else false then (i894 : Int) != 0 else false then t1356 else false) m1358) (
 (bif bif t61 then !x7 else false then (i894 : Int) != 0 else false) = false ∧ true = true ∧ true = true ∧ K false m1355))) (
 (bcase (bif bif t61 then !x7 else false then (i894 : Int) != 0 else false) (
 CallsA Try.prog w0 53 #[undef, undef] m896 fun r1360 m1361 =>
 ∃ t1359 : Bool, r1360 = .bool t1359 ∧ true = true ∧ true = true ∧ K (bif bif bif t61 then !x7 else false then (i894 : Int) != 0 else false then t1359 else false) m1361) (
 (bif bif t61 then !x7 else false then (i894 : Int) != 0 else false) = false ∧ true = true ∧ true = true ∧ K false m896))))))))) ∧
 ((bcase (bif bif t61 then !x7 else false then (i894 : Int) != 0 else false) (
 ∃ i1362 : Int, m896.cell ⟨x5, 0, none⟩ = some (.int .i64 i1362) ∧ ∃ i1363 : Int, m896.cell ⟨x5, 1, none⟩ = some (.int .i64 i1363) ∧ ∃ i1364 : Int, m896.cell ⟨x5, 2, none⟩ = some (.int .i64 i1364) ∧ ∃ i1365 : Int, m896.cell ⟨x5, 3, none⟩ = some (.int .i64 i1365) ∧ ∃ i1366 : Int, m896.cell ⟨x5, 4, none⟩ = some (.int .i64 i1366) ∧ 
 (bcase (bif bif t61 then !x7 else false then (i894 : Int) != 0 else false) (
 CallsA Try.prog w0 21 #[undef] m896 fun r1370 m1371 =>
 ∃ (A1367 : Option Addr) (n1368 c1369 : Nat), r1370 = .slice A1367 n1368 c1369 ∧ (bcase (bif bif t61 then !x7 else false then (i894 : Int) != 0 else false) (
 CallsA Try.prog w0 25 #[.agg #[.int .i64 i1362, .int .i64 i1363, .int .i64 i1364, .int .i64 i1365, .int .i64 i1366]] m1371 fun r1373 m1374 =>
 ∃ i1372 : Int, r1373 = .int .i64 i1372 ∧ (bcase (bif bif t61 then !x7 else false then (i894 : Int) != 0 else false) (
 CallsA Try.prog w0 53 #[.slice A1367 n1368 c1369, .int .i64 i1372] m1374 fun r1376 m1377 =>
 ∃ t1375 : Bool, r1376 = .bool t1375 ∧ true = true ∧ true = true ∧ K (bif bif bif t61 then !x7 else false then (i894 : Int) != 0 else false then t1375 else false) m1377) (
 (bif bif t61 then !x7 else false then (i894 : Int) != 0 else false) = false ∧ true = true ∧ true = true ∧ K false m1374))) (
 (bcase (bif bif t61 then !x7 else false then (i894 : Int) != 0 else false) (
 CallsA Try.prog w0 53 #[.slice A1367 n1368 c1369, undef] m1371 fun r1379 m1380 =>
 ∃ t1378 : Bool, r1379 = .bool t1378 ∧ true = true ∧ true = true ∧ K (bif bif bif t61 then !x7 else false then (i894 : Int) != 0 else false then t1378 else false) m1380) (
 (bif bif t61 then !x7 else false then (i894 : Int) != 0 else false) = false ∧ true = true ∧ true = true ∧ K false m1371))))) (
 (bcase (bif bif t61 then !x7 else false then (i894 : Int) != 0 else false) (
 CallsA Try.prog w0 25 #[.agg #[.int .i64 i1362, .int .i64 i1363, .int .i64 i1364, .int .i64 i1365, .int .i64 i1366]] m896 fun r1382 m1383 =>
 ∃ i1381 : Int, r1382 = .int .i64 i1381 ∧ (bcase (bif bif t61 then !x7 else false then (i894 : Int) != 0 else false) (
 CallsA Try.prog w0 53 #[undef, .int .i64 i1381] m1383 fun r1385 m1386 =>
 ∃ t1384 : Bool, r1385 = .bool t1384 ∧ true = true ∧ true = true ∧ K (bif bif bif t61 then !x7 else false then (i894 : Int) != 0 else false then t1384 else false) m1386) (
 (bif bif t61 then !x7 else false then (i894 : Int) != 0 else false) = false ∧ true = true ∧ true = true ∧ K false m1383))) (
 (bcase (bif bif t61 then !x7 else false then (i894 : Int) != 0 else false) (
 CallsA Try.prog w0 53 #[undef, undef] m896 fun r1388 m1389 =>
 ∃ t1387 : Bool, r1388 = .bool t1387 ∧ true = true ∧ true = true ∧ K (bif bif bif t61 then !x7 else false then (i894 : Int) != 0 else false then t1387 else false) m1389) (
 (bif bif t61 then !x7 else false then (i894 : Int) != 0 else false) = false ∧ true = true ∧ true = true ∧ K false m896))))))) (
 (bcase (bif bif t61 then !x7 else false then (i894 : Int) != 0 else false) (
 CallsA Try.prog w0 21 #[undef] m896 fun r1393 m1394 =>
 ∃ (A1390 : Option Addr) (n1391 c1392 : Nat), r1393 = .slice A1390 n1391 c1392 ∧ (bcase (bif bif t61 then !x7 else false then (i894 : Int) != 0 else false) (
 CallsA Try.prog w0 25 #[undef] m1394 fun r1396 m1397 =>
 ∃ i1395 : Int, r1396 = .int .i64 i1395 ∧ (bcase (bif bif t61 then !x7 else false then (i894 : Int) != 0 else false) (
 CallsA Try.prog w0 53 #[.slice A1390 n1391 c1392, .int .i64 i1395] m1397 fun r1399 m1400 =>
 ∃ t1398 : Bool, r1399 = .bool t1398 ∧ true = true ∧ true = true ∧ K (bif bif bif t61 then !x7 else false then (i894 : Int) != 0 else false then t1398 else false) m1400) (
 (bif bif t61 then !x7 else false then (i894 : Int) != 0 else false) = false ∧ true = true ∧ true = true ∧ K false m1397))) (
 (bcase (bif bif t61 then !x7 else false then (i894 : Int) != 0 else false) (
 CallsA Try.prog w0 53 #[.slice A1390 n1391 c1392, undef] m1394 fun r1402 m1403 =>
 ∃ t1401 : Bool, r1402 = .bool t1401 ∧ true = true ∧ true = true ∧ K (bif bif bif t61 then !x7 else false then (i894 : Int) != 0 else false then t1401 else false) m1403) (
 (bif bif t61 then !x7 else false then (i894 : Int) != 0 else false) = false ∧ true = true ∧ true = true ∧ K false m1394))))) (
 (bcase (bif bif t61 then !x7 else false then (i894 : Int) != 0 else false) (
 CallsA Try.prog w0 25 #[undef] m896 fun r1405 m1406 =>
 ∃ i1404 : Int, r1405 = .int .i64 i1404 ∧ (bcase (bif bif t61 then !x7 else false then (i894 : Int) != 0 else false) (
 CallsA Try.prog w0 53 #[undef, .int .i64 i1404] m1406 fun r1408 m1409 =>
 ∃ t1407 : Bool, r1408 = .bool t1407 ∧ true = true ∧ true = true ∧ K (bif bif bif t61 then !x7 else false then (i894 : Int) != 0 else false then t1407 else false) m1409) (
 (bif bif t61 then !x7 else false then (i894 : Int) != 0 else false) = false ∧ true = true ∧ true = true ∧ K false m1406))) (
 (bcase (bif bif t61 then !x7 else false then (i894 : Int) != 0 else false) (
 CallsA Try.prog w0 53 #[undef, undef] m896 fun r1411 m1412 =>
 ∃ t1410 : Bool, r1411 = .bool t1410 ∧ true = true ∧ true = true ∧ K (bif bif bif t61 then !x7 else false then (i894 : Int) != 0 else false then t1410 else false) m1412) (
 (bif bif t61 then !x7 else false then (i894 : Int) != 0 else false) = false ∧ true = true ∧ true = true ∧ K false m896)))))))))))))))))) (
 (bcase (bif bif t61 then !x7 else false then (i894 : Int) != 0 else false) (
 (bcase (bif bif t61 then !x7 else false then (i894 : Int) != 0 else false) (
 IntKind.i64 = IntKind.i64 ∧ (bcase (bif bif t61 then !x7 else false then (i894 : Int) != 0 else false) (
 False) (
 (bcase (bif bif t61 then !x7 else false then (i894 : Int) != 0 else false) (
 False) (
 ((bcase (bif bif t61 then !x7 else false then (i894 : Int) != 0 else false) (
 CallsA Try.prog w0 21 #[undef] m896 fun r1416 m1417 =>
 ∃ (A1413 : Option Addr) (n1414 c1415 : Nat), r1416 = .slice A1413 n1414 c1415 ∧ (bcase (bif bif t61 then !x7 else false then (i894 : Int) != 0 else false) (
 ∃ i1418 : Int, m1417.cell ⟨x5, 0, none⟩ = some (.int .i64 i1418) ∧ ∃ i1419 : Int, m1417.cell ⟨x5, 1, none⟩ = some (.int .i64 i1419) ∧ ∃ i1420 : Int, m1417.cell ⟨x5, 2, none⟩ = some (.int .i64 i1420) ∧ ∃ i1421 : Int, m1417.cell ⟨x5, 3, none⟩ = some (.int .i64 i1421) ∧ ∃ i1422 : Int, m1417.cell ⟨x5, 4, none⟩ = some (.int .i64 i1422) ∧ 
 (bcase (bif bif t61 then !x7 else false then (i894 : Int) != 0 else false) (
 CallsA Try.prog w0 25 #[.agg #[.int .i64 i1418, .int .i64 i1419, .int .i64 i1420, .int .i64 i1421, .int .i64 i1422]] m1417 fun r1424 m1425 =>
 ∃ i1423 : Int, r1424 = .int .i64 i1423 ∧ (bcase (bif bif t61 then !x7 else false then (i894 : Int) != 0 else false) (
 CallsA Try.prog w0 53 #[.slice A1413 n1414 c1415, .int .i64 i1423] m1425 fun r1427 m1428 =>
 ∃ t1426 : Bool, r1427 = .bool t1426 ∧ true = true ∧ true = true ∧ K (bif bif bif t61 then !x7 else false then (i894 : Int) != 0 else false then t1426 else false) m1428) (
 (bif bif t61 then !x7 else false then (i894 : Int) != 0 else false) = false ∧ true = true ∧ true = true ∧ K false m1425))) (
 (bcase (bif bif t61 then !x7 else false then (i894 : Int) != 0 else false) (
 CallsA Try.prog w0 53 #[.slice A1413 n1414 c1415, undef] m1417 fun r1430 m1431 =>
 ∃ t1429 : Bool, r1430 = .bool t1429 ∧ true = true ∧ true = true ∧ K (bif bif bif t61 then !x7 else false then (i894 : Int) != 0 else false then t1429 else false) m1431) (
 (bif bif t61 then !x7 else false then (i894 : Int) != 0 else false) = false ∧ true = true ∧ true = true ∧ K false m1417))))) (
 (bcase (bif bif t61 then !x7 else false then (i894 : Int) != 0 else false) (
 CallsA Try.prog w0 25 #[undef] m1417 fun r1433 m1434 =>
 ∃ i1432 : Int, r1433 = .int .i64 i1432 ∧ (bcase (bif bif t61 then !x7 else false then (i894 : Int) != 0 else false) (
 CallsA Try.prog w0 53 #[.slice A1413 n1414 c1415, .int .i64 i1432] m1434 fun r1436 m1437 =>
 ∃ t1435 : Bool, r1436 = .bool t1435 ∧ true = true ∧ true = true ∧ K (bif bif bif t61 then !x7 else false then (i894 : Int) != 0 else false then t1435 else false) m1437) (
 (bif bif t61 then !x7 else false then (i894 : Int) != 0 else false) = false ∧ true = true ∧ true = true ∧ K false m1434))) (
 (bcase (bif bif t61 then !x7 else false then (i894 : Int) != 0 else false) (
 CallsA Try.prog w0 53 #[.slice A1413 n1414 c1415, undef] m1417 fun r1439 m1440 =>
 ∃ t1438 : Bool, r1439 = .bool t1438 ∧ true = true ∧ true = true ∧ K (bif bif bif t61 then !x7 else false then (i894 : Int) != 0 else false then t1438 else false) m1440) (
 (bif bif t61 then !x7 else false then (i894 : Int) != 0 else false) = false ∧ true = true ∧ true = true ∧ K false m1417))))))) (
 (bcase (bif bif t61 then !x7 else false then (i894 : Int) != 0 else false) (
 ∃ i1441 : Int, m896.cell ⟨x5, 0, none⟩ = some (.int .i64 i1441) ∧ ∃ i1442 : Int, m896.cell ⟨x5, 1, none⟩ = some (.int .i64 i1442) ∧ ∃ i1443 : Int, m896.cell ⟨x5, 2, none⟩ = some (.int .i64 i1443) ∧ ∃ i1444 : Int, m896.cell ⟨x5, 3, none⟩ = some (.int .i64 i1444) ∧ ∃ i1445 : Int, m896.cell ⟨x5, 4, none⟩ = some (.int .i64 i1445) ∧ 
 (bcase (bif bif t61 then !x7 else false then (i894 : Int) != 0 else false) (
 CallsA Try.prog w0 25 #[.agg #[.int .i64 i1441, .int .i64 i1442, .int .i64 i1443, .int .i64 i1444, .int .i64 i1445]] m896 fun r1447 m1448 =>
 ∃ i1446 : Int, r1447 = .int .i64 i1446 ∧ (bcase (bif bif t61 then !x7 else false then (i894 : Int) != 0 else false) (
 CallsA Try.prog w0 53 #[undef, .int .i64 i1446] m1448 fun r1450 m1451 =>
 ∃ t1449 : Bool, r1450 = .bool t1449 ∧ true = true ∧ true = true ∧ K (bif bif bif t61 then !x7 else false then (i894 : Int) != 0 else false then t1449 else false) m1451) (
 (bif bif t61 then !x7 else false then (i894 : Int) != 0 else false) = false ∧ true = true ∧ true = true ∧ K false m1448))) (
 (bcase (bif bif t61 then !x7 else false then (i894 : Int) != 0 else false) (
 CallsA Try.prog w0 53 #[undef, undef] m896 fun r1453 m1454 =>
 ∃ t1452 : Bool, r1453 = .bool t1452 ∧ true = true ∧ true = true ∧ K (bif bif bif t61 then !x7 else false then (i894 : Int) != 0 else false then t1452 else false) m1454) (
 (bif bif t61 then !x7 else false then (i894 : Int) != 0 else false) = false ∧ true = true ∧ true = true ∧ K false m896))))) (
 (bcase (bif bif t61 then !x7 else false then (i894 : Int) != 0 else false) (
 CallsA Try.prog w0 25 #[undef] m896 fun r1456 m1457 =>
 ∃ i1455 : Int, r1456 = .int .i64 i1455 ∧ (bcase (bif bif t61 then !x7 else false then (i894 : Int) != 0 else false) (
 CallsA Try.prog w0 53 #[undef, .int .i64 i1455] m1457 fun r1459 m1460 =>
 ∃ t1458 : Bool, r1459 = .bool t1458 ∧ true = true ∧ true = true ∧ K (bif bif bif t61 then !x7 else false then (i894 : Int) != 0 else false then t1458 else false) m1460) (
 (bif bif t61 then !x7 else false then (i894 : Int) != 0 else false) = false ∧ true = true ∧ true = true ∧ K false m1457))) (
 (bcase (bif bif t61 then !x7 else false then (i894 : Int) != 0 else false) (
 CallsA Try.prog w0 53 #[undef, undef] m896 fun r1462 m1463 =>
 ∃ t1461 : Bool, r1462 = .bool t1461 ∧ true = true ∧ true = true ∧ K (bif bif bif t61 then !x7 else false then (i894 : Int) != 0 else false then t1461 else false) m1463) (
 (bif bif t61 then !x7 else false then (i894 : Int) != 0 else false) = false ∧ true = true ∧ true = true ∧ K false m896))))))))) ∧
 ((bcase (bif bif t61 then !x7 else false then (i894 : Int) != 0 else false) (
 ∃ i1464 : Int, m896.cell ⟨x5, 0, none⟩ = some (.int .i64 i1464) ∧ ∃ i1465 : Int, m896.cell ⟨x5, 1, none⟩ = some (.int .i64 i1465) ∧ ∃ i1466 : Int, m896.cell ⟨x5, 2, none⟩ = some (.int .i64 i1466) ∧ ∃ i1467 : Int, m896.cell ⟨x5, 3, none⟩ = some (.int .i64 i1467) ∧ ∃ i1468 : Int, m896.cell ⟨x5, 4, none⟩ = some (.int .i64 i1468) ∧ 
 (bcase (bif bif t61 then !x7 else false then (i894 : Int) != 0 else false) (
 CallsA Try.prog w0 21 #[undef] m896 fun r1472 m1473 =>
 ∃ (A1469 : Option Addr) (n1470 c1471 : Nat), r1472 = .slice A1469 n1470 c1471 ∧ (bcase (bif bif t61 then !x7 else false then (i894 : Int) != 0 else false) (
 CallsA Try.prog w0 25 #[.agg #[.int .i64 i1464, .int .i64 i1465, .int .i64 i1466, .int .i64 i1467, .int .i64 i1468]] m1473 fun r1475 m1476 =>
 ∃ i1474 : Int, r1475 = .int .i64 i1474 ∧ (bcase (bif bif t61 then !x7 else false then (i894 : Int) != 0 else false) (
 CallsA Try.prog w0 53 #[.slice A1469 n1470 c1471, .int .i64 i1474] m1476 fun r1478 m1479 =>
 ∃ t1477 : Bool, r1478 = .bool t1477 ∧ true = true ∧ true = true ∧ K (bif bif bif t61 then !x7 else false then (i894 : Int) != 0 else false then t1477 else false) m1479) (
 (bif bif t61 then !x7 else false then (i894 : Int) != 0 else false) = false ∧ true = true ∧ true = true ∧ K false m1476))) (
 (bcase (bif bif t61 then !x7 else false then (i894 : Int) != 0 else false) (
 CallsA Try.prog w0 53 #[.slice A1469 n1470 c1471, undef] m1473 fun r1481 m1482 =>
 ∃ t1480 : Bool, r1481 = .bool t1480 ∧ true = true ∧ true = true ∧ K (bif bif bif t61 then !x7 else false then (i894 : Int) != 0 else false then t1480 else false) m1482) (
 (bif bif t61 then !x7 else false then (i894 : Int) != 0 else false) = false ∧ true = true ∧ true = true ∧ K false m1473))))) (
 (bcase (bif bif t61 then !x7 else false then (i894 : Int) != 0 else false) (
 CallsA Try.prog w0 25 #[.agg #[.int .i64 i1464, .int .i64 i1465, .int .i64 i1466, .int .i64 i1467, .int .i64 i1468]] m896 fun r1484 m1485 =>
 ∃ i1483 : Int, r1484 = .int .i64 i1483 ∧ (bcase (bif bif t61 then !x7 else false then (i894 : Int) != 0 else false) (
 CallsA Try.prog w0 53 #[undef, .int .i64 i1483] m1485 fun r1487 m1488 =>
 ∃ t1486 : Bool, r1487 = .bool t1486 ∧ true = true ∧ true = true ∧ K (bif bif bif t61 then !x7 else false then (i894 : Int) != 0 else false then t1486 else false) m1488) (
 (bif bif t61 then !x7 else false then (i894 : Int) != 0 else false) = false ∧ true = true ∧ true = true ∧ K false m1485))) (
 (bcase (bif bif t61 then !x7 else false then (i894 : Int) != 0 else false) (
 CallsA Try.prog w0 53 #[undef, undef] m896 fun r1490 m1491 =>
 ∃ t1489 : Bool, r1490 = .bool t1489 ∧ true = true ∧ true = true ∧ K (bif bif bif t61 then !x7 else false then (i894 : Int) != 0 else false then t1489 else false) m1491) (
 (bif bif t61 then !x7 else false then (i894 : Int) != 0 else false) = false ∧ true = true ∧ true = true ∧ K false m896))))))) (
 (bcase (bif bif t61 then !x7 else false then (i894 : Int) != 0 else false) (
 CallsA Try.prog w0 21 #[undef] m896 fun r1495 m1496 =>
 ∃ (A1492 : Option Addr) (n1493 c1494 : Nat), r1495 = .slice A1492 n1493 c1494 ∧ (bcase (bif bif t61 then !x7 else false then (i894 : Int) != 0 else false) (
 CallsA Try.prog w0 25 #[undef] m1496 fun r1498 m1499 =>
 ∃ i1497 : Int, r1498 = .int .i64 i1497 ∧ (bcase (bif bif t61 then !x7 else false then (i894 : Int) != 0 else false) (
 CallsA Try.prog w0 53 #[.slice A1492 n1493 c1494, .int .i64 i1497] m1499 fun r1501 m1502 =>
 ∃ t1500 : Bool, r1501 = .bool t1500 ∧ true = true ∧ true = true ∧ K (bif bif bif t61 then !x7 else false then (i894 : Int) != 0 else false then t1500 else false) m1502) (
 (bif bif t61 then !x7 else false then (i894 : Int) != 0 else false) = false ∧ true = true ∧ true = true ∧ K false m1499))) (
 (bcase (bif bif t61 then !x7 else false then (i894 : Int) != 0 else false) (
 CallsA Try.prog w0 53 #[.slice A1492 n1493 c1494, undef] m1496 fun r1504 m1505 =>
 ∃ t1503 : Bool, r1504 = .bool t1503 ∧ true = true ∧ true = true ∧ K (bif bif bif t61 then !x7 else false then (i894 : Int) != 0 else false then t1503 else false) m1505) (
 (bif bif t61 then !x7 else false then (i894 : Int) != 0 else false) = false ∧ true = true ∧ true = true ∧ K false m1496))))) (
 (bcase (bif bif t61 then !x7 else false then (i894 : Int) != 0 else false) (
 CallsA Try.prog w0 25 #[undef] m896 fun r1507 m1508 =>
 ∃ i1506 : Int, r1507 = .int .i64 i1506 ∧ (bcase (bif bif t61 then !x7 else false then (i894 : Int) != 0 else false) (
 CallsA Try.prog w0 53 #[undef, .int .i64 i1506] m1508 fun r1510 m1511 =>
 ∃ t1509 : Bool, r1510 = .bool t1509 ∧ true = true ∧ true = true ∧ K (bif bif bif t61 then !x7 else false then (i894 : Int) != 0 else false then t1509 else false) m1511) (
 (bif bif t61 then !x7 else false then (i894 : Int) != 0 else false) = false ∧ true = true ∧ true = true ∧ K false m1508))) (
 (bcase (bif bif t61 then !x7 else false then (i894 : Int) != 0 else false) (
 CallsA Try.prog w0 53 #[undef, undef] m896 fun r1513 m1514 =>
 ∃ t1512 : Bool, r1513 = .bool t1512 ∧ true = true ∧ true = true ∧ K (bif bif bif t61 then !x7 else false then (i894 : Int) != 0 else false then t1512 else false) m1514) (
 (bif bif t61 then !x7 else false then (i894 : Int) != 0 else false) = false ∧ true = true ∧ true = true ∧ K false m896)))))))))))))) (
 (bcase (bif bif t61 then !x7 else false then (i894 : Int) != 0 else false) (
 False) (
 (bcase (bif bif t61 then !x7 else false then (i894 : Int) != 0 else false) (
 False) (
 ((bcase (bif bif t61 then !x7 else false then (i894 : Int) != 0 else false) (
 CallsA Try.prog w0 21 #[undef] m896 fun r1518 m1519 =>
 ∃ (A1515 : Option Addr) (n1516 c1517 : Nat), r1518 = .slice A1515 n1516 c1517 ∧ (bcase (bif bif t61 then !x7 else false then (i894 : Int) != 0 else false) (
 ∃ i1520 : Int, m1519.cell ⟨x5, 0, none⟩ = some (.int .i64 i1520) ∧ ∃ i1521 : Int, m1519.cell ⟨x5, 1, none⟩ = some (.int .i64 i1521) ∧ ∃ i1522 : Int, m1519.cell ⟨x5, 2, none⟩ = some (.int .i64 i1522) ∧ ∃ i1523 : Int, m1519.cell ⟨x5, 3, none⟩ = some (.int .i64 i1523) ∧ ∃ i1524 : Int, m1519.cell ⟨x5, 4, none⟩ = some (.int .i64 i1524) ∧ 
 (bcase (bif bif t61 then !x7 else false then (i894 : Int) != 0 else false) (
 CallsA Try.prog w0 25 #[.agg #[.int .i64 i1520, .int .i64 i1521, .int .i64 i1522, .int .i64 i1523, .int .i64 i1524]] m1519 fun r1526 m1527 =>
 ∃ i1525 : Int, r1526 = .int .i64 i1525 ∧ (bcase (bif bif t61 then !x7 else false then (i894 : Int) != 0 else false) (
 CallsA Try.prog w0 53 #[.slice A1515 n1516 c1517, .int .i64 i1525] m1527 fun r1529 m1530 =>
 ∃ t1528 : Bool, r1529 = .bool t1528 ∧ true = true ∧ true = true ∧ K (bif bif bif t61 then !x7 else false then (i894 : Int) != 0 else false then t1528 else false) m1530) (
 (bif bif t61 then !x7 else false then (i894 : Int) != 0 else false) = false ∧ true = true ∧ true = true ∧ K false m1527))) (
 (bcase (bif bif t61 then !x7 else false then (i894 : Int) != 0 else false) (
 CallsA Try.prog w0 53 #[.slice A1515 n1516 c1517, undef] m1519 fun r1532 m1533 =>
 ∃ t1531 : Bool, r1532 = .bool t1531 ∧ true = true ∧ true = true ∧ K (bif bif bif t61 then !x7 else false then (i894 : Int) != 0 else false then t1531 else false) m1533) (
 (bif bif t61 then !x7 else false then (i894 : Int) != 0 else false) = false ∧ true = true ∧ true = true ∧ K false m1519))))) (
 (bcase (bif bif t61 then !x7 else false then (i894 : Int) != 0 else false) (
 CallsA Try.prog w0 25 #[undef] m1519 fun r1535 m1536 =>
 ∃ i1534 : Int, r1535 = .int .i64 i1534 ∧ (bcase (bif bif t61 then !x7 else false then (i894 : Int) != 0 else false) (
 CallsA Try.prog w0 53 #[.slice A1515 n1516 c1517, .int .i64 i1534] m1536 fun r1538 m1539 =>
 ∃ t1537 : Bool, r1538 = .bool t1537 ∧ true = true ∧ true = true ∧ K (bif bif bif t61 then !x7 else false then (i894 : Int) != 0 else false then t1537 else false) m1539) (
 (bif bif t61 then !x7 else false then (i894 : Int) != 0 else false) = false ∧ true = true ∧ true = true ∧ K false m1536))) (
 (bcase (bif bif t61 then !x7 else false then (i894 : Int) != 0 else false) (
 CallsA Try.prog w0 53 #[.slice A1515 n1516 c1517, undef] m1519 fun r1541 m1542 =>
 ∃ t1540 : Bool, r1541 = .bool t1540 ∧ true = true ∧ true = true ∧ K (bif bif bif t61 then !x7 else false then (i894 : Int) != 0 else false then t1540 else false) m1542) (
 (bif bif t61 then !x7 else false then (i894 : Int) != 0 else false) = false ∧ true = true ∧ true = true ∧ K false m1519))))))) (
 (bcase (bif bif t61 then !x7 else false then (i894 : Int) != 0 else false) (
 ∃ i1543 : Int, m896.cell ⟨x5, 0, none⟩ = some (.int .i64 i1543) ∧ ∃ i1544 : Int, m896.cell ⟨x5, 1, none⟩ = some (.int .i64 i1544) ∧ ∃ i1545 : Int, m896.cell ⟨x5, 2, none⟩ = some (.int .i64 i1545) ∧ ∃ i1546 : Int, m896.cell ⟨x5, 3, none⟩ = some (.int .i64 i1546) ∧ ∃ i1547 : Int, m896.cell ⟨x5, 4, none⟩ = some (.int .i64 i1547) ∧ 
 (bcase (bif bif t61 then !x7 else false then (i894 : Int) != 0 else false) (
 CallsA Try.prog w0 25 #[.agg #[.int .i64 i1543, .int .i64 i1544, .int .i64 i1545, .int .i64 i1546, .int .i64 i1547]] m896 fun r1549 m1550 =>
 ∃ i1548 : Int, r1549 = .int .i64 i1548 ∧ (bcase (bif bif t61 then !x7 else false then (i894 : Int) != 0 else false) (
 CallsA Try.prog w0 53 #[undef, .int .i64 i1548] m1550 fun r1552 m1553 =>
 ∃ t1551 : Bool, r1552 = .bool t1551 ∧ true = true ∧ true = true ∧ K (bif bif bif t61 then !x7 else false then (i894 : Int) != 0 else false then t1551 else false) m1553) (
 (bif bif t61 then !x7 else false then (i894 : Int) != 0 else false) = false ∧ true = true ∧ true = true ∧ K false m1550))) (
 (bcase (bif bif t61 then !x7 else false then (i894 : Int) != 0 else false) (
 CallsA Try.prog w0 53 #[undef, undef] m896 fun r1555 m1556 =>
 ∃ t1554 : Bool, r1555 = .bool t1554 ∧ true = true ∧ true = true ∧ K (bif bif bif t61 then !x7 else false then (i894 : Int) != 0 else false then t1554 else false) m1556) (
 (bif bif t61 then !x7 else false then (i894 : Int) != 0 else false) = false ∧ true = true ∧ true = true ∧ K false m896))))) (
 (bcase (bif bif t61 then !x7 else false then (i894 : Int) != 0 else false) (
 CallsA Try.prog w0 25 #[undef] m896 fun r1558 m1559 =>
 ∃ i1557 : Int, r1558 = .int .i64 i1557 ∧ (bcase (bif bif t61 then !x7 else false then (i894 : Int) != 0 else false) (
 CallsA Try.prog w0 53 #[undef, .int .i64 i1557] m1559 fun r1561 m1562 =>
 ∃ t1560 : Bool, r1561 = .bool t1560 ∧ true = true ∧ true = true ∧ K (bif bif bif t61 then !x7 else false then (i894 : Int) != 0 else false then t1560 else false) m1562) (
 (bif bif t61 then !x7 else false then (i894 : Int) != 0 else false) = false ∧ true = true ∧ true = true ∧ K false m1559))) (
 (bcase (bif bif t61 then !x7 else false then (i894 : Int) != 0 else false) (
 CallsA Try.prog w0 53 #[undef, undef] m896 fun r1564 m1565 =>
 ∃ t1563 : Bool, r1564 = .bool t1563 ∧ true = true ∧ true = true ∧ K (bif bif bif t61 then !x7 else false then (i894 : Int) != 0 else false then t1563 else false) m1565) (
 (bif bif t61 then !x7 else false then (i894 : Int) != 0 else false) = false ∧ true = true ∧ true = true ∧ K false m896))))))))) ∧
 ((bcase (bif bif t61 then !x7 else false then (i894 : Int) != 0 else false) (
 ∃ i1566 : Int, m896.cell ⟨x5, 0, none⟩ = some (.int .i64 i1566) ∧ ∃ i1567 : Int, m896.cell ⟨x5, 1, none⟩ = some (.int .i64 i1567) ∧ ∃ i1568 : Int, m896.cell ⟨x5, 2, none⟩ = some (.int .i64 i1568) ∧ ∃ i1569 : Int, m896.cell ⟨x5, 3, none⟩ = some (.int .i64 i1569) ∧ ∃ i1570 : Int, m896.cell ⟨x5, 4, none⟩ = some (.int .i64 i1570) ∧ 
 (bcase (bif bif t61 then !x7 else false then (i894 : Int) != 0 else false) (
 CallsA Try.prog w0 21 #[undef] m896 fun r1574 m1575 =>
 ∃ (A1571 : Option Addr) (n1572 c1573 : Nat), r1574 = .slice A1571 n1572 c1573 ∧ (bcase (bif bif t61 then !x7 else false then (i894 : Int) != 0 else false) (
 CallsA Try.prog w0 25 #[.agg #[.int .i64 i1566, .int .i64 i1567, .int .i64 i1568, .int .i64 i1569, .int .i64 i1570]] m1575 fun r1577 m1578 =>
 ∃ i1576 : Int, r1577 = .int .i64 i1576 ∧ (bcase (bif bif t61 then !x7 else false then (i894 : Int) != 0 else false) (
 CallsA Try.prog w0 53 #[.slice A1571 n1572 c1573, .int .i64 i1576] m1578 fun r1580 m1581 =>
 ∃ t1579 : Bool, r1580 = .bool t1579 ∧ true = true ∧ true = true ∧ K (bif bif bif t61 then !x7 else false then (i894 : Int) != 0 else false then t1579 else false) m1581) (
 (bif bif t61 then !x7 else false then (i894 : Int) != 0 else false) = false ∧ true = true ∧ true = true ∧ K false m1578))) (
 (bcase (bif bif t61 then !x7 else false then (i894 : Int) != 0 else false) (
 CallsA Try.prog w0 53 #[.slice A1571 n1572 c1573, undef] m1575 fun r1583 m1584 =>
 ∃ t1582 : Bool, r1583 = .bool t1582 ∧ true = true ∧ true = true ∧ K (bif bif bif t61 then !x7 else false then (i894 : Int) != 0 else false then t1582 else false) m1584) (
 (bif bif t61 then !x7 else false then (i894 : Int) != 0 else false) = false ∧ true = true ∧ true = true ∧ K false m1575))))) (
 (bcase (bif bif t61 then !x7 else false then (i894 : Int) != 0 else false) (
 CallsA Try.prog w0 25 #[.agg #[.int .i64 i1566, .int .i64 i1567, .int .i64 i1568, .int .i64 i1569, .int .i64 i1570]] m896 fun r1586 m1587 =>
 ∃ i1585 : Int, r1586 = .int .i64 i1585 ∧ (bcase (bif bif t61 then !x7 else false then (i894 : Int) != 0 else false) (
 CallsA Try.prog w0 53 #[undef, .int .i64 i1585] m1587 fun r1589 m1590 =>
 ∃ t1588 : Bool, r1589 = .bool t1588 ∧ true = true ∧ true = true ∧ K (bif bif bif t61 then !x7 else false then (i894 : Int) != 0 else false then t1588 else false) m1590) (
 (bif bif t61 then !x7 else false then (i894 : Int) != 0 else false) = false ∧ true = true ∧ true = true ∧ K false m1587))) (
 (bcase (bif bif t61 then !x7 else false then (i894 : Int) != 0 else false) (
 CallsA Try.prog w0 53 #[undef, undef] m896 fun r1592 m1593 =>
 ∃ t1591 : Bool, r1592 = .bool t1591 ∧ true = true ∧ true = true ∧ K (bif bif bif t61 then !x7 else false then (i894 : Int) != 0 else false then t1591 else false) m1593) (
 (bif bif t61 then !x7 else false then (i894 : Int) != 0 else false) = false ∧ true = true ∧ true = true ∧ K false m896))))))) (
 (bcase (bif bif t61 then !x7 else false then (i894 : Int) != 0 else false) (
 CallsA Try.prog w0 21 #[undef] m896 fun r1597 m1598 =>
 ∃ (A1594 : Option Addr) (n1595 c1596 : Nat), r1597 = .slice A1594 n1595 c1596 ∧ (bcase (bif bif t61 then !x7 else false then (i894 : Int) != 0 else false) (
 CallsA Try.prog w0 25 #[undef] m1598 fun r1600 m1601 =>
 ∃ i1599 : Int, r1600 = .int .i64 i1599 ∧ (bcase (bif bif t61 then !x7 else false then (i894 : Int) != 0 else false) (
 CallsA Try.prog w0 53 #[.slice A1594 n1595 c1596, .int .i64 i1599] m1601 fun r1603 m1604 =>
 ∃ t1602 : Bool, r1603 = .bool t1602 ∧ true = true ∧ true = true ∧ K (bif bif bif t61 then !x7 else false then (i894 : Int) != 0 else false then t1602 else false) m1604) (
 (bif bif t61 then !x7 else false then (i894 : Int) != 0 else false) = false ∧ true = true ∧ true = true ∧ K false m1601))) (
 (bcase (bif bif t61 then !x7 else false then (i894 : Int) != 0 else false) (
 CallsA Try.prog w0 53 #[.slice A1594 n1595 c1596, undef] m1598 fun r1606 m1607 =>
 ∃ t1605 : Bool, r1606 = .bool t1605 ∧ true = true ∧ true = true ∧ K (bif bif bif t61 then !x7 else false then (i894 : Int) != 0 else false then t1605 else false) m1607) (
 (bif bif t61 then !x7 else false then (i894 : Int) != 0 else false) = false ∧ true = true ∧ true = true ∧ K false m1598))))) (
 (bcase (bif bif t61 then !x7 else false then (i894 : Int) != 0 else false) (
 CallsA Try.prog w0 25 #[undef] m896 fun r1609 m1610 =>
 ∃ i1608 : Int, r1609 = .int .i64 i1608 ∧ (bcase (bif bif t61 then !x7 else false then (i894 : Int) != 0 else false) (
 CallsA Try.prog w0 53 #[undef, .int .i64 i1608] m1610 fun r1612 m1613 =>
 ∃ t1611 : Bool, r1612 = .bool t1611 ∧ true = true ∧ true = true ∧ K (bif bif bif t61 then !x7 else false then (i894 : Int) != 0 else false then t1611 else false) m1613) (
 (bif bif t61 then !x7 else false then (i894 : Int) != 0 else false) = false ∧ true = true ∧ true = true ∧ K false m1610))) (
 (bcase (bif bif t61 then !x7 else false then (i894 : Int) != 0 else false) (
 CallsA Try.prog w0 53 #[undef, undef] m896 fun r1615 m1616 =>
 ∃ t1614 : Bool, r1615 = .bool t1614 ∧ true = true ∧ true = true ∧ K (bif bif bif t61 then !x7 else false then (i894 : Int) != 0 else false then t1614 else false) m1616) (
 (bif bif t61 then !x7 else false then (i894 : Int) != 0 else false) = false ∧ true = true ∧ true = true ∧ K false m896)))))))))))))))) (
 (bcase (bif bif t61 then !x7 else false then (i894 : Int) != 0 else false) (
 False) (
 (bcase (bif bif t61 then !x7 else false then (i894 : Int) != 0 else false) (
 False) (
 (bcase (bif bif t61 then !x7 else false then (i894 : Int) != 0 else false) (
 False) (
 ((bcase (bif bif t61 then !x7 else false then (i894 : Int) != 0 else false) (
 CallsA Try.prog w0 21 #[undef] m896 fun r1620 m1621 =>
 ∃ (A1617 : Option Addr) (n1618 c1619 : Nat), r1620 = .slice A1617 n1618 c1619 ∧ (bcase (bif bif t61 then !x7 else false then (i894 : Int) != 0 else false) (
 ∃ i1622 : Int, m1621.cell ⟨x5, 0, none⟩ = some (.int .i64 i1622) ∧ ∃ i1623 : Int, m1621.cell ⟨x5, 1, none⟩ = some (.int .i64 i1623) ∧ ∃ i1624 : Int, m1621.cell ⟨x5, 2, none⟩ = some (.int .i64 i1624) ∧ ∃ i1625 : Int, m1621.cell ⟨x5, 3, none⟩ = some (.int .i64 i1625) ∧ ∃ i1626 : Int, m1621.cell ⟨x5, 4, none⟩ = some (.int .i64 i1626) ∧ 
 (bcase (bif bif t61 then !x7 else false then (i894 : Int) != 0 else false) (
 CallsA Try.prog w0 25 #[.agg #[.int .i64 i1622, .int .i64 i1623, .int .i64 i1624, .int .i64 i1625, .int .i64 i1626]] m1621 fun r1628 m1629 =>
 ∃ i1627 : Int, r1628 = .int .i64 i1627 ∧ (bcase (bif bif t61 then !x7 else false then (i894 : Int) != 0 else false) (
 CallsA Try.prog w0 53 #[.slice A1617 n1618 c1619, .int .i64 i1627] m1629 fun r1631 m1632 =>
 ∃ t1630 : Bool, r1631 = .bool t1630 ∧ true = true ∧ true = true ∧ K (bif bif bif t61 then !x7 else false then (i894 : Int) != 0 else false then t1630 else false) m1632) (
 (bif bif t61 then !x7 else false then (i894 : Int) != 0 else false) = false ∧ true = true ∧ true = true ∧ K false m1629))) (
 (bcase (bif bif t61 then !x7 else false then (i894 : Int) != 0 else false) (
 CallsA Try.prog w0 53 #[.slice A1617 n1618 c1619, undef] m1621 fun r1634 m1635 =>
 ∃ t1633 : Bool, r1634 = .bool t1633 ∧ true = true ∧ true = true ∧ K (bif bif bif t61 then !x7 else false then (i894 : Int) != 0 else false then t1633 else false) m1635) (
 (bif bif t61 then !x7 else false then (i894 : Int) != 0 else false) = false ∧ true = true ∧ true = true ∧ K false m1621))))) (
 (bcase (bif bif t61 then !x7 else false then (i894 : Int) != 0 else false) (
 CallsA Try.prog w0 25 #[undef] m1621 fun r1637 m1638 =>
 ∃ i1636 : Int, r1637 = .int .i64 i1636 ∧ (bcase (bif bif t61 then !x7 else false then (i894 : Int) != 0 else false) (
 CallsA Try.prog w0 53 #[.slice A1617 n1618 c1619, .int .i64 i1636] m1638 fun r1640 m1641 =>
 ∃ t1639 : Bool, r1640 = .bool t1639 ∧ true = true ∧ true = true ∧ K (bif bif bif t61 then !x7 else false then (i894 : Int) != 0 else false then t1639 else false) m1641) (
 (bif bif t61 then !x7 else false then (i894 : Int) != 0 else false) = false ∧ true = true ∧ true = true ∧ K false m1638))) (
 (bcase (bif bif t61 then !x7 else false then (i894 : Int) != 0 else false) (
 CallsA Try.prog w0 53 #[.slice A1617 n1618 c1619, undef] m1621 fun r1643 m1644 =>
 ∃ t1642 : Bool, r1643 = .bool t1642 ∧ true = true ∧ true = true ∧ K (bif bif bif t61 then !x7 else false then (i894 : Int) != 0 else false then t1642 else false) m1644) (
 (bif bif t61 then !x7 else false then (i894 : Int) != 0 else false) = false ∧ true = true ∧ true = true ∧ K false m1621))))))) (
 (bcase (bif bif t61 then !x7 else false then (i894 : Int) != 0 else false) (
 ∃ i1645 : Int, m896.cell ⟨x5, 0, none⟩ = some (.int .i64 i1645) ∧ ∃ i1646 : Int, m896.cell ⟨x5, 1, none⟩ = some (.int .i64 i1646) ∧ ∃ i1647 : Int, m896.cell ⟨x5, 2, none⟩ = some (.int .i64 i1647) ∧ ∃ i1648 : Int, m896.cell ⟨x5, 3, none⟩ = some (.int .i64 i1648) ∧ ∃ i1649 : Int, m896.cell ⟨x5, 4, none⟩ = some (.int .i64 i1649) ∧ 
 (bcase (bif bif t61 then !x7 else false then (i894 : Int) != 0 else false) (
 CallsA Try.prog w0 25 #[.agg #[.int .i64 i1645, .int .i64 i1646, .int .i64 i1647, .int .i64 i1648, .int .i64 i1649]] m896 fun r1651 m1652 =>
 ∃ i1650 : Int, r1651 = .int .i64 i1650 ∧ (bcase (bif bif t61 then !x7 else false then (i894 : Int) != 0 else false) (
 CallsA Try.prog w0 53 #[undef, .int .i64 i1650] m1652 fun r1654 m1655 =>
 ∃ t1653 : Bool, r1654 = .bool t1653 ∧ true = true ∧ true = true ∧ K (bif bif bif t61 then !x7 else false then (i894 : Int) != 0 else false then t1653 else false) m1655) (
 (bif bif t61 then !x7 else false then (i894 : Int) != 0 else false) = false ∧ true = true ∧ true = true ∧ K false m1652))) (
 (bcase (bif bif t61 then !x7 else false then (i894 : Int) != 0 else false) (
 CallsA Try.prog w0 53 #[undef, undef] m896 fun r1657 m1658 =>
 ∃ t1656 : Bool, r1657 = .bool t1656 ∧ true = true ∧ true = true ∧ K (bif bif bif t61 then !x7 else false then (i894 : Int) != 0 else false then t1656 else false) m1658) (
 (bif bif t61 then !x7 else false then (i894 : Int) != 0 else false) = false ∧ true = true ∧ true = true ∧ K false m896))))) (
 (bcase (bif bif t61 then !x7 else false then (i894 : Int) != 0 else false) (
 CallsA Try.prog w0 25 #[undef] m896 fun r1660 m1661 =>
 ∃ i1659 : Int, r1660 = .int .i64 i1659 ∧ (bcase (bif bif t61 then !x7 else false then (i894 : Int) != 0 else false) (
 CallsA Try.prog w0 53 #[undef, .int .i64 i1659] m1661 fun r1663 m1664 =>
 ∃ t1662 : Bool, r1663 = .bool t1662 ∧ true = true ∧ true = true ∧ K (bif bif bif t61 then !x7 else false then (i894 : Int) != 0 else false then t1662 else false) m1664) (
 (bif bif t61 then !x7 else false then (i894 : Int) != 0 else false) = false ∧ true = true ∧ true = true ∧ K false m1661))) (
 (bcase (bif bif t61 then !x7 else false then (i894 : Int) != 0 else false) (
 CallsA Try.prog w0 53 #[undef, undef] m896 fun r1666 m1667 =>
 ∃ t1665 : Bool, r1666 = .bool t1665 ∧ true = true ∧ true = true ∧ K (bif bif bif t61 then !x7 else false then (i894 : Int) != 0 else false then t1665 else false) m1667) (
 (bif bif t61 then !x7 else false then (i894 : Int) != 0 else false) = false ∧ true = true ∧ true = true ∧ K false m896))))))))) ∧
 ((bcase (bif bif t61 then !x7 else false then (i894 : Int) != 0 else false) (
 ∃ i1668 : Int, m896.cell ⟨x5, 0, none⟩ = some (.int .i64 i1668) ∧ ∃ i1669 : Int, m896.cell ⟨x5, 1, none⟩ = some (.int .i64 i1669) ∧ ∃ i1670 : Int, m896.cell ⟨x5, 2, none⟩ = some (.int .i64 i1670) ∧ ∃ i1671 : Int, m896.cell ⟨x5, 3, none⟩ = some (.int .i64 i1671) ∧ ∃ i1672 : Int, m896.cell ⟨x5, 4, none⟩ = some (.int .i64 i1672) ∧ 
 (bcase (bif bif t61 then !x7 else false then (i894 : Int) != 0 else false) (
 CallsA Try.prog w0 21 #[undef] m896 fun r1676 m1677 =>
 ∃ (A1673 : Option Addr) (n1674 c1675 : Nat), r1676 = .slice A1673 n1674 c1675 ∧ (bcase (bif bif t61 then !x7 else false then (i894 : Int) != 0 else false) (
 CallsA Try.prog w0 25 #[.agg #[.int .i64 i1668, .int .i64 i1669, .int .i64 i1670, .int .i64 i1671, .int .i64 i1672]] m1677 fun r1679 m1680 =>
 ∃ i1678 : Int, r1679 = .int .i64 i1678 ∧ (bcase (bif bif t61 then !x7 else false then (i894 : Int) != 0 else false) (
 CallsA Try.prog w0 53 #[.slice A1673 n1674 c1675, .int .i64 i1678] m1680 fun r1682 m1683 =>
 ∃ t1681 : Bool, r1682 = .bool t1681 ∧ true = true ∧ true = true ∧ K (bif bif bif t61 then !x7 else false then (i894 : Int) != 0 else false then t1681 else false) m1683) (
 (bif bif t61 then !x7 else false then (i894 : Int) != 0 else false) = false ∧ true = true ∧ true = true ∧ K false m1680))) (
 (bcase (bif bif t61 then !x7 else false then (i894 : Int) != 0 else false) (
 CallsA Try.prog w0 53 #[.slice A1673 n1674 c1675, undef] m1677 fun r1685 m1686 =>
 ∃ t1684 : Bool, r1685 = .bool t1684 ∧ true = true ∧ true = true ∧ K (bif bif bif t61 then !x7 else false then (i894 : Int) != 0 else false then t1684 else false) m1686) (
 (bif bif t61 then !x7 else false then (i894 : Int) != 0 else false) = false ∧ true = true ∧ true = true ∧ K false m1677))))) (
 (bcase (bif bif t61 then !x7 else false then (i894 : Int) != 0 else false) (
 CallsA Try.prog w0 25 #[.agg #[.int .i64 i1668, .int .i64 i1669, .int .i64 i1670, .int .i64 i1671, .int .i64 i1672]] m896 fun r1688 m1689 =>
 ∃ i1687 : Int, r1688 = .int .i64 i1687 ∧ (bcase (bif bif t61 then !x7 else false then (i894 : Int) != 0 else false) (
 CallsA Try.prog w0 53 #[undef, .int .i64 i1687] m1689 fun r1691 m1692 =>
 ∃ t1690 : Bool, r1691 = .bool t1690 ∧ true = true ∧ true = true ∧ K (bif bif bif t61 then !x7 else false then (i894 : Int) != 0 else false then t1690 else false) m1692) (
 (bif bif t61 then !x7 else false then (i894 : Int) != 0 else false) = false ∧ true = true ∧ true = true ∧ K false m1689))) (
 (bcase (bif bif t61 then !x7 else false then (i894 : Int) != 0 else false) (
 CallsA Try.prog w0 53 #[undef, undef] m896 fun r1694 m1695 =>
 ∃ t1693 : Bool, r1694 = .bool t1693 ∧ true = true ∧ true = true ∧ K (bif bif bif t61 then !x7 else false then (i894 : Int) != 0 else false then t1693 else false) m1695) (
 (bif bif t61 then !x7 else false then (i894 : Int) != 0 else false) = false ∧ true = true ∧ true = true ∧ K false m896))))))) (
 (bcase (bif bif t61 then !x7 else false then (i894 : Int) != 0 else false) (
 CallsA Try.prog w0 21 #[undef] m896 fun r1699 m1700 =>
 ∃ (A1696 : Option Addr) (n1697 c1698 : Nat), r1699 = .slice A1696 n1697 c1698 ∧ (bcase (bif bif t61 then !x7 else false then (i894 : Int) != 0 else false) (
 CallsA Try.prog w0 25 #[undef] m1700 fun r1702 m1703 =>
 ∃ i1701 : Int, r1702 = .int .i64 i1701 ∧ (bcase (bif bif t61 then !x7 else false then (i894 : Int) != 0 else false) (
 CallsA Try.prog w0 53 #[.slice A1696 n1697 c1698, .int .i64 i1701] m1703 fun r1705 m1706 =>
 ∃ t1704 : Bool, r1705 = .bool t1704 ∧ true = true ∧ true = true ∧ K (bif bif bif t61 then !x7 else false then (i894 : Int) != 0 else false then t1704 else false) m1706) (
 (bif bif t61 then !x7 else false then (i894 : Int) != 0 else false) = false ∧ true = true ∧ true = true ∧ K false m1703))) (
 (bcase (bif bif t61 then !x7 else false then (i894 : Int) != 0 else false) (
 CallsA Try.prog w0 53 #[.slice A1696 n1697 c1698, undef] m1700 fun r1708 m1709 =>
 ∃ t1707 : Bool, r1708 = .bool t1707 ∧ true = true ∧ true = true ∧ K (bif bif bif t61 then !x7 else false then (i894 : Int) != 0 else false then t1707 else false) m1709) (
 (bif bif t61 then !x7 else false then (i894 : Int) != 0 else false) = false ∧ true = true ∧ true = true ∧ K false m1700))))) (
 (bcase (bif bif t61 then !x7 else false then (i894 : Int) != 0 else false) (
 CallsA Try.prog w0 25 #[undef] m896 fun r1711 m1712 =>
 ∃ i1710 : Int, r1711 = .int .i64 i1710 ∧ (bcase (bif bif t61 then !x7 else false then (i894 : Int) != 0 else false) (
 CallsA Try.prog w0 53 #[undef, .int .i64 i1710] m1712 fun r1714 m1715 =>
 ∃ t1713 : Bool, r1714 = .bool t1713 ∧ true = true ∧ true = true ∧ K (bif bif bif t61 then !x7 else false then (i894 : Int) != 0 else false then t1713 else false) m1715) (
 (bif bif t61 then !x7 else false then (i894 : Int) != 0 else false) = false ∧ true = true ∧ true = true ∧ K false m1712))) (
 (bcase (bif bif t61 then !x7 else false then (i894 : Int) != 0 else false) (
 CallsA Try.prog w0 53 #[undef, undef] m896 fun r1717 m1718 =>
 ∃ t1716 : Bool, r1717 = .bool t1716 ∧ true = true ∧ true = true ∧ K (bif bif bif t61 then !x7 else false then (i894 : Int) != 0 else false then t1716 else false) m1718) (
 (bif bif t61 then !x7 else false then (i894 : Int) != 0 else false) = false ∧ true = true ∧ true = true ∧ K false m896)))))))))))))))))))) (
 (bif t61 then !x7 else false) = false ∧ (false = false ∧ true = true ∧ true = true ∧ K false m896) ∧
 (false = false ∧ true = true ∧ true = true ∧ K false m896)))) (
 (bcase (bif t61 then !x7 else false) (
 False) (
 (bif t61 then !x7 else false) = false ∧ (false = false ∧ true = true ∧ true = true ∧ K false m63) ∧
 (false = false ∧ true = true ∧ true = true ∧ K false m63)))))))) (
 t61 = false ∧ false = false ∧ (false = false ∧ true = true ∧ true = true ∧ K false m63) ∧
 (false = false ∧ true = true ∧ true = true ∧ K false m63)))) (
 (bcase t61 (
 False) (
 t61 = false ∧ false = false ∧ (false = false ∧ true = true ∧ true = true ∧ K false m63) ∧
 (false = false ∧ true = true ∧ true = true ∧ K false m63))))))
 (h_k : ∀ (σ : Sg) (y59 : Bool) (m : AM), K y59 m → (
 (bcase y59 (
 RetP R (.int .i64 4) m) (
 RetP R (.int .i64 0) m)))) :
 vcS Try.prog w0 qs36 (sub c36 [1, 1, 1, 1, 1, 0, 0, 1, 1, 1, 1, 1, 1, 0]) σ m (thenS (fun σ m => vcS Try.prog w0 qs36 (sub c36 [1, 1, 1, 1, 1, 0, 0, 1, 1, 1, 1, 1, 1, 1]) σ m (blockS 0 (thenS (fun σ m => vcS Try.prog w0 qs36 (sub c36 [1, 1, 1, 1, 1, 1]) σ m (retQ Try.prog Try.f36 R)) (retQ Try.prog Try.f36 R)))) (blockS 0 (thenS (fun σ m => vcS Try.prog w0 qs36 (sub c36 [1, 1, 1, 1, 1, 1]) σ m (retQ Try.prog Try.f36 R)) (retQ Try.prog Try.f36 R)))) := by
  have es0 : (upd (upd (upd (upd σ 0 (.slice x0 x0n x0c)) 1 (.int .i64 x1)) 5 (.pointer (some ⟨x5, 0, none⟩))) 7 (.bool x7)) = σ := by rw [upd_id h0, upd_id h1, upd_id h5, upd_id h7]
  refine vcS_cut (Q0 := (fun σ m => okB (σ 59) = true ∧ K (vB (σ 59)) m)) (by kernel_rfl) (cast (congrArg (fun s => trC Try.prog w0 qs36 (sub c36 [1, 1, 1, 1, 1, 0, 0, 1, 1, 1, 1, 1, 1, 0]) s m (fun σ m => okB (σ 59) = true ∧ K (vB (σ 59)) m)) es0) (cast (by kernel_rfl) h_t)) ?_
  rintro σ m ⟨kk0, hK⟩
  have es : (upd σ 59 (.bool (vB (σ 59)))) = σ := by rw [upd_id (ok_bool kk0)]
  exact cast (congrArg (fun s => (thenS (fun σ m => vcS Try.prog w0 qs36 (sub c36 [1, 1, 1, 1, 1, 0, 0, 1, 1, 1, 1, 1, 1, 1]) σ m (blockS 0 (thenS (fun σ m => vcS Try.prog w0 qs36 (sub c36 [1, 1, 1, 1, 1, 1]) σ m (retQ Try.prog Try.f36 R)) (retQ Try.prog Try.f36 R)))) (blockS 0 (thenS (fun σ m => vcS Try.prog w0 qs36 (sub c36 [1, 1, 1, 1, 1, 1]) σ m (retQ Try.prog Try.f36 R)) (retQ Try.prog Try.f36 R)))) .normal s m) es) (cast (by kernel_rfl) (h_k σ (vB (σ 59)) m hK))

/-! 37 delayslot/hazard.First -/
def qs37 : Nat → List (Nat × Nat) := fun i => match i with | _ => []
noncomputable def c37 : Code := bodyOf Try.f37
theorem cf37 (w0 : World) (m : AM) (x0 : Option Addr) (x0n x0c : Nat) (R : Value → AM → Prop) (h :
 vcS Try.prog w0 qs37 (sub c37 [1, 0, 1, 0]) (upd (upd (upd (upd (upd (argS [.slice x0 x0n x0c]) 2 (.int .i64 0)) 3 (.int .i64 0)) 6 (.slice x0 x0n x0c)) 7 (.int .i64 ((x0n : Nat) : Int))) 8 (.int .i64 0)) m (blockS 0 (thenS (fun σ m => vcS Try.prog w0 qs37 (sub c37 [1, 1]) σ m (retQ Try.prog Try.f37 R)) (retQ Try.prog Try.f37 R)))) : CallsA Try.prog w0 37 #[.slice x0 x0n x0c] m R :=
  callsA_of (c := c37) (args := [.slice x0 x0n x0c]) (by kernel_rfl) Try.func37 (by kernel_rfl) qs37 (by kernel_rfl) (by kernel_rfl) (cast (by kernel_rfl) h)
def lq37_1010 (R : Value → AM → Prop) (x0 : Option Addr) (x0n x0c : Nat) (x7 : Int) (I0 : Nat → Int → AM → Prop) (E0_0 : AM → Prop) (n0 : Nat) : Exit → Sg → AM → Prop
  | .normal, σ, m => σ 0 = .slice x0 x0n x0c ∧ σ 7 = .int .i64 x7 ∧ okI .i64 (σ 8) = true ∧ ∃ n' : Nat, n' < n0 ∧ I0 n' (vI (σ 8)) m
  | .exit id, σ, m => if id = 0 then σ 0 = .slice x0 x0n x0c ∧ σ 7 = .int .i64 x7 ∧ E0_0  m else False
  | .ret, σ, m => retQ Try.prog Try.f37 R .ret σ m
  | _, _, _ => False
theorem vl37_1010 (w0 : World) (m : AM) (σ : Sg) (R : Value → AM → Prop)  (x0 : Option Addr) (x0n x0c : Nat) (x7 : Int) (x8 : Int) (I0 : Nat → Int → AM → Prop) (E0_0 : AM → Prop) (N : Nat) (h0 : σ 0 = .slice x0 x0n x0c) (h7 : σ 7 = .int .i64 x7) (h8 : σ 8 = .int .i64 x8)
 (h_0 : I0 N x8 m)
 (h_s : ∀ (n0 : Nat) (σ : Sg) (x8 : Int) (m : AM), I0 n0 x8 m → (
 IntKind.i64 = IntKind.i64 ∧ (bcase (decide ((x8 : Int) < x7)) (
 CallsA Try.prog w0 36 #[.slice x0 x0n x0c, .int .i64 x8] m fun r2 m3 =>
 ∃ i1 : Int, r2 = .int .i64 i1 ∧ IntKind.i64 = IntKind.i64 ∧ (bcase ((i1 : Int) != 0) (
 RetP R (.tuple #[.int .i64 x8, .int .i64 i1]) m3) (
 IntKind.i64 = IntKind.i64 ∧ (.slice x0 x0n x0c : Value) = .slice x0 x0n x0c ∧ (.int .i64 x7 : Value) = .int .i64 x7 ∧ true = true ∧ ∃ n' : Nat, n' < n0 ∧ I0 n' (IntKind.wrap .i64 (x8 + 1)) m3))) (
 (.slice x0 x0n x0c : Value) = .slice x0 x0n x0c ∧ (.int .i64 x7 : Value) = .int .i64 x7 ∧ E0_0  m))))
 (h_e0 : ∀ (σ : Sg)  (m : AM), E0_0  m → (
 RetP R (.tuple #[.int .i64 (-1), .int .i64 0]) m)) :
 vcS Try.prog w0 qs37 (sub c37 [1, 0, 1, 0]) σ m (blockS 0 (thenS (fun σ m => vcS Try.prog w0 qs37 (sub c37 [1, 1]) σ m (retQ Try.prog Try.f37 R)) (retQ Try.prog Try.f37 R))) := by
  rw [show sub c37 [1, 0, 1, 0] = .loop (sub c37 [1, 0, 1, 0, 0]) from by kernel_rfl]
  refine loopQ (fun n0 σ m => σ 0 = .slice x0 x0n x0c ∧ σ 7 = .int .i64 x7 ∧ okI .i64 (σ 8) = true ∧ I0 n0 (vI (σ 8)) m) N (fun n0 => (lq37_1010 R x0 x0n x0c x7 I0 E0_0 n0)) ⟨h0, h7, (by rw [h8]; rfl), (by rw [h8]; exact h_0)⟩ ?_ ?_ ?_
  · rintro n0 σ m ⟨kk0, kk1, kk2, n', hlt, hI⟩; exact ⟨n', hlt, kk0, kk1, kk2, hI⟩
  · intro n0 e σ m hne h
    cases e with
    | normal => exact absurd rfl hne
    | ret => exact h
    | exit id =>
      by_cases e0 : id = 0
      · subst e0
        obtain ⟨kk0, kk1, hE⟩ := h
        have es : (upd (upd σ 0 (.slice x0 x0n x0c)) 7 (.int .i64 x7)) = σ := by rw [upd_id kk0, upd_id kk1]
        exact cast (congrArg (fun s => (blockS 0 (thenS (fun σ m => vcS Try.prog w0 qs37 (sub c37 [1, 1]) σ m (retQ Try.prog Try.f37 R)) (retQ Try.prog Try.f37 R))) (.exit 0) s m) es) (cast (by kernel_rfl) (h_e0 σ  m hE))
      · replace h := (if_neg e0 : (if id = 0 then _ else _) = _).mp h
        exact False.elim h
    | _ => exact False.elim h
  · rintro n0 σ m ⟨kk0, kk1, kk2, hI⟩
    have es : (upd (upd (upd σ 0 (.slice x0 x0n x0c)) 7 (.int .i64 x7)) 8 (.int .i64 (vI (σ 8)))) = σ := by rw [upd_id kk0, upd_id kk1, upd_id (ok_int kk2)]
    exact cast (congrArg (fun s => vcS Try.prog w0 qs37 (sub c37 [1, 0, 1, 0, 0]) s m (lq37_1010 R x0 x0n x0c x7 I0 E0_0 n0)) es) (cast (by kernel_rfl) (h_s n0 σ (vI (σ 8)) m hI))

/-! 38 delayslot/hazard.Safe -/
def qs38 : Nat → List (Nat × Nat) := fun i => match i with | _ => []
noncomputable def c38 : Code := bodyOf Try.f38
theorem cf38 (w0 : World) (m : AM) (x0 : Option Addr) (x0n x0c : Nat) (R : Value → AM → Prop) (h :
 CallsA Try.prog w0 37 #[.slice x0 x0n x0c] m fun r3 m4 =>
 ∃ i1 : Int, ∃ i2 : Int, r3 = .tuple #[.int .i64 i1, .int .i64 i2] ∧ IntKind.i64 = IntKind.i64 ∧ RetP R (.bool ((i2 : Int) == 0)) m4) : CallsA Try.prog w0 38 #[.slice x0 x0n x0c] m R :=
  callsA_of (c := c38) (args := [.slice x0 x0n x0c]) (by kernel_rfl) Try.func38 (by kernel_rfl) qs38 (by kernel_rfl) (by kernel_rfl) (cast (by kernel_rfl) h)

/-! 35 delayslot/delayslotref12.At -/
def qs35 : Nat → List (Nat × Nat) := fun i => match i with | 12 => [(12, 2)] | _ => []
noncomputable def c35 : Code := bodyOf Try.f35
theorem cf35 (w0 : World) (m : AM) (x0 : Option Addr) (x0n x0c : Nat) (x1 : Int) (R : Value → AM → Prop) (h :
 ((0 : Int) ≤ x1 ∧ x1 < ((x0n : Nat) : Int)) ∧ nilO x0 fun a1 =>
 ∃ i2 : Int, m.cell (a1.add ((x1 : Int).toNat * 5)) = some (.int .i64 i2) ∧ ∃ i3 : Int, m.cell ((a1.add ((x1 : Int).toNat * 5)).add 1) = some (.int .i64 i3) ∧ ∃ i4 : Int, m.cell ((a1.add ((x1 : Int).toNat * 5)).add 2) = some (.int .i64 i4) ∧ ∃ i5 : Int, m.cell ((a1.add ((x1 : Int).toNat * 5)).add 3) = some (.int .i64 i5) ∧ ∃ i6 : Int, m.cell ((a1.add ((x1 : Int).toNat * 5)).add 4) = some (.int .i64 i6) ∧ 
 ∀ b7 : Nat, w0.heap.size ≤ b7 → m b7 = none → let m8 := AM.upd m b7 (.cells #[.int .i64 0, .int .i64 0, .int .i64 0, .int .i64 0, .int .i64 0] 23);
 StC w0.heap.size m8 ⟨b7, 0, none⟩ (.int .i64 i2) fun m9 =>
 StC w0.heap.size m9 ⟨b7, 1, none⟩ (.int .i64 i3) fun m10 =>
 StC w0.heap.size m10 ⟨b7, 2, none⟩ (.int .i64 i4) fun m11 =>
 StC w0.heap.size m11 ⟨b7, 3, none⟩ (.int .i64 i5) fun m12 =>
 StC w0.heap.size m12 ⟨b7, 4, none⟩ (.int .i64 i6) fun m13 =>
 ∃ i14 : Int, m13.cell ⟨b7, 0, none⟩ = some (.int .i64 i14) ∧ ∃ i15 : Int, m13.cell ⟨b7, 1, none⟩ = some (.int .i64 i15) ∧ ∃ i16 : Int, m13.cell ⟨b7, 2, none⟩ = some (.int .i64 i16) ∧ ∃ i17 : Int, m13.cell ⟨b7, 3, none⟩ = some (.int .i64 i17) ∧ ∃ i18 : Int, m13.cell ⟨b7, 4, none⟩ = some (.int .i64 i18) ∧ 
 CallsA Try.prog w0 33 #[.agg #[.int .i64 i14, .int .i64 i15, .int .i64 i16, .int .i64 i17, .int .i64 i18]] m13 fun r20 m21 =>
 ∃ t19 : Bool, r20 = .bool t19 ∧ (bcase (!t19) (
 RetP R (.int .i64 1) m21) (
 ∃ i22 : Int, m21.cell ⟨b7, 0, none⟩ = some (.int .i64 i22) ∧ ∃ i23 : Int, m21.cell ⟨b7, 1, none⟩ = some (.int .i64 i23) ∧ ∃ i24 : Int, m21.cell ⟨b7, 2, none⟩ = some (.int .i64 i24) ∧ ∃ i25 : Int, m21.cell ⟨b7, 3, none⟩ = some (.int .i64 i25) ∧ ∃ i26 : Int, m21.cell ⟨b7, 4, none⟩ = some (.int .i64 i26) ∧ 
 CallsA Try.prog w0 30 #[.agg #[.int .i64 i22, .int .i64 i23, .int .i64 i24, .int .i64 i25, .int .i64 i26]] m21 fun r28 m29 =>
 ∃ t27 : Bool, r28 = .bool t27 ∧ (bcase t27 (
 IntKind.i64 = IntKind.i64 ∧ IntKind.i64 = IntKind.i64 ∧ (bcase (((IntKind.wrap .i64 (x1 + 1)) : Int) == ((x0n : Nat) : Int)) (
 (((IntKind.wrap .i64 (x1 + 1)) : Int) == ((x0n : Nat) : Int)) = true ∧ RetP R (.int .i64 2) m29) (
 IntKind.i64 = IntKind.i64 ∧ ((0 : Int) ≤ (IntKind.wrap .i64 (x1 + 1)) ∧ (IntKind.wrap .i64 (x1 + 1)) < ((x0n : Nat) : Int)) ∧ nilO x0 fun a30 =>
 ∃ i31 : Int, m29.cell (a30.add ((IntKind.wrap .i64 (x1 + 1) : Int).toNat * 5)) = some (.int .i64 i31) ∧ ∃ i32 : Int, m29.cell ((a30.add ((IntKind.wrap .i64 (x1 + 1) : Int).toNat * 5)).add 1) = some (.int .i64 i32) ∧ ∃ i33 : Int, m29.cell ((a30.add ((IntKind.wrap .i64 (x1 + 1) : Int).toNat * 5)).add 2) = some (.int .i64 i33) ∧ ∃ i34 : Int, m29.cell ((a30.add ((IntKind.wrap .i64 (x1 + 1) : Int).toNat * 5)).add 3) = some (.int .i64 i34) ∧ ∃ i35 : Int, m29.cell ((a30.add ((IntKind.wrap .i64 (x1 + 1) : Int).toNat * 5)).add 4) = some (.int .i64 i35) ∧ 
 CallsA Try.prog w0 30 #[.agg #[.int .i64 i31, .int .i64 i32, .int .i64 i33, .int .i64 i34, .int .i64 i35]] m29 fun r37 m38 =>
 ∃ t36 : Bool, r37 = .bool t36 ∧ (bcase (bif ((IntKind.wrap .i64 (x1 + 1)) : Int) == ((x0n : Nat) : Int) then true else t36) (
 RetP R (.int .i64 2) m38) (
 RetP R (.int .i64 0) m38))))) (
 ∃ i39 : Int, m29.cell ⟨b7, 0, none⟩ = some (.int .i64 i39) ∧ ∃ i40 : Int, m29.cell ⟨b7, 1, none⟩ = some (.int .i64 i40) ∧ ∃ i41 : Int, m29.cell ⟨b7, 2, none⟩ = some (.int .i64 i41) ∧ ∃ i42 : Int, m29.cell ⟨b7, 3, none⟩ = some (.int .i64 i42) ∧ ∃ i43 : Int, m29.cell ⟨b7, 4, none⟩ = some (.int .i64 i43) ∧ 
 CallsA Try.prog w0 32 #[.agg #[.int .i64 i39, .int .i64 i40, .int .i64 i41, .int .i64 i42, .int .i64 i43]] m29 fun r45 m46 =>
 ∃ t44 : Bool, r45 = .bool t44 ∧ (bcase (!t44) (
 RetP R (.int .i64 0) m46) (
 IntKind.i64 = IntKind.i64 ∧ (bcase (decide ((x1 : Int) > 0)) (
 IntKind.i64 = IntKind.i64 ∧ ((0 : Int) ≤ (IntKind.wrap .i64 (x1 - 1)) ∧ (IntKind.wrap .i64 (x1 - 1)) < ((x0n : Nat) : Int)) ∧ nilO x0 fun a47 =>
 ∃ i48 : Int, m46.cell (a47.add ((IntKind.wrap .i64 (x1 - 1) : Int).toNat * 5)) = some (.int .i64 i48) ∧ ∃ i49 : Int, m46.cell ((a47.add ((IntKind.wrap .i64 (x1 - 1) : Int).toNat * 5)).add 1) = some (.int .i64 i49) ∧ ∃ i50 : Int, m46.cell ((a47.add ((IntKind.wrap .i64 (x1 - 1) : Int).toNat * 5)).add 2) = some (.int .i64 i50) ∧ ∃ i51 : Int, m46.cell ((a47.add ((IntKind.wrap .i64 (x1 - 1) : Int).toNat * 5)).add 3) = some (.int .i64 i51) ∧ ∃ i52 : Int, m46.cell ((a47.add ((IntKind.wrap .i64 (x1 - 1) : Int).toNat * 5)).add 4) = some (.int .i64 i52) ∧ 
 CallsA Try.prog w0 30 #[.agg #[.int .i64 i48, .int .i64 i49, .int .i64 i50, .int .i64 i51, .int .i64 i52]] m46 fun r54 m55 =>
 ∃ t53 : Bool, r54 = .bool t53 ∧ (bcase (bif decide ((x1 : Int) > 0) then t53 else false) (
 RetP R (.int .i64 3) m55) (
 IntKind.i64 = IntKind.i64 ∧ IntKind.i64 = IntKind.i64 ∧ (bcase (decide (((IntKind.wrap .i64 (x1 + 1)) : Int) < ((x0n : Nat) : Int))) (
 IntKind.i64 = IntKind.i64 ∧ ((0 : Int) ≤ (IntKind.wrap .i64 (x1 + 1)) ∧ (IntKind.wrap .i64 (x1 + 1)) < ((x0n : Nat) : Int)) ∧ nilO x0 fun a56 =>
 ∃ i57 : Int, m55.cell (a56.add ((IntKind.wrap .i64 (x1 + 1) : Int).toNat * 5)) = some (.int .i64 i57) ∧ ∃ i58 : Int, m55.cell ((a56.add ((IntKind.wrap .i64 (x1 + 1) : Int).toNat * 5)).add 1) = some (.int .i64 i58) ∧ ∃ i59 : Int, m55.cell ((a56.add ((IntKind.wrap .i64 (x1 + 1) : Int).toNat * 5)).add 2) = some (.int .i64 i59) ∧ ∃ i60 : Int, m55.cell ((a56.add ((IntKind.wrap .i64 (x1 + 1) : Int).toNat * 5)).add 3) = some (.int .i64 i60) ∧ ∃ i61 : Int, m55.cell ((a56.add ((IntKind.wrap .i64 (x1 + 1) : Int).toNat * 5)).add 4) = some (.int .i64 i61) ∧ 
 ∃ i62 : Int, m55.cell ⟨b7, 0, none⟩ = some (.int .i64 i62) ∧ ∃ i63 : Int, m55.cell ⟨b7, 1, none⟩ = some (.int .i64 i63) ∧ ∃ i64 : Int, m55.cell ⟨b7, 2, none⟩ = some (.int .i64 i64) ∧ ∃ i65 : Int, m55.cell ⟨b7, 3, none⟩ = some (.int .i64 i65) ∧ ∃ i66 : Int, m55.cell ⟨b7, 4, none⟩ = some (.int .i64 i66) ∧ 
 ∃ i67 : Int,  CallsA Try.prog w0 24 #[.agg #[.int .i64 i62, .int .i64 i63, .int .i64 i64, .int .i64 i65, .int .i64 i66]] m55 (fun r68 m69 => r68 = .int .i64 i67 ∧ m69 = m55) ∧
 CallsA Try.prog w0 22 #[.agg #[.int .i64 i57, .int .i64 i58, .int .i64 i59, .int .i64 i60, .int .i64 i61], .int .i64 i67] m55 fun r71 m72 =>
 ∃ t70 : Bool, r71 = .bool t70 ∧ (bcase (bif decide (((IntKind.wrap .i64 (x1 + 1)) : Int) < ((x0n : Nat) : Int)) then t70 else false) (
 RetP R (.int .i64 4) m72) (
 RetP R (.int .i64 0) m72))) (
 (decide (((IntKind.wrap .i64 (x1 + 1)) : Int) < ((x0n : Nat) : Int))) = false ∧ RetP R (.int .i64 0) m55))))) (
 (decide ((x1 : Int) > 0)) = false ∧ IntKind.i64 = IntKind.i64 ∧ IntKind.i64 = IntKind.i64 ∧ (bcase (decide (((IntKind.wrap .i64 (x1 + 1)) : Int) < ((x0n : Nat) : Int))) (
 IntKind.i64 = IntKind.i64 ∧ ((0 : Int) ≤ (IntKind.wrap .i64 (x1 + 1)) ∧ (IntKind.wrap .i64 (x1 + 1)) < ((x0n : Nat) : Int)) ∧ nilO x0 fun a73 =>
 ∃ i74 : Int, m46.cell (a73.add ((IntKind.wrap .i64 (x1 + 1) : Int).toNat * 5)) = some (.int .i64 i74) ∧ ∃ i75 : Int, m46.cell ((a73.add ((IntKind.wrap .i64 (x1 + 1) : Int).toNat * 5)).add 1) = some (.int .i64 i75) ∧ ∃ i76 : Int, m46.cell ((a73.add ((IntKind.wrap .i64 (x1 + 1) : Int).toNat * 5)).add 2) = some (.int .i64 i76) ∧ ∃ i77 : Int, m46.cell ((a73.add ((IntKind.wrap .i64 (x1 + 1) : Int).toNat * 5)).add 3) = some (.int .i64 i77) ∧ ∃ i78 : Int, m46.cell ((a73.add ((IntKind.wrap .i64 (x1 + 1) : Int).toNat * 5)).add 4) = some (.int .i64 i78) ∧ 
 ∃ i79 : Int, m46.cell ⟨b7, 0, none⟩ = some (.int .i64 i79) ∧ ∃ i80 : Int, m46.cell ⟨b7, 1, none⟩ = some (.int .i64 i80) ∧ ∃ i81 : Int, m46.cell ⟨b7, 2, none⟩ = some (.int .i64 i81) ∧ ∃ i82 : Int, m46.cell ⟨b7, 3, none⟩ = some (.int .i64 i82) ∧ ∃ i83 : Int, m46.cell ⟨b7, 4, none⟩ = some (.int .i64 i83) ∧ 
 ∃ i84 : Int,  CallsA Try.prog w0 24 #[.agg #[.int .i64 i79, .int .i64 i80, .int .i64 i81, .int .i64 i82, .int .i64 i83]] m46 (fun r85 m86 => r85 = .int .i64 i84 ∧ m86 = m46) ∧
 CallsA Try.prog w0 22 #[.agg #[.int .i64 i74, .int .i64 i75, .int .i64 i76, .int .i64 i77, .int .i64 i78], .int .i64 i84] m46 fun r88 m89 =>
 ∃ t87 : Bool, r88 = .bool t87 ∧ (bcase (bif decide (((IntKind.wrap .i64 (x1 + 1)) : Int) < ((x0n : Nat) : Int)) then t87 else false) (
 RetP R (.int .i64 4) m89) (
 RetP R (.int .i64 0) m89))) (
 (decide (((IntKind.wrap .i64 (x1 + 1)) : Int) < ((x0n : Nat) : Int))) = false ∧ RetP R (.int .i64 0) m46))))))))))) : CallsA Try.prog w0 35 #[.slice x0 x0n x0c, .int .i64 x1] m R :=
  callsA_of (c := c35) (args := [.slice x0 x0n x0c, .int .i64 x1]) (by kernel_rfl) Try.func35 (by kernel_rfl) qs35 (by kernel_rfl) (by kernel_rfl) (cast (by kernel_rfl) h)
end Go.Proofs.Ythocajnpofdbmaa.V
