/- Ythocajnpofdbmaa: a text of our own, by an AI agent: VLaw3G -/
import Derived.Test.YthocajnpofdbmaaCore5
import Derived.Test.YthocajnpofdbmaaTabG
namespace Go.Proofs.Ythocajnpofdbmaa.V
open Go Go.Alog Go.Proofs.Ythocajnpofdbmaa.T
set_option linter.unusedVariables false
set_option maxRecDepth 100000

/-! 26 delayslot/delayslotlaw03.awake -/
def qs26 : Nat → List (Nat × Nat) := fun i => match i with | _ => []
noncomputable def c26 : Code := bodyOf Try.f26
theorem cf26 (w0 : World) (m : AM)  (R : Value → AM → Prop) (h :
 true = true ∧ CallsA Try.prog w0 21 #[.agg #[.int .i64 13, .int .i64 3, .int .i64 3, .int .i64 0, .int .i64 0]] m fun r4 m5 =>
 ∃ (A1 : Option Addr) (n2 c3 : Nat), r4 = .slice A1 n2 c3 ∧ IntKind.i64 = IntKind.i64 ∧ (bcase ((((n2 : Nat) : Int) : Int) == 1) (
 ((0 : Int) ≤ 0 ∧ 0 < ((n2 : Nat) : Int)) ∧ nilO A1 fun a6 =>
 ∃ i7 : Int, m5.cell (a6.add (0)) = some (.int .i64 i7) ∧ 
 IntKind.i64 = IntKind.i64 ∧ (bcase (bif (((n2 : Nat) : Int) : Int) == 1 then (i7 : Int) == 3 else false) (
 true = true ∧ CallsA Try.prog w0 25 #[.agg #[.int .i64 11, .int .i64 7, .int .i64 0, .int .i64 0, .int .i64 0]] m5 fun r9 m10 =>
 ∃ i8 : Int, r9 = .int .i64 i8 ∧ IntKind.i64 = IntKind.i64 ∧ (bcase (bif bif (((n2 : Nat) : Int) : Int) == 1 then (i7 : Int) == 3 else false then (i8 : Int) == 7 else false) (
 true = true ∧ CallsA Try.prog w0 27 #[.agg #[.int .i64 4, .int .i64 0, .int .i64 0, .int .i64 0, .int .i64 0]] m10 fun r12 m13 =>
 ∃ t11 : Bool, r12 = .bool t11 ∧ (bcase (bif bif bif (((n2 : Nat) : Int) : Int) == 1 then (i7 : Int) == 3 else false then (i8 : Int) == 7 else false then t11 else false) (
 true = true ∧ CallsA Try.prog w0 29 #[.agg #[.int .i64 17, .int .i64 0, .int .i64 0, .int .i64 0, .int .i64 0]] m13 fun r15 m16 =>
 ∃ t14 : Bool, r15 = .bool t14 ∧ (bcase (bif bif bif bif (((n2 : Nat) : Int) : Int) == 1 then (i7 : Int) == 3 else false then (i8 : Int) == 7 else false then t11 else false then t14 else false) (
 true = true ∧ CallsA Try.prog w0 31 #[.agg #[.int .i64 12, .int .i64 0, .int .i64 0, .int .i64 0, .int .i64 0]] m16 fun r18 m19 =>
 ∃ t17 : Bool, r18 = .bool t17 ∧ (bcase (bif bif bif bif bif (((n2 : Nat) : Int) : Int) == 1 then (i7 : Int) == 3 else false then (i8 : Int) == 7 else false then t11 else false then t14 else false then t17 else false) (
 true = true ∧ CallsA Try.prog w0 23 #[.agg #[.int .i64 18, .int .i64 0, .int .i64 0, .int .i64 0, .int .i64 0], .int .i64 31] m19 fun r21 m22 =>
 ∃ t20 : Bool, r21 = .bool t20 ∧ RetP R (.bool (bif bif bif bif bif bif (((n2 : Nat) : Int) : Int) == 1 then (i7 : Int) == 3 else false then (i8 : Int) == 7 else false then t11 else false then t14 else false then t17 else false then t20 else false)) m22) (
 (bif bif bif bif bif (((n2 : Nat) : Int) : Int) == 1 then (i7 : Int) == 3 else false then (i8 : Int) == 7 else false then t11 else false then t14 else false then t17 else false) = false ∧ RetP R (.bool false) m19))) (
 (bif bif bif bif (((n2 : Nat) : Int) : Int) == 1 then (i7 : Int) == 3 else false then (i8 : Int) == 7 else false then t11 else false then t14 else false) = false ∧ false = false ∧ RetP R (.bool false) m16))) (
 (bif bif bif (((n2 : Nat) : Int) : Int) == 1 then (i7 : Int) == 3 else false then (i8 : Int) == 7 else false then t11 else false) = false ∧ false = false ∧ false = false ∧ RetP R (.bool false) m13))) (
 (bif bif (((n2 : Nat) : Int) : Int) == 1 then (i7 : Int) == 3 else false then (i8 : Int) == 7 else false) = false ∧ false = false ∧ false = false ∧ false = false ∧ RetP R (.bool false) m10))) (
 (bif (((n2 : Nat) : Int) : Int) == 1 then (i7 : Int) == 3 else false) = false ∧ false = false ∧ false = false ∧ false = false ∧ false = false ∧ RetP R (.bool false) m5))) (
 ((((n2 : Nat) : Int) : Int) == 1) = false ∧ false = false ∧ false = false ∧ false = false ∧ false = false ∧ false = false ∧ RetP R (.bool false) m5))) : CallsA Try.prog w0 26 #[] m R :=
  callsA_of (c := c26) (args := []) (by kernel_rfl) Try.func26 (by kernel_rfl) qs26 (by kernel_rfl) (by kernel_rfl) (cast (by kernel_rfl) h)

/-! 3 delayslot/delayslotlaw03.EffectReads -/
def qs3 : Nat → List (Nat × Nat) := fun i => match i with | 13 => [(6, 2)] | _ => []
noncomputable def c3 : Code := bodyOf Try.f3
theorem cf3 (w0 : World) (m : AM) (x0_0 : Int) (x0_1 : Int) (x0_2 : Int) (x0_3 : Int) (x0_4 : Int) (R : Value → AM → Prop) (h :
 ∀ b1 : Nat, w0.heap.size ≤ b1 → m b1 = none → let m2 := AM.upd m b1 (.cells #[.int .i64 x0_0, .int .i64 x0_1, .int .i64 x0_2, .int .i64 x0_3, .int .i64 x0_4] 23);
 ∃ i3 : Int, m2.cell ⟨b1, 0, none⟩ = some (.int .i64 i3) ∧ ∃ i4 : Int, m2.cell ⟨b1, 1, none⟩ = some (.int .i64 i4) ∧ ∃ i5 : Int, m2.cell ⟨b1, 2, none⟩ = some (.int .i64 i5) ∧ ∃ i6 : Int, m2.cell ⟨b1, 3, none⟩ = some (.int .i64 i6) ∧ ∃ i7 : Int, m2.cell ⟨b1, 4, none⟩ = some (.int .i64 i7) ∧ 
 CallsA Try.prog w0 21 #[.agg #[.int .i64 i3, .int .i64 i4, .int .i64 i5, .int .i64 i6, .int .i64 i7]] m2 fun r11 m12 =>
 ∃ (A8 : Option Addr) (n9 c10 : Nat), r11 = .slice A8 n9 c10 ∧ vcS Try.prog w0 qs3 (sub c3 [1, 1, 1, 0, 1, 0]) (upd (upd (upd (upd (upd (upd (upd (argS [.agg #[.int .i64 x0_0, .int .i64 x0_1, .int .i64 x0_2, .int .i64 x0_3, .int .i64 x0_4]]) 1 (.pointer (some ⟨b1, 0, none⟩))) 2 (.bool false)) 7 (.agg #[.int .i64 i3, .int .i64 i4, .int .i64 i5, .int .i64 i6, .int .i64 i7])) 8 (.slice A8 n9 c10)) 3 (.slice A8 n9 c10)) 4 (.int .i64 0)) 5 (.int .i64 0)) m12 (blockS 0 (thenS (fun σ m => vcS Try.prog w0 qs3 (sub c3 [1, 1, 1, 1]) σ m (retQ Try.prog Try.f3 R)) (retQ Try.prog Try.f3 R)))) : CallsA Try.prog w0 3 #[.agg #[.int .i64 x0_0, .int .i64 x0_1, .int .i64 x0_2, .int .i64 x0_3, .int .i64 x0_4]] m R :=
  callsA_of (c := c3) (args := [.agg #[.int .i64 x0_0, .int .i64 x0_1, .int .i64 x0_2, .int .i64 x0_3, .int .i64 x0_4]]) (by kernel_rfl) Try.func3 (by kernel_rfl) qs3 (by kernel_rfl) (by kernel_rfl) (cast (by kernel_rfl) h)
def lq3_111010 (R : Value → AM → Prop) (x1 : Nat) (x3 : Option Addr) (x3n x3c : Nat) (I0 : Nat → Int → Int → AM → Prop) (E0_0 : Int → AM → Prop) (n0 : Nat) : Exit → Sg → AM → Prop
  | .normal, σ, m => σ 1 = .pointer (some ⟨x1, 0, none⟩) ∧ σ 3 = .slice x3 x3n x3c ∧ okI .i64 (σ 4) = true ∧ okI .i64 (σ 5) = true ∧ ∃ n' : Nat, n' < n0 ∧ I0 n' (vI (σ 4)) (vI (σ 5)) m
  | .exit id, σ, m => if id = 0 then σ 1 = .pointer (some ⟨x1, 0, none⟩) ∧ σ 3 = .slice x3 x3n x3c ∧ okI .i64 (σ 4) = true ∧ E0_0 (vI (σ 4)) m else False
  | .ret, σ, m => retQ Try.prog Try.f3 R .ret σ m
  | _, _, _ => False
theorem vl3_111010 (w0 : World) (m : AM) (σ : Sg) (R : Value → AM → Prop)  (x1 : Nat) (x3 : Option Addr) (x3n x3c : Nat) (x4 : Int) (x5 : Int) (I0 : Nat → Int → Int → AM → Prop) (E0_0 : Int → AM → Prop) (N : Nat) (h1 : σ 1 = .pointer (some ⟨x1, 0, none⟩)) (h3 : σ 3 = .slice x3 x3n x3c) (h4 : σ 4 = .int .i64 x4) (h5 : σ 5 = .int .i64 x5)
 (h_0 : I0 N x4 x5 m)
 (h_s : ∀ (n0 : Nat) (σ : Sg) (x4 : Int) (x5 : Int) (m : AM), I0 n0 x4 x5 m → (
 IntKind.i64 = IntKind.i64 ∧ (bcase (decide ((x5 : Int) < 40)) (
 ∃ i13 : Int, m.cell ⟨x1, 0, none⟩ = some (.int .i64 i13) ∧ ∃ i14 : Int, m.cell ⟨x1, 1, none⟩ = some (.int .i64 i14) ∧ ∃ i15 : Int, m.cell ⟨x1, 2, none⟩ = some (.int .i64 i15) ∧ ∃ i16 : Int, m.cell ⟨x1, 3, none⟩ = some (.int .i64 i16) ∧ ∃ i17 : Int, m.cell ⟨x1, 4, none⟩ = some (.int .i64 i17) ∧ 
 CallsA Try.prog w0 22 #[.agg #[.int .i64 i13, .int .i64 i14, .int .i64 i15, .int .i64 i16, .int .i64 i17], .int .i64 x5] m fun r19 m20 =>
 ∃ t18 : Bool, r19 = .bool t18 ∧ (bcase t18 (
 IntKind.i64 = IntKind.i64 ∧ (bcase (decide ((x4 : Int) ≥ ((x3n : Nat) : Int))) (
 (decide ((x4 : Int) ≥ ((x3n : Nat) : Int))) = true ∧ (bcase (bif t18 then true else false) (
 RetP R (.bool false) m20) (
 vcS Try.prog w0 qs3 (sub c3 [1, 1, 1, 0, 1, 0, 0, 1, 0, 0, 1, 1]) (upd (upd (upd (upd (upd (upd (upd (upd (upd (upd (upd (upd (upd (upd (upd (upd (upd (upd (upd (upd (upd (upd (upd (upd (upd σ 1 (.pointer (some ⟨x1, 0, none⟩))) 3 (.slice x3 x3n x3c)) 4 (.int .i64 x4)) 5 (.int .i64 x5)) 9 (.int .i64 x5)) 10 (.bool (decide ((x5 : Int) < 40)))) 13 (.agg #[.int .i64 i13, .int .i64 i14, .int .i64 i15, .int .i64 i16, .int .i64 i17])) 14 (.int .i64 x5)) 15 (.bool t18)) 6 (.bool t18)) 16 (.bool t18)) 17 (.bool t18)) 18 (.int .i64 x4)) 19 (.slice x3 x3n x3c)) 20 (.int .i64 ((x3n : Nat) : Int))) 21 (.bool (decide ((x4 : Int) ≥ ((x3n : Nat) : Int))))) 22 (.bool (decide ((x4 : Int) ≥ ((x3n : Nat) : Int))))) 23 (undef)) 24 (undef)) 25 (undef)) 26 (undef)) 27 (undef)) 28 (undef)) 29 (.bool true)) 30 (.bool (bif t18 then true else false))) m20 (blockS 1 (thenS (fun σ m => vcS Try.prog w0 qs3 (sub c3 [1, 1, 1, 0, 1, 0, 0, 1, 1]) σ m (lq3_111010 R x1 x3 x3n x3c I0 E0_0 n0)) (lq3_111010 R x1 x3 x3n x3c I0 E0_0 n0)))))) (
 ((0 : Int) ≤ x4 ∧ x4 < ((x3n : Nat) : Int)) ∧ nilO x3 fun a21 =>
 ∃ i22 : Int, m20.cell (a21.add ((x4 : Int).toNat * 1)) = some (.int .i64 i22) ∧ 
 IntKind.i64 = IntKind.i64 ∧ (bcase (bif t18 then bif decide ((x4 : Int) ≥ ((x3n : Nat) : Int)) then true else (i22 : Int) != x5 else false) (
 RetP R (.bool false) m20) (
 vcS Try.prog w0 qs3 (sub c3 [1, 1, 1, 0, 1, 0, 0, 1, 0, 0, 1, 1]) (upd (upd (upd (upd (upd (upd (upd (upd (upd (upd (upd (upd (upd (upd (upd (upd (upd (upd (upd (upd (upd (upd (upd (upd (upd σ 1 (.pointer (some ⟨x1, 0, none⟩))) 3 (.slice x3 x3n x3c)) 4 (.int .i64 x4)) 5 (.int .i64 x5)) 9 (.int .i64 x5)) 10 (.bool (decide ((x5 : Int) < 40)))) 13 (.agg #[.int .i64 i13, .int .i64 i14, .int .i64 i15, .int .i64 i16, .int .i64 i17])) 14 (.int .i64 x5)) 15 (.bool t18)) 6 (.bool t18)) 16 (.bool t18)) 17 (.bool t18)) 18 (.int .i64 x4)) 19 (.slice x3 x3n x3c)) 20 (.int .i64 ((x3n : Nat) : Int))) 21 (.bool (decide ((x4 : Int) ≥ ((x3n : Nat) : Int))))) 22 (.bool (decide ((x4 : Int) ≥ ((x3n : Nat) : Int))))) 23 (.slice x3 x3n x3c)) 24 (.int .i64 x4)) 25 (.pointer (some (a21.add ((x4 : Int).toNat * 1))))) 26 (.int .i64 i22)) 27 (.int .i64 x5)) 28 (.bool ((i22 : Int) != x5))) 29 (.bool (bif decide ((x4 : Int) ≥ ((x3n : Nat) : Int)) then true else (i22 : Int) != x5))) 30 (.bool (bif t18 then bif decide ((x4 : Int) ≥ ((x3n : Nat) : Int)) then true else (i22 : Int) != x5 else false))) m20 (blockS 1 (thenS (fun σ m => vcS Try.prog w0 qs3 (sub c3 [1, 1, 1, 0, 1, 0, 0, 1, 1]) σ m (lq3_111010 R x1 x3 x3n x3c I0 E0_0 n0)) (lq3_111010 R x1 x3 x3n x3c I0 E0_0 n0)))))))) (
 t18 = false ∧ vcS Try.prog w0 qs3 (sub c3 [1, 1, 1, 0, 1, 0, 0, 1, 0, 0, 1, 1]) (upd (upd (upd (upd (upd (upd (upd (upd (upd (upd (upd (upd (upd (upd (upd (upd (upd (upd (upd (upd (upd (upd (upd (upd (upd σ 1 (.pointer (some ⟨x1, 0, none⟩))) 3 (.slice x3 x3n x3c)) 4 (.int .i64 x4)) 5 (.int .i64 x5)) 9 (.int .i64 x5)) 10 (.bool (decide ((x5 : Int) < 40)))) 13 (.agg #[.int .i64 i13, .int .i64 i14, .int .i64 i15, .int .i64 i16, .int .i64 i17])) 14 (.int .i64 x5)) 15 (.bool t18)) 6 (.bool t18)) 16 (.bool t18)) 17 (.bool t18)) 18 (undef)) 19 (undef)) 20 (undef)) 21 (undef)) 22 (undef)) 23 (undef)) 24 (undef)) 25 (undef)) 26 (undef)) 27 (undef)) 28 (undef)) 29 (undef)) 30 (.bool false)) m20 (blockS 1 (thenS (fun σ m => vcS Try.prog w0 qs3 (sub c3 [1, 1, 1, 0, 1, 0, 0, 1, 1]) σ m (lq3_111010 R x1 x3 x3n x3c I0 E0_0 n0)) (lq3_111010 R x1 x3 x3n x3c I0 E0_0 n0)))))) (
 (.pointer (some ⟨x1, 0, none⟩) : Value) = .pointer (some ⟨x1, 0, none⟩) ∧ (.slice x3 x3n x3c : Value) = .slice x3 x3n x3c ∧ true = true ∧ E0_0 x4 m))))
 (h_e0 : ∀ (σ : Sg) (x4 : Int) (m : AM), E0_0 x4 m → (
 IntKind.i64 = IntKind.i64 ∧ (bcase ((x4 : Int) == ((x3n : Nat) : Int)) (
 ∃ i23 : Int, m.cell ⟨x1, 0, none⟩ = some (.int .i64 i23) ∧ ∃ i24 : Int, m.cell ⟨x1, 1, none⟩ = some (.int .i64 i24) ∧ ∃ i25 : Int, m.cell ⟨x1, 2, none⟩ = some (.int .i64 i25) ∧ ∃ i26 : Int, m.cell ⟨x1, 3, none⟩ = some (.int .i64 i26) ∧ ∃ i27 : Int, m.cell ⟨x1, 4, none⟩ = some (.int .i64 i27) ∧ 
 ∃ i28 : Int,  CallsA Try.prog w0 25 #[.agg #[.int .i64 i23, .int .i64 i24, .int .i64 i25, .int .i64 i26, .int .i64 i27]] m (fun r29 m30 => r29 = .int .i64 i28 ∧ m30 = m) ∧
 ∃ i31 : Int, m.cell ⟨x1, 0, none⟩ = some (.int .i64 i31) ∧ ∃ i32 : Int, m.cell ⟨x1, 1, none⟩ = some (.int .i64 i32) ∧ ∃ i33 : Int, m.cell ⟨x1, 2, none⟩ = some (.int .i64 i33) ∧ ∃ i34 : Int, m.cell ⟨x1, 3, none⟩ = some (.int .i64 i34) ∧ ∃ i35 : Int, m.cell ⟨x1, 4, none⟩ = some (.int .i64 i35) ∧ 
 CallsA Try.prog w0 24 #[.agg #[.int .i64 i31, .int .i64 i32, .int .i64 i33, .int .i64 i34, .int .i64 i35]] m fun r37 m38 =>
 ∃ i36 : Int, r37 = .int .i64 i36 ∧ IntKind.i64 = IntKind.i64 ∧ (bcase (bif (x4 : Int) == ((x3n : Nat) : Int) then (i28 : Int) == i36 else false) (
 CallsA Try.prog w0 26 #[] m38 fun r40 m41 =>
 ∃ t39 : Bool, r40 = .bool t39 ∧ RetP R (.bool (bif bif (x4 : Int) == ((x3n : Nat) : Int) then (i28 : Int) == i36 else false then t39 else false)) m41) (
 (bif (x4 : Int) == ((x3n : Nat) : Int) then (i28 : Int) == i36 else false) = false ∧ RetP R (.bool false) m38))) (
 ((x4 : Int) == ((x3n : Nat) : Int)) = false ∧ false = false ∧ RetP R (.bool false) m)))) :
 vcS Try.prog w0 qs3 (sub c3 [1, 1, 1, 0, 1, 0]) σ m (blockS 0 (thenS (fun σ m => vcS Try.prog w0 qs3 (sub c3 [1, 1, 1, 1]) σ m (retQ Try.prog Try.f3 R)) (retQ Try.prog Try.f3 R))) := by
  rw [show sub c3 [1, 1, 1, 0, 1, 0] = .loop (sub c3 [1, 1, 1, 0, 1, 0, 0]) from by kernel_rfl]
  refine loopQ (fun n0 σ m => σ 1 = .pointer (some ⟨x1, 0, none⟩) ∧ σ 3 = .slice x3 x3n x3c ∧ okI .i64 (σ 4) = true ∧ okI .i64 (σ 5) = true ∧ I0 n0 (vI (σ 4)) (vI (σ 5)) m) N (fun n0 => (lq3_111010 R x1 x3 x3n x3c I0 E0_0 n0)) ⟨h1, h3, (by rw [h4]; rfl), (by rw [h5]; rfl), (by rw [h4, h5]; exact h_0)⟩ ?_ ?_ ?_
  · rintro n0 σ m ⟨kk0, kk1, kk2, kk3, n', hlt, hI⟩; exact ⟨n', hlt, kk0, kk1, kk2, kk3, hI⟩
  · intro n0 e σ m hne h
    cases e with
    | normal => exact absurd rfl hne
    | ret => exact h
    | exit id =>
      by_cases e0 : id = 0
      · subst e0
        obtain ⟨kk0, kk1, kk2, hE⟩ := h
        have es : (upd (upd (upd σ 1 (.pointer (some ⟨x1, 0, none⟩))) 3 (.slice x3 x3n x3c)) 4 (.int .i64 (vI (σ 4)))) = σ := by rw [upd_id kk0, upd_id kk1, upd_id (ok_int kk2)]
        exact cast (congrArg (fun s => (blockS 0 (thenS (fun σ m => vcS Try.prog w0 qs3 (sub c3 [1, 1, 1, 1]) σ m (retQ Try.prog Try.f3 R)) (retQ Try.prog Try.f3 R))) (.exit 0) s m) es) (cast (by kernel_rfl) (h_e0 σ (vI (σ 4)) m hE))
      · replace h := (if_neg e0 : (if id = 0 then _ else _) = _).mp h
        exact False.elim h
    | _ => exact False.elim h
  · rintro n0 σ m ⟨kk0, kk1, kk2, kk3, hI⟩
    have es : (upd (upd (upd (upd σ 1 (.pointer (some ⟨x1, 0, none⟩))) 3 (.slice x3 x3n x3c)) 4 (.int .i64 (vI (σ 4)))) 5 (.int .i64 (vI (σ 5)))) = σ := by rw [upd_id kk0, upd_id kk1, upd_id (ok_int kk2), upd_id (ok_int kk3)]
    exact cast (congrArg (fun s => vcS Try.prog w0 qs3 (sub c3 [1, 1, 1, 0, 1, 0, 0]) s m (lq3_111010 R x1 x3 x3n x3c I0 E0_0 n0)) es) (cast (by kernel_rfl) (h_s n0 σ (vI (σ 4)) (vI (σ 5)) m hI))
theorem vk3_111010010011 (w0 : World) (m : AM) (σ : Sg) (R : Value → AM → Prop) (n0 : Nat) (I0 : Nat → Int → Int → AM → Prop) (E0_0 : Int → AM → Prop) (x1 : Nat) (x3 : Option Addr) (x3n x3c : Nat) (x4 : Int) (x5 : Int) (x6 : Bool) (h1 : σ 1 = .pointer (some ⟨x1, 0, none⟩)) (h3 : σ 3 = .slice x3 x3n x3c) (h4 : σ 4 = .int .i64 x4) (h5 : σ 5 = .int .i64 x5) (h6 : σ 6 = .bool x6) (h :
 (bcase x6 (
 IntKind.i64 = IntKind.i64 ∧ ∃ i42 : Int, m.cell ⟨x1, 0, none⟩ = some (.int .i64 i42) ∧ ∃ i43 : Int, m.cell ⟨x1, 1, none⟩ = some (.int .i64 i43) ∧ ∃ i44 : Int, m.cell ⟨x1, 2, none⟩ = some (.int .i64 i44) ∧ ∃ i45 : Int, m.cell ⟨x1, 3, none⟩ = some (.int .i64 i45) ∧ ∃ i46 : Int, m.cell ⟨x1, 4, none⟩ = some (.int .i64 i46) ∧ 
 CallsA Try.prog w0 23 #[.agg #[.int .i64 i42, .int .i64 i43, .int .i64 i44, .int .i64 i45, .int .i64 i46], .int .i64 x5] m fun r48 m49 =>
 ∃ t47 : Bool, r48 = .bool t47 ∧ IntKind.i64 = IntKind.i64 ∧ (bcase (decide ((x5 : Int) > 0)) (
 (bcase x6 (
 x6 = true ∧ (bcase (!((t47 : Bool) == (bif decide ((x5 : Int) > 0) then true else false))) (
 RetP R (.bool false) m49) (
 IntKind.i64 = IntKind.i64 ∧ (.pointer (some ⟨x1, 0, none⟩) : Value) = .pointer (some ⟨x1, 0, none⟩) ∧ (.slice x3 x3n x3c : Value) = .slice x3 x3n x3c ∧ true = true ∧ true = true ∧ ∃ n' : Nat, n' < n0 ∧ I0 n' (IntKind.wrap .i64 (x4 + 1)) (IntKind.wrap .i64 (x5 + 1)) m49))) (
 ∃ i50 : Int, m49.cell ⟨x1, 0, none⟩ = some (.int .i64 i50) ∧ ∃ i51 : Int, m49.cell ⟨x1, 1, none⟩ = some (.int .i64 i51) ∧ ∃ i52 : Int, m49.cell ⟨x1, 2, none⟩ = some (.int .i64 i52) ∧ ∃ i53 : Int, m49.cell ⟨x1, 3, none⟩ = some (.int .i64 i53) ∧ ∃ i54 : Int, m49.cell ⟨x1, 4, none⟩ = some (.int .i64 i54) ∧ 
 CallsA Try.prog w0 24 #[.agg #[.int .i64 i50, .int .i64 i51, .int .i64 i52, .int .i64 i53, .int .i64 i54]] m49 fun r56 m57 =>
 ∃ i55 : Int, r56 = .int .i64 i55 ∧ IntKind.i64 = IntKind.i64 ∧ (bcase (!((t47 : Bool) == (bif decide ((x5 : Int) > 0) then bif x6 then true else (i55 : Int) == x5 else false))) (
 RetP R (.bool false) m57) (
 IntKind.i64 = IntKind.i64 ∧ (.pointer (some ⟨x1, 0, none⟩) : Value) = .pointer (some ⟨x1, 0, none⟩) ∧ (.slice x3 x3n x3c : Value) = .slice x3 x3n x3c ∧ true = true ∧ true = true ∧ ∃ n' : Nat, n' < n0 ∧ I0 n' (IntKind.wrap .i64 (x4 + 1)) (IntKind.wrap .i64 (x5 + 1)) m57))))) (
 (decide ((x5 : Int) > 0)) = false ∧ (bcase (!((t47 : Bool) == false)) (
 RetP R (.bool false) m49) (
 IntKind.i64 = IntKind.i64 ∧ (.pointer (some ⟨x1, 0, none⟩) : Value) = .pointer (some ⟨x1, 0, none⟩) ∧ (.slice x3 x3n x3c : Value) = .slice x3 x3n x3c ∧ true = true ∧ true = true ∧ ∃ n' : Nat, n' < n0 ∧ I0 n' (IntKind.wrap .i64 (x4 + 1)) (IntKind.wrap .i64 (x5 + 1)) m49))))) (
 ∃ i58 : Int, m.cell ⟨x1, 0, none⟩ = some (.int .i64 i58) ∧ ∃ i59 : Int, m.cell ⟨x1, 1, none⟩ = some (.int .i64 i59) ∧ ∃ i60 : Int, m.cell ⟨x1, 2, none⟩ = some (.int .i64 i60) ∧ ∃ i61 : Int, m.cell ⟨x1, 3, none⟩ = some (.int .i64 i61) ∧ ∃ i62 : Int, m.cell ⟨x1, 4, none⟩ = some (.int .i64 i62) ∧ 
 CallsA Try.prog w0 23 #[.agg #[.int .i64 i58, .int .i64 i59, .int .i64 i60, .int .i64 i61, .int .i64 i62], .int .i64 x5] m fun r64 m65 =>
 ∃ t63 : Bool, r64 = .bool t63 ∧ IntKind.i64 = IntKind.i64 ∧ (bcase (decide ((x5 : Int) > 0)) (
 (bcase x6 (
 x6 = true ∧ (bcase (!((t63 : Bool) == (bif decide ((x5 : Int) > 0) then true else false))) (
 RetP R (.bool false) m65) (
 IntKind.i64 = IntKind.i64 ∧ (.pointer (some ⟨x1, 0, none⟩) : Value) = .pointer (some ⟨x1, 0, none⟩) ∧ (.slice x3 x3n x3c : Value) = .slice x3 x3n x3c ∧ true = true ∧ true = true ∧ ∃ n' : Nat, n' < n0 ∧ I0 n' x4 (IntKind.wrap .i64 (x5 + 1)) m65))) (
 ∃ i66 : Int, m65.cell ⟨x1, 0, none⟩ = some (.int .i64 i66) ∧ ∃ i67 : Int, m65.cell ⟨x1, 1, none⟩ = some (.int .i64 i67) ∧ ∃ i68 : Int, m65.cell ⟨x1, 2, none⟩ = some (.int .i64 i68) ∧ ∃ i69 : Int, m65.cell ⟨x1, 3, none⟩ = some (.int .i64 i69) ∧ ∃ i70 : Int, m65.cell ⟨x1, 4, none⟩ = some (.int .i64 i70) ∧ 
 CallsA Try.prog w0 24 #[.agg #[.int .i64 i66, .int .i64 i67, .int .i64 i68, .int .i64 i69, .int .i64 i70]] m65 fun r72 m73 =>
 ∃ i71 : Int, r72 = .int .i64 i71 ∧ IntKind.i64 = IntKind.i64 ∧ (bcase (!((t63 : Bool) == (bif decide ((x5 : Int) > 0) then bif x6 then true else (i71 : Int) == x5 else false))) (
 RetP R (.bool false) m73) (
 IntKind.i64 = IntKind.i64 ∧ (.pointer (some ⟨x1, 0, none⟩) : Value) = .pointer (some ⟨x1, 0, none⟩) ∧ (.slice x3 x3n x3c : Value) = .slice x3 x3n x3c ∧ true = true ∧ true = true ∧ ∃ n' : Nat, n' < n0 ∧ I0 n' x4 (IntKind.wrap .i64 (x5 + 1)) m73))))) (
 (decide ((x5 : Int) > 0)) = false ∧ (bcase (!((t63 : Bool) == false)) (
 RetP R (.bool false) m65) (
 IntKind.i64 = IntKind.i64 ∧ (.pointer (some ⟨x1, 0, none⟩) : Value) = .pointer (some ⟨x1, 0, none⟩) ∧ (.slice x3 x3n x3c : Value) = .slice x3 x3n x3c ∧ true = true ∧ true = true ∧ ∃ n' : Nat, n' < n0 ∧ I0 n' x4 (IntKind.wrap .i64 (x5 + 1)) m65))))))) :
 vcS Try.prog w0 qs3 (sub c3 [1, 1, 1, 0, 1, 0, 0, 1, 0, 0, 1, 1]) σ m (blockS 1 (thenS (fun σ m => vcS Try.prog w0 qs3 (sub c3 [1, 1, 1, 0, 1, 0, 0, 1, 1]) σ m (lq3_111010 R x1 x3 x3n x3c I0 E0_0 n0)) (lq3_111010 R x1 x3 x3n x3c I0 E0_0 n0))) := by
  have es0 : (upd (upd (upd (upd (upd σ 1 (.pointer (some ⟨x1, 0, none⟩))) 3 (.slice x3 x3n x3c)) 4 (.int .i64 x4)) 5 (.int .i64 x5)) 6 (.bool x6)) = σ := by rw [upd_id h1, upd_id h3, upd_id h4, upd_id h5, upd_id h6]
  exact cast (congrArg (fun s => vcS Try.prog w0 qs3 (sub c3 [1, 1, 1, 0, 1, 0, 0, 1, 0, 0, 1, 1]) s m (blockS 1 (thenS (fun σ m => vcS Try.prog w0 qs3 (sub c3 [1, 1, 1, 0, 1, 0, 0, 1, 1]) σ m (lq3_111010 R x1 x3 x3n x3c I0 E0_0 n0)) (lq3_111010 R x1 x3 x3n x3c I0 E0_0 n0)))) es0) (cast (by kernel_rfl) h)

/-! 4 delayslot/delayslotlaw03.EffectDoes -/
def qs4 : Nat → List (Nat × Nat) := fun i => match i with | 1 => [(1, 2), (7, 2), (14, 2)] | _ => []
noncomputable def c4 : Code := bodyOf Try.f4
theorem cf4 (w0 : World) (m : AM) (x0_0 : Int) (x0_1 : Int) (x0_2 : Int) (x0_3 : Int) (x0_4 : Int) (R : Value → AM → Prop) (h :
 ∀ b1 : Nat, w0.heap.size ≤ b1 → m b1 = none → let m2 := AM.upd m b1 (.cells #[.int .i64 x0_0, .int .i64 x0_1, .int .i64 x0_2, .int .i64 x0_3, .int .i64 x0_4] 23);
 ∃ i3 : Int, m2.cell ⟨b1, 0, none⟩ = some (.int .i64 i3) ∧ ∃ i4 : Int, m2.cell ⟨b1, 1, none⟩ = some (.int .i64 i4) ∧ ∃ i5 : Int, m2.cell ⟨b1, 2, none⟩ = some (.int .i64 i5) ∧ ∃ i6 : Int, m2.cell ⟨b1, 3, none⟩ = some (.int .i64 i6) ∧ ∃ i7 : Int, m2.cell ⟨b1, 4, none⟩ = some (.int .i64 i7) ∧ 
 ∃ t8 : Bool,  CallsA Try.prog w0 27 #[.agg #[.int .i64 i3, .int .i64 i4, .int .i64 i5, .int .i64 i6, .int .i64 i7]] m2 (fun r9 m10 => r9 = .bool t8 ∧ m10 = m2) ∧
 ∃ i11 : Int, m2.cell ⟨b1, 0, none⟩ = some (.int .i64 i11) ∧ ∃ i12 : Int, m2.cell ⟨b1, 1, none⟩ = some (.int .i64 i12) ∧ ∃ i13 : Int, m2.cell ⟨b1, 2, none⟩ = some (.int .i64 i13) ∧ ∃ i14 : Int, m2.cell ⟨b1, 3, none⟩ = some (.int .i64 i14) ∧ ∃ i15 : Int, m2.cell ⟨b1, 4, none⟩ = some (.int .i64 i15) ∧ 
 CallsA Try.prog w0 28 #[.agg #[.int .i64 i11, .int .i64 i12, .int .i64 i13, .int .i64 i14, .int .i64 i15]] m2 fun r17 m18 =>
 ∃ t16 : Bool, r17 = .bool t16 ∧ (bcase ((t8 : Bool) == t16) (
 ∃ i19 : Int, m18.cell ⟨b1, 0, none⟩ = some (.int .i64 i19) ∧ ∃ i20 : Int, m18.cell ⟨b1, 1, none⟩ = some (.int .i64 i20) ∧ ∃ i21 : Int, m18.cell ⟨b1, 2, none⟩ = some (.int .i64 i21) ∧ ∃ i22 : Int, m18.cell ⟨b1, 3, none⟩ = some (.int .i64 i22) ∧ ∃ i23 : Int, m18.cell ⟨b1, 4, none⟩ = some (.int .i64 i23) ∧ 
 ∃ t24 : Bool,  CallsA Try.prog w0 29 #[.agg #[.int .i64 i19, .int .i64 i20, .int .i64 i21, .int .i64 i22, .int .i64 i23]] m18 (fun r25 m26 => r25 = .bool t24 ∧ m26 = m18) ∧
 ∃ i27 : Int, m18.cell ⟨b1, 0, none⟩ = some (.int .i64 i27) ∧ ∃ i28 : Int, m18.cell ⟨b1, 1, none⟩ = some (.int .i64 i28) ∧ ∃ i29 : Int, m18.cell ⟨b1, 2, none⟩ = some (.int .i64 i29) ∧ ∃ i30 : Int, m18.cell ⟨b1, 3, none⟩ = some (.int .i64 i30) ∧ ∃ i31 : Int, m18.cell ⟨b1, 4, none⟩ = some (.int .i64 i31) ∧ 
 CallsA Try.prog w0 30 #[.agg #[.int .i64 i27, .int .i64 i28, .int .i64 i29, .int .i64 i30, .int .i64 i31]] m18 fun r33 m34 =>
 ∃ t32 : Bool, r33 = .bool t32 ∧ (bcase (bif (t8 : Bool) == t16 then (t24 : Bool) == t32 else false) (
 ∃ i35 : Int, m34.cell ⟨b1, 0, none⟩ = some (.int .i64 i35) ∧ ∃ i36 : Int, m34.cell ⟨b1, 1, none⟩ = some (.int .i64 i36) ∧ ∃ i37 : Int, m34.cell ⟨b1, 2, none⟩ = some (.int .i64 i37) ∧ ∃ i38 : Int, m34.cell ⟨b1, 3, none⟩ = some (.int .i64 i38) ∧ ∃ i39 : Int, m34.cell ⟨b1, 4, none⟩ = some (.int .i64 i39) ∧ 
 ∃ t40 : Bool,  CallsA Try.prog w0 31 #[.agg #[.int .i64 i35, .int .i64 i36, .int .i64 i37, .int .i64 i38, .int .i64 i39]] m34 (fun r41 m42 => r41 = .bool t40 ∧ m42 = m34) ∧
 ∃ i43 : Int, m34.cell ⟨b1, 0, none⟩ = some (.int .i64 i43) ∧ ∃ i44 : Int, m34.cell ⟨b1, 1, none⟩ = some (.int .i64 i44) ∧ ∃ i45 : Int, m34.cell ⟨b1, 2, none⟩ = some (.int .i64 i45) ∧ ∃ i46 : Int, m34.cell ⟨b1, 3, none⟩ = some (.int .i64 i46) ∧ ∃ i47 : Int, m34.cell ⟨b1, 4, none⟩ = some (.int .i64 i47) ∧ 
 CallsA Try.prog w0 32 #[.agg #[.int .i64 i43, .int .i64 i44, .int .i64 i45, .int .i64 i46, .int .i64 i47]] m34 fun r49 m50 =>
 ∃ t48 : Bool, r49 = .bool t48 ∧ (bcase (bif bif (t8 : Bool) == t16 then (t24 : Bool) == t32 else false then (t40 : Bool) == t48 else false) (
 CallsA Try.prog w0 26 #[] m50 fun r52 m53 =>
 ∃ t51 : Bool, r52 = .bool t51 ∧ RetP R (.bool (bif bif bif (t8 : Bool) == t16 then (t24 : Bool) == t32 else false then (t40 : Bool) == t48 else false then t51 else false)) m53) (
 (bif bif (t8 : Bool) == t16 then (t24 : Bool) == t32 else false then (t40 : Bool) == t48 else false) = false ∧ RetP R (.bool false) m50))) (
 (bif (t8 : Bool) == t16 then (t24 : Bool) == t32 else false) = false ∧ false = false ∧ RetP R (.bool false) m34))) (
 ((t8 : Bool) == t16) = false ∧ false = false ∧ false = false ∧ RetP R (.bool false) m18))) : CallsA Try.prog w0 4 #[.agg #[.int .i64 x0_0, .int .i64 x0_1, .int .i64 x0_2, .int .i64 x0_3, .int .i64 x0_4]] m R :=
  callsA_of (c := c4) (args := [.agg #[.int .i64 x0_0, .int .i64 x0_1, .int .i64 x0_2, .int .i64 x0_3, .int .i64 x0_4]]) (by kernel_rfl) Try.func4 (by kernel_rfl) qs4 (by kernel_rfl) (by kernel_rfl) (cast (by kernel_rfl) h)

/-! 5 delayslot/delayslotlaw03.EffectOne -/
def qs5 : Nat → List (Nat × Nat) := fun i => match i with | _ => []
noncomputable def c5 : Code := bodyOf Try.f5
theorem cf5 (w0 : World) (m : AM) (x0_0 : Int) (x0_1 : Int) (x0_2 : Int) (x0_3 : Int) (x0_4 : Int) (R : Value → AM → Prop) (h :
 ∀ b1 : Nat, w0.heap.size ≤ b1 → m b1 = none → let m2 := AM.upd m b1 (.cells #[.int .i64 x0_0, .int .i64 x0_1, .int .i64 x0_2, .int .i64 x0_3, .int .i64 x0_4] 23);
 ∃ i3 : Int, m2.cell ⟨b1, 0, none⟩ = some (.int .i64 i3) ∧ ∃ i4 : Int, m2.cell ⟨b1, 1, none⟩ = some (.int .i64 i4) ∧ ∃ i5 : Int, m2.cell ⟨b1, 2, none⟩ = some (.int .i64 i5) ∧ ∃ i6 : Int, m2.cell ⟨b1, 3, none⟩ = some (.int .i64 i6) ∧ ∃ i7 : Int, m2.cell ⟨b1, 4, none⟩ = some (.int .i64 i7) ∧ 
 CallsA Try.prog w0 21 #[.agg #[.int .i64 i3, .int .i64 i4, .int .i64 i5, .int .i64 i6, .int .i64 i7]] m2 fun r11 m12 =>
 ∃ (A8 : Option Addr) (n9 c10 : Nat), r11 = .slice A8 n9 c10 ∧ vcS Try.prog w0 qs5 (sub c5 [1, 1, 0, 1, 0]) (upd (upd (upd (upd (upd (upd (upd (upd (argS [.agg #[.int .i64 x0_0, .int .i64 x0_1, .int .i64 x0_2, .int .i64 x0_3, .int .i64 x0_4]]) 1 (.pointer (some ⟨b1, 0, none⟩))) 2 (.bool false)) 7 (.agg #[.int .i64 i3, .int .i64 i4, .int .i64 i5, .int .i64 i6, .int .i64 i7])) 8 (.slice A8 n9 c10)) 3 (.slice A8 n9 c10)) 9 (.slice A8 n9 c10)) 10 (.int .i64 ((n9 : Nat) : Int))) 11 (.int .i64 0)) m12 (blockS 0 (thenS (fun σ m => vcS Try.prog w0 qs5 (sub c5 [1, 1, 1]) σ m (retQ Try.prog Try.f5 R)) (retQ Try.prog Try.f5 R)))) : CallsA Try.prog w0 5 #[.agg #[.int .i64 x0_0, .int .i64 x0_1, .int .i64 x0_2, .int .i64 x0_3, .int .i64 x0_4]] m R :=
  callsA_of (c := c5) (args := [.agg #[.int .i64 x0_0, .int .i64 x0_1, .int .i64 x0_2, .int .i64 x0_3, .int .i64 x0_4]]) (by kernel_rfl) Try.func5 (by kernel_rfl) qs5 (by kernel_rfl) (by kernel_rfl) (cast (by kernel_rfl) h)
def lq5_11010 (R : Value → AM → Prop) (x1 : Nat) (x3 : Option Addr) (x3n x3c : Nat) (x9 : Option Addr) (x9n x9c : Nat) (x10 : Int) (I0 : Nat → Int → AM → Prop) (E0_0 : AM → Prop) (n0 : Nat) : Exit → Sg → AM → Prop
  | .normal, σ, m => σ 1 = .pointer (some ⟨x1, 0, none⟩) ∧ σ 3 = .slice x3 x3n x3c ∧ σ 9 = .slice x9 x9n x9c ∧ σ 10 = .int .i64 x10 ∧ okI .i64 (σ 11) = true ∧ ∃ n' : Nat, n' < n0 ∧ I0 n' (vI (σ 11)) m
  | .exit id, σ, m => if id = 0 then σ 1 = .pointer (some ⟨x1, 0, none⟩) ∧ σ 3 = .slice x3 x3n x3c ∧ σ 9 = .slice x9 x9n x9c ∧ σ 10 = .int .i64 x10 ∧ E0_0  m else False
  | .ret, σ, m => retQ Try.prog Try.f5 R .ret σ m
  | _, _, _ => False
theorem vl5_11010 (w0 : World) (m : AM) (σ : Sg) (R : Value → AM → Prop)  (x1 : Nat) (x3 : Option Addr) (x3n x3c : Nat) (x9 : Option Addr) (x9n x9c : Nat) (x10 : Int) (x11 : Int) (I0 : Nat → Int → AM → Prop) (E0_0 : AM → Prop) (N : Nat) (h1 : σ 1 = .pointer (some ⟨x1, 0, none⟩)) (h3 : σ 3 = .slice x3 x3n x3c) (h9 : σ 9 = .slice x9 x9n x9c) (h10 : σ 10 = .int .i64 x10) (h11 : σ 11 = .int .i64 x11)
 (h_0 : I0 N x11 m)
 (h_s : ∀ (n0 : Nat) (σ : Sg) (x11 : Int) (m : AM), I0 n0 x11 m → (
 IntKind.i64 = IntKind.i64 ∧ (bcase (decide ((x11 : Int) < x10)) (
 ((0 : Int) ≤ x11 ∧ x11 < ((x9n : Nat) : Int)) ∧ nilO x9 fun a13 =>
 ∃ i14 : Int, m.cell (a13.add ((x11 : Int).toNat * 1)) = some (.int .i64 i14) ∧ 
 IntKind.i64 = IntKind.i64 ∧ (bcase (decide ((i14 : Int) < 1)) (
 (decide ((i14 : Int) < 1)) = true ∧ RetP R (.bool false) m) (
 IntKind.i64 = IntKind.i64 ∧ (bcase (bif decide ((i14 : Int) < 1) then true else decide ((i14 : Int) > 31)) (
 RetP R (.bool false) m) (
 IntKind.i64 = IntKind.i64 ∧ (.pointer (some ⟨x1, 0, none⟩) : Value) = .pointer (some ⟨x1, 0, none⟩) ∧ (.slice x3 x3n x3c : Value) = .slice x3 x3n x3c ∧ (.slice x9 x9n x9c : Value) = .slice x9 x9n x9c ∧ (.int .i64 x10 : Value) = .int .i64 x10 ∧ true = true ∧ ∃ n' : Nat, n' < n0 ∧ I0 n' (IntKind.wrap .i64 (x11 + 1)) m))))) (
 (.pointer (some ⟨x1, 0, none⟩) : Value) = .pointer (some ⟨x1, 0, none⟩) ∧ (.slice x3 x3n x3c : Value) = .slice x3 x3n x3c ∧ (.slice x9 x9n x9c : Value) = .slice x9 x9n x9c ∧ (.int .i64 x10 : Value) = .int .i64 x10 ∧ E0_0  m))))
 (h_e0 : ∀ (σ : Sg)  (m : AM), E0_0  m → (
 ∃ i15 : Int, m.cell ⟨x1, 0, none⟩ = some (.int .i64 i15) ∧ ∃ i16 : Int, m.cell ⟨x1, 1, none⟩ = some (.int .i64 i16) ∧ ∃ i17 : Int, m.cell ⟨x1, 2, none⟩ = some (.int .i64 i17) ∧ ∃ i18 : Int, m.cell ⟨x1, 3, none⟩ = some (.int .i64 i18) ∧ ∃ i19 : Int, m.cell ⟨x1, 4, none⟩ = some (.int .i64 i19) ∧ 
 CallsA Try.prog w0 25 #[.agg #[.int .i64 i15, .int .i64 i16, .int .i64 i17, .int .i64 i18, .int .i64 i19]] m fun r21 m22 =>
 ∃ i20 : Int, r21 = .int .i64 i20 ∧ IntKind.i64 = IntKind.i64 ∧ (bcase (decide ((((x3n : Nat) : Int) : Int) ≤ 2)) (
 IntKind.i64 = IntKind.i64 ∧ (bcase (bif decide ((((x3n : Nat) : Int) : Int) ≤ 2) then decide ((i20 : Int) ≥ 0) else false) (
 IntKind.i64 = IntKind.i64 ∧ (bcase (bif bif decide ((((x3n : Nat) : Int) : Int) ≤ 2) then decide ((i20 : Int) ≥ 0) else false then decide ((i20 : Int) ≤ 31) else false) (
 ∃ i23 : Int, m22.cell ⟨x1, 0, none⟩ = some (.int .i64 i23) ∧ ∃ i24 : Int, m22.cell ⟨x1, 1, none⟩ = some (.int .i64 i24) ∧ ∃ i25 : Int, m22.cell ⟨x1, 2, none⟩ = some (.int .i64 i25) ∧ ∃ i26 : Int, m22.cell ⟨x1, 3, none⟩ = some (.int .i64 i26) ∧ ∃ i27 : Int, m22.cell ⟨x1, 4, none⟩ = some (.int .i64 i27) ∧ 
 CallsA Try.prog w0 29 #[.agg #[.int .i64 i23, .int .i64 i24, .int .i64 i25, .int .i64 i26, .int .i64 i27]] m22 fun r29 m30 =>
 ∃ t28 : Bool, r29 = .bool t28 ∧ (bcase t28 (
 ∃ i31 : Int, m30.cell ⟨x1, 0, none⟩ = some (.int .i64 i31) ∧ ∃ i32 : Int, m30.cell ⟨x1, 1, none⟩ = some (.int .i64 i32) ∧ ∃ i33 : Int, m30.cell ⟨x1, 2, none⟩ = some (.int .i64 i33) ∧ ∃ i34 : Int, m30.cell ⟨x1, 3, none⟩ = some (.int .i64 i34) ∧ ∃ i35 : Int, m30.cell ⟨x1, 4, none⟩ = some (.int .i64 i35) ∧ 
 CallsA Try.prog w0 27 #[.agg #[.int .i64 i31, .int .i64 i32, .int .i64 i33, .int .i64 i34, .int .i64 i35]] m30 fun r37 m38 =>
 ∃ t36 : Bool, r37 = .bool t36 ∧ (bcase (bif bif bif decide ((((x3n : Nat) : Int) : Int) ≤ 2) then decide ((i20 : Int) ≥ 0) else false then decide ((i20 : Int) ≤ 31) else false then !(bif t28 then t36 else false) else false) (
 ∃ i39 : Int, m38.cell ⟨x1, 0, none⟩ = some (.int .i64 i39) ∧ ∃ i40 : Int, m38.cell ⟨x1, 1, none⟩ = some (.int .i64 i40) ∧ ∃ i41 : Int, m38.cell ⟨x1, 2, none⟩ = some (.int .i64 i41) ∧ ∃ i42 : Int, m38.cell ⟨x1, 3, none⟩ = some (.int .i64 i42) ∧ ∃ i43 : Int, m38.cell ⟨x1, 4, none⟩ = some (.int .i64 i43) ∧ 
 CallsA Try.prog w0 31 #[.agg #[.int .i64 i39, .int .i64 i40, .int .i64 i41, .int .i64 i42, .int .i64 i43]] m38 fun r45 m46 =>
 ∃ t44 : Bool, r45 = .bool t44 ∧ (bcase (!t44) (
 (!t44) = true ∧ (bcase (bif bif bif bif decide ((((x3n : Nat) : Int) : Int) ≤ 2) then decide ((i20 : Int) ≥ 0) else false then decide ((i20 : Int) ≤ 31) else false then !(bif t28 then t36 else false) else false then true else false) (
 ∃ i47 : Int, m46.cell ⟨x1, 0, none⟩ = some (.int .i64 i47) ∧ ∃ i48 : Int, m46.cell ⟨x1, 1, none⟩ = some (.int .i64 i48) ∧ ∃ i49 : Int, m46.cell ⟨x1, 2, none⟩ = some (.int .i64 i49) ∧ ∃ i50 : Int, m46.cell ⟨x1, 3, none⟩ = some (.int .i64 i50) ∧ ∃ i51 : Int, m46.cell ⟨x1, 4, none⟩ = some (.int .i64 i51) ∧ 
 CallsA Try.prog w0 23 #[.agg #[.int .i64 i47, .int .i64 i48, .int .i64 i49, .int .i64 i50, .int .i64 i51], .int .i64 0] m46 fun r53 m54 =>
 ∃ t52 : Bool, r53 = .bool t52 ∧ (bcase (bif bif bif bif bif decide ((((x3n : Nat) : Int) : Int) ≤ 2) then decide ((i20 : Int) ≥ 0) else false then decide ((i20 : Int) ≤ 31) else false then !(bif t28 then t36 else false) else false then true else false then !t52 else false) (
 CallsA Try.prog w0 26 #[] m54 fun r56 m57 =>
 ∃ t55 : Bool, r56 = .bool t55 ∧ RetP R (.bool (bif bif bif bif bif bif decide ((((x3n : Nat) : Int) : Int) ≤ 2) then decide ((i20 : Int) ≥ 0) else false then decide ((i20 : Int) ≤ 31) else false then !(bif t28 then t36 else false) else false then true else false then !t52 else false then t55 else false)) m57) (
 (bif bif bif bif bif decide ((((x3n : Nat) : Int) : Int) ≤ 2) then decide ((i20 : Int) ≥ 0) else false then decide ((i20 : Int) ≤ 31) else false then !(bif t28 then t36 else false) else false then true else false then !t52 else false) = false ∧ RetP R (.bool false) m54))) (
 (bif bif bif bif decide ((((x3n : Nat) : Int) : Int) ≤ 2) then decide ((i20 : Int) ≥ 0) else false then decide ((i20 : Int) ≤ 31) else false then !(bif t28 then t36 else false) else false then true else false) = false ∧ false = false ∧ RetP R (.bool false) m46))) (
 ∃ i58 : Int, m46.cell ⟨x1, 0, none⟩ = some (.int .i64 i58) ∧ ∃ i59 : Int, m46.cell ⟨x1, 1, none⟩ = some (.int .i64 i59) ∧ ∃ i60 : Int, m46.cell ⟨x1, 2, none⟩ = some (.int .i64 i60) ∧ ∃ i61 : Int, m46.cell ⟨x1, 3, none⟩ = some (.int .i64 i61) ∧ ∃ i62 : Int, m46.cell ⟨x1, 4, none⟩ = some (.int .i64 i62) ∧ 
 CallsA Try.prog w0 27 #[.agg #[.int .i64 i58, .int .i64 i59, .int .i64 i60, .int .i64 i61, .int .i64 i62]] m46 fun r64 m65 =>
 ∃ t63 : Bool, r64 = .bool t63 ∧ (bcase (bif bif bif bif decide ((((x3n : Nat) : Int) : Int) ≤ 2) then decide ((i20 : Int) ≥ 0) else false then decide ((i20 : Int) ≤ 31) else false then !(bif t28 then t36 else false) else false then bif !t44 then true else t63 else false) (
 ∃ i66 : Int, m65.cell ⟨x1, 0, none⟩ = some (.int .i64 i66) ∧ ∃ i67 : Int, m65.cell ⟨x1, 1, none⟩ = some (.int .i64 i67) ∧ ∃ i68 : Int, m65.cell ⟨x1, 2, none⟩ = some (.int .i64 i68) ∧ ∃ i69 : Int, m65.cell ⟨x1, 3, none⟩ = some (.int .i64 i69) ∧ ∃ i70 : Int, m65.cell ⟨x1, 4, none⟩ = some (.int .i64 i70) ∧ 
 CallsA Try.prog w0 23 #[.agg #[.int .i64 i66, .int .i64 i67, .int .i64 i68, .int .i64 i69, .int .i64 i70], .int .i64 0] m65 fun r72 m73 =>
 ∃ t71 : Bool, r72 = .bool t71 ∧ (bcase (bif bif bif bif bif decide ((((x3n : Nat) : Int) : Int) ≤ 2) then decide ((i20 : Int) ≥ 0) else false then decide ((i20 : Int) ≤ 31) else false then !(bif t28 then t36 else false) else false then bif !t44 then true else t63 else false then !t71 else false) (
 CallsA Try.prog w0 26 #[] m73 fun r75 m76 =>
 ∃ t74 : Bool, r75 = .bool t74 ∧ RetP R (.bool (bif bif bif bif bif bif decide ((((x3n : Nat) : Int) : Int) ≤ 2) then decide ((i20 : Int) ≥ 0) else false then decide ((i20 : Int) ≤ 31) else false then !(bif t28 then t36 else false) else false then bif !t44 then true else t63 else false then !t71 else false then t74 else false)) m76) (
 (bif bif bif bif bif decide ((((x3n : Nat) : Int) : Int) ≤ 2) then decide ((i20 : Int) ≥ 0) else false then decide ((i20 : Int) ≤ 31) else false then !(bif t28 then t36 else false) else false then bif !t44 then true else t63 else false then !t71 else false) = false ∧ RetP R (.bool false) m73))) (
 (bif bif bif bif decide ((((x3n : Nat) : Int) : Int) ≤ 2) then decide ((i20 : Int) ≥ 0) else false then decide ((i20 : Int) ≤ 31) else false then !(bif t28 then t36 else false) else false then bif !t44 then true else t63 else false) = false ∧ false = false ∧ RetP R (.bool false) m65))))) (
 (bif bif bif decide ((((x3n : Nat) : Int) : Int) ≤ 2) then decide ((i20 : Int) ≥ 0) else false then decide ((i20 : Int) ≤ 31) else false then !(bif t28 then t36 else false) else false) = false ∧ false = false ∧ false = false ∧ RetP R (.bool false) m38))) (
 t28 = false ∧ (bcase (bif bif bif decide ((((x3n : Nat) : Int) : Int) ≤ 2) then decide ((i20 : Int) ≥ 0) else false then decide ((i20 : Int) ≤ 31) else false then !false else false) (
 ∃ i77 : Int, m30.cell ⟨x1, 0, none⟩ = some (.int .i64 i77) ∧ ∃ i78 : Int, m30.cell ⟨x1, 1, none⟩ = some (.int .i64 i78) ∧ ∃ i79 : Int, m30.cell ⟨x1, 2, none⟩ = some (.int .i64 i79) ∧ ∃ i80 : Int, m30.cell ⟨x1, 3, none⟩ = some (.int .i64 i80) ∧ ∃ i81 : Int, m30.cell ⟨x1, 4, none⟩ = some (.int .i64 i81) ∧ 
 CallsA Try.prog w0 31 #[.agg #[.int .i64 i77, .int .i64 i78, .int .i64 i79, .int .i64 i80, .int .i64 i81]] m30 fun r83 m84 =>
 ∃ t82 : Bool, r83 = .bool t82 ∧ (bcase (!t82) (
 (!t82) = true ∧ (bcase (bif bif bif bif decide ((((x3n : Nat) : Int) : Int) ≤ 2) then decide ((i20 : Int) ≥ 0) else false then decide ((i20 : Int) ≤ 31) else false then !false else false then true else false) (
 ∃ i85 : Int, m84.cell ⟨x1, 0, none⟩ = some (.int .i64 i85) ∧ ∃ i86 : Int, m84.cell ⟨x1, 1, none⟩ = some (.int .i64 i86) ∧ ∃ i87 : Int, m84.cell ⟨x1, 2, none⟩ = some (.int .i64 i87) ∧ ∃ i88 : Int, m84.cell ⟨x1, 3, none⟩ = some (.int .i64 i88) ∧ ∃ i89 : Int, m84.cell ⟨x1, 4, none⟩ = some (.int .i64 i89) ∧ 
 CallsA Try.prog w0 23 #[.agg #[.int .i64 i85, .int .i64 i86, .int .i64 i87, .int .i64 i88, .int .i64 i89], .int .i64 0] m84 fun r91 m92 =>
 ∃ t90 : Bool, r91 = .bool t90 ∧ (bcase (bif bif bif bif bif decide ((((x3n : Nat) : Int) : Int) ≤ 2) then decide ((i20 : Int) ≥ 0) else false then decide ((i20 : Int) ≤ 31) else false then !false else false then true else false then !t90 else false) (
 CallsA Try.prog w0 26 #[] m92 fun r94 m95 =>
 ∃ t93 : Bool, r94 = .bool t93 ∧ RetP R (.bool (bif bif bif bif bif bif decide ((((x3n : Nat) : Int) : Int) ≤ 2) then decide ((i20 : Int) ≥ 0) else false then decide ((i20 : Int) ≤ 31) else false then !false else false then true else false then !t90 else false then t93 else false)) m95) (
 (bif bif bif bif bif decide ((((x3n : Nat) : Int) : Int) ≤ 2) then decide ((i20 : Int) ≥ 0) else false then decide ((i20 : Int) ≤ 31) else false then !false else false then true else false then !t90 else false) = false ∧ RetP R (.bool false) m92))) (
 (bif bif bif bif decide ((((x3n : Nat) : Int) : Int) ≤ 2) then decide ((i20 : Int) ≥ 0) else false then decide ((i20 : Int) ≤ 31) else false then !false else false then true else false) = false ∧ false = false ∧ RetP R (.bool false) m84))) (
 ∃ i96 : Int, m84.cell ⟨x1, 0, none⟩ = some (.int .i64 i96) ∧ ∃ i97 : Int, m84.cell ⟨x1, 1, none⟩ = some (.int .i64 i97) ∧ ∃ i98 : Int, m84.cell ⟨x1, 2, none⟩ = some (.int .i64 i98) ∧ ∃ i99 : Int, m84.cell ⟨x1, 3, none⟩ = some (.int .i64 i99) ∧ ∃ i100 : Int, m84.cell ⟨x1, 4, none⟩ = some (.int .i64 i100) ∧ 
 CallsA Try.prog w0 27 #[.agg #[.int .i64 i96, .int .i64 i97, .int .i64 i98, .int .i64 i99, .int .i64 i100]] m84 fun r102 m103 =>
 ∃ t101 : Bool, r102 = .bool t101 ∧ (bcase (bif bif bif bif decide ((((x3n : Nat) : Int) : Int) ≤ 2) then decide ((i20 : Int) ≥ 0) else false then decide ((i20 : Int) ≤ 31) else false then !false else false then bif !t82 then true else t101 else false) (
 ∃ i104 : Int, m103.cell ⟨x1, 0, none⟩ = some (.int .i64 i104) ∧ ∃ i105 : Int, m103.cell ⟨x1, 1, none⟩ = some (.int .i64 i105) ∧ ∃ i106 : Int, m103.cell ⟨x1, 2, none⟩ = some (.int .i64 i106) ∧ ∃ i107 : Int, m103.cell ⟨x1, 3, none⟩ = some (.int .i64 i107) ∧ ∃ i108 : Int, m103.cell ⟨x1, 4, none⟩ = some (.int .i64 i108) ∧ 
 CallsA Try.prog w0 23 #[.agg #[.int .i64 i104, .int .i64 i105, .int .i64 i106, .int .i64 i107, .int .i64 i108], .int .i64 0] m103 fun r110 m111 =>
 ∃ t109 : Bool, r110 = .bool t109 ∧ (bcase (bif bif bif bif bif decide ((((x3n : Nat) : Int) : Int) ≤ 2) then decide ((i20 : Int) ≥ 0) else false then decide ((i20 : Int) ≤ 31) else false then !false else false then bif !t82 then true else t101 else false then !t109 else false) (
 CallsA Try.prog w0 26 #[] m111 fun r113 m114 =>
 ∃ t112 : Bool, r113 = .bool t112 ∧ RetP R (.bool (bif bif bif bif bif bif decide ((((x3n : Nat) : Int) : Int) ≤ 2) then decide ((i20 : Int) ≥ 0) else false then decide ((i20 : Int) ≤ 31) else false then !false else false then bif !t82 then true else t101 else false then !t109 else false then t112 else false)) m114) (
 (bif bif bif bif bif decide ((((x3n : Nat) : Int) : Int) ≤ 2) then decide ((i20 : Int) ≥ 0) else false then decide ((i20 : Int) ≤ 31) else false then !false else false then bif !t82 then true else t101 else false then !t109 else false) = false ∧ RetP R (.bool false) m111))) (
 (bif bif bif bif decide ((((x3n : Nat) : Int) : Int) ≤ 2) then decide ((i20 : Int) ≥ 0) else false then decide ((i20 : Int) ≤ 31) else false then !false else false then bif !t82 then true else t101 else false) = false ∧ false = false ∧ RetP R (.bool false) m103))))) (
 (bif bif bif decide ((((x3n : Nat) : Int) : Int) ≤ 2) then decide ((i20 : Int) ≥ 0) else false then decide ((i20 : Int) ≤ 31) else false then !false else false) = false ∧ false = false ∧ false = false ∧ RetP R (.bool false) m30))))) (
 (bif bif decide ((((x3n : Nat) : Int) : Int) ≤ 2) then decide ((i20 : Int) ≥ 0) else false then decide ((i20 : Int) ≤ 31) else false) = false ∧ false = false ∧ false = false ∧ false = false ∧ RetP R (.bool false) m22))) (
 (bif decide ((((x3n : Nat) : Int) : Int) ≤ 2) then decide ((i20 : Int) ≥ 0) else false) = false ∧ false = false ∧ false = false ∧ false = false ∧ false = false ∧ RetP R (.bool false) m22))) (
 (decide ((((x3n : Nat) : Int) : Int) ≤ 2)) = false ∧ false = false ∧ false = false ∧ false = false ∧ false = false ∧ false = false ∧ RetP R (.bool false) m22)))) :
 vcS Try.prog w0 qs5 (sub c5 [1, 1, 0, 1, 0]) σ m (blockS 0 (thenS (fun σ m => vcS Try.prog w0 qs5 (sub c5 [1, 1, 1]) σ m (retQ Try.prog Try.f5 R)) (retQ Try.prog Try.f5 R))) := by
  rw [show sub c5 [1, 1, 0, 1, 0] = .loop (sub c5 [1, 1, 0, 1, 0, 0]) from by kernel_rfl]
  refine loopQ (fun n0 σ m => σ 1 = .pointer (some ⟨x1, 0, none⟩) ∧ σ 3 = .slice x3 x3n x3c ∧ σ 9 = .slice x9 x9n x9c ∧ σ 10 = .int .i64 x10 ∧ okI .i64 (σ 11) = true ∧ I0 n0 (vI (σ 11)) m) N (fun n0 => (lq5_11010 R x1 x3 x3n x3c x9 x9n x9c x10 I0 E0_0 n0)) ⟨h1, h3, h9, h10, (by rw [h11]; rfl), (by rw [h11]; exact h_0)⟩ ?_ ?_ ?_
  · rintro n0 σ m ⟨kk0, kk1, kk2, kk3, kk4, n', hlt, hI⟩; exact ⟨n', hlt, kk0, kk1, kk2, kk3, kk4, hI⟩
  · intro n0 e σ m hne h
    cases e with
    | normal => exact absurd rfl hne
    | ret => exact h
    | exit id =>
      by_cases e0 : id = 0
      · subst e0
        obtain ⟨kk0, kk1, kk2, kk3, hE⟩ := h
        have es : (upd (upd (upd (upd σ 1 (.pointer (some ⟨x1, 0, none⟩))) 3 (.slice x3 x3n x3c)) 9 (.slice x9 x9n x9c)) 10 (.int .i64 x10)) = σ := by rw [upd_id kk0, upd_id kk1, upd_id kk2, upd_id kk3]
        exact cast (congrArg (fun s => (blockS 0 (thenS (fun σ m => vcS Try.prog w0 qs5 (sub c5 [1, 1, 1]) σ m (retQ Try.prog Try.f5 R)) (retQ Try.prog Try.f5 R))) (.exit 0) s m) es) (cast (by kernel_rfl) (h_e0 σ  m hE))
      · replace h := (if_neg e0 : (if id = 0 then _ else _) = _).mp h
        exact False.elim h
    | _ => exact False.elim h
  · rintro n0 σ m ⟨kk0, kk1, kk2, kk3, kk4, hI⟩
    have es : (upd (upd (upd (upd (upd σ 1 (.pointer (some ⟨x1, 0, none⟩))) 3 (.slice x3 x3n x3c)) 9 (.slice x9 x9n x9c)) 10 (.int .i64 x10)) 11 (.int .i64 (vI (σ 11)))) = σ := by rw [upd_id kk0, upd_id kk1, upd_id kk2, upd_id kk3, upd_id (ok_int kk4)]
    exact cast (congrArg (fun s => vcS Try.prog w0 qs5 (sub c5 [1, 1, 0, 1, 0, 0]) s m (lq5_11010 R x1 x3 x3n x3c x9 x9n x9c x10 I0 E0_0 n0)) es) (cast (by kernel_rfl) (h_s n0 σ (vI (σ 11)) m hI))

/-! 6 delayslot/delayslotlaw03.EffectNone -/
def qs6 : Nat → List (Nat × Nat) := fun i => match i with | 1000003 => [(0, 0)] | _ => []
noncomputable def c6 : Code := bodyOf Try.f6
theorem cf6 (w0 : World) (m : AM) (x0 : Int) (x1 : Int) (x2 : Int) (x3 : Int) (R : Value → AM → Prop) (h :
 IntKind.u8 = IntKind.u8 ∧ (9 : Int) ≠ 0 ∧ IntKind.i64 = IntKind.i64 ∧ IntKind.u8 = IntKind.u8 ∧ (32 : Int) ≠ 0 ∧ IntKind.u8 = IntKind.u8 ∧ (32 : Int) ≠ 0 ∧ true = true ∧ ∀ b1 : Nat, w0.heap.size ≤ b1 → m b1 = none → let m2 := AM.upd m b1 (.cells #[.int .i64 0, .int .i64 0, .int .i64 0, .int .i64 0, .int .i64 0] 23);
 StC w0.heap.size m2 ⟨b1, 0, none⟩ (.int .i64 (IntKind.wrap .i64 (1 + (IntKind.wrap .i64 (Int.tmod x0 9))))) fun m3 =>
 StC w0.heap.size m3 ⟨b1, 1, none⟩ (.int .i64 0) fun m4 =>
 StC w0.heap.size m4 ⟨b1, 2, none⟩ (.int .i64 (IntKind.wrap .i64 (Int.tmod x2 32))) fun m5 =>
 StC w0.heap.size m5 ⟨b1, 3, none⟩ (.int .i64 (IntKind.wrap .i64 (Int.tmod x3 32))) fun m6 =>
 StC w0.heap.size m6 ⟨b1, 4, none⟩ (.int .i64 0) fun m7 =>
 ∃ i8 : Int, m7.cell ⟨b1, 0, none⟩ = some (.int .i64 i8) ∧ 
 IntKind.u8 = IntKind.u8 ∧ (32 : Int) ≠ 0 ∧ ∃ i9 : Int, m7.cell ⟨b1, 3, none⟩ = some (.int .i64 i9) ∧ 
 ∃ i10 : Int, m7.cell ⟨b1, 2, none⟩ = some (.int .i64 i10) ∧ 
 true = true ∧ ∀ b11 : Nat, w0.heap.size ≤ b11 → m7 b11 = none → let m12 := AM.upd m7 b11 (.cells #[.int .i64 0, .int .i64 0, .int .i64 0, .int .i64 0, .int .i64 0] 23);
 StC w0.heap.size m12 ⟨b11, 0, none⟩ (.int .i64 i8) fun m13 =>
 StC w0.heap.size m13 ⟨b11, 1, none⟩ (.int .i64 (IntKind.wrap .i64 (Int.tmod x1 32))) fun m14 =>
 StC w0.heap.size m14 ⟨b11, 2, none⟩ (.int .i64 i9) fun m15 =>
 StC w0.heap.size m15 ⟨b11, 3, none⟩ (.int .i64 i10) fun m16 =>
 StC w0.heap.size m16 ⟨b11, 4, none⟩ (.int .i64 0) fun m17 =>
 vcS Try.prog w0 qs6 (sub c6 [1, 1, 1, 0]) (upd (upd (upd (upd (upd (upd (upd (upd (upd (upd (upd (upd (upd (upd (upd (upd (upd (upd (upd (upd (upd (upd (upd (upd (argS [.int .u8 x0, .int .u8 x1, .int .u8 x2, .int .u8 x3]) 8 (.bool false)) 14 (.int .u8 x0)) 15 (.int .u8 (Int.tmod x0 9))) 16 (.int .i64 (IntKind.wrap .i64 (Int.tmod x0 9)))) 17 (.int .i64 (IntKind.wrap .i64 (1 + (IntKind.wrap .i64 (Int.tmod x0 9)))))) 18 (.int .u8 x2)) 19 (.int .u8 (Int.tmod x2 32))) 20 (.int .i64 (IntKind.wrap .i64 (Int.tmod x2 32)))) 21 (.int .u8 x3)) 22 (.int .u8 (Int.tmod x3 32))) 23 (.int .i64 (IntKind.wrap .i64 (Int.tmod x3 32)))) 24 (.agg #[.int .i64 (IntKind.wrap .i64 (1 + (IntKind.wrap .i64 (Int.tmod x0 9)))), .int .i64 0, .int .i64 (IntKind.wrap .i64 (Int.tmod x2 32)), .int .i64 (IntKind.wrap .i64 (Int.tmod x3 32)), .int .i64 0])) 9 (.pointer (some ⟨b1, 0, none⟩))) 25 (.pointer (some ⟨b1, 0, none⟩))) 26 (.int .i64 i8)) 27 (.int .u8 x1)) 28 (.int .u8 (Int.tmod x1 32))) 29 (.int .i64 (IntKind.wrap .i64 (Int.tmod x1 32)))) 30 (.pointer (some ⟨b1, 3, none⟩))) 31 (.int .i64 i9)) 32 (.pointer (some ⟨b1, 2, none⟩))) 33 (.int .i64 i10)) 34 (.agg #[.int .i64 i8, .int .i64 (IntKind.wrap .i64 (Int.tmod x1 32)), .int .i64 i9, .int .i64 i10, .int .i64 0])) 10 (.pointer (some ⟨b11, 0, none⟩))) m17 (thenS (fun σ m => vcS Try.prog w0 qs6 (sub c6 [1, 1, 1, 1]) σ m (retQ Try.prog Try.f6 R)) (retQ Try.prog Try.f6 R))) : CallsA Try.prog w0 6 #[.int .u8 x0, .int .u8 x1, .int .u8 x2, .int .u8 x3] m R :=
  callsA_of (c := c6) (args := [.int .u8 x0, .int .u8 x1, .int .u8 x2, .int .u8 x3]) (by kernel_rfl) Try.func6 (by kernel_rfl) qs6 (by kernel_rfl) (by kernel_rfl) (cast (by kernel_rfl) h)
theorem vr6_1110 (w0 : World) (m : AM) (σ : Sg) (R : Value → AM → Prop)  (x1 : Int) (x9 : Nat) (x10 : Nat) (K : Option Addr → Nat → Nat → Option Addr → Nat → Nat → AM → Prop) (h1 : σ 1 = .int .u8 x1) (h9 : σ 9 = .pointer (some ⟨x9, 0, none⟩)) (h10 : σ 10 = .pointer (some ⟨x10, 0, none⟩))
 (h_t : 
 ∃ i18 : Int, m.cell ⟨x9, 0, none⟩ = some (.int .i64 i18) ∧ ∃ i19 : Int, m.cell ⟨x9, 1, none⟩ = some (.int .i64 i19) ∧ ∃ i20 : Int, m.cell ⟨x9, 2, none⟩ = some (.int .i64 i20) ∧ ∃ i21 : Int, m.cell ⟨x9, 3, none⟩ = some (.int .i64 i21) ∧ ∃ i22 : Int, m.cell ⟨x9, 4, none⟩ = some (.int .i64 i22) ∧ 
 (CallsA Try.prog w0 21 #[.agg #[.int .i64 i18, .int .i64 i19, .int .i64 i20, .int .i64 i21, .int .i64 i22]] m fun r26 m27 =>
 ∃ (A23 : Option Addr) (n24 c25 : Nat), r26 = .slice A23 n24 c25 ∧ ∃ i28 : Int, m27.cell ⟨x10, 0, none⟩ = some (.int .i64 i28) ∧ ∃ i29 : Int, m27.cell ⟨x10, 1, none⟩ = some (.int .i64 i29) ∧ ∃ i30 : Int, m27.cell ⟨x10, 2, none⟩ = some (.int .i64 i30) ∧ ∃ i31 : Int, m27.cell ⟨x10, 3, none⟩ = some (.int .i64 i31) ∧ ∃ i32 : Int, m27.cell ⟨x10, 4, none⟩ = some (.int .i64 i32) ∧ 
 CallsA Try.prog w0 21 #[.agg #[.int .i64 i28, .int .i64 i29, .int .i64 i30, .int .i64 i31, .int .i64 i32]] m27 fun r36 m37 =>
 ∃ (A33 : Option Addr) (n34 c35 : Nat), r36 = .slice A33 n34 c35 ∧ true = true ∧ (.int .u8 x1 : Value) = .int .u8 x1 ∧ (.pointer (some ⟨x9, 0, none⟩) : Value) = .pointer (some ⟨x9, 0, none⟩) ∧ (.pointer (some ⟨x10, 0, none⟩) : Value) = .pointer (some ⟨x10, 0, none⟩) ∧ true = true ∧ true = true ∧ K A23 n24 c25 A33 n34 c35 m37) ∧
 (∃ i38 : Int, m.cell ⟨x10, 0, none⟩ = some (.int .i64 i38) ∧ ∃ i39 : Int, m.cell ⟨x10, 1, none⟩ = some (.int .i64 i39) ∧ ∃ i40 : Int, m.cell ⟨x10, 2, none⟩ = some (.int .i64 i40) ∧ ∃ i41 : Int, m.cell ⟨x10, 3, none⟩ = some (.int .i64 i41) ∧ ∃ i42 : Int, m.cell ⟨x10, 4, none⟩ = some (.int .i64 i42) ∧ 
 CallsA Try.prog w0 21 #[.agg #[.int .i64 i18, .int .i64 i19, .int .i64 i20, .int .i64 i21, .int .i64 i22]] m fun r46 m47 =>
 ∃ (A43 : Option Addr) (n44 c45 : Nat), r46 = .slice A43 n44 c45 ∧ CallsA Try.prog w0 21 #[.agg #[.int .i64 i38, .int .i64 i39, .int .i64 i40, .int .i64 i41, .int .i64 i42]] m47 fun r51 m52 =>
 ∃ (A48 : Option Addr) (n49 c50 : Nat), r51 = .slice A48 n49 c50 ∧ true = true ∧ (.int .u8 x1 : Value) = .int .u8 x1 ∧ (.pointer (some ⟨x9, 0, none⟩) : Value) = .pointer (some ⟨x9, 0, none⟩) ∧ (.pointer (some ⟨x10, 0, none⟩) : Value) = .pointer (some ⟨x10, 0, none⟩) ∧ true = true ∧ true = true ∧ K A43 n44 c45 A48 n49 c50 m52))
 (h_k : ∀ (σ : Sg) (y11 : Option Addr) (y11n : Nat) (y11c : Nat) (y12 : Option Addr) (y12n : Nat) (y12c : Nat) (m : AM), K y11 y11n y11c y12 y12n y12c m → (
 IntKind.i64 = IntKind.i64 ∧ (bcase ((((y11n : Nat) : Int) : Int) != ((y12n : Nat) : Int)) (
 RetP R (.bool false) m) (
 vcS Try.prog w0 qs6 (sub c6 [1, 1, 1, 1, 1, 0, 1, 0]) (upd (upd (upd (upd (upd (upd (upd (upd (upd (upd (upd (upd (upd σ 1 (.int .u8 x1)) 9 (.pointer (some ⟨x9, 0, none⟩))) 10 (.pointer (some ⟨x10, 0, none⟩))) 11 (.slice y11 y11n y11c)) 12 (.slice y12 y12n y12c)) 39 (.slice y11 y11n y11c)) 40 (.int .i64 ((y11n : Nat) : Int))) 41 (.slice y12 y12n y12c)) 42 (.int .i64 ((y12n : Nat) : Int))) 43 (.bool ((((y11n : Nat) : Int) : Int) != ((y12n : Nat) : Int)))) 44 (.slice y11 y11n y11c)) 45 (.int .i64 ((y11n : Nat) : Int))) 46 (.int .i64 0)) m (blockS 0 (thenS (fun σ m => vcS Try.prog w0 qs6 (sub c6 [1, 1, 1, 1, 1, 1]) σ m (retQ Try.prog Try.f6 R)) (retQ Try.prog Try.f6 R))))))) :
 vcS Try.prog w0 qs6 (sub c6 [1, 1, 1, 0]) σ m (thenS (fun σ m => vcS Try.prog w0 qs6 (sub c6 [1, 1, 1, 1]) σ m (retQ Try.prog Try.f6 R)) (retQ Try.prog Try.f6 R)) := by
  have es0 : (upd (upd (upd σ 1 (.int .u8 x1)) 9 (.pointer (some ⟨x9, 0, none⟩))) 10 (.pointer (some ⟨x10, 0, none⟩))) = σ := by rw [upd_id h1, upd_id h9, upd_id h10]
  refine vcS_cut (Q0 := (fun σ m => σ 1 = .int .u8 x1 ∧ σ 9 = .pointer (some ⟨x9, 0, none⟩) ∧ σ 10 = .pointer (some ⟨x10, 0, none⟩) ∧ okS (σ 11) = true ∧ okS (σ 12) = true ∧ K (vSA (σ 11)) (vSN (σ 11)) (vSC (σ 11)) (vSA (σ 12)) (vSN (σ 12)) (vSC (σ 12)) m)) (by kernel_rfl) (cast (congrArg (fun s => trC Try.prog w0 qs6 (sub c6 [1, 1, 1, 0]) s m (fun σ m => σ 1 = .int .u8 x1 ∧ σ 9 = .pointer (some ⟨x9, 0, none⟩) ∧ σ 10 = .pointer (some ⟨x10, 0, none⟩) ∧ okS (σ 11) = true ∧ okS (σ 12) = true ∧ K (vSA (σ 11)) (vSN (σ 11)) (vSC (σ 11)) (vSA (σ 12)) (vSN (σ 12)) (vSC (σ 12)) m)) es0) (cast (by kernel_rfl) h_t)) ?_
  rintro σ m ⟨kk0, kk1, kk2, kk3, kk4, hK⟩
  have es : (upd (upd (upd (upd (upd σ 1 (.int .u8 x1)) 9 (.pointer (some ⟨x9, 0, none⟩))) 10 (.pointer (some ⟨x10, 0, none⟩))) 11 (.slice (vSA (σ 11)) (vSN (σ 11)) (vSC (σ 11)))) 12 (.slice (vSA (σ 12)) (vSN (σ 12)) (vSC (σ 12)))) = σ := by rw [upd_id kk0, upd_id kk1, upd_id kk2, upd_id (ok_slice kk3), upd_id (ok_slice kk4)]
  exact cast (congrArg (fun s => (thenS (fun σ m => vcS Try.prog w0 qs6 (sub c6 [1, 1, 1, 1]) σ m (retQ Try.prog Try.f6 R)) (retQ Try.prog Try.f6 R)) .normal s m) es) (cast (by kernel_rfl) (h_k σ (vSA (σ 11)) (vSN (σ 11)) (vSC (σ 11)) (vSA (σ 12)) (vSN (σ 12)) (vSC (σ 12)) m hK))
def lq6_11111010 (R : Value → AM → Prop) (x1 : Int) (x9 : Nat) (x10 : Nat) (x11 : Option Addr) (x11n x11c : Nat) (x12 : Option Addr) (x12n x12c : Nat) (x45 : Int) (I0 : Nat → Int → AM → Prop) (E0_0 : AM → Prop) (n0 : Nat) : Exit → Sg → AM → Prop
  | .normal, σ, m => σ 1 = .int .u8 x1 ∧ σ 9 = .pointer (some ⟨x9, 0, none⟩) ∧ σ 10 = .pointer (some ⟨x10, 0, none⟩) ∧ σ 11 = .slice x11 x11n x11c ∧ σ 12 = .slice x12 x12n x12c ∧ σ 45 = .int .i64 x45 ∧ okI .i64 (σ 46) = true ∧ ∃ n' : Nat, n' < n0 ∧ I0 n' (vI (σ 46)) m
  | .exit id, σ, m => if id = 0 then σ 1 = .int .u8 x1 ∧ σ 9 = .pointer (some ⟨x9, 0, none⟩) ∧ σ 10 = .pointer (some ⟨x10, 0, none⟩) ∧ σ 11 = .slice x11 x11n x11c ∧ σ 12 = .slice x12 x12n x12c ∧ σ 45 = .int .i64 x45 ∧ E0_0  m else False
  | .ret, σ, m => retQ Try.prog Try.f6 R .ret σ m
  | _, _, _ => False
theorem vl6_11111010 (w0 : World) (m : AM) (σ : Sg) (R : Value → AM → Prop)  (x1 : Int) (x9 : Nat) (x10 : Nat) (x11 : Option Addr) (x11n x11c : Nat) (x12 : Option Addr) (x12n x12c : Nat) (x45 : Int) (x46 : Int) (I0 : Nat → Int → AM → Prop) (E0_0 : AM → Prop) (N : Nat) (h1 : σ 1 = .int .u8 x1) (h9 : σ 9 = .pointer (some ⟨x9, 0, none⟩)) (h10 : σ 10 = .pointer (some ⟨x10, 0, none⟩)) (h11 : σ 11 = .slice x11 x11n x11c) (h12 : σ 12 = .slice x12 x12n x12c) (h45 : σ 45 = .int .i64 x45) (h46 : σ 46 = .int .i64 x46)
 (h_0 : I0 N x46 m)
 (h_s : ∀ (n0 : Nat) (σ : Sg) (x46 : Int) (m : AM), I0 n0 x46 m → (
 IntKind.i64 = IntKind.i64 ∧ (bcase (decide ((x46 : Int) < x45)) (
 ((0 : Int) ≤ x46 ∧ x46 < ((x11n : Nat) : Int)) ∧ nilO x11 fun a53 =>
 ∃ i54 : Int, m.cell (a53.add ((x46 : Int).toNat * 1)) = some (.int .i64 i54) ∧ 
 ((0 : Int) ≤ x46 ∧ x46 < ((x12n : Nat) : Int)) ∧ nilO x12 fun a55 =>
 ∃ i56 : Int, m.cell (a55.add ((x46 : Int).toNat * 1)) = some (.int .i64 i56) ∧ 
 IntKind.i64 = IntKind.i64 ∧ (bcase ((i54 : Int) != i56) (
 RetP R (.bool false) m) (
 IntKind.i64 = IntKind.i64 ∧ (.int .u8 x1 : Value) = .int .u8 x1 ∧ (.pointer (some ⟨x9, 0, none⟩) : Value) = .pointer (some ⟨x9, 0, none⟩) ∧ (.pointer (some ⟨x10, 0, none⟩) : Value) = .pointer (some ⟨x10, 0, none⟩) ∧ (.slice x11 x11n x11c : Value) = .slice x11 x11n x11c ∧ (.slice x12 x12n x12c : Value) = .slice x12 x12n x12c ∧ (.int .i64 x45 : Value) = .int .i64 x45 ∧ true = true ∧ ∃ n' : Nat, n' < n0 ∧ I0 n' (IntKind.wrap .i64 (x46 + 1)) m))) (
 (.int .u8 x1 : Value) = .int .u8 x1 ∧ (.pointer (some ⟨x9, 0, none⟩) : Value) = .pointer (some ⟨x9, 0, none⟩) ∧ (.pointer (some ⟨x10, 0, none⟩) : Value) = .pointer (some ⟨x10, 0, none⟩) ∧ (.slice x11 x11n x11c : Value) = .slice x11 x11n x11c ∧ (.slice x12 x12n x12c : Value) = .slice x12 x12n x12c ∧ (.int .i64 x45 : Value) = .int .i64 x45 ∧ E0_0  m))))
 (h_e0 : ∀ (σ : Sg)  (m : AM), E0_0  m → (
 ∃ i57 : Int, m.cell ⟨x9, 0, none⟩ = some (.int .i64 i57) ∧ ∃ i58 : Int, m.cell ⟨x9, 1, none⟩ = some (.int .i64 i58) ∧ ∃ i59 : Int, m.cell ⟨x9, 2, none⟩ = some (.int .i64 i59) ∧ ∃ i60 : Int, m.cell ⟨x9, 3, none⟩ = some (.int .i64 i60) ∧ ∃ i61 : Int, m.cell ⟨x9, 4, none⟩ = some (.int .i64 i61) ∧ 
 CallsA Try.prog w0 25 #[.agg #[.int .i64 i57, .int .i64 i58, .int .i64 i59, .int .i64 i60, .int .i64 i61]] m fun r63 m64 =>
 ∃ i62 : Int, r63 = .int .i64 i62 ∧ IntKind.i64 = IntKind.i64 ∧ (bcase ((i62 : Int) == 0) (
 ∃ i65 : Int, m64.cell ⟨x10, 0, none⟩ = some (.int .i64 i65) ∧ ∃ i66 : Int, m64.cell ⟨x10, 1, none⟩ = some (.int .i64 i66) ∧ ∃ i67 : Int, m64.cell ⟨x10, 2, none⟩ = some (.int .i64 i67) ∧ ∃ i68 : Int, m64.cell ⟨x10, 3, none⟩ = some (.int .i64 i68) ∧ ∃ i69 : Int, m64.cell ⟨x10, 4, none⟩ = some (.int .i64 i69) ∧ 
 CallsA Try.prog w0 25 #[.agg #[.int .i64 i65, .int .i64 i66, .int .i64 i67, .int .i64 i68, .int .i64 i69]] m64 fun r71 m72 =>
 ∃ i70 : Int, r71 = .int .i64 i70 ∧ IntKind.u8 = IntKind.u8 ∧ (32 : Int) ≠ 0 ∧ IntKind.i64 = IntKind.i64 ∧ (bcase (bif (i62 : Int) == 0 then (i70 : Int) == (IntKind.wrap .i64 (Int.tmod x1 32)) else false) (
 CallsA Try.prog w0 26 #[] m72 fun r74 m75 =>
 ∃ t73 : Bool, r74 = .bool t73 ∧ RetP R (.bool (bif bif (i62 : Int) == 0 then (i70 : Int) == (IntKind.wrap .i64 (Int.tmod x1 32)) else false then t73 else false)) m75) (
 (bif (i62 : Int) == 0 then (i70 : Int) == (IntKind.wrap .i64 (Int.tmod x1 32)) else false) = false ∧ RetP R (.bool false) m72))) (
 ((i62 : Int) == 0) = false ∧ false = false ∧ RetP R (.bool false) m64)))) :
 vcS Try.prog w0 qs6 (sub c6 [1, 1, 1, 1, 1, 0, 1, 0]) σ m (blockS 0 (thenS (fun σ m => vcS Try.prog w0 qs6 (sub c6 [1, 1, 1, 1, 1, 1]) σ m (retQ Try.prog Try.f6 R)) (retQ Try.prog Try.f6 R))) := by
  rw [show sub c6 [1, 1, 1, 1, 1, 0, 1, 0] = .loop (sub c6 [1, 1, 1, 1, 1, 0, 1, 0, 0]) from by kernel_rfl]
  refine loopQ (fun n0 σ m => σ 1 = .int .u8 x1 ∧ σ 9 = .pointer (some ⟨x9, 0, none⟩) ∧ σ 10 = .pointer (some ⟨x10, 0, none⟩) ∧ σ 11 = .slice x11 x11n x11c ∧ σ 12 = .slice x12 x12n x12c ∧ σ 45 = .int .i64 x45 ∧ okI .i64 (σ 46) = true ∧ I0 n0 (vI (σ 46)) m) N (fun n0 => (lq6_11111010 R x1 x9 x10 x11 x11n x11c x12 x12n x12c x45 I0 E0_0 n0)) ⟨h1, h9, h10, h11, h12, h45, (by rw [h46]; rfl), (by rw [h46]; exact h_0)⟩ ?_ ?_ ?_
  · rintro n0 σ m ⟨kk0, kk1, kk2, kk3, kk4, kk5, kk6, n', hlt, hI⟩; exact ⟨n', hlt, kk0, kk1, kk2, kk3, kk4, kk5, kk6, hI⟩
  · intro n0 e σ m hne h
    cases e with
    | normal => exact absurd rfl hne
    | ret => exact h
    | exit id =>
      by_cases e0 : id = 0
      · subst e0
        obtain ⟨kk0, kk1, kk2, kk3, kk4, kk5, hE⟩ := h
        have es : (upd (upd (upd (upd (upd (upd σ 1 (.int .u8 x1)) 9 (.pointer (some ⟨x9, 0, none⟩))) 10 (.pointer (some ⟨x10, 0, none⟩))) 11 (.slice x11 x11n x11c)) 12 (.slice x12 x12n x12c)) 45 (.int .i64 x45)) = σ := by rw [upd_id kk0, upd_id kk1, upd_id kk2, upd_id kk3, upd_id kk4, upd_id kk5]
        exact cast (congrArg (fun s => (blockS 0 (thenS (fun σ m => vcS Try.prog w0 qs6 (sub c6 [1, 1, 1, 1, 1, 1]) σ m (retQ Try.prog Try.f6 R)) (retQ Try.prog Try.f6 R))) (.exit 0) s m) es) (cast (by kernel_rfl) (h_e0 σ  m hE))
      · replace h := (if_neg e0 : (if id = 0 then _ else _) = _).mp h
        exact False.elim h
    | _ => exact False.elim h
  · rintro n0 σ m ⟨kk0, kk1, kk2, kk3, kk4, kk5, kk6, hI⟩
    have es : (upd (upd (upd (upd (upd (upd (upd σ 1 (.int .u8 x1)) 9 (.pointer (some ⟨x9, 0, none⟩))) 10 (.pointer (some ⟨x10, 0, none⟩))) 11 (.slice x11 x11n x11c)) 12 (.slice x12 x12n x12c)) 45 (.int .i64 x45)) 46 (.int .i64 (vI (σ 46)))) = σ := by rw [upd_id kk0, upd_id kk1, upd_id kk2, upd_id kk3, upd_id kk4, upd_id kk5, upd_id (ok_int kk6)]
    exact cast (congrArg (fun s => vcS Try.prog w0 qs6 (sub c6 [1, 1, 1, 1, 1, 0, 1, 0, 0]) s m (lq6_11111010 R x1 x9 x10 x11 x11n x11c x12 x12n x12c x45 I0 E0_0 n0)) es) (cast (by kernel_rfl) (h_s n0 σ (vI (σ 46)) m hI))

/-! 7 delayslot/delayslotlaw03.EffectStops -/
def qs7 : Nat → List (Nat × Nat) := fun i => match i with | _ => []
noncomputable def c7 : Code := bodyOf Try.f7
theorem cf7 (w0 : World) (m : AM) (x0_0 : Int) (x0_1 : Int) (x0_2 : Int) (x0_3 : Int) (x0_4 : Int) (x1 : Int) (R : Value → AM → Prop) (h :
 ∀ b1 : Nat, w0.heap.size ≤ b1 → m b1 = none → let m2 := AM.upd m b1 (.cells #[.int .i64 x0_0, .int .i64 x0_1, .int .i64 x0_2, .int .i64 x0_3, .int .i64 x0_4] 23);
 StC w0.heap.size m2 ⟨b1, 1, none⟩ (.int .i64 (-1)) fun m3 =>
 ∃ i4 : Int, m3.cell ⟨b1, 0, none⟩ = some (.int .i64 i4) ∧ ∃ i5 : Int, m3.cell ⟨b1, 1, none⟩ = some (.int .i64 i5) ∧ ∃ i6 : Int, m3.cell ⟨b1, 2, none⟩ = some (.int .i64 i6) ∧ ∃ i7 : Int, m3.cell ⟨b1, 3, none⟩ = some (.int .i64 i7) ∧ ∃ i8 : Int, m3.cell ⟨b1, 4, none⟩ = some (.int .i64 i8) ∧ 
 CallsA Try.prog w0 21 #[.agg #[.int .i64 i4, .int .i64 i5, .int .i64 i6, .int .i64 i7, .int .i64 i8]] m3 fun r12 m13 =>
 ∃ (A9 : Option Addr) (n10 c11 : Nat), r12 = .slice A9 n10 c11 ∧ IntKind.i64 = IntKind.i64 ∧ (bcase ((((n10 : Nat) : Int) : Int) == 0) (
 ∃ i14 : Int, m13.cell ⟨b1, 0, none⟩ = some (.int .i64 i14) ∧ ∃ i15 : Int, m13.cell ⟨b1, 1, none⟩ = some (.int .i64 i15) ∧ ∃ i16 : Int, m13.cell ⟨b1, 2, none⟩ = some (.int .i64 i16) ∧ ∃ i17 : Int, m13.cell ⟨b1, 3, none⟩ = some (.int .i64 i17) ∧ ∃ i18 : Int, m13.cell ⟨b1, 4, none⟩ = some (.int .i64 i18) ∧ 
 CallsA Try.prog w0 25 #[.agg #[.int .i64 i14, .int .i64 i15, .int .i64 i16, .int .i64 i17, .int .i64 i18]] m13 fun r20 m21 =>
 ∃ i19 : Int, r20 = .int .i64 i19 ∧ IntKind.i64 = IntKind.i64 ∧ (bcase (bif (((n10 : Nat) : Int) : Int) == 0 then (i19 : Int) == 0 else false) (
 ∃ i22 : Int, m21.cell ⟨b1, 0, none⟩ = some (.int .i64 i22) ∧ ∃ i23 : Int, m21.cell ⟨b1, 1, none⟩ = some (.int .i64 i23) ∧ ∃ i24 : Int, m21.cell ⟨b1, 2, none⟩ = some (.int .i64 i24) ∧ ∃ i25 : Int, m21.cell ⟨b1, 3, none⟩ = some (.int .i64 i25) ∧ ∃ i26 : Int, m21.cell ⟨b1, 4, none⟩ = some (.int .i64 i26) ∧ 
 CallsA Try.prog w0 27 #[.agg #[.int .i64 i22, .int .i64 i23, .int .i64 i24, .int .i64 i25, .int .i64 i26]] m21 fun r28 m29 =>
 ∃ t27 : Bool, r28 = .bool t27 ∧ (bcase (bif bif (((n10 : Nat) : Int) : Int) == 0 then (i19 : Int) == 0 else false then !t27 else false) (
 ∃ i30 : Int, m29.cell ⟨b1, 0, none⟩ = some (.int .i64 i30) ∧ ∃ i31 : Int, m29.cell ⟨b1, 1, none⟩ = some (.int .i64 i31) ∧ ∃ i32 : Int, m29.cell ⟨b1, 2, none⟩ = some (.int .i64 i32) ∧ ∃ i33 : Int, m29.cell ⟨b1, 3, none⟩ = some (.int .i64 i33) ∧ ∃ i34 : Int, m29.cell ⟨b1, 4, none⟩ = some (.int .i64 i34) ∧ 
 CallsA Try.prog w0 29 #[.agg #[.int .i64 i30, .int .i64 i31, .int .i64 i32, .int .i64 i33, .int .i64 i34]] m29 fun r36 m37 =>
 ∃ t35 : Bool, r36 = .bool t35 ∧ (bcase (bif bif bif (((n10 : Nat) : Int) : Int) == 0 then (i19 : Int) == 0 else false then !t27 else false then !t35 else false) (
 ∃ i38 : Int, m37.cell ⟨b1, 0, none⟩ = some (.int .i64 i38) ∧ ∃ i39 : Int, m37.cell ⟨b1, 1, none⟩ = some (.int .i64 i39) ∧ ∃ i40 : Int, m37.cell ⟨b1, 2, none⟩ = some (.int .i64 i40) ∧ ∃ i41 : Int, m37.cell ⟨b1, 3, none⟩ = some (.int .i64 i41) ∧ ∃ i42 : Int, m37.cell ⟨b1, 4, none⟩ = some (.int .i64 i42) ∧ 
 CallsA Try.prog w0 31 #[.agg #[.int .i64 i38, .int .i64 i39, .int .i64 i40, .int .i64 i41, .int .i64 i42]] m37 fun r44 m45 =>
 ∃ t43 : Bool, r44 = .bool t43 ∧ (bcase (bif bif bif bif (((n10 : Nat) : Int) : Int) == 0 then (i19 : Int) == 0 else false then !t27 else false then !t35 else false then !t43 else false) (
 ∃ i46 : Int, m45.cell ⟨b1, 0, none⟩ = some (.int .i64 i46) ∧ ∃ i47 : Int, m45.cell ⟨b1, 1, none⟩ = some (.int .i64 i47) ∧ ∃ i48 : Int, m45.cell ⟨b1, 2, none⟩ = some (.int .i64 i48) ∧ ∃ i49 : Int, m45.cell ⟨b1, 3, none⟩ = some (.int .i64 i49) ∧ ∃ i50 : Int, m45.cell ⟨b1, 4, none⟩ = some (.int .i64 i50) ∧ 
 CallsA Try.prog w0 23 #[.agg #[.int .i64 i46, .int .i64 i47, .int .i64 i48, .int .i64 i49, .int .i64 i50], .int .i64 x1] m45 fun r52 m53 =>
 ∃ t51 : Bool, r52 = .bool t51 ∧ (bcase (bif bif bif bif bif (((n10 : Nat) : Int) : Int) == 0 then (i19 : Int) == 0 else false then !t27 else false then !t35 else false then !t43 else false then !t51 else false) (
 CallsA Try.prog w0 26 #[] m53 fun r55 m56 =>
 ∃ t54 : Bool, r55 = .bool t54 ∧ RetP R (.bool (bif bif bif bif bif bif (((n10 : Nat) : Int) : Int) == 0 then (i19 : Int) == 0 else false then !t27 else false then !t35 else false then !t43 else false then !t51 else false then t54 else false)) m56) (
 (bif bif bif bif bif (((n10 : Nat) : Int) : Int) == 0 then (i19 : Int) == 0 else false then !t27 else false then !t35 else false then !t43 else false then !t51 else false) = false ∧ RetP R (.bool false) m53))) (
 (bif bif bif bif (((n10 : Nat) : Int) : Int) == 0 then (i19 : Int) == 0 else false then !t27 else false then !t35 else false then !t43 else false) = false ∧ false = false ∧ RetP R (.bool false) m45))) (
 (bif bif bif (((n10 : Nat) : Int) : Int) == 0 then (i19 : Int) == 0 else false then !t27 else false then !t35 else false) = false ∧ false = false ∧ false = false ∧ RetP R (.bool false) m37))) (
 (bif bif (((n10 : Nat) : Int) : Int) == 0 then (i19 : Int) == 0 else false then !t27 else false) = false ∧ false = false ∧ false = false ∧ false = false ∧ RetP R (.bool false) m29))) (
 (bif (((n10 : Nat) : Int) : Int) == 0 then (i19 : Int) == 0 else false) = false ∧ false = false ∧ false = false ∧ false = false ∧ false = false ∧ RetP R (.bool false) m21))) (
 ((((n10 : Nat) : Int) : Int) == 0) = false ∧ false = false ∧ false = false ∧ false = false ∧ false = false ∧ false = false ∧ RetP R (.bool false) m13))) : CallsA Try.prog w0 7 #[.agg #[.int .i64 x0_0, .int .i64 x0_1, .int .i64 x0_2, .int .i64 x0_3, .int .i64 x0_4], .int .i64 x1] m R :=
  callsA_of (c := c7) (args := [.agg #[.int .i64 x0_0, .int .i64 x0_1, .int .i64 x0_2, .int .i64 x0_3, .int .i64 x0_4], .int .i64 x1]) (by kernel_rfl) Try.func7 (by kernel_rfl) qs7 (by kernel_rfl) (by kernel_rfl) (cast (by kernel_rfl) h)
end Go.Proofs.Ythocajnpofdbmaa.V
