/- Ythocajnpofdbmaa: a text of our own, by an AI agent: VLaw3oG -/
import Derived.Test.YthocajnpofdbmaaCore5
import Derived.Test.YthocajnpofdbmaaTabG
namespace Go.Proofs.Ythocajnpofdbmaa.V
open Go Go.Alog Go.Proofs.Ythocajnpofdbmaa.T
set_option linter.unusedVariables false
set_option maxRecDepth 100000

/-! 8 delayslot/delayslotlaw03.EffectOwn -/
def qs8 : Nat → List (Nat × Nat) := fun i => match i with | 8 => [(4, 2)] | _ => []
noncomputable def c8 : Code := bodyOf Try.f8
theorem cf8 (w0 : World) (m : AM) (x0_0 : Int) (x0_1 : Int) (x0_2 : Int) (x0_3 : Int) (x0_4 : Int) (R : Value → AM → Prop) (h :
 ∀ b1 : Nat, w0.heap.size ≤ b1 → m b1 = none → let m2 := AM.upd m b1 (.cells #[.int .i64 x0_0, .int .i64 x0_1, .int .i64 x0_2, .int .i64 x0_3, .int .i64 x0_4] 23);
 vcS Try.prog w0 qs8 (sub c8 [1, 0, 1, 0]) (upd (upd (upd (argS [.agg #[.int .i64 x0_0, .int .i64 x0_1, .int .i64 x0_2, .int .i64 x0_3, .int .i64 x0_4]]) 1 (.pointer (some ⟨b1, 0, none⟩))) 2 (.bool false)) 5 (.int .i64 0)) m2 (blockS 0 (thenS (fun σ m => vcS Try.prog w0 qs8 (sub c8 [1, 1]) σ m (retQ Try.prog Try.f8 R)) (retQ Try.prog Try.f8 R)))) : CallsA Try.prog w0 8 #[.agg #[.int .i64 x0_0, .int .i64 x0_1, .int .i64 x0_2, .int .i64 x0_3, .int .i64 x0_4]] m R :=
  callsA_of (c := c8) (args := [.agg #[.int .i64 x0_0, .int .i64 x0_1, .int .i64 x0_2, .int .i64 x0_3, .int .i64 x0_4]]) (by kernel_rfl) Try.func8 (by kernel_rfl) qs8 (by kernel_rfl) (by kernel_rfl) (cast (by kernel_rfl) h)
def lq8_1010 (R : Value → AM → Prop) (x1 : Nat) (I0 : Nat → Int → AM → Prop) (E0_0 : AM → Prop) (n0 : Nat) : Exit → Sg → AM → Prop
  | .normal, σ, m => σ 1 = .pointer (some ⟨x1, 0, none⟩) ∧ okI .i64 (σ 5) = true ∧ ∃ n' : Nat, n' < n0 ∧ I0 n' (vI (σ 5)) m
  | .exit id, σ, m => if id = 0 then σ 1 = .pointer (some ⟨x1, 0, none⟩) ∧ E0_0  m else False
  | .ret, σ, m => retQ Try.prog Try.f8 R .ret σ m
  | _, _, _ => False
theorem vl8_1010 (w0 : World) (m : AM) (σ : Sg) (R : Value → AM → Prop)  (x1 : Nat) (x5 : Int) (I0 : Nat → Int → AM → Prop) (E0_0 : AM → Prop) (N : Nat) (h1 : σ 1 = .pointer (some ⟨x1, 0, none⟩)) (h5 : σ 5 = .int .i64 x5)
 (h_0 : I0 N x5 m)
 (h_s : ∀ (n0 : Nat) (σ : Sg) (x5 : Int) (m : AM), I0 n0 x5 m → (
 IntKind.i64 = IntKind.i64 ∧ (bcase (decide ((x5 : Int) < 32)) (
 ∃ i3 : Int, m.cell ⟨x1, 0, none⟩ = some (.int .i64 i3) ∧ ∃ i4 : Int, m.cell ⟨x1, 1, none⟩ = some (.int .i64 i4) ∧ ∃ i5 : Int, m.cell ⟨x1, 2, none⟩ = some (.int .i64 i5) ∧ ∃ i6 : Int, m.cell ⟨x1, 3, none⟩ = some (.int .i64 i6) ∧ ∃ i7 : Int, m.cell ⟨x1, 4, none⟩ = some (.int .i64 i7) ∧ 
 CallsA Try.prog w0 23 #[.agg #[.int .i64 i3, .int .i64 i4, .int .i64 i5, .int .i64 i6, .int .i64 i7], .int .i64 x5] m fun r9 m10 =>
 ∃ t8 : Bool, r9 = .bool t8 ∧ (bcase t8 (
 ∃ i11 : Int, m10.cell ⟨x1, 1, none⟩ = some (.int .i64 i11) ∧ 
 IntKind.i64 = IntKind.i64 ∧ (bcase (bif t8 then (x5 : Int) != i11 else false) (
 ∃ i12 : Int, m10.cell ⟨x1, 2, none⟩ = some (.int .i64 i12) ∧ 
 IntKind.i64 = IntKind.i64 ∧ (bcase (bif bif t8 then (x5 : Int) != i11 else false then (x5 : Int) != i12 else false) (
 ∃ i13 : Int, m10.cell ⟨x1, 3, none⟩ = some (.int .i64 i13) ∧ 
 IntKind.i64 = IntKind.i64 ∧ (bcase (bif bif bif t8 then (x5 : Int) != i11 else false then (x5 : Int) != i12 else false then (x5 : Int) != i13 else false) (
 IntKind.i64 = IntKind.i64 ∧ (bcase (bif bif bif bif t8 then (x5 : Int) != i11 else false then (x5 : Int) != i12 else false then (x5 : Int) != i13 else false then (x5 : Int) != 4 else false) (
 IntKind.i64 = IntKind.i64 ∧ (bcase (bif bif bif bif bif t8 then (x5 : Int) != i11 else false then (x5 : Int) != i12 else false then (x5 : Int) != i13 else false then (x5 : Int) != 4 else false then (x5 : Int) != 31 else false) (
 RetP R (.bool false) m10) (
 IntKind.i64 = IntKind.i64 ∧ (.pointer (some ⟨x1, 0, none⟩) : Value) = .pointer (some ⟨x1, 0, none⟩) ∧ true = true ∧ ∃ n' : Nat, n' < n0 ∧ I0 n' (IntKind.wrap .i64 (x5 + 1)) m10))) (
 (bif bif bif bif t8 then (x5 : Int) != i11 else false then (x5 : Int) != i12 else false then (x5 : Int) != i13 else false then (x5 : Int) != 4 else false) = false ∧ IntKind.i64 = IntKind.i64 ∧ (.pointer (some ⟨x1, 0, none⟩) : Value) = .pointer (some ⟨x1, 0, none⟩) ∧ true = true ∧ ∃ n' : Nat, n' < n0 ∧ I0 n' (IntKind.wrap .i64 (x5 + 1)) m10))) (
 (bif bif bif t8 then (x5 : Int) != i11 else false then (x5 : Int) != i12 else false then (x5 : Int) != i13 else false) = false ∧ false = false ∧ IntKind.i64 = IntKind.i64 ∧ (.pointer (some ⟨x1, 0, none⟩) : Value) = .pointer (some ⟨x1, 0, none⟩) ∧ true = true ∧ ∃ n' : Nat, n' < n0 ∧ I0 n' (IntKind.wrap .i64 (x5 + 1)) m10))) (
 (bif bif t8 then (x5 : Int) != i11 else false then (x5 : Int) != i12 else false) = false ∧ false = false ∧ false = false ∧ IntKind.i64 = IntKind.i64 ∧ (.pointer (some ⟨x1, 0, none⟩) : Value) = .pointer (some ⟨x1, 0, none⟩) ∧ true = true ∧ ∃ n' : Nat, n' < n0 ∧ I0 n' (IntKind.wrap .i64 (x5 + 1)) m10))) (
 (bif t8 then (x5 : Int) != i11 else false) = false ∧ false = false ∧ false = false ∧ false = false ∧ IntKind.i64 = IntKind.i64 ∧ (.pointer (some ⟨x1, 0, none⟩) : Value) = .pointer (some ⟨x1, 0, none⟩) ∧ true = true ∧ ∃ n' : Nat, n' < n0 ∧ I0 n' (IntKind.wrap .i64 (x5 + 1)) m10))) (
 t8 = false ∧ false = false ∧ false = false ∧ false = false ∧ false = false ∧ IntKind.i64 = IntKind.i64 ∧ (.pointer (some ⟨x1, 0, none⟩) : Value) = .pointer (some ⟨x1, 0, none⟩) ∧ true = true ∧ ∃ n' : Nat, n' < n0 ∧ I0 n' (IntKind.wrap .i64 (x5 + 1)) m10))) (
 (.pointer (some ⟨x1, 0, none⟩) : Value) = .pointer (some ⟨x1, 0, none⟩) ∧ E0_0  m))))
 (h_e0 : ∀ (σ : Sg)  (m : AM), E0_0  m → (
 vcS Try.prog w0 qs8 (sub c8 [1, 1]) (upd σ 1 (.pointer (some ⟨x1, 0, none⟩))) m (retQ Try.prog Try.f8 R))) :
 vcS Try.prog w0 qs8 (sub c8 [1, 0, 1, 0]) σ m (blockS 0 (thenS (fun σ m => vcS Try.prog w0 qs8 (sub c8 [1, 1]) σ m (retQ Try.prog Try.f8 R)) (retQ Try.prog Try.f8 R))) := by
  rw [show sub c8 [1, 0, 1, 0] = .loop (sub c8 [1, 0, 1, 0, 0]) from by kernel_rfl]
  refine loopQ (fun n0 σ m => σ 1 = .pointer (some ⟨x1, 0, none⟩) ∧ okI .i64 (σ 5) = true ∧ I0 n0 (vI (σ 5)) m) N (fun n0 => (lq8_1010 R x1 I0 E0_0 n0)) ⟨h1, (by rw [h5]; rfl), (by rw [h5]; exact h_0)⟩ ?_ ?_ ?_
  · rintro n0 σ m ⟨kk0, kk1, n', hlt, hI⟩; exact ⟨n', hlt, kk0, kk1, hI⟩
  · intro n0 e σ m hne h
    cases e with
    | normal => exact absurd rfl hne
    | ret => exact h
    | exit id =>
      by_cases e0 : id = 0
      · subst e0
        obtain ⟨kk0, hE⟩ := h
        have es : (upd σ 1 (.pointer (some ⟨x1, 0, none⟩))) = σ := by rw [upd_id kk0]
        exact cast (congrArg (fun s => (blockS 0 (thenS (fun σ m => vcS Try.prog w0 qs8 (sub c8 [1, 1]) σ m (retQ Try.prog Try.f8 R)) (retQ Try.prog Try.f8 R))) (.exit 0) s m) es) (cast (by kernel_rfl) (h_e0 σ  m hE))
      · replace h := (if_neg e0 : (if id = 0 then _ else _) = _).mp h
        exact False.elim h
    | _ => exact False.elim h
  · rintro n0 σ m ⟨kk0, kk1, hI⟩
    have es : (upd (upd σ 1 (.pointer (some ⟨x1, 0, none⟩))) 5 (.int .i64 (vI (σ 5)))) = σ := by rw [upd_id kk0, upd_id (ok_int kk1)]
    exact cast (congrArg (fun s => vcS Try.prog w0 qs8 (sub c8 [1, 0, 1, 0, 0]) s m (lq8_1010 R x1 I0 E0_0 n0)) es) (cast (by kernel_rfl) (h_s n0 σ (vI (σ 5)) m hI))
theorem vk8_11C (C : Code) (w0 : World) (m : AM) (σ : Sg) (R : Value → AM → Prop)  (x1 : Nat) (h1 : σ 1 = .pointer (some ⟨x1, 0, none⟩)) (h :
 ∃ i14 : Int, m.cell ⟨x1, 0, none⟩ = some (.int .i64 i14) ∧ ∃ i15 : Int, m.cell ⟨x1, 1, none⟩ = some (.int .i64 i15) ∧ ∃ i16 : Int, m.cell ⟨x1, 2, none⟩ = some (.int .i64 i16) ∧ ∃ i17 : Int, m.cell ⟨x1, 3, none⟩ = some (.int .i64 i17) ∧ ∃ i18 : Int, m.cell ⟨x1, 4, none⟩ = some (.int .i64 i18) ∧ 
 CallsA Try.prog w0 33 #[.agg #[.int .i64 i14, .int .i64 i15, .int .i64 i16, .int .i64 i17, .int .i64 i18]] m fun r20 m21 =>
 ∃ t19 : Bool, r20 = .bool t19 ∧ (bcase t19 (
 ∃ i22 : Int, m21.cell ⟨x1, 0, none⟩ = some (.int .i64 i22) ∧ ∃ i23 : Int, m21.cell ⟨x1, 1, none⟩ = some (.int .i64 i23) ∧ ∃ i24 : Int, m21.cell ⟨x1, 2, none⟩ = some (.int .i64 i24) ∧ ∃ i25 : Int, m21.cell ⟨x1, 3, none⟩ = some (.int .i64 i25) ∧ ∃ i26 : Int, m21.cell ⟨x1, 4, none⟩ = some (.int .i64 i26) ∧ 
 CallsA Try.prog w0 27 #[.agg #[.int .i64 i22, .int .i64 i23, .int .i64 i24, .int .i64 i25, .int .i64 i26]] m21 fun r28 m29 =>
 ∃ t27 : Bool, r28 = .bool t27 ∧ (bcase (bif t19 then !t27 else false) (
 ∃ i30 : Int, m29.cell ⟨x1, 0, none⟩ = some (.int .i64 i30) ∧ ∃ i31 : Int, m29.cell ⟨x1, 1, none⟩ = some (.int .i64 i31) ∧ ∃ i32 : Int, m29.cell ⟨x1, 2, none⟩ = some (.int .i64 i32) ∧ ∃ i33 : Int, m29.cell ⟨x1, 3, none⟩ = some (.int .i64 i33) ∧ ∃ i34 : Int, m29.cell ⟨x1, 4, none⟩ = some (.int .i64 i34) ∧ 
 CallsA Try.prog w0 29 #[.agg #[.int .i64 i30, .int .i64 i31, .int .i64 i32, .int .i64 i33, .int .i64 i34]] m29 fun r36 m37 =>
 ∃ t35 : Bool, r36 = .bool t35 ∧ (bcase (bif bif t19 then !t27 else false then !t35 else false) (
 ∃ i38 : Int, m37.cell ⟨x1, 0, none⟩ = some (.int .i64 i38) ∧ 
 IntKind.i64 = IntKind.i64 ∧ vcS Try.prog w0 qs8 C (upd (upd (upd (upd (upd (upd (upd (upd (upd (upd (upd (upd (upd (upd (upd (upd (upd (upd (upd σ 1 (.pointer (some ⟨x1, 0, none⟩))) 38 (.agg #[.int .i64 i14, .int .i64 i15, .int .i64 i16, .int .i64 i17, .int .i64 i18])) 39 (.bool t19)) 40 (.bool t19)) 41 (.agg #[.int .i64 i22, .int .i64 i23, .int .i64 i24, .int .i64 i25, .int .i64 i26])) 42 (.bool t27)) 43 (.bool (!t27))) 44 (.bool (bif t19 then !t27 else false))) 45 (.bool (bif t19 then !t27 else false))) 46 (.agg #[.int .i64 i30, .int .i64 i31, .int .i64 i32, .int .i64 i33, .int .i64 i34])) 47 (.bool t35)) 48 (.bool (!t35))) 49 (.bool (bif bif t19 then !t27 else false then !t35 else false))) 50 (.bool (bif bif t19 then !t27 else false then !t35 else false))) 51 (.pointer (some ⟨x1, 0, none⟩))) 52 (.int .i64 i38)) 53 (.bool ((i38 : Int) != 0))) 54 (.bool (bif bif bif t19 then !t27 else false then !t35 else false then (i38 : Int) != 0 else false))) 4 (.bool (bif bif bif t19 then !t27 else false then !t35 else false then (i38 : Int) != 0 else false))) m37 (retQ Try.prog Try.f8 R)) (
 (bif bif t19 then !t27 else false then !t35 else false) = false ∧ vcS Try.prog w0 qs8 C (upd (upd (upd (upd (upd (upd (upd (upd (upd (upd (upd (upd (upd (upd (upd (upd (upd (upd (upd σ 1 (.pointer (some ⟨x1, 0, none⟩))) 38 (.agg #[.int .i64 i14, .int .i64 i15, .int .i64 i16, .int .i64 i17, .int .i64 i18])) 39 (.bool t19)) 40 (.bool t19)) 41 (.agg #[.int .i64 i22, .int .i64 i23, .int .i64 i24, .int .i64 i25, .int .i64 i26])) 42 (.bool t27)) 43 (.bool (!t27))) 44 (.bool (bif t19 then !t27 else false))) 45 (.bool (bif t19 then !t27 else false))) 46 (.agg #[.int .i64 i30, .int .i64 i31, .int .i64 i32, .int .i64 i33, .int .i64 i34])) 47 (.bool t35)) 48 (.bool (!t35))) 49 (.bool (bif bif t19 then !t27 else false then !t35 else false))) 50 (.bool (bif bif t19 then !t27 else false then !t35 else false))) 51 (undef)) 52 (undef)) 53 (undef)) 54 (.bool false)) 4 (.bool false)) m37 (retQ Try.prog Try.f8 R)))) (
 (bif t19 then !t27 else false) = false ∧ false = false ∧ vcS Try.prog w0 qs8 C (upd (upd (upd (upd (upd (upd (upd (upd (upd (upd (upd (upd (upd (upd (upd (upd (upd (upd (upd σ 1 (.pointer (some ⟨x1, 0, none⟩))) 38 (.agg #[.int .i64 i14, .int .i64 i15, .int .i64 i16, .int .i64 i17, .int .i64 i18])) 39 (.bool t19)) 40 (.bool t19)) 41 (.agg #[.int .i64 i22, .int .i64 i23, .int .i64 i24, .int .i64 i25, .int .i64 i26])) 42 (.bool t27)) 43 (.bool (!t27))) 44 (.bool (bif t19 then !t27 else false))) 45 (.bool (bif t19 then !t27 else false))) 46 (undef)) 47 (undef)) 48 (undef)) 49 (.bool false)) 50 (.bool false)) 51 (undef)) 52 (undef)) 53 (undef)) 54 (.bool false)) 4 (.bool false)) m29 (retQ Try.prog Try.f8 R)))) (
 t19 = false ∧ false = false ∧ false = false ∧ vcS Try.prog w0 qs8 C (upd (upd (upd (upd (upd (upd (upd (upd (upd (upd (upd (upd (upd (upd (upd (upd (upd (upd (upd σ 1 (.pointer (some ⟨x1, 0, none⟩))) 38 (.agg #[.int .i64 i14, .int .i64 i15, .int .i64 i16, .int .i64 i17, .int .i64 i18])) 39 (.bool t19)) 40 (.bool t19)) 41 (undef)) 42 (undef)) 43 (undef)) 44 (.bool false)) 45 (.bool false)) 46 (undef)) 47 (undef)) 48 (undef)) 49 (.bool false)) 50 (.bool false)) 51 (undef)) 52 (undef)) 53 (undef)) 54 (.bool false)) 4 (.bool false)) m21 (retQ Try.prog Try.f8 R)))) :
 vcS Try.prog w0 qs8 (.seq (sub c8 [1, 1, 0]) C) σ m (retQ Try.prog Try.f8 R) := by
  have es0 : (upd σ 1 (.pointer (some ⟨x1, 0, none⟩))) = σ := by rw [upd_id h1]
  exact cast (congrArg (fun s => vcS Try.prog w0 qs8 (.seq (sub c8 [1, 1, 0]) C) s m (retQ Try.prog Try.f8 R)) es0) (cast (by kernel_rfl) h)
theorem vk8_11 (w0 : World) (m : AM) (σ : Sg) (R : Value → AM → Prop)  (x1 : Nat) (h1 : σ 1 = .pointer (some ⟨x1, 0, none⟩)) (h :
 ∃ i14 : Int, m.cell ⟨x1, 0, none⟩ = some (.int .i64 i14) ∧ ∃ i15 : Int, m.cell ⟨x1, 1, none⟩ = some (.int .i64 i15) ∧ ∃ i16 : Int, m.cell ⟨x1, 2, none⟩ = some (.int .i64 i16) ∧ ∃ i17 : Int, m.cell ⟨x1, 3, none⟩ = some (.int .i64 i17) ∧ ∃ i18 : Int, m.cell ⟨x1, 4, none⟩ = some (.int .i64 i18) ∧ 
 CallsA Try.prog w0 33 #[.agg #[.int .i64 i14, .int .i64 i15, .int .i64 i16, .int .i64 i17, .int .i64 i18]] m fun r20 m21 =>
 ∃ t19 : Bool, r20 = .bool t19 ∧ (bcase t19 (
 ∃ i22 : Int, m21.cell ⟨x1, 0, none⟩ = some (.int .i64 i22) ∧ ∃ i23 : Int, m21.cell ⟨x1, 1, none⟩ = some (.int .i64 i23) ∧ ∃ i24 : Int, m21.cell ⟨x1, 2, none⟩ = some (.int .i64 i24) ∧ ∃ i25 : Int, m21.cell ⟨x1, 3, none⟩ = some (.int .i64 i25) ∧ ∃ i26 : Int, m21.cell ⟨x1, 4, none⟩ = some (.int .i64 i26) ∧ 
 CallsA Try.prog w0 27 #[.agg #[.int .i64 i22, .int .i64 i23, .int .i64 i24, .int .i64 i25, .int .i64 i26]] m21 fun r28 m29 =>
 ∃ t27 : Bool, r28 = .bool t27 ∧ (bcase (bif t19 then !t27 else false) (
 ∃ i30 : Int, m29.cell ⟨x1, 0, none⟩ = some (.int .i64 i30) ∧ ∃ i31 : Int, m29.cell ⟨x1, 1, none⟩ = some (.int .i64 i31) ∧ ∃ i32 : Int, m29.cell ⟨x1, 2, none⟩ = some (.int .i64 i32) ∧ ∃ i33 : Int, m29.cell ⟨x1, 3, none⟩ = some (.int .i64 i33) ∧ ∃ i34 : Int, m29.cell ⟨x1, 4, none⟩ = some (.int .i64 i34) ∧ 
 CallsA Try.prog w0 29 #[.agg #[.int .i64 i30, .int .i64 i31, .int .i64 i32, .int .i64 i33, .int .i64 i34]] m29 fun r36 m37 =>
 ∃ t35 : Bool, r36 = .bool t35 ∧ (bcase (bif bif t19 then !t27 else false then !t35 else false) (
 ∃ i38 : Int, m37.cell ⟨x1, 0, none⟩ = some (.int .i64 i38) ∧ 
 IntKind.i64 = IntKind.i64 ∧ vcS Try.prog w0 qs8 (sub c8 [1, 1, 1]) (upd (upd (upd (upd (upd (upd (upd (upd (upd (upd (upd (upd (upd (upd (upd (upd (upd (upd (upd σ 1 (.pointer (some ⟨x1, 0, none⟩))) 38 (.agg #[.int .i64 i14, .int .i64 i15, .int .i64 i16, .int .i64 i17, .int .i64 i18])) 39 (.bool t19)) 40 (.bool t19)) 41 (.agg #[.int .i64 i22, .int .i64 i23, .int .i64 i24, .int .i64 i25, .int .i64 i26])) 42 (.bool t27)) 43 (.bool (!t27))) 44 (.bool (bif t19 then !t27 else false))) 45 (.bool (bif t19 then !t27 else false))) 46 (.agg #[.int .i64 i30, .int .i64 i31, .int .i64 i32, .int .i64 i33, .int .i64 i34])) 47 (.bool t35)) 48 (.bool (!t35))) 49 (.bool (bif bif t19 then !t27 else false then !t35 else false))) 50 (.bool (bif bif t19 then !t27 else false then !t35 else false))) 51 (.pointer (some ⟨x1, 0, none⟩))) 52 (.int .i64 i38)) 53 (.bool ((i38 : Int) != 0))) 54 (.bool (bif bif bif t19 then !t27 else false then !t35 else false then (i38 : Int) != 0 else false))) 4 (.bool (bif bif bif t19 then !t27 else false then !t35 else false then (i38 : Int) != 0 else false))) m37 (retQ Try.prog Try.f8 R)) (
 (bif bif t19 then !t27 else false then !t35 else false) = false ∧ vcS Try.prog w0 qs8 (sub c8 [1, 1, 1]) (upd (upd (upd (upd (upd (upd (upd (upd (upd (upd (upd (upd (upd (upd (upd (upd (upd (upd (upd σ 1 (.pointer (some ⟨x1, 0, none⟩))) 38 (.agg #[.int .i64 i14, .int .i64 i15, .int .i64 i16, .int .i64 i17, .int .i64 i18])) 39 (.bool t19)) 40 (.bool t19)) 41 (.agg #[.int .i64 i22, .int .i64 i23, .int .i64 i24, .int .i64 i25, .int .i64 i26])) 42 (.bool t27)) 43 (.bool (!t27))) 44 (.bool (bif t19 then !t27 else false))) 45 (.bool (bif t19 then !t27 else false))) 46 (.agg #[.int .i64 i30, .int .i64 i31, .int .i64 i32, .int .i64 i33, .int .i64 i34])) 47 (.bool t35)) 48 (.bool (!t35))) 49 (.bool (bif bif t19 then !t27 else false then !t35 else false))) 50 (.bool (bif bif t19 then !t27 else false then !t35 else false))) 51 (undef)) 52 (undef)) 53 (undef)) 54 (.bool false)) 4 (.bool false)) m37 (retQ Try.prog Try.f8 R)))) (
 (bif t19 then !t27 else false) = false ∧ false = false ∧ vcS Try.prog w0 qs8 (sub c8 [1, 1, 1]) (upd (upd (upd (upd (upd (upd (upd (upd (upd (upd (upd (upd (upd (upd (upd (upd (upd (upd (upd σ 1 (.pointer (some ⟨x1, 0, none⟩))) 38 (.agg #[.int .i64 i14, .int .i64 i15, .int .i64 i16, .int .i64 i17, .int .i64 i18])) 39 (.bool t19)) 40 (.bool t19)) 41 (.agg #[.int .i64 i22, .int .i64 i23, .int .i64 i24, .int .i64 i25, .int .i64 i26])) 42 (.bool t27)) 43 (.bool (!t27))) 44 (.bool (bif t19 then !t27 else false))) 45 (.bool (bif t19 then !t27 else false))) 46 (undef)) 47 (undef)) 48 (undef)) 49 (.bool false)) 50 (.bool false)) 51 (undef)) 52 (undef)) 53 (undef)) 54 (.bool false)) 4 (.bool false)) m29 (retQ Try.prog Try.f8 R)))) (
 t19 = false ∧ false = false ∧ false = false ∧ vcS Try.prog w0 qs8 (sub c8 [1, 1, 1]) (upd (upd (upd (upd (upd (upd (upd (upd (upd (upd (upd (upd (upd (upd (upd (upd (upd (upd (upd σ 1 (.pointer (some ⟨x1, 0, none⟩))) 38 (.agg #[.int .i64 i14, .int .i64 i15, .int .i64 i16, .int .i64 i17, .int .i64 i18])) 39 (.bool t19)) 40 (.bool t19)) 41 (undef)) 42 (undef)) 43 (undef)) 44 (.bool false)) 45 (.bool false)) 46 (undef)) 47 (undef)) 48 (undef)) 49 (.bool false)) 50 (.bool false)) 51 (undef)) 52 (undef)) 53 (undef)) 54 (.bool false)) 4 (.bool false)) m21 (retQ Try.prog Try.f8 R)))) :
 vcS Try.prog w0 qs8 (sub c8 [1, 1]) σ m (retQ Try.prog Try.f8 R) := by
  rw [show sub c8 [1, 1] = .seq (sub c8 [1, 1, 0]) (sub c8 [1, 1, 1]) from by kernel_rfl]
  exact vk8_11C (sub c8 [1, 1, 1]) w0 m σ R x1 h1 h
theorem vk8_111 (w0 : World) (m : AM) (σ : Sg) (R : Value → AM → Prop)  (x1 : Nat) (x4 : Bool) (h1 : σ 1 = .pointer (some ⟨x1, 0, none⟩)) (h4 : σ 4 = .bool x4) (h :
 (bcase (!x4) (
 (!x4) = true ∧ CallsA Try.prog w0 26 #[] m fun r40 m41 =>
 ∃ t39 : Bool, r40 = .bool t39 ∧ RetP R (.bool (bif true then t39 else false)) m41) (
 ∃ i42 : Int, m.cell ⟨x1, 0, none⟩ = some (.int .i64 i42) ∧ ∃ i43 : Int, m.cell ⟨x1, 1, none⟩ = some (.int .i64 i43) ∧ ∃ i44 : Int, m.cell ⟨x1, 2, none⟩ = some (.int .i64 i44) ∧ ∃ i45 : Int, m.cell ⟨x1, 3, none⟩ = some (.int .i64 i45) ∧ ∃ i46 : Int, m.cell ⟨x1, 4, none⟩ = some (.int .i64 i46) ∧ 
 ∃ i47 : Int,  CallsA Try.prog w0 25 #[.agg #[.int .i64 i42, .int .i64 i43, .int .i64 i44, .int .i64 i45, .int .i64 i46]] m (fun r48 m49 => r48 = .int .i64 i47 ∧ m49 = m) ∧
 ∃ i50 : Int, m.cell ⟨x1, 1, none⟩ = some (.int .i64 i50) ∧ 
 IntKind.i64 = IntKind.i64 ∧ (bcase (bif !x4 then true else (i47 : Int) == i50) (
 CallsA Try.prog w0 26 #[] m fun r52 m53 =>
 ∃ t51 : Bool, r52 = .bool t51 ∧ RetP R (.bool (bif bif !x4 then true else (i47 : Int) == i50 then t51 else false)) m53) (
 (bif !x4 then true else (i47 : Int) == i50) = false ∧ RetP R (.bool false) m))))) :
 vcS Try.prog w0 qs8 (sub c8 [1, 1, 1]) σ m (retQ Try.prog Try.f8 R) := by
  have es0 : (upd (upd σ 1 (.pointer (some ⟨x1, 0, none⟩))) 4 (.bool x4)) = σ := by rw [upd_id h1, upd_id h4]
  exact cast (congrArg (fun s => vcS Try.prog w0 qs8 (sub c8 [1, 1, 1]) s m (retQ Try.prog Try.f8 R)) es0) (cast (by kernel_rfl) h)
end Go.Proofs.Ythocajnpofdbmaa.V
