/- Ythocajnpofdbmaa: a text of our own, by an AI agent: VLaw12G -/
import Derived.Test.YthocajnpofdbmaaCore5
import Derived.Test.YthocajnpofdbmaaTabG
namespace Go.Proofs.Ythocajnpofdbmaa.V
open Go Go.Alog Go.Proofs.Ythocajnpofdbmaa.T
set_option linter.unusedVariables false
set_option maxRecDepth 100000

/-! 34 delayslot/delayslotlaw12.awake -/
def qs34 : Nat → List (Nat × Nat) := fun i => match i with | _ => []
noncomputable def c34 : Code := bodyOf Try.f34
theorem cf34 (w0 : World) (m : AM)  (R : Value → AM → Prop) (h :
 true = true ∧ true = true ∧ true = true ∧ ∀ b1 : Nat, w0.heap.size ≤ b1 → m b1 = none → let m2 := AM.upd m b1 (.cells #[.int .i64 12, .int .i64 1, .int .i64 0, .int .i64 0, .int .i64 0, .int .i64 1, .int .i64 2, .int .i64 1, .int .i64 0, .int .i64 0] 23);
 CallsA Try.prog w0 37 #[.slice (some ⟨b1, 0, none⟩) 2 2] m2 fun r5 m6 =>
 ∃ i3 : Int, ∃ i4 : Int, r5 = .tuple #[.int .i64 i3, .int .i64 i4] ∧ IntKind.i64 = IntKind.i64 ∧ (bcase ((i3 : Int) == 0) (
 IntKind.i64 = IntKind.i64 ∧ (bcase (bif (i3 : Int) == 0 then (i4 : Int) == 4 else false) (
 CallsA Try.prog w0 38 #[.slice (some ⟨b1, 0, none⟩) 2 2] m6 fun r10 m11 =>
 ∃ t9 : Bool, r10 = .bool t9 ∧ (bcase (bif bif (i3 : Int) == 0 then (i4 : Int) == 4 else false then !t9 else false) (
 (0 : Int) ≤ 1 ∧ 2 ≤ 2 ∧ ((1 : Int).toNat) ≤ 2 ∧
 CallsA Try.prog w0 38 #[.slice (if 2 = ((1 : Int).toNat) then some ⟨b1, 0, none⟩ else Option.map (fun x => Addr.add x ((1 : Int).toNat * 5)) (some ⟨b1, 0, none⟩)) (2 - ((1 : Int).toNat)) (2 - ((1 : Int).toNat))] m11 fun r13 m14 =>
 ∃ t12 : Bool, r13 = .bool t12 ∧ (bcase (bif bif bif (i3 : Int) == 0 then (i4 : Int) == 4 else false then !t9 else false then t12 else false) (
 true = true ∧ true = true ∧ ∀ b15 : Nat, w0.heap.size ≤ b15 → m14 b15 = none → let m16 := AM.upd m14 b15 (.cells #[.int .i64 17, .int .i64 0, .int .i64 0, .int .i64 0, .int .i64 0] 23);
 CallsA Try.prog w0 36 #[.slice (some ⟨b15, 0, none⟩) 1 1, .int .i64 0] m16 fun r18 m19 =>
 ∃ i17 : Int, r18 = .int .i64 i17 ∧ IntKind.i64 = IntKind.i64 ∧ RetP R (.bool (bif bif bif bif (i3 : Int) == 0 then (i4 : Int) == 4 else false then !t9 else false then t12 else false then (i17 : Int) == 2 else false)) m19) (
 (bif bif bif (i3 : Int) == 0 then (i4 : Int) == 4 else false then !t9 else false then t12 else false) = false ∧ RetP R (.bool false) m14))) (
 (bif bif (i3 : Int) == 0 then (i4 : Int) == 4 else false then !t9 else false) = false ∧ false = false ∧ RetP R (.bool false) m11))) (
 (bif (i3 : Int) == 0 then (i4 : Int) == 4 else false) = false ∧ false = false ∧ false = false ∧ RetP R (.bool false) m6))) (
 ((i3 : Int) == 0) = false ∧ false = false ∧ false = false ∧ false = false ∧ RetP R (.bool false) m6))) : CallsA Try.prog w0 34 #[] m R :=
  callsA_of (c := c34) (args := []) (by kernel_rfl) Try.func34 (by kernel_rfl) qs34 (by kernel_rfl) (by kernel_rfl) (cast (by kernel_rfl) h)

/-! 9 delayslot/delayslotlaw12.HazardFirst -/
def qs9 : Nat → List (Nat × Nat) := fun i => match i with | _ => []
noncomputable def c9 : Code := bodyOf Try.f9
theorem cf9 (w0 : World) (m : AM) (x0 : Option Addr) (x0n x0c : Nat) (x1 : Int) (R : Value → AM → Prop) (h :
 IntKind.i64 = IntKind.i64 ∧ (bcase (decide ((((x0n : Nat) : Int) : Int) > 200)) (
 CallsA Try.prog w0 34 #[] m fun r2 m3 =>
 ∃ t1 : Bool, r2 = .bool t1 ∧ RetP R (.bool t1) m3) (
 IntKind.i64 = IntKind.i64 ∧ vcS Try.prog w0 qs9 (sub c9 [1, 1, 1, 0, 1, 0]) (upd (upd (upd (upd (upd (upd (upd (upd (upd (upd (argS [.slice x0 x0n x0c, .int .i64 x1]) 4 (.bool false)) 12 (.slice x0 x0n x0c)) 13 (.int .i64 ((x0n : Nat) : Int))) 14 (.bool (decide ((((x0n : Nat) : Int) : Int) > 200)))) 5 (.int .i64 (-1))) 6 (.int .i64 0)) 16 (.slice x0 x0n x0c)) 17 (.int .i64 ((x0n : Nat) : Int))) 18 (.int .i64 (IntKind.wrap .i64 (((x0n : Nat) : Int) - 1)))) 7 (.int .i64 (IntKind.wrap .i64 (((x0n : Nat) : Int) - 1)))) m (blockS 0 (thenS (fun σ m => vcS Try.prog w0 qs9 (sub c9 [1, 1, 1, 1]) σ m (retQ Try.prog Try.f9 R)) (retQ Try.prog Try.f9 R)))))) : CallsA Try.prog w0 9 #[.slice x0 x0n x0c, .int .i64 x1] m R :=
  callsA_of (c := c9) (args := [.slice x0 x0n x0c, .int .i64 x1]) (by kernel_rfl) Try.func9 (by kernel_rfl) qs9 (by kernel_rfl) (by kernel_rfl) (cast (by kernel_rfl) h)
def lq9_111010 (R : Value → AM → Prop) (x0 : Option Addr) (x0n x0c : Nat) (x1 : Int) (I0 : Nat → Int → Int → Int → AM → Prop) (E0_0 : Int → Int → AM → Prop) (n0 : Nat) : Exit → Sg → AM → Prop
  | .normal, σ, m => σ 0 = .slice x0 x0n x0c ∧ σ 1 = .int .i64 x1 ∧ okI .i64 (σ 5) = true ∧ okI .i64 (σ 6) = true ∧ okI .i64 (σ 7) = true ∧ ∃ n' : Nat, n' < n0 ∧ I0 n' (vI (σ 5)) (vI (σ 6)) (vI (σ 7)) m
  | .exit id, σ, m => if id = 0 then σ 0 = .slice x0 x0n x0c ∧ σ 1 = .int .i64 x1 ∧ okI .i64 (σ 5) = true ∧ okI .i64 (σ 6) = true ∧ E0_0 (vI (σ 5)) (vI (σ 6)) m else False
  | .ret, σ, m => retQ Try.prog Try.f9 R .ret σ m
  | _, _, _ => False
theorem vl9_111010 (w0 : World) (m : AM) (σ : Sg) (R : Value → AM → Prop)  (x0 : Option Addr) (x0n x0c : Nat) (x1 : Int) (x5 : Int) (x6 : Int) (x7 : Int) (I0 : Nat → Int → Int → Int → AM → Prop) (E0_0 : Int → Int → AM → Prop) (N : Nat) (h0 : σ 0 = .slice x0 x0n x0c) (h1 : σ 1 = .int .i64 x1) (h5 : σ 5 = .int .i64 x5) (h6 : σ 6 = .int .i64 x6) (h7 : σ 7 = .int .i64 x7)
 (h_0 : I0 N x5 x6 x7 m)
 (h_s : ∀ (n0 : Nat) (σ : Sg) (x5 : Int) (x6 : Int) (x7 : Int) (m : AM), I0 n0 x5 x6 x7 m → (
 IntKind.i64 = IntKind.i64 ∧ (bcase (decide ((x7 : Int) ≥ 0)) (
 CallsA Try.prog w0 35 #[.slice x0 x0n x0c, .int .i64 x7] m fun r5 m6 =>
 ∃ i4 : Int, r5 = .int .i64 i4 ∧ CallsA Try.prog w0 36 #[.slice x0 x0n x0c, .int .i64 x7] m6 fun r8 m9 =>
 ∃ i7 : Int, r8 = .int .i64 i7 ∧ IntKind.i64 = IntKind.i64 ∧ (bcase ((i7 : Int) != i4) (
 RetP R (.bool false) m9) (
 IntKind.i64 = IntKind.i64 ∧ (bcase ((i4 : Int) != 0) (
 IntKind.i64 = IntKind.i64 ∧ (.slice x0 x0n x0c : Value) = .slice x0 x0n x0c ∧ (.int .i64 x1 : Value) = .int .i64 x1 ∧ true = true ∧ true = true ∧ true = true ∧ ∃ n' : Nat, n' < n0 ∧ I0 n' x7 i4 (IntKind.wrap .i64 (x7 - 1)) m9) (
 IntKind.i64 = IntKind.i64 ∧ (.slice x0 x0n x0c : Value) = .slice x0 x0n x0c ∧ (.int .i64 x1 : Value) = .int .i64 x1 ∧ true = true ∧ true = true ∧ true = true ∧ ∃ n' : Nat, n' < n0 ∧ I0 n' x5 x6 (IntKind.wrap .i64 (x7 - 1)) m9))))) (
 (.slice x0 x0n x0c : Value) = .slice x0 x0n x0c ∧ (.int .i64 x1 : Value) = .int .i64 x1 ∧ true = true ∧ true = true ∧ E0_0 x5 x6 m))))
 (h_e0 : ∀ (σ : Sg) (x5 : Int) (x6 : Int) (m : AM), E0_0 x5 x6 m → (
 CallsA Try.prog w0 37 #[.slice x0 x0n x0c] m fun r12 m13 =>
 ∃ i10 : Int, ∃ i11 : Int, r12 = .tuple #[.int .i64 i10, .int .i64 i11] ∧ IntKind.i64 = IntKind.i64 ∧ (bcase (decide ((x1 : Int) ≥ 0)) (
 IntKind.i64 = IntKind.i64 ∧ IntKind.i64 = IntKind.i64 ∧ (bcase ((i10 : Int) == x5) (
 IntKind.i64 = IntKind.i64 ∧ (bcase (bif (i10 : Int) == x5 then (i11 : Int) == x6 else false) (
 CallsA Try.prog w0 38 #[.slice x0 x0n x0c] m13 fun r17 m18 =>
 ∃ t16 : Bool, r17 = .bool t16 ∧ IntKind.i64 = IntKind.i64 ∧ (bcase (bif bif (i10 : Int) == x5 then (i11 : Int) == x6 else false then (t16 : Bool) == ((x6 : Int) == 0) else false) (
 (bcase (bif decide ((x1 : Int) ≥ 0) then decide ((x1 : Int) < ((x0n : Nat) : Int)) else false) (
 (bif decide ((x1 : Int) ≥ 0) then decide ((x1 : Int) < ((x0n : Nat) : Int)) else false) = true ∧ (bcase (bif bif bif (i10 : Int) == x5 then (i11 : Int) == x6 else false then (t16 : Bool) == ((x6 : Int) == 0) else false then true else false) (
 CallsA Try.prog w0 34 #[] m18 fun r20 m21 =>
 ∃ t19 : Bool, r20 = .bool t19 ∧ RetP R (.bool (bif bif bif bif (i10 : Int) == x5 then (i11 : Int) == x6 else false then (t16 : Bool) == ((x6 : Int) == 0) else false then true else false then t19 else false)) m21) (
 (bif bif bif (i10 : Int) == x5 then (i11 : Int) == x6 else false then (t16 : Bool) == ((x6 : Int) == 0) else false then true else false) = false ∧ RetP R (.bool false) m18))) (
 CallsA Try.prog w0 36 #[.slice x0 x0n x0c, .int .i64 x1] m18 fun r23 m24 =>
 ∃ i22 : Int, r23 = .int .i64 i22 ∧ IntKind.i64 = IntKind.i64 ∧ (bcase (bif bif bif (i10 : Int) == x5 then (i11 : Int) == x6 else false then (t16 : Bool) == ((x6 : Int) == 0) else false then bif bif decide ((x1 : Int) ≥ 0) then decide ((x1 : Int) < ((x0n : Nat) : Int)) else false then true else (i22 : Int) == 0 else false) (
 CallsA Try.prog w0 34 #[] m24 fun r26 m27 =>
 ∃ t25 : Bool, r26 = .bool t25 ∧ RetP R (.bool (bif bif bif bif (i10 : Int) == x5 then (i11 : Int) == x6 else false then (t16 : Bool) == ((x6 : Int) == 0) else false then bif bif decide ((x1 : Int) ≥ 0) then decide ((x1 : Int) < ((x0n : Nat) : Int)) else false then true else (i22 : Int) == 0 else false then t25 else false)) m27) (
 (bif bif bif (i10 : Int) == x5 then (i11 : Int) == x6 else false then (t16 : Bool) == ((x6 : Int) == 0) else false then bif bif decide ((x1 : Int) ≥ 0) then decide ((x1 : Int) < ((x0n : Nat) : Int)) else false then true else (i22 : Int) == 0 else false) = false ∧ RetP R (.bool false) m24))))) (
 (bif bif (i10 : Int) == x5 then (i11 : Int) == x6 else false then (t16 : Bool) == ((x6 : Int) == 0) else false) = false ∧ false = false ∧ RetP R (.bool false) m18))) (
 (bif (i10 : Int) == x5 then (i11 : Int) == x6 else false) = false ∧ false = false ∧ false = false ∧ RetP R (.bool false) m13))) (
 ((i10 : Int) == x5) = false ∧ false = false ∧ false = false ∧ false = false ∧ RetP R (.bool false) m13))) (
 (decide ((x1 : Int) ≥ 0)) = false ∧ IntKind.i64 = IntKind.i64 ∧ (bcase ((i10 : Int) == x5) (
 IntKind.i64 = IntKind.i64 ∧ (bcase (bif (i10 : Int) == x5 then (i11 : Int) == x6 else false) (
 CallsA Try.prog w0 38 #[.slice x0 x0n x0c] m13 fun r29 m30 =>
 ∃ t28 : Bool, r29 = .bool t28 ∧ IntKind.i64 = IntKind.i64 ∧ (bcase (bif bif (i10 : Int) == x5 then (i11 : Int) == x6 else false then (t28 : Bool) == ((x6 : Int) == 0) else false) (
 CallsA Try.prog w0 36 #[.slice x0 x0n x0c, .int .i64 x1] m30 fun r32 m33 =>
 ∃ i31 : Int, r32 = .int .i64 i31 ∧ IntKind.i64 = IntKind.i64 ∧ (bcase (bif bif bif (i10 : Int) == x5 then (i11 : Int) == x6 else false then (t28 : Bool) == ((x6 : Int) == 0) else false then bif false then true else (i31 : Int) == 0 else false) (
 CallsA Try.prog w0 34 #[] m33 fun r35 m36 =>
 ∃ t34 : Bool, r35 = .bool t34 ∧ RetP R (.bool (bif bif bif bif (i10 : Int) == x5 then (i11 : Int) == x6 else false then (t28 : Bool) == ((x6 : Int) == 0) else false then bif false then true else (i31 : Int) == 0 else false then t34 else false)) m36) (
 (bif bif bif (i10 : Int) == x5 then (i11 : Int) == x6 else false then (t28 : Bool) == ((x6 : Int) == 0) else false then bif false then true else (i31 : Int) == 0 else false) = false ∧ RetP R (.bool false) m33))) (
 (bif bif (i10 : Int) == x5 then (i11 : Int) == x6 else false then (t28 : Bool) == ((x6 : Int) == 0) else false) = false ∧ false = false ∧ RetP R (.bool false) m30))) (
 (bif (i10 : Int) == x5 then (i11 : Int) == x6 else false) = false ∧ false = false ∧ false = false ∧ RetP R (.bool false) m13))) (
 ((i10 : Int) == x5) = false ∧ false = false ∧ false = false ∧ false = false ∧ RetP R (.bool false) m13)))))) :
 vcS Try.prog w0 qs9 (sub c9 [1, 1, 1, 0, 1, 0]) σ m (blockS 0 (thenS (fun σ m => vcS Try.prog w0 qs9 (sub c9 [1, 1, 1, 1]) σ m (retQ Try.prog Try.f9 R)) (retQ Try.prog Try.f9 R))) := by
  rw [show sub c9 [1, 1, 1, 0, 1, 0] = .loop (sub c9 [1, 1, 1, 0, 1, 0, 0]) from by kernel_rfl]
  refine loopQ (fun n0 σ m => σ 0 = .slice x0 x0n x0c ∧ σ 1 = .int .i64 x1 ∧ okI .i64 (σ 5) = true ∧ okI .i64 (σ 6) = true ∧ okI .i64 (σ 7) = true ∧ I0 n0 (vI (σ 5)) (vI (σ 6)) (vI (σ 7)) m) N (fun n0 => (lq9_111010 R x0 x0n x0c x1 I0 E0_0 n0)) ⟨h0, h1, (by rw [h5]; rfl), (by rw [h6]; rfl), (by rw [h7]; rfl), (by rw [h5, h6, h7]; exact h_0)⟩ ?_ ?_ ?_
  · rintro n0 σ m ⟨kk0, kk1, kk2, kk3, kk4, n', hlt, hI⟩; exact ⟨n', hlt, kk0, kk1, kk2, kk3, kk4, hI⟩
  · intro n0 e σ m hne h
    cases e with
    | normal => exact absurd rfl hne
    | ret => exact h
    | exit id =>
      by_cases e0 : id = 0
      · subst e0
        obtain ⟨kk0, kk1, kk2, kk3, hE⟩ := h
        have es : (upd (upd (upd (upd σ 0 (.slice x0 x0n x0c)) 1 (.int .i64 x1)) 5 (.int .i64 (vI (σ 5)))) 6 (.int .i64 (vI (σ 6)))) = σ := by rw [upd_id kk0, upd_id kk1, upd_id (ok_int kk2), upd_id (ok_int kk3)]
        exact cast (congrArg (fun s => (blockS 0 (thenS (fun σ m => vcS Try.prog w0 qs9 (sub c9 [1, 1, 1, 1]) σ m (retQ Try.prog Try.f9 R)) (retQ Try.prog Try.f9 R))) (.exit 0) s m) es) (cast (by kernel_rfl) (h_e0 σ (vI (σ 5)) (vI (σ 6)) m hE))
      · replace h := (if_neg e0 : (if id = 0 then _ else _) = _).mp h
        exact False.elim h
    | _ => exact False.elim h
  · rintro n0 σ m ⟨kk0, kk1, kk2, kk3, kk4, hI⟩
    have es : (upd (upd (upd (upd (upd σ 0 (.slice x0 x0n x0c)) 1 (.int .i64 x1)) 5 (.int .i64 (vI (σ 5)))) 6 (.int .i64 (vI (σ 6)))) 7 (.int .i64 (vI (σ 7)))) = σ := by rw [upd_id kk0, upd_id kk1, upd_id (ok_int kk2), upd_id (ok_int kk3), upd_id (ok_int kk4)]
    exact cast (congrArg (fun s => vcS Try.prog w0 qs9 (sub c9 [1, 1, 1, 0, 1, 0, 0]) s m (lq9_111010 R x0 x0n x0c x1 I0 E0_0 n0)) es) (cast (by kernel_rfl) (h_s n0 σ (vI (σ 5)) (vI (σ 6)) (vI (σ 7)) m hI))

/-! 10 delayslot/delayslotlaw12.HazardJoins -/
def qs10 : Nat → List (Nat × Nat) := fun i => match i with | _ => []
noncomputable def c10 : Code := bodyOf Try.f10
theorem cf10 (w0 : World) (m : AM) (x0 : Option Addr) (x0n x0c : Nat) (x1 : Option Addr) (x1n x1c : Nat) (R : Value → AM → Prop) (h :
 IntKind.i64 = IntKind.i64 ∧ (bcase (decide ((((x0n : Nat) : Int) : Int) > 100)) (
 (decide ((((x0n : Nat) : Int) : Int) > 100)) = true ∧ CallsA Try.prog w0 34 #[] m fun r2 m3 =>
 ∃ t1 : Bool, r2 = .bool t1 ∧ RetP R (.bool t1) m3) (
 IntKind.i64 = IntKind.i64 ∧ (bcase (bif decide ((((x0n : Nat) : Int) : Int) > 100) then true else decide ((((x1n : Nat) : Int) : Int) > 100)) (
 CallsA Try.prog w0 34 #[] m fun r5 m6 =>
 ∃ t4 : Bool, r5 = .bool t4 ∧ RetP R (.bool t4) m6) (
 true = true ∧ ∀ b7 : Nat, w0.heap.size ≤ b7 → m b7 = none → let m8 := AM.upd m b7 (.cells #[] 23);
 awp Try.prog w0.heap.size (Builtin.append_ #[31, 31] 31 #[.slice (some ⟨b7, 0, none⟩) 0 0, .slice x0 x0n x0c]) m8 fun v9 m10 =>
 ∃ (A11 : Option Addr) (n12 c13 : Nat), v9 = .slice A11 n12 c13 ∧ awp Try.prog w0.heap.size (Builtin.append_ #[31, 31] 31 #[.slice A11 n12 c13, .slice x1 x1n x1c]) m10 fun v14 m15 =>
 ∃ (A16 : Option Addr) (n17 c18 : Nat), v14 = .slice A16 n17 c18 ∧ IntKind.i64 = IntKind.i64 ∧ (bcase (decide ((((x0n : Nat) : Int) : Int) > 0)) (
 IntKind.i64 = IntKind.i64 ∧ ((0 : Int) ≤ (IntKind.wrap .i64 (((x0n : Nat) : Int) - 1)) ∧ (IntKind.wrap .i64 (((x0n : Nat) : Int) - 1)) < ((x0n : Nat) : Int)) ∧ nilO x0 fun a19 =>
 ∃ i20 : Int, m15.cell (a19.add ((IntKind.wrap .i64 (((x0n : Nat) : Int) - 1) : Int).toNat * 5)) = some (.int .i64 i20) ∧ ∃ i21 : Int, m15.cell ((a19.add ((IntKind.wrap .i64 (((x0n : Nat) : Int) - 1) : Int).toNat * 5)).add 1) = some (.int .i64 i21) ∧ ∃ i22 : Int, m15.cell ((a19.add ((IntKind.wrap .i64 (((x0n : Nat) : Int) - 1) : Int).toNat * 5)).add 2) = some (.int .i64 i22) ∧ ∃ i23 : Int, m15.cell ((a19.add ((IntKind.wrap .i64 (((x0n : Nat) : Int) - 1) : Int).toNat * 5)).add 3) = some (.int .i64 i23) ∧ ∃ i24 : Int, m15.cell ((a19.add ((IntKind.wrap .i64 (((x0n : Nat) : Int) - 1) : Int).toNat * 5)).add 4) = some (.int .i64 i24) ∧ 
 CallsA Try.prog w0 30 #[.agg #[.int .i64 i20, .int .i64 i21, .int .i64 i22, .int .i64 i23, .int .i64 i24]] m15 fun r26 m27 =>
 ∃ t25 : Bool, r26 = .bool t25 ∧ (bcase t25 (
 t25 = true ∧ (bcase (bif decide ((((x0n : Nat) : Int) : Int) > 0) then true else false) (
 CallsA Try.prog w0 34 #[] m27 fun r29 m30 =>
 ∃ t28 : Bool, r29 = .bool t28 ∧ RetP R (.bool t28) m30) (
 CallsA Try.prog w0 38 #[.slice A16 n17 c18] m27 fun r32 m33 =>
 ∃ t31 : Bool, r32 = .bool t31 ∧ CallsA Try.prog w0 38 #[.slice x0 x0n x0c] m33 fun r35 m36 =>
 ∃ t34 : Bool, r35 = .bool t34 ∧ (bcase t34 (
 CallsA Try.prog w0 38 #[.slice x1 x1n x1c] m36 fun r38 m39 =>
 ∃ t37 : Bool, r38 = .bool t37 ∧ (bcase ((t31 : Bool) == (bif t34 then t37 else false)) (
 CallsA Try.prog w0 34 #[] m39 fun r41 m42 =>
 ∃ t40 : Bool, r41 = .bool t40 ∧ RetP R (.bool (bif (t31 : Bool) == (bif t34 then t37 else false) then t40 else false)) m42) (
 ((t31 : Bool) == (bif t34 then t37 else false)) = false ∧ RetP R (.bool false) m39))) (
 t34 = false ∧ (bcase ((t31 : Bool) == false) (
 CallsA Try.prog w0 34 #[] m36 fun r44 m45 =>
 ∃ t43 : Bool, r44 = .bool t43 ∧ RetP R (.bool (bif (t31 : Bool) == false then t43 else false)) m45) (
 ((t31 : Bool) == false) = false ∧ RetP R (.bool false) m36))))))) (
 IntKind.i64 = IntKind.i64 ∧ ((0 : Int) ≤ (IntKind.wrap .i64 (((x0n : Nat) : Int) - 1)) ∧ (IntKind.wrap .i64 (((x0n : Nat) : Int) - 1)) < ((x0n : Nat) : Int)) ∧ nilO x0 fun a46 =>
 ∃ i47 : Int, m27.cell (a46.add ((IntKind.wrap .i64 (((x0n : Nat) : Int) - 1) : Int).toNat * 5)) = some (.int .i64 i47) ∧ ∃ i48 : Int, m27.cell ((a46.add ((IntKind.wrap .i64 (((x0n : Nat) : Int) - 1) : Int).toNat * 5)).add 1) = some (.int .i64 i48) ∧ ∃ i49 : Int, m27.cell ((a46.add ((IntKind.wrap .i64 (((x0n : Nat) : Int) - 1) : Int).toNat * 5)).add 2) = some (.int .i64 i49) ∧ ∃ i50 : Int, m27.cell ((a46.add ((IntKind.wrap .i64 (((x0n : Nat) : Int) - 1) : Int).toNat * 5)).add 3) = some (.int .i64 i50) ∧ ∃ i51 : Int, m27.cell ((a46.add ((IntKind.wrap .i64 (((x0n : Nat) : Int) - 1) : Int).toNat * 5)).add 4) = some (.int .i64 i51) ∧ 
 CallsA Try.prog w0 32 #[.agg #[.int .i64 i47, .int .i64 i48, .int .i64 i49, .int .i64 i50, .int .i64 i51]] m27 fun r53 m54 =>
 ∃ t52 : Bool, r53 = .bool t52 ∧ (bcase (bif decide ((((x0n : Nat) : Int) : Int) > 0) then bif t25 then true else t52 else false) (
 CallsA Try.prog w0 34 #[] m54 fun r56 m57 =>
 ∃ t55 : Bool, r56 = .bool t55 ∧ RetP R (.bool t55) m57) (
 CallsA Try.prog w0 38 #[.slice A16 n17 c18] m54 fun r59 m60 =>
 ∃ t58 : Bool, r59 = .bool t58 ∧ CallsA Try.prog w0 38 #[.slice x0 x0n x0c] m60 fun r62 m63 =>
 ∃ t61 : Bool, r62 = .bool t61 ∧ (bcase t61 (
 CallsA Try.prog w0 38 #[.slice x1 x1n x1c] m63 fun r65 m66 =>
 ∃ t64 : Bool, r65 = .bool t64 ∧ (bcase ((t58 : Bool) == (bif t61 then t64 else false)) (
 CallsA Try.prog w0 34 #[] m66 fun r68 m69 =>
 ∃ t67 : Bool, r68 = .bool t67 ∧ RetP R (.bool (bif (t58 : Bool) == (bif t61 then t64 else false) then t67 else false)) m69) (
 ((t58 : Bool) == (bif t61 then t64 else false)) = false ∧ RetP R (.bool false) m66))) (
 t61 = false ∧ (bcase ((t58 : Bool) == false) (
 CallsA Try.prog w0 34 #[] m63 fun r71 m72 =>
 ∃ t70 : Bool, r71 = .bool t70 ∧ RetP R (.bool (bif (t58 : Bool) == false then t70 else false)) m72) (
 ((t58 : Bool) == false) = false ∧ RetP R (.bool false) m63))))))))) (
 (decide ((((x0n : Nat) : Int) : Int) > 0)) = false ∧ CallsA Try.prog w0 38 #[.slice A16 n17 c18] m15 fun r74 m75 =>
 ∃ t73 : Bool, r74 = .bool t73 ∧ CallsA Try.prog w0 38 #[.slice x0 x0n x0c] m75 fun r77 m78 =>
 ∃ t76 : Bool, r77 = .bool t76 ∧ (bcase t76 (
 CallsA Try.prog w0 38 #[.slice x1 x1n x1c] m78 fun r80 m81 =>
 ∃ t79 : Bool, r80 = .bool t79 ∧ (bcase ((t73 : Bool) == (bif t76 then t79 else false)) (
 CallsA Try.prog w0 34 #[] m81 fun r83 m84 =>
 ∃ t82 : Bool, r83 = .bool t82 ∧ RetP R (.bool (bif (t73 : Bool) == (bif t76 then t79 else false) then t82 else false)) m84) (
 ((t73 : Bool) == (bif t76 then t79 else false)) = false ∧ RetP R (.bool false) m81))) (
 t76 = false ∧ (bcase ((t73 : Bool) == false) (
 CallsA Try.prog w0 34 #[] m78 fun r86 m87 =>
 ∃ t85 : Bool, r86 = .bool t85 ∧ RetP R (.bool (bif (t73 : Bool) == false then t85 else false)) m87) (
 ((t73 : Bool) == false) = false ∧ RetP R (.bool false) m78))))))))))) : CallsA Try.prog w0 10 #[.slice x0 x0n x0c, .slice x1 x1n x1c] m R :=
  callsA_of (c := c10) (args := [.slice x0 x0n x0c, .slice x1 x1n x1c]) (by kernel_rfl) Try.func10 (by kernel_rfl) qs10 (by kernel_rfl) (by kernel_rfl) (cast (by kernel_rfl) h)

/-! 11 delayslot/delayslotlaw12.HazardSpaced -/
def qs11 : Nat → List (Nat × Nat) := fun i => match i with | _ => []
noncomputable def c11 : Code := bodyOf Try.f11
theorem cf11 (w0 : World) (m : AM) (x0 : Option Addr) (x0n x0c : Nat) (R : Value → AM → Prop) (h :
 IntKind.i64 = IntKind.i64 ∧ (bcase (decide ((((x0n : Nat) : Int) : Int) > 100)) (
 CallsA Try.prog w0 34 #[] m fun r2 m3 =>
 ∃ t1 : Bool, r2 = .bool t1 ∧ RetP R (.bool t1) m3) (
 vcS Try.prog w0 qs11 (sub c11 [1, 1, 1, 1, 0, 1, 0]) (upd (upd (upd (upd (upd (upd (upd (upd (upd (argS [.slice x0 x0n x0c]) 2 (.bool false)) 9 (.slice x0 x0n x0c)) 10 (.int .i64 ((x0n : Nat) : Int))) 11 (.bool (decide ((((x0n : Nat) : Int) : Int) > 100)))) 3 (.slice none 0 0)) 4 (.bool false)) 13 (.slice x0 x0n x0c)) 14 (.int .i64 ((x0n : Nat) : Int))) 15 (.int .i64 0)) m (blockS 0 (thenS (fun σ m => vcS Try.prog w0 qs11 (sub c11 [1, 1, 1, 1, 1]) σ m (retQ Try.prog Try.f11 R)) (retQ Try.prog Try.f11 R)))))) : CallsA Try.prog w0 11 #[.slice x0 x0n x0c] m R :=
  callsA_of (c := c11) (args := [.slice x0 x0n x0c]) (by kernel_rfl) Try.func11 (by kernel_rfl) qs11 (by kernel_rfl) (by kernel_rfl) (cast (by kernel_rfl) h)
def lq11_1111010 (R : Value → AM → Prop) (x0 : Option Addr) (x0n x0c : Nat) (x13 : Option Addr) (x13n x13c : Nat) (x14 : Int) (I0 : Nat → Option Addr → Nat → Nat → Bool → Int → AM → Prop) (E0_0 : Option Addr → Nat → Nat → Bool → AM → Prop) (n0 : Nat) : Exit → Sg → AM → Prop
  | .normal, σ, m => σ 0 = .slice x0 x0n x0c ∧ σ 13 = .slice x13 x13n x13c ∧ σ 14 = .int .i64 x14 ∧ okS (σ 3) = true ∧ okB (σ 4) = true ∧ okI .i64 (σ 15) = true ∧ ∃ n' : Nat, n' < n0 ∧ I0 n' (vSA (σ 3)) (vSN (σ 3)) (vSC (σ 3)) (vB (σ 4)) (vI (σ 15)) m
  | .exit id, σ, m => if id = 0 then σ 0 = .slice x0 x0n x0c ∧ σ 13 = .slice x13 x13n x13c ∧ σ 14 = .int .i64 x14 ∧ okS (σ 3) = true ∧ okB (σ 4) = true ∧ E0_0 (vSA (σ 3)) (vSN (σ 3)) (vSC (σ 3)) (vB (σ 4)) m else False
  | .ret, σ, m => retQ Try.prog Try.f11 R .ret σ m
  | _, _, _ => False
theorem vl11_1111010 (w0 : World) (m : AM) (σ : Sg) (R : Value → AM → Prop)  (x0 : Option Addr) (x0n x0c : Nat) (x13 : Option Addr) (x13n x13c : Nat) (x14 : Int) (x3 : Option Addr) (x3n x3c : Nat) (x4 : Bool) (x15 : Int) (I0 : Nat → Option Addr → Nat → Nat → Bool → Int → AM → Prop) (E0_0 : Option Addr → Nat → Nat → Bool → AM → Prop) (N : Nat) (h0 : σ 0 = .slice x0 x0n x0c) (h3 : σ 3 = .slice x3 x3n x3c) (h4 : σ 4 = .bool x4) (h13 : σ 13 = .slice x13 x13n x13c) (h14 : σ 14 = .int .i64 x14) (h15 : σ 15 = .int .i64 x15)
 (h_0 : I0 N x3 x3n x3c x4 x15 m)
 (h_s : ∀ (n0 : Nat) (σ : Sg) (x3 : Option Addr) (x3n : Nat) (x3c : Nat) (x4 : Bool) (x15 : Int) (m : AM), I0 n0 x3 x3n x3c x4 x15 m → (
 IntKind.i64 = IntKind.i64 ∧ (bcase (decide ((x15 : Int) < x14)) (
 ((0 : Int) ≤ x15 ∧ x15 < ((x13n : Nat) : Int)) ∧ nilO x13 fun a4 =>
 ∃ i5 : Int, m.cell (a4.add ((x15 : Int).toNat * 5)) = some (.int .i64 i5) ∧ ∃ i6 : Int, m.cell ((a4.add ((x15 : Int).toNat * 5)).add 1) = some (.int .i64 i6) ∧ ∃ i7 : Int, m.cell ((a4.add ((x15 : Int).toNat * 5)).add 2) = some (.int .i64 i7) ∧ ∃ i8 : Int, m.cell ((a4.add ((x15 : Int).toNat * 5)).add 3) = some (.int .i64 i8) ∧ ∃ i9 : Int, m.cell ((a4.add ((x15 : Int).toNat * 5)).add 4) = some (.int .i64 i9) ∧ 
 ∀ b10 : Nat, w0.heap.size ≤ b10 → m b10 = none → let m11 := AM.upd m b10 (.cells #[.int .i64 0, .int .i64 0, .int .i64 0, .int .i64 0, .int .i64 0] 23);
 StC w0.heap.size m11 ⟨b10, 0, none⟩ (.int .i64 i5) fun m12 =>
 StC w0.heap.size m12 ⟨b10, 1, none⟩ (.int .i64 i6) fun m13 =>
 StC w0.heap.size m13 ⟨b10, 2, none⟩ (.int .i64 i7) fun m14 =>
 StC w0.heap.size m14 ⟨b10, 3, none⟩ (.int .i64 i8) fun m15 =>
 StC w0.heap.size m15 ⟨b10, 4, none⟩ (.int .i64 i9) fun m16 =>
 ∃ i17 : Int, m16.cell ⟨b10, 0, none⟩ = some (.int .i64 i17) ∧ ∃ i18 : Int, m16.cell ⟨b10, 1, none⟩ = some (.int .i64 i18) ∧ ∃ i19 : Int, m16.cell ⟨b10, 2, none⟩ = some (.int .i64 i19) ∧ ∃ i20 : Int, m16.cell ⟨b10, 3, none⟩ = some (.int .i64 i20) ∧ ∃ i21 : Int, m16.cell ⟨b10, 4, none⟩ = some (.int .i64 i21) ∧ 
 true = true ∧ true = true ∧ ∀ b22 : Nat, w0.heap.size ≤ b22 → m16 b22 = none → let m23 := AM.upd m16 b22 (.cells #[.int .i64 i17, .int .i64 i18, .int .i64 i19, .int .i64 i20, .int .i64 i21, .int .i64 0, .int .i64 0, .int .i64 0, .int .i64 0, .int .i64 0] 23);
 awp Try.prog w0.heap.size (Builtin.append_ #[31, 31] 31 #[.slice x3 x3n x3c, .slice (some ⟨b22, 0, none⟩) 2 2]) m23 fun v24 m25 =>
 ∃ (A26 : Option Addr) (n27 c28 : Nat), v24 = .slice A26 n27 c28 ∧ (bcase x4 (
 x4 = true ∧ IntKind.i64 = IntKind.i64 ∧ (.slice x0 x0n x0c : Value) = .slice x0 x0n x0c ∧ (.slice x13 x13n x13c : Value) = .slice x13 x13n x13c ∧ (.int .i64 x14 : Value) = .int .i64 x14 ∧ true = true ∧ true = true ∧ true = true ∧ ∃ n' : Nat, n' < n0 ∧ I0 n' A26 n27 c28 true (IntKind.wrap .i64 (x15 + 1)) m25) (
 IntKind.i64 = IntKind.i64 ∧ (bcase (decide ((x15 : Int) > 0)) (
 ∃ i29 : Int, m25.cell ⟨b10, 0, none⟩ = some (.int .i64 i29) ∧ ∃ i30 : Int, m25.cell ⟨b10, 1, none⟩ = some (.int .i64 i30) ∧ ∃ i31 : Int, m25.cell ⟨b10, 2, none⟩ = some (.int .i64 i31) ∧ ∃ i32 : Int, m25.cell ⟨b10, 3, none⟩ = some (.int .i64 i32) ∧ ∃ i33 : Int, m25.cell ⟨b10, 4, none⟩ = some (.int .i64 i33) ∧ 
 CallsA Try.prog w0 30 #[.agg #[.int .i64 i29, .int .i64 i30, .int .i64 i31, .int .i64 i32, .int .i64 i33]] m25 fun r35 m36 =>
 ∃ t34 : Bool, r35 = .bool t34 ∧ (bcase (bif decide ((x15 : Int) > 0) then t34 else false) (
 IntKind.i64 = IntKind.i64 ∧ ((0 : Int) ≤ (IntKind.wrap .i64 (x15 - 1)) ∧ (IntKind.wrap .i64 (x15 - 1)) < ((x0n : Nat) : Int)) ∧ nilO x0 fun a37 =>
 ∃ i38 : Int, m36.cell (a37.add ((IntKind.wrap .i64 (x15 - 1) : Int).toNat * 5)) = some (.int .i64 i38) ∧ ∃ i39 : Int, m36.cell ((a37.add ((IntKind.wrap .i64 (x15 - 1) : Int).toNat * 5)).add 1) = some (.int .i64 i39) ∧ ∃ i40 : Int, m36.cell ((a37.add ((IntKind.wrap .i64 (x15 - 1) : Int).toNat * 5)).add 2) = some (.int .i64 i40) ∧ ∃ i41 : Int, m36.cell ((a37.add ((IntKind.wrap .i64 (x15 - 1) : Int).toNat * 5)).add 3) = some (.int .i64 i41) ∧ ∃ i42 : Int, m36.cell ((a37.add ((IntKind.wrap .i64 (x15 - 1) : Int).toNat * 5)).add 4) = some (.int .i64 i42) ∧ 
 CallsA Try.prog w0 30 #[.agg #[.int .i64 i38, .int .i64 i39, .int .i64 i40, .int .i64 i41, .int .i64 i42]] m36 fun r44 m45 =>
 ∃ t43 : Bool, r44 = .bool t43 ∧ IntKind.i64 = IntKind.i64 ∧ (.slice x0 x0n x0c : Value) = .slice x0 x0n x0c ∧ (.slice x13 x13n x13c : Value) = .slice x13 x13n x13c ∧ (.int .i64 x14 : Value) = .int .i64 x14 ∧ true = true ∧ true = true ∧ true = true ∧ ∃ n' : Nat, n' < n0 ∧ I0 n' A26 n27 c28 (bif x4 then true else bif bif decide ((x15 : Int) > 0) then t34 else false then t43 else false) (IntKind.wrap .i64 (x15 + 1)) m45) (
 (bif decide ((x15 : Int) > 0) then t34 else false) = false ∧ IntKind.i64 = IntKind.i64 ∧ (.slice x0 x0n x0c : Value) = .slice x0 x0n x0c ∧ (.slice x13 x13n x13c : Value) = .slice x13 x13n x13c ∧ (.int .i64 x14 : Value) = .int .i64 x14 ∧ true = true ∧ true = true ∧ true = true ∧ ∃ n' : Nat, n' < n0 ∧ I0 n' A26 n27 c28 (bif x4 then true else false) (IntKind.wrap .i64 (x15 + 1)) m36))) (
 (decide ((x15 : Int) > 0)) = false ∧ false = false ∧ IntKind.i64 = IntKind.i64 ∧ (.slice x0 x0n x0c : Value) = .slice x0 x0n x0c ∧ (.slice x13 x13n x13c : Value) = .slice x13 x13n x13c ∧ (.int .i64 x14 : Value) = .int .i64 x14 ∧ true = true ∧ true = true ∧ true = true ∧ ∃ n' : Nat, n' < n0 ∧ I0 n' A26 n27 c28 (bif x4 then true else false) (IntKind.wrap .i64 (x15 + 1)) m25))))) (
 (.slice x0 x0n x0c : Value) = .slice x0 x0n x0c ∧ (.slice x13 x13n x13c : Value) = .slice x13 x13n x13c ∧ (.int .i64 x14 : Value) = .int .i64 x14 ∧ true = true ∧ true = true ∧ E0_0 x3 x3n x3c x4 m))))
 (h_e0 : ∀ (σ : Sg) (x3 : Option Addr) (x3n : Nat) (x3c : Nat) (x4 : Bool) (m : AM), E0_0 x3 x3n x3c x4 m → (
 CallsA Try.prog w0 37 #[.slice x3 x3n x3c] m fun r48 m49 =>
 ∃ i46 : Int, ∃ i47 : Int, r48 = .tuple #[.int .i64 i46, .int .i64 i47] ∧ IntKind.i64 = IntKind.i64 ∧ (bcase ((i47 : Int) == 0) (
 ((i47 : Int) == 0) = true ∧ (bcase (!x4) (
 (!x4) = true ∧ (bcase (bif true then true else false) (
 CallsA Try.prog w0 34 #[] m49 fun r53 m54 =>
 ∃ t52 : Bool, r53 = .bool t52 ∧ RetP R (.bool (bif bif true then true else false then t52 else false)) m54) (
 (bif true then true else false) = false ∧ RetP R (.bool false) m49))) (
 CallsA Try.prog w0 38 #[.slice x0 x0n x0c] m49 fun r56 m57 =>
 ∃ t55 : Bool, r56 = .bool t55 ∧ (bcase (bif true then bif !x4 then true else !t55 else false) (
 CallsA Try.prog w0 34 #[] m57 fun r59 m60 =>
 ∃ t58 : Bool, r59 = .bool t58 ∧ RetP R (.bool (bif bif true then bif !x4 then true else !t55 else false then t58 else false)) m60) (
 (bif true then bif !x4 then true else !t55 else false) = false ∧ RetP R (.bool false) m57))))) (
 IntKind.i64 = IntKind.i64 ∧ (bcase (bif (i47 : Int) == 0 then true else (i47 : Int) == 1) (
 (bcase (!x4) (
 (!x4) = true ∧ (bcase (bif bif (i47 : Int) == 0 then true else (i47 : Int) == 1 then true else false) (
 CallsA Try.prog w0 34 #[] m49 fun r62 m63 =>
 ∃ t61 : Bool, r62 = .bool t61 ∧ RetP R (.bool (bif bif bif (i47 : Int) == 0 then true else (i47 : Int) == 1 then true else false then t61 else false)) m63) (
 (bif bif (i47 : Int) == 0 then true else (i47 : Int) == 1 then true else false) = false ∧ RetP R (.bool false) m49))) (
 CallsA Try.prog w0 38 #[.slice x0 x0n x0c] m49 fun r65 m66 =>
 ∃ t64 : Bool, r65 = .bool t64 ∧ (bcase (bif bif (i47 : Int) == 0 then true else (i47 : Int) == 1 then bif !x4 then true else !t64 else false) (
 CallsA Try.prog w0 34 #[] m66 fun r68 m69 =>
 ∃ t67 : Bool, r68 = .bool t67 ∧ RetP R (.bool (bif bif bif (i47 : Int) == 0 then true else (i47 : Int) == 1 then bif !x4 then true else !t64 else false then t67 else false)) m69) (
 (bif bif (i47 : Int) == 0 then true else (i47 : Int) == 1 then bif !x4 then true else !t64 else false) = false ∧ RetP R (.bool false) m66))))) (
 (bif (i47 : Int) == 0 then true else (i47 : Int) == 1) = false ∧ false = false ∧ RetP R (.bool false) m49)))))) :
 vcS Try.prog w0 qs11 (sub c11 [1, 1, 1, 1, 0, 1, 0]) σ m (blockS 0 (thenS (fun σ m => vcS Try.prog w0 qs11 (sub c11 [1, 1, 1, 1, 1]) σ m (retQ Try.prog Try.f11 R)) (retQ Try.prog Try.f11 R))) := by
  rw [show sub c11 [1, 1, 1, 1, 0, 1, 0] = .loop (sub c11 [1, 1, 1, 1, 0, 1, 0, 0]) from by kernel_rfl]
  refine loopQ (fun n0 σ m => σ 0 = .slice x0 x0n x0c ∧ σ 13 = .slice x13 x13n x13c ∧ σ 14 = .int .i64 x14 ∧ okS (σ 3) = true ∧ okB (σ 4) = true ∧ okI .i64 (σ 15) = true ∧ I0 n0 (vSA (σ 3)) (vSN (σ 3)) (vSC (σ 3)) (vB (σ 4)) (vI (σ 15)) m) N (fun n0 => (lq11_1111010 R x0 x0n x0c x13 x13n x13c x14 I0 E0_0 n0)) ⟨h0, h13, h14, (by rw [h3]; rfl), (by rw [h4]; rfl), (by rw [h15]; rfl), (by rw [h3, h4, h15]; exact h_0)⟩ ?_ ?_ ?_
  · rintro n0 σ m ⟨kk0, kk1, kk2, kk3, kk4, kk5, n', hlt, hI⟩; exact ⟨n', hlt, kk0, kk1, kk2, kk3, kk4, kk5, hI⟩
  · intro n0 e σ m hne h
    cases e with
    | normal => exact absurd rfl hne
    | ret => exact h
    | exit id =>
      by_cases e0 : id = 0
      · subst e0
        obtain ⟨kk0, kk1, kk2, kk3, kk4, hE⟩ := h
        have es : (upd (upd (upd (upd (upd σ 0 (.slice x0 x0n x0c)) 13 (.slice x13 x13n x13c)) 14 (.int .i64 x14)) 3 (.slice (vSA (σ 3)) (vSN (σ 3)) (vSC (σ 3)))) 4 (.bool (vB (σ 4)))) = σ := by rw [upd_id kk0, upd_id kk1, upd_id kk2, upd_id (ok_slice kk3), upd_id (ok_bool kk4)]
        exact cast (congrArg (fun s => (blockS 0 (thenS (fun σ m => vcS Try.prog w0 qs11 (sub c11 [1, 1, 1, 1, 1]) σ m (retQ Try.prog Try.f11 R)) (retQ Try.prog Try.f11 R))) (.exit 0) s m) es) (cast (by kernel_rfl) (h_e0 σ (vSA (σ 3)) (vSN (σ 3)) (vSC (σ 3)) (vB (σ 4)) m hE))
      · replace h := (if_neg e0 : (if id = 0 then _ else _) = _).mp h
        exact False.elim h
    | _ => exact False.elim h
  · rintro n0 σ m ⟨kk0, kk1, kk2, kk3, kk4, kk5, hI⟩
    have es : (upd (upd (upd (upd (upd (upd σ 0 (.slice x0 x0n x0c)) 3 (.slice (vSA (σ 3)) (vSN (σ 3)) (vSC (σ 3)))) 4 (.bool (vB (σ 4)))) 13 (.slice x13 x13n x13c)) 14 (.int .i64 x14)) 15 (.int .i64 (vI (σ 15)))) = σ := by rw [upd_id kk0, upd_id (ok_slice kk3), upd_id (ok_bool kk4), upd_id kk1, upd_id kk2, upd_id (ok_int kk5)]
    exact cast (congrArg (fun s => vcS Try.prog w0 qs11 (sub c11 [1, 1, 1, 1, 0, 1, 0, 0]) s m (lq11_1111010 R x0 x0n x0c x13 x13n x13c x14 I0 E0_0 n0)) es) (cast (by kernel_rfl) (h_s n0 σ (vSA (σ 3)) (vSN (σ 3)) (vSC (σ 3)) (vB (σ 4)) (vI (σ 15)) m hI))

/-! 12 delayslot/delayslotlaw12.HazardPlain -/
def qs12 : Nat → List (Nat × Nat) := fun i => match i with | _ => []
noncomputable def c12 : Code := bodyOf Try.f12
theorem cf12 (w0 : World) (m : AM) (x0 : Option Addr) (x0n x0c : Nat) (x1_0 : Int) (x1_1 : Int) (x1_2 : Int) (x1_3 : Int) (x1_4 : Int) (R : Value → AM → Prop) (h :
 ∀ b1 : Nat, w0.heap.size ≤ b1 → m b1 = none → let m2 := AM.upd m b1 (.cells #[.int .i64 x1_0, .int .i64 x1_1, .int .i64 x1_2, .int .i64 x1_3, .int .i64 x1_4] 23);
 IntKind.i64 = IntKind.i64 ∧ (bcase (decide ((((x0n : Nat) : Int) : Int) > 100)) (
 CallsA Try.prog w0 34 #[] m2 fun r4 m5 =>
 ∃ t3 : Bool, r4 = .bool t3 ∧ RetP R (.bool t3) m5) (
 vcS Try.prog w0 qs12 (sub c12 [1, 1, 1, 0, 1, 0]) (upd (upd (upd (upd (upd (upd (upd (upd (upd (argS [.slice x0 x0n x0c, .agg #[.int .i64 x1_0, .int .i64 x1_1, .int .i64 x1_2, .int .i64 x1_3, .int .i64 x1_4]]) 3 (.pointer (some ⟨b1, 0, none⟩))) 4 (.bool false)) 9 (.slice x0 x0n x0c)) 10 (.int .i64 ((x0n : Nat) : Int))) 11 (.bool (decide ((((x0n : Nat) : Int) : Int) > 100)))) 5 (.bool true)) 13 (.slice x0 x0n x0c)) 14 (.int .i64 ((x0n : Nat) : Int))) 15 (.int .i64 0)) m2 (blockS 0 (thenS (fun σ m => vcS Try.prog w0 qs12 (sub c12 [1, 1, 1, 1]) σ m (retQ Try.prog Try.f12 R)) (retQ Try.prog Try.f12 R)))))) : CallsA Try.prog w0 12 #[.slice x0 x0n x0c, .agg #[.int .i64 x1_0, .int .i64 x1_1, .int .i64 x1_2, .int .i64 x1_3, .int .i64 x1_4]] m R :=
  callsA_of (c := c12) (args := [.slice x0 x0n x0c, .agg #[.int .i64 x1_0, .int .i64 x1_1, .int .i64 x1_2, .int .i64 x1_3, .int .i64 x1_4]]) (by kernel_rfl) Try.func12 (by kernel_rfl) qs12 (by kernel_rfl) (by kernel_rfl) (cast (by kernel_rfl) h)
def lq12_111010 (R : Value → AM → Prop) (x0 : Option Addr) (x0n x0c : Nat) (x3 : Nat) (x13 : Option Addr) (x13n x13c : Nat) (x14 : Int) (I0 : Nat → Bool → Int → AM → Prop) (E0_0 : Bool → AM → Prop) (n0 : Nat) : Exit → Sg → AM → Prop
  | .normal, σ, m => σ 0 = .slice x0 x0n x0c ∧ σ 3 = .pointer (some ⟨x3, 0, none⟩) ∧ σ 13 = .slice x13 x13n x13c ∧ σ 14 = .int .i64 x14 ∧ okB (σ 5) = true ∧ okI .i64 (σ 15) = true ∧ ∃ n' : Nat, n' < n0 ∧ I0 n' (vB (σ 5)) (vI (σ 15)) m
  | .exit id, σ, m => if id = 0 then σ 0 = .slice x0 x0n x0c ∧ σ 3 = .pointer (some ⟨x3, 0, none⟩) ∧ σ 13 = .slice x13 x13n x13c ∧ σ 14 = .int .i64 x14 ∧ okB (σ 5) = true ∧ E0_0 (vB (σ 5)) m else False
  | .ret, σ, m => retQ Try.prog Try.f12 R .ret σ m
  | _, _, _ => False
theorem vl12_111010 (w0 : World) (m : AM) (σ : Sg) (R : Value → AM → Prop)  (x0 : Option Addr) (x0n x0c : Nat) (x3 : Nat) (x13 : Option Addr) (x13n x13c : Nat) (x14 : Int) (x5 : Bool) (x15 : Int) (I0 : Nat → Bool → Int → AM → Prop) (E0_0 : Bool → AM → Prop) (N : Nat) (h0 : σ 0 = .slice x0 x0n x0c) (h3 : σ 3 = .pointer (some ⟨x3, 0, none⟩)) (h5 : σ 5 = .bool x5) (h13 : σ 13 = .slice x13 x13n x13c) (h14 : σ 14 = .int .i64 x14) (h15 : σ 15 = .int .i64 x15)
 (h_0 : I0 N x5 x15 m)
 (h_s : ∀ (n0 : Nat) (σ : Sg) (x5 : Bool) (x15 : Int) (m : AM), I0 n0 x5 x15 m → (
 IntKind.i64 = IntKind.i64 ∧ (bcase (decide ((x15 : Int) < x14)) (
 ((0 : Int) ≤ x15 ∧ x15 < ((x13n : Nat) : Int)) ∧ nilO x13 fun a6 =>
 ∃ i7 : Int, m.cell (a6.add ((x15 : Int).toNat * 5)) = some (.int .i64 i7) ∧ ∃ i8 : Int, m.cell ((a6.add ((x15 : Int).toNat * 5)).add 1) = some (.int .i64 i8) ∧ ∃ i9 : Int, m.cell ((a6.add ((x15 : Int).toNat * 5)).add 2) = some (.int .i64 i9) ∧ ∃ i10 : Int, m.cell ((a6.add ((x15 : Int).toNat * 5)).add 3) = some (.int .i64 i10) ∧ ∃ i11 : Int, m.cell ((a6.add ((x15 : Int).toNat * 5)).add 4) = some (.int .i64 i11) ∧ 
 ∀ b12 : Nat, w0.heap.size ≤ b12 → m b12 = none → let m13 := AM.upd m b12 (.cells #[.int .i64 0, .int .i64 0, .int .i64 0, .int .i64 0, .int .i64 0] 23);
 StC w0.heap.size m13 ⟨b12, 0, none⟩ (.int .i64 i7) fun m14 =>
 StC w0.heap.size m14 ⟨b12, 1, none⟩ (.int .i64 i8) fun m15 =>
 StC w0.heap.size m15 ⟨b12, 2, none⟩ (.int .i64 i9) fun m16 =>
 StC w0.heap.size m16 ⟨b12, 3, none⟩ (.int .i64 i10) fun m17 =>
 StC w0.heap.size m17 ⟨b12, 4, none⟩ (.int .i64 i11) fun m18 =>
 (bcase x5 (
 ∃ i19 : Int, m18.cell ⟨b12, 0, none⟩ = some (.int .i64 i19) ∧ ∃ i20 : Int, m18.cell ⟨b12, 1, none⟩ = some (.int .i64 i20) ∧ ∃ i21 : Int, m18.cell ⟨b12, 2, none⟩ = some (.int .i64 i21) ∧ ∃ i22 : Int, m18.cell ⟨b12, 3, none⟩ = some (.int .i64 i22) ∧ ∃ i23 : Int, m18.cell ⟨b12, 4, none⟩ = some (.int .i64 i23) ∧ 
 CallsA Try.prog w0 33 #[.agg #[.int .i64 i19, .int .i64 i20, .int .i64 i21, .int .i64 i22, .int .i64 i23]] m18 fun r25 m26 =>
 ∃ t24 : Bool, r25 = .bool t24 ∧ (bcase (bif x5 then t24 else false) (
 ∃ i27 : Int, m26.cell ⟨b12, 0, none⟩ = some (.int .i64 i27) ∧ ∃ i28 : Int, m26.cell ⟨b12, 1, none⟩ = some (.int .i64 i28) ∧ ∃ i29 : Int, m26.cell ⟨b12, 2, none⟩ = some (.int .i64 i29) ∧ ∃ i30 : Int, m26.cell ⟨b12, 3, none⟩ = some (.int .i64 i30) ∧ ∃ i31 : Int, m26.cell ⟨b12, 4, none⟩ = some (.int .i64 i31) ∧ 
 CallsA Try.prog w0 30 #[.agg #[.int .i64 i27, .int .i64 i28, .int .i64 i29, .int .i64 i30, .int .i64 i31]] m26 fun r33 m34 =>
 ∃ t32 : Bool, r33 = .bool t32 ∧ (bcase (bif bif x5 then t24 else false then !t32 else false) (
 ∃ i35 : Int, m34.cell ⟨b12, 0, none⟩ = some (.int .i64 i35) ∧ ∃ i36 : Int, m34.cell ⟨b12, 1, none⟩ = some (.int .i64 i36) ∧ ∃ i37 : Int, m34.cell ⟨b12, 2, none⟩ = some (.int .i64 i37) ∧ ∃ i38 : Int, m34.cell ⟨b12, 3, none⟩ = some (.int .i64 i38) ∧ ∃ i39 : Int, m34.cell ⟨b12, 4, none⟩ = some (.int .i64 i39) ∧ 
 CallsA Try.prog w0 32 #[.agg #[.int .i64 i35, .int .i64 i36, .int .i64 i37, .int .i64 i38, .int .i64 i39]] m34 fun r41 m42 =>
 ∃ t40 : Bool, r41 = .bool t40 ∧ IntKind.i64 = IntKind.i64 ∧ (.slice x0 x0n x0c : Value) = .slice x0 x0n x0c ∧ (.pointer (some ⟨x3, 0, none⟩) : Value) = .pointer (some ⟨x3, 0, none⟩) ∧ (.slice x13 x13n x13c : Value) = .slice x13 x13n x13c ∧ (.int .i64 x14 : Value) = .int .i64 x14 ∧ true = true ∧ true = true ∧ ∃ n' : Nat, n' < n0 ∧ I0 n' (bif bif bif x5 then t24 else false then !t32 else false then !t40 else false) (IntKind.wrap .i64 (x15 + 1)) m42) (
 (bif bif x5 then t24 else false then !t32 else false) = false ∧ IntKind.i64 = IntKind.i64 ∧ (.slice x0 x0n x0c : Value) = .slice x0 x0n x0c ∧ (.pointer (some ⟨x3, 0, none⟩) : Value) = .pointer (some ⟨x3, 0, none⟩) ∧ (.slice x13 x13n x13c : Value) = .slice x13 x13n x13c ∧ (.int .i64 x14 : Value) = .int .i64 x14 ∧ true = true ∧ true = true ∧ ∃ n' : Nat, n' < n0 ∧ I0 n' false (IntKind.wrap .i64 (x15 + 1)) m34))) (
 (bif x5 then t24 else false) = false ∧ false = false ∧ IntKind.i64 = IntKind.i64 ∧ (.slice x0 x0n x0c : Value) = .slice x0 x0n x0c ∧ (.pointer (some ⟨x3, 0, none⟩) : Value) = .pointer (some ⟨x3, 0, none⟩) ∧ (.slice x13 x13n x13c : Value) = .slice x13 x13n x13c ∧ (.int .i64 x14 : Value) = .int .i64 x14 ∧ true = true ∧ true = true ∧ ∃ n' : Nat, n' < n0 ∧ I0 n' false (IntKind.wrap .i64 (x15 + 1)) m26))) (
 x5 = false ∧ false = false ∧ false = false ∧ IntKind.i64 = IntKind.i64 ∧ (.slice x0 x0n x0c : Value) = .slice x0 x0n x0c ∧ (.pointer (some ⟨x3, 0, none⟩) : Value) = .pointer (some ⟨x3, 0, none⟩) ∧ (.slice x13 x13n x13c : Value) = .slice x13 x13n x13c ∧ (.int .i64 x14 : Value) = .int .i64 x14 ∧ true = true ∧ true = true ∧ ∃ n' : Nat, n' < n0 ∧ I0 n' false (IntKind.wrap .i64 (x15 + 1)) m18))) (
 (.slice x0 x0n x0c : Value) = .slice x0 x0n x0c ∧ (.pointer (some ⟨x3, 0, none⟩) : Value) = .pointer (some ⟨x3, 0, none⟩) ∧ (.slice x13 x13n x13c : Value) = .slice x13 x13n x13c ∧ (.int .i64 x14 : Value) = .int .i64 x14 ∧ true = true ∧ E0_0 x5 m))))
 (h_e0 : ∀ (σ : Sg) (x5 : Bool) (m : AM), E0_0 x5 m → (
 ∃ i43 : Int, m.cell ⟨x3, 0, none⟩ = some (.int .i64 i43) ∧ ∃ i44 : Int, m.cell ⟨x3, 1, none⟩ = some (.int .i64 i44) ∧ ∃ i45 : Int, m.cell ⟨x3, 2, none⟩ = some (.int .i64 i45) ∧ ∃ i46 : Int, m.cell ⟨x3, 3, none⟩ = some (.int .i64 i46) ∧ ∃ i47 : Int, m.cell ⟨x3, 4, none⟩ = some (.int .i64 i47) ∧ 
 true = true ∧ ∀ b48 : Nat, w0.heap.size ≤ b48 → m b48 = none → let m49 := AM.upd m b48 (.cells #[.int .i64 i43, .int .i64 i44, .int .i64 i45, .int .i64 i46, .int .i64 i47] 23);
 CallsA Try.prog w0 38 #[.slice (some ⟨b48, 0, none⟩) 1 1] m49 fun r51 m52 =>
 ∃ t50 : Bool, r51 = .bool t50 ∧ (bcase (!x5) (
 (!x5) = true ∧ ∃ i53 : Int, m52.cell ⟨x3, 0, none⟩ = some (.int .i64 i53) ∧ ∃ i54 : Int, m52.cell ⟨x3, 1, none⟩ = some (.int .i64 i54) ∧ ∃ i55 : Int, m52.cell ⟨x3, 2, none⟩ = some (.int .i64 i55) ∧ ∃ i56 : Int, m52.cell ⟨x3, 3, none⟩ = some (.int .i64 i56) ∧ ∃ i57 : Int, m52.cell ⟨x3, 4, none⟩ = some (.int .i64 i57) ∧ 
 CallsA Try.prog w0 33 #[.agg #[.int .i64 i53, .int .i64 i54, .int .i64 i55, .int .i64 i56, .int .i64 i57]] m52 fun r59 m60 =>
 ∃ t58 : Bool, r59 = .bool t58 ∧ (bcase t58 (
 ∃ i61 : Int, m60.cell ⟨x3, 0, none⟩ = some (.int .i64 i61) ∧ ∃ i62 : Int, m60.cell ⟨x3, 1, none⟩ = some (.int .i64 i62) ∧ ∃ i63 : Int, m60.cell ⟨x3, 2, none⟩ = some (.int .i64 i63) ∧ ∃ i64 : Int, m60.cell ⟨x3, 3, none⟩ = some (.int .i64 i64) ∧ ∃ i65 : Int, m60.cell ⟨x3, 4, none⟩ = some (.int .i64 i65) ∧ 
 CallsA Try.prog w0 30 #[.agg #[.int .i64 i61, .int .i64 i62, .int .i64 i63, .int .i64 i64, .int .i64 i65]] m60 fun r67 m68 =>
 ∃ t66 : Bool, r67 = .bool t66 ∧ (bcase (bif true then (t50 : Bool) == (bif t58 then !t66 else false) else false) (
 CallsA Try.prog w0 34 #[] m68 fun r70 m71 =>
 ∃ t69 : Bool, r70 = .bool t69 ∧ RetP R (.bool (bif bif true then (t50 : Bool) == (bif t58 then !t66 else false) else false then t69 else false)) m71) (
 (bif true then (t50 : Bool) == (bif t58 then !t66 else false) else false) = false ∧ RetP R (.bool false) m68))) (
 t58 = false ∧ (bcase (bif true then (t50 : Bool) == false else false) (
 CallsA Try.prog w0 34 #[] m60 fun r73 m74 =>
 ∃ t72 : Bool, r73 = .bool t72 ∧ RetP R (.bool (bif bif true then (t50 : Bool) == false else false then t72 else false)) m74) (
 (bif true then (t50 : Bool) == false else false) = false ∧ RetP R (.bool false) m60))))) (
 CallsA Try.prog w0 38 #[.slice x0 x0n x0c] m52 fun r76 m77 =>
 ∃ t75 : Bool, r76 = .bool t75 ∧ (bcase (bif !x5 then true else t75) (
 ∃ i78 : Int, m77.cell ⟨x3, 0, none⟩ = some (.int .i64 i78) ∧ ∃ i79 : Int, m77.cell ⟨x3, 1, none⟩ = some (.int .i64 i79) ∧ ∃ i80 : Int, m77.cell ⟨x3, 2, none⟩ = some (.int .i64 i80) ∧ ∃ i81 : Int, m77.cell ⟨x3, 3, none⟩ = some (.int .i64 i81) ∧ ∃ i82 : Int, m77.cell ⟨x3, 4, none⟩ = some (.int .i64 i82) ∧ 
 CallsA Try.prog w0 33 #[.agg #[.int .i64 i78, .int .i64 i79, .int .i64 i80, .int .i64 i81, .int .i64 i82]] m77 fun r84 m85 =>
 ∃ t83 : Bool, r84 = .bool t83 ∧ (bcase t83 (
 ∃ i86 : Int, m85.cell ⟨x3, 0, none⟩ = some (.int .i64 i86) ∧ ∃ i87 : Int, m85.cell ⟨x3, 1, none⟩ = some (.int .i64 i87) ∧ ∃ i88 : Int, m85.cell ⟨x3, 2, none⟩ = some (.int .i64 i88) ∧ ∃ i89 : Int, m85.cell ⟨x3, 3, none⟩ = some (.int .i64 i89) ∧ ∃ i90 : Int, m85.cell ⟨x3, 4, none⟩ = some (.int .i64 i90) ∧ 
 CallsA Try.prog w0 30 #[.agg #[.int .i64 i86, .int .i64 i87, .int .i64 i88, .int .i64 i89, .int .i64 i90]] m85 fun r92 m93 =>
 ∃ t91 : Bool, r92 = .bool t91 ∧ (bcase (bif bif !x5 then true else t75 then (t50 : Bool) == (bif t83 then !t91 else false) else false) (
 CallsA Try.prog w0 34 #[] m93 fun r95 m96 =>
 ∃ t94 : Bool, r95 = .bool t94 ∧ RetP R (.bool (bif bif bif !x5 then true else t75 then (t50 : Bool) == (bif t83 then !t91 else false) else false then t94 else false)) m96) (
 (bif bif !x5 then true else t75 then (t50 : Bool) == (bif t83 then !t91 else false) else false) = false ∧ RetP R (.bool false) m93))) (
 t83 = false ∧ (bcase (bif bif !x5 then true else t75 then (t50 : Bool) == false else false) (
 CallsA Try.prog w0 34 #[] m85 fun r98 m99 =>
 ∃ t97 : Bool, r98 = .bool t97 ∧ RetP R (.bool (bif bif bif !x5 then true else t75 then (t50 : Bool) == false else false then t97 else false)) m99) (
 (bif bif !x5 then true else t75 then (t50 : Bool) == false else false) = false ∧ RetP R (.bool false) m85))))) (
 (bif !x5 then true else t75) = false ∧ false = false ∧ RetP R (.bool false) m77)))))) :
 vcS Try.prog w0 qs12 (sub c12 [1, 1, 1, 0, 1, 0]) σ m (blockS 0 (thenS (fun σ m => vcS Try.prog w0 qs12 (sub c12 [1, 1, 1, 1]) σ m (retQ Try.prog Try.f12 R)) (retQ Try.prog Try.f12 R))) := by
  rw [show sub c12 [1, 1, 1, 0, 1, 0] = .loop (sub c12 [1, 1, 1, 0, 1, 0, 0]) from by kernel_rfl]
  refine loopQ (fun n0 σ m => σ 0 = .slice x0 x0n x0c ∧ σ 3 = .pointer (some ⟨x3, 0, none⟩) ∧ σ 13 = .slice x13 x13n x13c ∧ σ 14 = .int .i64 x14 ∧ okB (σ 5) = true ∧ okI .i64 (σ 15) = true ∧ I0 n0 (vB (σ 5)) (vI (σ 15)) m) N (fun n0 => (lq12_111010 R x0 x0n x0c x3 x13 x13n x13c x14 I0 E0_0 n0)) ⟨h0, h3, h13, h14, (by rw [h5]; rfl), (by rw [h15]; rfl), (by rw [h5, h15]; exact h_0)⟩ ?_ ?_ ?_
  · rintro n0 σ m ⟨kk0, kk1, kk2, kk3, kk4, kk5, n', hlt, hI⟩; exact ⟨n', hlt, kk0, kk1, kk2, kk3, kk4, kk5, hI⟩
  · intro n0 e σ m hne h
    cases e with
    | normal => exact absurd rfl hne
    | ret => exact h
    | exit id =>
      by_cases e0 : id = 0
      · subst e0
        obtain ⟨kk0, kk1, kk2, kk3, kk4, hE⟩ := h
        have es : (upd (upd (upd (upd (upd σ 0 (.slice x0 x0n x0c)) 3 (.pointer (some ⟨x3, 0, none⟩))) 13 (.slice x13 x13n x13c)) 14 (.int .i64 x14)) 5 (.bool (vB (σ 5)))) = σ := by rw [upd_id kk0, upd_id kk1, upd_id kk2, upd_id kk3, upd_id (ok_bool kk4)]
        exact cast (congrArg (fun s => (blockS 0 (thenS (fun σ m => vcS Try.prog w0 qs12 (sub c12 [1, 1, 1, 1]) σ m (retQ Try.prog Try.f12 R)) (retQ Try.prog Try.f12 R))) (.exit 0) s m) es) (cast (by kernel_rfl) (h_e0 σ (vB (σ 5)) m hE))
      · replace h := (if_neg e0 : (if id = 0 then _ else _) = _).mp h
        exact False.elim h
    | _ => exact False.elim h
  · rintro n0 σ m ⟨kk0, kk1, kk2, kk3, kk4, kk5, hI⟩
    have es : (upd (upd (upd (upd (upd (upd σ 0 (.slice x0 x0n x0c)) 3 (.pointer (some ⟨x3, 0, none⟩))) 5 (.bool (vB (σ 5)))) 13 (.slice x13 x13n x13c)) 14 (.int .i64 x14)) 15 (.int .i64 (vI (σ 15)))) = σ := by rw [upd_id kk0, upd_id kk1, upd_id (ok_bool kk4), upd_id kk2, upd_id kk3, upd_id (ok_int kk5)]
    exact cast (congrArg (fun s => vcS Try.prog w0 qs12 (sub c12 [1, 1, 1, 0, 1, 0, 0]) s m (lq12_111010 R x0 x0n x0c x3 x13 x13n x13c x14 I0 E0_0 n0)) es) (cast (by kernel_rfl) (h_s n0 σ (vB (σ 5)) (vI (σ 15)) m hI))

/-! 13 delayslot/delayslotlaw12.HazardLate -/
def qs13 : Nat → List (Nat × Nat) := fun i => match i with | _ => []
noncomputable def c13 : Code := bodyOf Try.f13
theorem cf13 (w0 : World) (m : AM) (x0 : Int) (x1_0 : Int) (x1_1 : Int) (x1_2 : Int) (x1_3 : Int) (x1_4 : Int) (R : Value → AM → Prop) (h :
 ∀ b1 : Nat, w0.heap.size ≤ b1 → m b1 = none → let m2 := AM.upd m b1 (.cells #[.int .i64 x1_0, .int .i64 x1_1, .int .i64 x1_2, .int .i64 x1_3, .int .i64 x1_4] 23);
 IntKind.u8 = IntKind.u8 ∧ (32 : Int) ≠ 0 ∧ true = true ∧ ∀ b3 : Nat, w0.heap.size ≤ b3 → m2 b3 = none → let m4 := AM.upd m2 b3 (.cells #[.int .i64 0, .int .i64 0, .int .i64 0, .int .i64 0, .int .i64 0] 23);
 StC w0.heap.size m4 ⟨b3, 0, none⟩ (.int .i64 12) fun m5 =>
 StC w0.heap.size m5 ⟨b3, 1, none⟩ (.int .i64 (IntKind.wrap .i64 (Int.tmod x0 32))) fun m6 =>
 StC w0.heap.size m6 ⟨b3, 2, none⟩ (.int .i64 0) fun m7 =>
 StC w0.heap.size m7 ⟨b3, 3, none⟩ (.int .i64 0) fun m8 =>
 StC w0.heap.size m8 ⟨b3, 4, none⟩ (.int .i64 0) fun m9 =>
 ∃ i10 : Int, m9.cell ⟨b1, 0, none⟩ = some (.int .i64 i10) ∧ ∃ i11 : Int, m9.cell ⟨b1, 1, none⟩ = some (.int .i64 i11) ∧ ∃ i12 : Int, m9.cell ⟨b1, 2, none⟩ = some (.int .i64 i12) ∧ ∃ i13 : Int, m9.cell ⟨b1, 3, none⟩ = some (.int .i64 i13) ∧ ∃ i14 : Int, m9.cell ⟨b1, 4, none⟩ = some (.int .i64 i14) ∧ 
 CallsA Try.prog w0 33 #[.agg #[.int .i64 i10, .int .i64 i11, .int .i64 i12, .int .i64 i13, .int .i64 i14]] m9 fun r16 m17 =>
 ∃ t15 : Bool, r16 = .bool t15 ∧ (bcase (!t15) (
 (!t15) = true ∧ true = true ∧ CallsA Try.prog w0 34 #[] m17 fun r19 m20 =>
 ∃ t18 : Bool, r19 = .bool t18 ∧ RetP R (.bool t18) m20) (
 ∃ i21 : Int, m17.cell ⟨b1, 0, none⟩ = some (.int .i64 i21) ∧ ∃ i22 : Int, m17.cell ⟨b1, 1, none⟩ = some (.int .i64 i22) ∧ ∃ i23 : Int, m17.cell ⟨b1, 2, none⟩ = some (.int .i64 i23) ∧ ∃ i24 : Int, m17.cell ⟨b1, 3, none⟩ = some (.int .i64 i24) ∧ ∃ i25 : Int, m17.cell ⟨b1, 4, none⟩ = some (.int .i64 i25) ∧ 
 CallsA Try.prog w0 30 #[.agg #[.int .i64 i21, .int .i64 i22, .int .i64 i23, .int .i64 i24, .int .i64 i25]] m17 fun r27 m28 =>
 ∃ t26 : Bool, r27 = .bool t26 ∧ (bcase (bif !t15 then true else t26) (
 (bif !t15 then true else t26) = true ∧ CallsA Try.prog w0 34 #[] m28 fun r30 m31 =>
 ∃ t29 : Bool, r30 = .bool t29 ∧ RetP R (.bool t29) m31) (
 ∃ i32 : Int, m28.cell ⟨b1, 0, none⟩ = some (.int .i64 i32) ∧ ∃ i33 : Int, m28.cell ⟨b1, 1, none⟩ = some (.int .i64 i33) ∧ ∃ i34 : Int, m28.cell ⟨b1, 2, none⟩ = some (.int .i64 i34) ∧ ∃ i35 : Int, m28.cell ⟨b1, 3, none⟩ = some (.int .i64 i35) ∧ ∃ i36 : Int, m28.cell ⟨b1, 4, none⟩ = some (.int .i64 i36) ∧ 
 CallsA Try.prog w0 32 #[.agg #[.int .i64 i32, .int .i64 i33, .int .i64 i34, .int .i64 i35, .int .i64 i36]] m28 fun r38 m39 =>
 ∃ t37 : Bool, r38 = .bool t37 ∧ (bcase (bif bif !t15 then true else t26 then true else t37) (
 CallsA Try.prog w0 34 #[] m39 fun r41 m42 =>
 ∃ t40 : Bool, r41 = .bool t40 ∧ RetP R (.bool t40) m42) (
 ∃ i43 : Int, m39.cell ⟨b3, 0, none⟩ = some (.int .i64 i43) ∧ ∃ i44 : Int, m39.cell ⟨b3, 1, none⟩ = some (.int .i64 i44) ∧ ∃ i45 : Int, m39.cell ⟨b3, 2, none⟩ = some (.int .i64 i45) ∧ ∃ i46 : Int, m39.cell ⟨b3, 3, none⟩ = some (.int .i64 i46) ∧ ∃ i47 : Int, m39.cell ⟨b3, 4, none⟩ = some (.int .i64 i47) ∧ 
 ∃ i48 : Int, m39.cell ⟨b1, 0, none⟩ = some (.int .i64 i48) ∧ ∃ i49 : Int, m39.cell ⟨b1, 1, none⟩ = some (.int .i64 i49) ∧ ∃ i50 : Int, m39.cell ⟨b1, 2, none⟩ = some (.int .i64 i50) ∧ ∃ i51 : Int, m39.cell ⟨b1, 3, none⟩ = some (.int .i64 i51) ∧ ∃ i52 : Int, m39.cell ⟨b1, 4, none⟩ = some (.int .i64 i52) ∧ 
 true = true ∧ ∀ b53 : Nat, w0.heap.size ≤ b53 → m39 b53 = none → let m54 := AM.upd m39 b53 (.cells #[.int .i64 i43, .int .i64 i44, .int .i64 i45, .int .i64 i46, .int .i64 i47, .int .i64 i48, .int .i64 i49, .int .i64 i50, .int .i64 i51, .int .i64 i52] 23);
 CallsA Try.prog w0 38 #[.slice (some ⟨b53, 0, none⟩) 2 2] m54 fun r56 m57 =>
 ∃ t55 : Bool, r56 = .bool t55 ∧ true = true ∧ ∃ i58 : Int, m57.cell ⟨b3, 0, none⟩ = some (.int .i64 i58) ∧ ∃ i59 : Int, m57.cell ⟨b3, 1, none⟩ = some (.int .i64 i59) ∧ ∃ i60 : Int, m57.cell ⟨b3, 2, none⟩ = some (.int .i64 i60) ∧ ∃ i61 : Int, m57.cell ⟨b3, 3, none⟩ = some (.int .i64 i61) ∧ ∃ i62 : Int, m57.cell ⟨b3, 4, none⟩ = some (.int .i64 i62) ∧ 
 ∃ i63 : Int, m57.cell ⟨b1, 0, none⟩ = some (.int .i64 i63) ∧ ∃ i64 : Int, m57.cell ⟨b1, 1, none⟩ = some (.int .i64 i64) ∧ ∃ i65 : Int, m57.cell ⟨b1, 2, none⟩ = some (.int .i64 i65) ∧ ∃ i66 : Int, m57.cell ⟨b1, 3, none⟩ = some (.int .i64 i66) ∧ ∃ i67 : Int, m57.cell ⟨b1, 4, none⟩ = some (.int .i64 i67) ∧ 
 true = true ∧ ∀ b68 : Nat, w0.heap.size ≤ b68 → m57 b68 = none → let m69 := AM.upd m57 b68 (.cells #[.int .i64 17, .int .i64 0, .int .i64 0, .int .i64 0, .int .i64 0, .int .i64 i58, .int .i64 i59, .int .i64 i60, .int .i64 i61, .int .i64 i62, .int .i64 i63, .int .i64 i64, .int .i64 i65, .int .i64 i66, .int .i64 i67] 23);
 CallsA Try.prog w0 38 #[.slice (some ⟨b68, 0, none⟩) 3 3] m69 fun r71 m72 =>
 ∃ t70 : Bool, r71 = .bool t70 ∧ ∃ i73 : Int, m72.cell ⟨b1, 0, none⟩ = some (.int .i64 i73) ∧ ∃ i74 : Int, m72.cell ⟨b1, 1, none⟩ = some (.int .i64 i74) ∧ ∃ i75 : Int, m72.cell ⟨b1, 2, none⟩ = some (.int .i64 i75) ∧ ∃ i76 : Int, m72.cell ⟨b1, 3, none⟩ = some (.int .i64 i76) ∧ ∃ i77 : Int, m72.cell ⟨b1, 4, none⟩ = some (.int .i64 i77) ∧ 
 CallsA Try.prog w0 22 #[.agg #[.int .i64 i73, .int .i64 i74, .int .i64 i75, .int .i64 i76, .int .i64 i77], .int .i64 (IntKind.wrap .i64 (Int.tmod x0 32))] m72 fun r79 m80 =>
 ∃ t78 : Bool, r79 = .bool t78 ∧ (bcase ((t55 : Bool) == (!t78)) (
 (bcase (bif (t55 : Bool) == (!t78) then !t70 else false) (
 ∃ i81 : Int, m80.cell ⟨b3, 0, none⟩ = some (.int .i64 i81) ∧ ∃ i82 : Int, m80.cell ⟨b3, 1, none⟩ = some (.int .i64 i82) ∧ ∃ i83 : Int, m80.cell ⟨b3, 2, none⟩ = some (.int .i64 i83) ∧ ∃ i84 : Int, m80.cell ⟨b3, 3, none⟩ = some (.int .i64 i84) ∧ ∃ i85 : Int, m80.cell ⟨b3, 4, none⟩ = some (.int .i64 i85) ∧ 
 true = true ∧ ∃ i86 : Int, m80.cell ⟨b1, 0, none⟩ = some (.int .i64 i86) ∧ ∃ i87 : Int, m80.cell ⟨b1, 1, none⟩ = some (.int .i64 i87) ∧ ∃ i88 : Int, m80.cell ⟨b1, 2, none⟩ = some (.int .i64 i88) ∧ ∃ i89 : Int, m80.cell ⟨b1, 3, none⟩ = some (.int .i64 i89) ∧ ∃ i90 : Int, m80.cell ⟨b1, 4, none⟩ = some (.int .i64 i90) ∧ 
 true = true ∧ ∀ b91 : Nat, w0.heap.size ≤ b91 → m80 b91 = none → let m92 := AM.upd m80 b91 (.cells #[.int .i64 i81, .int .i64 i82, .int .i64 i83, .int .i64 i84, .int .i64 i85, .int .i64 0, .int .i64 0, .int .i64 0, .int .i64 0, .int .i64 0, .int .i64 i86, .int .i64 i87, .int .i64 i88, .int .i64 i89, .int .i64 i90] 23);
 CallsA Try.prog w0 38 #[.slice (some ⟨b91, 0, none⟩) 3 3] m92 fun r94 m95 =>
 ∃ t93 : Bool, r94 = .bool t93 ∧ (bcase (bif bif (t55 : Bool) == (!t78) then !t70 else false then t93 else false) (
 CallsA Try.prog w0 34 #[] m95 fun r97 m98 =>
 ∃ t96 : Bool, r97 = .bool t96 ∧ RetP R (.bool (bif bif bif (t55 : Bool) == (!t78) then !t70 else false then t93 else false then t96 else false)) m98) (
 (bif bif (t55 : Bool) == (!t78) then !t70 else false then t93 else false) = false ∧ RetP R (.bool false) m95))) (
 (bif (t55 : Bool) == (!t78) then !t70 else false) = false ∧ false = false ∧ RetP R (.bool false) m80))) (
 ((t55 : Bool) == (!t78)) = false ∧ false = false ∧ false = false ∧ RetP R (.bool false) m80))))))))) : CallsA Try.prog w0 13 #[.int .u8 x0, .agg #[.int .i64 x1_0, .int .i64 x1_1, .int .i64 x1_2, .int .i64 x1_3, .int .i64 x1_4]] m R :=
  callsA_of (c := c13) (args := [.int .u8 x0, .agg #[.int .i64 x1_0, .int .i64 x1_1, .int .i64 x1_2, .int .i64 x1_3, .int .i64 x1_4]]) (by kernel_rfl) Try.func13 (by kernel_rfl) qs13 (by kernel_rfl) (by kernel_rfl) (cast (by kernel_rfl) h)
end Go.Proofs.Ythocajnpofdbmaa.V
