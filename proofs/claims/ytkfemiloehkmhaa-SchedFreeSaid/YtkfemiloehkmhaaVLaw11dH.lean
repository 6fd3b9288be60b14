/- Ytkfemiloehkmhaa: a text of our own, by an AI agent: VLaw11dH -/
import Derived.Test.YtkfemiloehkmhaaCoreA
import Derived.Test.YtkfemiloehkmhaaTabH
namespace Go.Proofs.Ytkfemiloehkmhaa.V
open Go Go.Alog Go.Proofs.Ytkfemiloehkmhaa.T
set_option linter.unusedVariables false
set_option maxRecDepth 100000

/-! 14 delayslot/delayslotlaw11.SchedFree -/
def qs14 : Nat → List (Nat × Nat) := fun i => match i with | _ => []
noncomputable def c14 : Code := bodyOf Try.f14
theorem cf14 (w0 : World) (m : AM) (x0 : Option Addr) (x0n x0c : Nat) (R : Value → AM → Prop) (h :
 IntKind.i64 = IntKind.i64 ∧ (bcase (decide ((((x0n : Nat) : Int) : Int) > 40)) (
 CallsA Try.prog w0 32 #[] m fun r2 m3 =>
 ∃ t1 : Bool, r2 = .bool t1 ∧ RetP R (.bool t1) m3) (
 vcS Try.prog w0 qs14 (sub c14 [1, 1, 0, 1, 0]) (upd (upd (upd (upd (upd (upd (upd (argS [.slice x0 x0n x0c]) 2 (.bool false)) 7 (.slice x0 x0n x0c)) 8 (.int .i64 ((x0n : Nat) : Int))) 9 (.bool (decide ((((x0n : Nat) : Int) : Int) > 40)))) 11 (.slice x0 x0n x0c)) 12 (.int .i64 ((x0n : Nat) : Int))) 13 (.int .i64 0)) m (blockS 0 (thenS (fun σ m => vcS Try.prog w0 qs14 (sub c14 [1, 1, 1]) σ m (retQ Try.prog Try.f14 R)) (retQ Try.prog Try.f14 R)))))) : CallsA Try.prog w0 14 #[.slice x0 x0n x0c] m R :=
  callsA_of (c := c14) (args := [.slice x0 x0n x0c]) (by kernel_rfl) Try.func14 (by kernel_rfl) qs14 (by kernel_rfl) (by kernel_rfl) (cast (by kernel_rfl) h)
def lq14_11010 (R : Value → AM → Prop) (x0 : Option Addr) (x0n x0c : Nat) (x12 : Int) (I0 : Nat → Int → AM → Prop) (E0_0 : AM → Prop) (n0 : Nat) : Exit → Sg → AM → Prop
  | .normal, σ, m => σ 0 = .slice x0 x0n x0c ∧ σ 12 = .int .i64 x12 ∧ okI .i64 (σ 13) = true ∧ ∃ n' : Nat, n' < n0 ∧ I0 n' (vI (σ 13)) m
  | .exit id, σ, m => if id = 0 then σ 0 = .slice x0 x0n x0c ∧ σ 12 = .int .i64 x12 ∧ E0_0  m else False
  | .ret, σ, m => retQ Try.prog Try.f14 R .ret σ m
  | _, _, _ => False
theorem vl14_11010 (w0 : World) (m : AM) (σ : Sg) (R : Value → AM → Prop)  (x0 : Option Addr) (x0n x0c : Nat) (x12 : Int) (x13 : Int) (I0 : Nat → Int → AM → Prop) (E0_0 : AM → Prop) (N : Nat) (h0 : σ 0 = .slice x0 x0n x0c) (h12 : σ 12 = .int .i64 x12) (h13 : σ 13 = .int .i64 x13)
 (h_0 : I0 N x13 m)
 (h_s : ∀ (n0 : Nat) (σ : Sg) (x13 : Int) (m : AM), I0 n0 x13 m → (
 IntKind.i64 = IntKind.i64 ∧ (bcase (decide ((x13 : Int) < x12)) (
 IntKind.i64 = IntKind.i64 ∧ vcS Try.prog w0 qs14 (sub c14 [1, 1, 0, 1, 0, 0, 1, 1, 0, 0, 1, 1, 0]) (upd (upd (upd (upd (upd (upd (upd (upd (upd σ 0 (.slice x0 x0n x0c)) 12 (.int .i64 x12)) 13 (.int .i64 x13)) 14 (.bool (decide ((x13 : Int) < x12)))) 15 (.int .i64 x13)) 3 (.int .i64 x13)) 16 (.int .i64 x13)) 17 (.int .i64 (IntKind.wrap .i64 (x13 + 1)))) 4 (.int .i64 (IntKind.wrap .i64 (x13 + 1)))) m (blockS 2 (blockS 1 (thenS (fun σ m => vcS Try.prog w0 qs14 (sub c14 [1, 1, 0, 1, 0, 0, 1, 1, 1]) σ m (lq14_11010 R x0 x0n x0c x12 I0 E0_0 n0)) (lq14_11010 R x0 x0n x0c x12 I0 E0_0 n0))))) (
 (.slice x0 x0n x0c : Value) = .slice x0 x0n x0c ∧ (.int .i64 x12 : Value) = .int .i64 x12 ∧ E0_0  m))))
 (h_e0 : ∀ (σ : Sg)  (m : AM), E0_0  m → (
 CallsA Try.prog w0 34 #[.slice x0 x0n x0c] m fun r7 m8 =>
 ∃ (A4 : Option Addr) (n5 c6 : Nat), r7 = .slice A4 n5 c6 ∧ vcS Try.prog w0 qs14 (sub c14 [1, 1, 1, 1, 0, 1, 0]) (upd (upd (upd (upd (upd (upd (upd (upd σ 0 (.slice x0 x0n x0c)) 12 (.int .i64 x12)) 36 (.slice x0 x0n x0c)) 37 (.slice A4 n5 c6)) 5 (.slice A4 n5 c6)) 38 (.slice A4 n5 c6)) 39 (.int .i64 ((n5 : Nat) : Int))) 40 (.int .i64 0)) m8 (blockS 4 (thenS (fun σ m => vcS Try.prog w0 qs14 (sub c14 [1, 1, 1, 1, 1]) σ m (retQ Try.prog Try.f14 R)) (retQ Try.prog Try.f14 R))))) :
 vcS Try.prog w0 qs14 (sub c14 [1, 1, 0, 1, 0]) σ m (blockS 0 (thenS (fun σ m => vcS Try.prog w0 qs14 (sub c14 [1, 1, 1]) σ m (retQ Try.prog Try.f14 R)) (retQ Try.prog Try.f14 R))) := by
  rw [show sub c14 [1, 1, 0, 1, 0] = .loop (sub c14 [1, 1, 0, 1, 0, 0]) from by kernel_rfl]
  refine loopQ (fun n0 σ m => σ 0 = .slice x0 x0n x0c ∧ σ 12 = .int .i64 x12 ∧ okI .i64 (σ 13) = true ∧ I0 n0 (vI (σ 13)) m) N (fun n0 => (lq14_11010 R x0 x0n x0c x12 I0 E0_0 n0)) ⟨h0, h12, (by rw [h13]; rfl), (by rw [h13]; exact h_0)⟩ ?_ ?_ ?_
  · rintro n0 σ m ⟨kk0, kk1, kk2, n', hlt, hI⟩; exact ⟨n', hlt, kk0, kk1, kk2, hI⟩
  · intro n0 e σ m hne h
    cases e with
    | normal => exact absurd rfl hne
    | ret => exact h
    | exit id =>
      by_cases e0 : id = 0
      · subst e0
        obtain ⟨kk0, kk1, hE⟩ := h
        have es : (upd (upd σ 0 (.slice x0 x0n x0c)) 12 (.int .i64 x12)) = σ := by rw [upd_id kk0, upd_id kk1]
        exact cast (congrArg (fun s => (blockS 0 (thenS (fun σ m => vcS Try.prog w0 qs14 (sub c14 [1, 1, 1]) σ m (retQ Try.prog Try.f14 R)) (retQ Try.prog Try.f14 R))) (.exit 0) s m) es) (cast (by kernel_rfl) (h_e0 σ  m hE))
      · replace h := (if_neg e0 : (if id = 0 then _ else _) = _).mp h
        exact False.elim h
    | _ => exact False.elim h
  · rintro n0 σ m ⟨kk0, kk1, kk2, hI⟩
    have es : (upd (upd (upd σ 0 (.slice x0 x0n x0c)) 12 (.int .i64 x12)) 13 (.int .i64 (vI (σ 13)))) = σ := by rw [upd_id kk0, upd_id kk1, upd_id (ok_int kk2)]
    exact cast (congrArg (fun s => vcS Try.prog w0 qs14 (sub c14 [1, 1, 0, 1, 0, 0]) s m (lq14_11010 R x0 x0n x0c x12 I0 E0_0 n0)) es) (cast (by kernel_rfl) (h_s n0 σ (vI (σ 13)) m hI))
def lq14_1101001100110 (R : Value → AM → Prop) (x0 : Option Addr) (x0n x0c : Nat) (x3 : Int) (x12 : Int) (x13 : Int) (I1 : Nat → Int → AM → Prop) (E1_2 : AM → Prop) (n1 : Nat) : Exit → Sg → AM → Prop
  | .normal, σ, m => σ 0 = .slice x0 x0n x0c ∧ σ 3 = .int .i64 x3 ∧ σ 12 = .int .i64 x12 ∧ σ 13 = .int .i64 x13 ∧ okI .i64 (σ 4) = true ∧ ∃ n' : Nat, n' < n1 ∧ I1 n' (vI (σ 4)) m
  | .exit id, σ, m => if id = 2 then σ 0 = .slice x0 x0n x0c ∧ σ 3 = .int .i64 x3 ∧ σ 12 = .int .i64 x12 ∧ σ 13 = .int .i64 x13 ∧ E1_2  m else False
  | .ret, σ, m => retQ Try.prog Try.f14 R .ret σ m
  | _, _, _ => False
theorem vl14_1101001100110 (w0 : World) (m : AM) (σ : Sg) (R : Value → AM → Prop) (n0 : Nat) (I0 : Nat → Int → AM → Prop) (E0_0 : AM → Prop) (x0 : Option Addr) (x0n x0c : Nat) (x3 : Int) (x12 : Int) (x13 : Int) (x4 : Int) (I1 : Nat → Int → AM → Prop) (E1_2 : AM → Prop) (N : Nat) (h0 : σ 0 = .slice x0 x0n x0c) (h3 : σ 3 = .int .i64 x3) (h4 : σ 4 = .int .i64 x4) (h12 : σ 12 = .int .i64 x12) (h13 : σ 13 = .int .i64 x13)
 (h_0 : I1 N x4 m)
 (h_s : ∀ (n1 : Nat) (σ : Sg) (x4 : Int) (m : AM), I1 n1 x4 m → (
 IntKind.i64 = IntKind.i64 ∧ (bcase (decide ((x4 : Int) < ((x0n : Nat) : Int))) (
 ((0 : Int) ≤ x3 ∧ x3 < ((x0n : Nat) : Int)) ∧ nilO x0 fun a9 =>
 ∃ i10 : Int, m.cell (a9.add ((x3 : Int).toNat * 5)) = some (.int .i64 i10) ∧ ∃ i11 : Int, m.cell ((a9.add ((x3 : Int).toNat * 5)).add 1) = some (.int .i64 i11) ∧ ∃ i12 : Int, m.cell ((a9.add ((x3 : Int).toNat * 5)).add 2) = some (.int .i64 i12) ∧ ∃ i13 : Int, m.cell ((a9.add ((x3 : Int).toNat * 5)).add 3) = some (.int .i64 i13) ∧ ∃ i14 : Int, m.cell ((a9.add ((x3 : Int).toNat * 5)).add 4) = some (.int .i64 i14) ∧ 
 ((0 : Int) ≤ x4 ∧ x4 < ((x0n : Nat) : Int)) ∧ nilO x0 fun a15 =>
 ∃ i16 : Int, m.cell (a15.add ((x4 : Int).toNat * 5)) = some (.int .i64 i16) ∧ ∃ i17 : Int, m.cell ((a15.add ((x4 : Int).toNat * 5)).add 1) = some (.int .i64 i17) ∧ ∃ i18 : Int, m.cell ((a15.add ((x4 : Int).toNat * 5)).add 2) = some (.int .i64 i18) ∧ ∃ i19 : Int, m.cell ((a15.add ((x4 : Int).toNat * 5)).add 3) = some (.int .i64 i19) ∧ ∃ i20 : Int, m.cell ((a15.add ((x4 : Int).toNat * 5)).add 4) = some (.int .i64 i20) ∧ 
 CallsA Try.prog w0 41 #[.agg #[.int .i64 i10, .int .i64 i11, .int .i64 i12, .int .i64 i13, .int .i64 i14], .agg #[.int .i64 i16, .int .i64 i17, .int .i64 i18, .int .i64 i19, .int .i64 i20]] m fun r22 m23 =>
 ∃ i21 : Int, r22 = .int .i64 i21 ∧ IntKind.i64 = IntKind.i64 ∧ (bcase (decide ((i21 : Int) > 0)) (
 CallsA Try.prog w0 32 #[] m23 fun r25 m26 =>
 ∃ t24 : Bool, r25 = .bool t24 ∧ RetP R (.bool t24) m26) (
 IntKind.i64 = IntKind.i64 ∧ (.slice x0 x0n x0c : Value) = .slice x0 x0n x0c ∧ (.int .i64 x3 : Value) = .int .i64 x3 ∧ (.int .i64 x12 : Value) = .int .i64 x12 ∧ (.int .i64 x13 : Value) = .int .i64 x13 ∧ true = true ∧ ∃ n' : Nat, n' < n1 ∧ I1 n' (IntKind.wrap .i64 (x4 + 1)) m23))) (
 (.slice x0 x0n x0c : Value) = .slice x0 x0n x0c ∧ (.int .i64 x3 : Value) = .int .i64 x3 ∧ (.int .i64 x12 : Value) = .int .i64 x12 ∧ (.int .i64 x13 : Value) = .int .i64 x13 ∧ E1_2  m))))
 (h_e2 : ∀ (σ : Sg)  (m : AM), E1_2  m → (
 IntKind.i64 = IntKind.i64 ∧ (.slice x0 x0n x0c : Value) = .slice x0 x0n x0c ∧ (.int .i64 x12 : Value) = .int .i64 x12 ∧ true = true ∧ ∃ n' : Nat, n' < n0 ∧ I0 n' (IntKind.wrap .i64 (x13 + 1)) m)) :
 vcS Try.prog w0 qs14 (sub c14 [1, 1, 0, 1, 0, 0, 1, 1, 0, 0, 1, 1, 0]) σ m (blockS 2 (blockS 1 (thenS (fun σ m => vcS Try.prog w0 qs14 (sub c14 [1, 1, 0, 1, 0, 0, 1, 1, 1]) σ m (lq14_11010 R x0 x0n x0c x12 I0 E0_0 n0)) (lq14_11010 R x0 x0n x0c x12 I0 E0_0 n0)))) := by
  rw [show sub c14 [1, 1, 0, 1, 0, 0, 1, 1, 0, 0, 1, 1, 0] = .loop (sub c14 [1, 1, 0, 1, 0, 0, 1, 1, 0, 0, 1, 1, 0, 0]) from by kernel_rfl]
  refine loopQ (fun n1 σ m => σ 0 = .slice x0 x0n x0c ∧ σ 3 = .int .i64 x3 ∧ σ 12 = .int .i64 x12 ∧ σ 13 = .int .i64 x13 ∧ okI .i64 (σ 4) = true ∧ I1 n1 (vI (σ 4)) m) N (fun n1 => (lq14_1101001100110 R x0 x0n x0c x3 x12 x13 I1 E1_2 n1)) ⟨h0, h3, h12, h13, (by rw [h4]; rfl), (by rw [h4]; exact h_0)⟩ ?_ ?_ ?_
  · rintro n1 σ m ⟨kk0, kk1, kk2, kk3, kk4, n', hlt, hI⟩; exact ⟨n', hlt, kk0, kk1, kk2, kk3, kk4, hI⟩
  · intro n1 e σ m hne h
    cases e with
    | normal => exact absurd rfl hne
    | ret => exact h
    | exit id =>
      by_cases e2 : id = 2
      · subst e2
        obtain ⟨kk0, kk1, kk2, kk3, hE⟩ := h
        have es : (upd (upd (upd (upd σ 0 (.slice x0 x0n x0c)) 3 (.int .i64 x3)) 12 (.int .i64 x12)) 13 (.int .i64 x13)) = σ := by rw [upd_id kk0, upd_id kk1, upd_id kk2, upd_id kk3]
        exact cast (congrArg (fun s => (blockS 2 (blockS 1 (thenS (fun σ m => vcS Try.prog w0 qs14 (sub c14 [1, 1, 0, 1, 0, 0, 1, 1, 1]) σ m (lq14_11010 R x0 x0n x0c x12 I0 E0_0 n0)) (lq14_11010 R x0 x0n x0c x12 I0 E0_0 n0)))) (.exit 2) s m) es) (cast (by kernel_rfl) (h_e2 σ  m hE))
      · replace h := (if_neg e2 : (if id = 2 then _ else _) = _).mp h
        exact False.elim h
    | _ => exact False.elim h
  · rintro n1 σ m ⟨kk0, kk1, kk2, kk3, kk4, hI⟩
    have es : (upd (upd (upd (upd (upd σ 0 (.slice x0 x0n x0c)) 3 (.int .i64 x3)) 4 (.int .i64 (vI (σ 4)))) 12 (.int .i64 x12)) 13 (.int .i64 x13)) = σ := by rw [upd_id kk0, upd_id kk1, upd_id (ok_int kk4), upd_id kk2, upd_id kk3]
    exact cast (congrArg (fun s => vcS Try.prog w0 qs14 (sub c14 [1, 1, 0, 1, 0, 0, 1, 1, 0, 0, 1, 1, 0, 0]) s m (lq14_1101001100110 R x0 x0n x0c x3 x12 x13 I1 E1_2 n1)) es) (cast (by kernel_rfl) (h_s n1 σ (vI (σ 4)) m hI))
def lq14_1111010 (R : Value → AM → Prop) (x0 : Option Addr) (x0n x0c : Nat) (x5 : Option Addr) (x5n x5c : Nat) (x39 : Int) (I0 : Nat → Int → AM → Prop) (E0_4 : AM → Prop) (n0 : Nat) : Exit → Sg → AM → Prop
  | .normal, σ, m => σ 0 = .slice x0 x0n x0c ∧ σ 5 = .slice x5 x5n x5c ∧ σ 39 = .int .i64 x39 ∧ okI .i64 (σ 40) = true ∧ ∃ n' : Nat, n' < n0 ∧ I0 n' (vI (σ 40)) m
  | .exit id, σ, m => if id = 4 then σ 0 = .slice x0 x0n x0c ∧ σ 5 = .slice x5 x5n x5c ∧ σ 39 = .int .i64 x39 ∧ E0_4  m else False
  | .ret, σ, m => retQ Try.prog Try.f14 R .ret σ m
  | _, _, _ => False
theorem vl14_1111010 (w0 : World) (m : AM) (σ : Sg) (R : Value → AM → Prop)  (x0 : Option Addr) (x0n x0c : Nat) (x5 : Option Addr) (x5n x5c : Nat) (x39 : Int) (x40 : Int) (I0 : Nat → Int → AM → Prop) (E0_4 : AM → Prop) (N : Nat) (h0 : σ 0 = .slice x0 x0n x0c) (h5 : σ 5 = .slice x5 x5n x5c) (h39 : σ 39 = .int .i64 x39) (h40 : σ 40 = .int .i64 x40)
 (h_0 : I0 N x40 m)
 (h_s : ∀ (n0 : Nat) (σ : Sg) (x40 : Int) (m : AM), I0 n0 x40 m → (
 IntKind.i64 = IntKind.i64 ∧ (bcase (decide ((x40 : Int) < x39)) (
 ((0 : Int) ≤ x40 ∧ x40 < ((x5n : Nat) : Int)) ∧ nilO x5 fun a27 =>
 ∃ i28 : Int, m.cell (a27.add ((x40 : Int).toNat * 1)) = some (.int .i64 i28) ∧ 
 IntKind.i64 = IntKind.i64 ∧ (bcase ((i28 : Int) != x40) (
 RetP R (.bool false) m) (
 IntKind.i64 = IntKind.i64 ∧ (.slice x0 x0n x0c : Value) = .slice x0 x0n x0c ∧ (.slice x5 x5n x5c : Value) = .slice x5 x5n x5c ∧ (.int .i64 x39 : Value) = .int .i64 x39 ∧ true = true ∧ ∃ n' : Nat, n' < n0 ∧ I0 n' (IntKind.wrap .i64 (x40 + 1)) m))) (
 (.slice x0 x0n x0c : Value) = .slice x0 x0n x0c ∧ (.slice x5 x5n x5c : Value) = .slice x5 x5n x5c ∧ (.int .i64 x39 : Value) = .int .i64 x39 ∧ E0_4  m))))
 (h_e4 : ∀ (σ : Sg)  (m : AM), E0_4  m → (
 IntKind.i64 = IntKind.i64 ∧ (bcase ((((x5n : Nat) : Int) : Int) == ((x0n : Nat) : Int)) (
 CallsA Try.prog w0 32 #[] m fun r30 m31 =>
 ∃ t29 : Bool, r30 = .bool t29 ∧ RetP R (.bool (bif (((x5n : Nat) : Int) : Int) == ((x0n : Nat) : Int) then t29 else false)) m31) (
 ((((x5n : Nat) : Int) : Int) == ((x0n : Nat) : Int)) = false ∧ RetP R (.bool false) m)))) :
 vcS Try.prog w0 qs14 (sub c14 [1, 1, 1, 1, 0, 1, 0]) σ m (blockS 4 (thenS (fun σ m => vcS Try.prog w0 qs14 (sub c14 [1, 1, 1, 1, 1]) σ m (retQ Try.prog Try.f14 R)) (retQ Try.prog Try.f14 R))) := by
  rw [show sub c14 [1, 1, 1, 1, 0, 1, 0] = .loop (sub c14 [1, 1, 1, 1, 0, 1, 0, 0]) from by kernel_rfl]
  refine loopQ (fun n0 σ m => σ 0 = .slice x0 x0n x0c ∧ σ 5 = .slice x5 x5n x5c ∧ σ 39 = .int .i64 x39 ∧ okI .i64 (σ 40) = true ∧ I0 n0 (vI (σ 40)) m) N (fun n0 => (lq14_1111010 R x0 x0n x0c x5 x5n x5c x39 I0 E0_4 n0)) ⟨h0, h5, h39, (by rw [h40]; rfl), (by rw [h40]; exact h_0)⟩ ?_ ?_ ?_
  · rintro n0 σ m ⟨kk0, kk1, kk2, kk3, n', hlt, hI⟩; exact ⟨n', hlt, kk0, kk1, kk2, kk3, hI⟩
  · intro n0 e σ m hne h
    cases e with
    | normal => exact absurd rfl hne
    | ret => exact h
    | exit id =>
      by_cases e4 : id = 4
      · subst e4
        obtain ⟨kk0, kk1, kk2, hE⟩ := h
        have es : (upd (upd (upd σ 0 (.slice x0 x0n x0c)) 5 (.slice x5 x5n x5c)) 39 (.int .i64 x39)) = σ := by rw [upd_id kk0, upd_id kk1, upd_id kk2]
        exact cast (congrArg (fun s => (blockS 4 (thenS (fun σ m => vcS Try.prog w0 qs14 (sub c14 [1, 1, 1, 1, 1]) σ m (retQ Try.prog Try.f14 R)) (retQ Try.prog Try.f14 R))) (.exit 4) s m) es) (cast (by kernel_rfl) (h_e4 σ  m hE))
      · replace h := (if_neg e4 : (if id = 4 then _ else _) = _).mp h
        exact False.elim h
    | _ => exact False.elim h
  · rintro n0 σ m ⟨kk0, kk1, kk2, kk3, hI⟩
    have es : (upd (upd (upd (upd σ 0 (.slice x0 x0n x0c)) 5 (.slice x5 x5n x5c)) 39 (.int .i64 x39)) 40 (.int .i64 (vI (σ 40)))) = σ := by rw [upd_id kk0, upd_id kk1, upd_id kk2, upd_id (ok_int kk3)]
    exact cast (congrArg (fun s => vcS Try.prog w0 qs14 (sub c14 [1, 1, 1, 1, 0, 1, 0, 0]) s m (lq14_1111010 R x0 x0n x0c x5 x5n x5c x39 I0 E0_4 n0)) es) (cast (by kernel_rfl) (h_s n0 σ (vI (σ 40)) m hI))

/-! 16 delayslot/delayslotlaw11.SchedAlone -/
def qs16 : Nat → List (Nat × Nat) := fun i => match i with | _ => []
noncomputable def c16 : Code := bodyOf Try.f16
theorem cf16 (w0 : World) (m : AM) (x0_0 : Int) (x0_1 : Int) (x0_2 : Int) (x0_3 : Int) (x0_4 : Int) (R : Value → AM → Prop) (h :
 ∀ b1 : Nat, w0.heap.size ≤ b1 → m b1 = none → let m2 := AM.upd m b1 (.cells #[.int .i64 x0_0, .int .i64 x0_1, .int .i64 x0_2, .int .i64 x0_3, .int .i64 x0_4] 24);
 true = true ∧ ∀ b3 : Nat, w0.heap.size ≤ b3 → m2 b3 = none → let m4 := AM.upd m2 b3 (.cells #[.int .i64 0] 3);
 ∃ i5 : Int, m4.cell ⟨b1, 0, none⟩ = some (.int .i64 i5) ∧ ∃ i6 : Int, m4.cell ⟨b1, 1, none⟩ = some (.int .i64 i6) ∧ ∃ i7 : Int, m4.cell ⟨b1, 2, none⟩ = some (.int .i64 i7) ∧ ∃ i8 : Int, m4.cell ⟨b1, 3, none⟩ = some (.int .i64 i8) ∧ ∃ i9 : Int, m4.cell ⟨b1, 4, none⟩ = some (.int .i64 i9) ∧ 
 CallsA Try.prog w0 30 #[.agg #[.int .i64 i5, .int .i64 i6, .int .i64 i7, .int .i64 i8, .int .i64 i9]] m4 fun r11 m12 =>
 ∃ t10 : Bool, r11 = .bool t10 ∧ (bcase t10 (
 t10 = true ∧ true = true ∧ ∀ b13 : Nat, w0.heap.size ≤ b13 → m12 b13 = none → let m14 := AM.upd m12 b13 (.cells #[.int .i64 0, .int .i64 (-1)] 3);
 vcS Try.prog w0 qs16 (sub c16 [1, 1, 1]) (upd (upd (upd (upd (upd (upd (upd (upd (upd (upd (upd (upd (argS [.agg #[.int .i64 x0_0, .int .i64 x0_1, .int .i64 x0_2, .int .i64 x0_3, .int .i64 x0_4]]) 1 (.pointer (some ⟨b1, 0, none⟩))) 2 (.bool false)) 4 (.slice (some ⟨b3, 0, none⟩) 1 1)) 3 (.slice (some ⟨b3, 0, none⟩) 1 1)) 5 (.agg #[.int .i64 i5, .int .i64 i6, .int .i64 i7, .int .i64 i8, .int .i64 i9])) 6 (.bool t10)) 7 (.bool t10)) 8 (undef)) 9 (undef)) 10 (.bool true)) 11 (.slice (some ⟨b13, 0, none⟩) 2 2)) 3 (.slice (some ⟨b13, 0, none⟩) 2 2)) m14 (retQ Try.prog Try.f16 R)) (
 ∃ i15 : Int, m12.cell ⟨b1, 0, none⟩ = some (.int .i64 i15) ∧ ∃ i16 : Int, m12.cell ⟨b1, 1, none⟩ = some (.int .i64 i16) ∧ ∃ i17 : Int, m12.cell ⟨b1, 2, none⟩ = some (.int .i64 i17) ∧ ∃ i18 : Int, m12.cell ⟨b1, 3, none⟩ = some (.int .i64 i18) ∧ ∃ i19 : Int, m12.cell ⟨b1, 4, none⟩ = some (.int .i64 i19) ∧ 
 CallsA Try.prog w0 40 #[.agg #[.int .i64 i15, .int .i64 i16, .int .i64 i17, .int .i64 i18, .int .i64 i19]] m12 fun r21 m22 =>
 ∃ t20 : Bool, r21 = .bool t20 ∧ (bcase (bif t10 then true else t20) (
 true = true ∧ ∀ b23 : Nat, w0.heap.size ≤ b23 → m22 b23 = none → let m24 := AM.upd m22 b23 (.cells #[.int .i64 0, .int .i64 (-1)] 3);
 vcS Try.prog w0 qs16 (sub c16 [1, 1, 1]) (upd (upd (upd (upd (upd (upd (upd (upd (upd (upd (upd (upd (argS [.agg #[.int .i64 x0_0, .int .i64 x0_1, .int .i64 x0_2, .int .i64 x0_3, .int .i64 x0_4]]) 1 (.pointer (some ⟨b1, 0, none⟩))) 2 (.bool false)) 4 (.slice (some ⟨b3, 0, none⟩) 1 1)) 3 (.slice (some ⟨b3, 0, none⟩) 1 1)) 5 (.agg #[.int .i64 i5, .int .i64 i6, .int .i64 i7, .int .i64 i8, .int .i64 i9])) 6 (.bool t10)) 7 (.bool t10)) 8 (.agg #[.int .i64 i15, .int .i64 i16, .int .i64 i17, .int .i64 i18, .int .i64 i19])) 9 (.bool t20)) 10 (.bool (bif t10 then true else t20))) 11 (.slice (some ⟨b23, 0, none⟩) 2 2)) 3 (.slice (some ⟨b23, 0, none⟩) 2 2)) m24 (retQ Try.prog Try.f16 R)) (
 vcS Try.prog w0 qs16 (sub c16 [1, 1, 1]) (upd (upd (upd (upd (upd (upd (upd (upd (upd (upd (argS [.agg #[.int .i64 x0_0, .int .i64 x0_1, .int .i64 x0_2, .int .i64 x0_3, .int .i64 x0_4]]) 1 (.pointer (some ⟨b1, 0, none⟩))) 2 (.bool false)) 4 (.slice (some ⟨b3, 0, none⟩) 1 1)) 3 (.slice (some ⟨b3, 0, none⟩) 1 1)) 5 (.agg #[.int .i64 i5, .int .i64 i6, .int .i64 i7, .int .i64 i8, .int .i64 i9])) 6 (.bool t10)) 7 (.bool t10)) 8 (.agg #[.int .i64 i15, .int .i64 i16, .int .i64 i17, .int .i64 i18, .int .i64 i19])) 9 (.bool t20)) 10 (.bool (bif t10 then true else t20))) m22 (retQ Try.prog Try.f16 R)))))) : CallsA Try.prog w0 16 #[.agg #[.int .i64 x0_0, .int .i64 x0_1, .int .i64 x0_2, .int .i64 x0_3, .int .i64 x0_4]] m R :=
  callsA_of (c := c16) (args := [.agg #[.int .i64 x0_0, .int .i64 x0_1, .int .i64 x0_2, .int .i64 x0_3, .int .i64 x0_4]]) (by kernel_rfl) Try.func16 (by kernel_rfl) qs16 (by kernel_rfl) (by kernel_rfl) (cast (by kernel_rfl) h)
theorem vk16_111 (w0 : World) (m : AM) (σ : Sg) (R : Value → AM → Prop)  (x1 : Nat) (x3 : Option Addr) (x3n x3c : Nat) (h1 : σ 1 = .pointer (some ⟨x1, 0, none⟩)) (h3 : σ 3 = .slice x3 x3n x3c) (h :
 ∃ i25 : Int, m.cell ⟨x1, 0, none⟩ = some (.int .i64 i25) ∧ ∃ i26 : Int, m.cell ⟨x1, 1, none⟩ = some (.int .i64 i26) ∧ ∃ i27 : Int, m.cell ⟨x1, 2, none⟩ = some (.int .i64 i27) ∧ ∃ i28 : Int, m.cell ⟨x1, 3, none⟩ = some (.int .i64 i28) ∧ ∃ i29 : Int, m.cell ⟨x1, 4, none⟩ = some (.int .i64 i29) ∧ 
 true = true ∧ ∀ b30 : Nat, w0.heap.size ≤ b30 → m b30 = none → let m31 := AM.upd m b30 (.cells #[.int .i64 i25, .int .i64 i26, .int .i64 i27, .int .i64 i28, .int .i64 i29] 24);
 CallsA Try.prog w0 37 #[.slice (some ⟨b30, 0, none⟩) 1 1] m31 fun r35 m36 =>
 ∃ (A32 : Option Addr) (n33 c34 : Nat), r35 = .slice A32 n33 c34 ∧ CallsA Try.prog w0 33 #[.slice A32 n33 c34, .slice x3 x3n x3c] m36 fun r38 m39 =>
 ∃ t37 : Bool, r38 = .bool t37 ∧ (bcase t37 (
 ∃ i40 : Int, m39.cell ⟨x1, 0, none⟩ = some (.int .i64 i40) ∧ ∃ i41 : Int, m39.cell ⟨x1, 1, none⟩ = some (.int .i64 i41) ∧ ∃ i42 : Int, m39.cell ⟨x1, 2, none⟩ = some (.int .i64 i42) ∧ ∃ i43 : Int, m39.cell ⟨x1, 3, none⟩ = some (.int .i64 i43) ∧ ∃ i44 : Int, m39.cell ⟨x1, 4, none⟩ = some (.int .i64 i44) ∧ 
 true = true ∧ ∀ b45 : Nat, w0.heap.size ≤ b45 → m39 b45 = none → let m46 := AM.upd m39 b45 (.cells #[.int .i64 i40, .int .i64 i41, .int .i64 i42, .int .i64 i43, .int .i64 i44] 24);
 CallsA Try.prog w0 34 #[.slice (some ⟨b45, 0, none⟩) 1 1] m46 fun r50 m51 =>
 ∃ (A47 : Option Addr) (n48 c49 : Nat), r50 = .slice A47 n48 c49 ∧ true = true ∧ ∀ b52 : Nat, w0.heap.size ≤ b52 → m51 b52 = none → let m53 := AM.upd m51 b52 (.cells #[.int .i64 0] 3);
 CallsA Try.prog w0 33 #[.slice A47 n48 c49, .slice (some ⟨b52, 0, none⟩) 1 1] m53 fun r55 m56 =>
 ∃ t54 : Bool, r55 = .bool t54 ∧ (bcase (bif t37 then t54 else false) (
 CallsA Try.prog w0 32 #[] m56 fun r58 m59 =>
 ∃ t57 : Bool, r58 = .bool t57 ∧ RetP R (.bool (bif bif t37 then t54 else false then t57 else false)) m59) (
 (bif t37 then t54 else false) = false ∧ RetP R (.bool false) m56))) (
 t37 = false ∧ false = false ∧ RetP R (.bool false) m39))) :
 vcS Try.prog w0 qs16 (sub c16 [1, 1, 1]) σ m (retQ Try.prog Try.f16 R) := by
  have es0 : (upd (upd σ 1 (.pointer (some ⟨x1, 0, none⟩))) 3 (.slice x3 x3n x3c)) = σ := by rw [upd_id h1, upd_id h3]
  exact cast (congrArg (fun s => vcS Try.prog w0 qs16 (sub c16 [1, 1, 1]) s m (retQ Try.prog Try.f16 R)) es0) (cast (by kernel_rfl) h)
end Go.Proofs.Ytkfemiloehkmhaa.V
