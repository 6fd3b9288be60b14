/- Ytkfemiloehkmhaa: a text of our own, by an AI agent: VR11H -/
import Derived.Test.YtkfemiloehkmhaaCoreA
import Derived.Test.YtkfemiloehkmhaaTabH
namespace Go.Proofs.Ytkfemiloehkmhaa.V
open Go Go.Alog Go.Proofs.Ytkfemiloehkmhaa.T
set_option linter.unusedVariables false
set_option maxRecDepth 100000

/-! 90 delayslot/delayslotref11.where -/
def qs90 : Nat → List (Nat × Nat) := fun i => match i with | _ => []
noncomputable def c90 : Code := bodyOf Try.f90
theorem cf90 (w0 : World) (m : AM) (x0 : Option Addr) (x0n x0c : Nat) (x1 : Int) (R : Value → AM → Prop) (h :
 vcS Try.prog w0 qs90 (sub c90 [1, 0, 1, 0]) (upd (upd (argS [.slice x0 x0n x0c, .int .i64 x1]) 4 (.int .i64 0)) 5 (.int .i64 0)) m (blockS 0 (thenS (fun σ m => vcS Try.prog w0 qs90 (sub c90 [1, 1]) σ m (retQ Try.prog Try.f90 R)) (retQ Try.prog Try.f90 R)))) : CallsA Try.prog w0 90 #[.slice x0 x0n x0c, .int .i64 x1] m R :=
  callsA_of (c := c90) (args := [.slice x0 x0n x0c, .int .i64 x1]) (by kernel_rfl) Try.func90 (by kernel_rfl) qs90 (by kernel_rfl) (by kernel_rfl) (cast (by kernel_rfl) h)
def lq90_1010 (R : Value → AM → Prop) (x0 : Option Addr) (x0n x0c : Nat) (x1 : Int) (I0 : Nat → Int → AM → Prop) (E0_0 : AM → Prop) (n0 : Nat) : Exit → Sg → AM → Prop
  | .normal, σ, m => σ 0 = .slice x0 x0n x0c ∧ σ 1 = .int .i64 x1 ∧ okI .i64 (σ 5) = true ∧ ∃ n' : Nat, n' < n0 ∧ I0 n' (vI (σ 5)) m
  | .exit id, σ, m => if id = 0 then σ 0 = .slice x0 x0n x0c ∧ σ 1 = .int .i64 x1 ∧ E0_0  m else False
  | .ret, σ, m => retQ Try.prog Try.f90 R .ret σ m
  | _, _, _ => False
theorem vl90_1010 (w0 : World) (m : AM) (σ : Sg) (R : Value → AM → Prop)  (x0 : Option Addr) (x0n x0c : Nat) (x1 : Int) (x5 : Int) (I0 : Nat → Int → AM → Prop) (E0_0 : AM → Prop) (N : Nat) (h0 : σ 0 = .slice x0 x0n x0c) (h1 : σ 1 = .int .i64 x1) (h5 : σ 5 = .int .i64 x5)
 (h_0 : I0 N x5 m)
 (h_s : ∀ (n0 : Nat) (σ : Sg) (x5 : Int) (m : AM), I0 n0 x5 m → (
 IntKind.i64 = IntKind.i64 ∧ (bcase (decide ((x5 : Int) < ((x0n : Nat) : Int))) (
 ((0 : Int) ≤ x5 ∧ x5 < ((x0n : Nat) : Int)) ∧ nilO x0 fun a1 =>
 ∃ i2 : Int, m.cell (a1.add ((x5 : Int).toNat * 1)) = some (.int .i64 i2) ∧ 
 IntKind.i64 = IntKind.i64 ∧ (bcase ((i2 : Int) == x1) (
 RetP R (.int .i64 x5) m) (
 IntKind.i64 = IntKind.i64 ∧ (.slice x0 x0n x0c : Value) = .slice x0 x0n x0c ∧ (.int .i64 x1 : Value) = .int .i64 x1 ∧ true = true ∧ ∃ n' : Nat, n' < n0 ∧ I0 n' (IntKind.wrap .i64 (x5 + 1)) m))) (
 (.slice x0 x0n x0c : Value) = .slice x0 x0n x0c ∧ (.int .i64 x1 : Value) = .int .i64 x1 ∧ E0_0  m))))
 (h_e0 : ∀ (σ : Sg)  (m : AM), E0_0  m → (
 RetP R (.int .i64 (-1)) m)) :
 vcS Try.prog w0 qs90 (sub c90 [1, 0, 1, 0]) σ m (blockS 0 (thenS (fun σ m => vcS Try.prog w0 qs90 (sub c90 [1, 1]) σ m (retQ Try.prog Try.f90 R)) (retQ Try.prog Try.f90 R))) := by
  rw [show sub c90 [1, 0, 1, 0] = .loop (sub c90 [1, 0, 1, 0, 0]) from by kernel_rfl]
  refine loopQ (fun n0 σ m => σ 0 = .slice x0 x0n x0c ∧ σ 1 = .int .i64 x1 ∧ okI .i64 (σ 5) = true ∧ I0 n0 (vI (σ 5)) m) N (fun n0 => (lq90_1010 R x0 x0n x0c x1 I0 E0_0 n0)) ⟨h0, h1, (by rw [h5]; rfl), (by rw [h5]; exact h_0)⟩ ?_ ?_ ?_
  · rintro n0 σ m ⟨kk0, kk1, kk2, n', hlt, hI⟩; exact ⟨n', hlt, kk0, kk1, kk2, hI⟩
  · intro n0 e σ m hne h
    cases e with
    | normal => exact absurd rfl hne
    | ret => exact h
    | exit id =>
      by_cases e0 : id = 0
      · subst e0
        obtain ⟨kk0, kk1, hE⟩ := h
        have es : (upd (upd σ 0 (.slice x0 x0n x0c)) 1 (.int .i64 x1)) = σ := by rw [upd_id kk0, upd_id kk1]
        exact cast (congrArg (fun s => (blockS 0 (thenS (fun σ m => vcS Try.prog w0 qs90 (sub c90 [1, 1]) σ m (retQ Try.prog Try.f90 R)) (retQ Try.prog Try.f90 R))) (.exit 0) s m) es) (cast (by kernel_rfl) (h_e0 σ  m hE))
      · replace h := (if_neg e0 : (if id = 0 then _ else _) = _).mp h
        exact False.elim h
    | _ => exact False.elim h
  · rintro n0 σ m ⟨kk0, kk1, kk2, hI⟩
    have es : (upd (upd (upd σ 0 (.slice x0 x0n x0c)) 1 (.int .i64 x1)) 5 (.int .i64 (vI (σ 5)))) = σ := by rw [upd_id kk0, upd_id kk1, upd_id (ok_int kk2)]
    exact cast (congrArg (fun s => vcS Try.prog w0 qs90 (sub c90 [1, 0, 1, 0, 0]) s m (lq90_1010 R x0 x0n x0c x1 I0 E0_0 n0)) es) (cast (by kernel_rfl) (h_s n0 σ (vI (σ 5)) m hI))

/-! 65 delayslot/delayslotref11.Ready -/
def qs65 : Nat → List (Nat × Nat) := fun i => match i with | _ => []
noncomputable def c65 : Code := bodyOf Try.f65
theorem cf65 (w0 : World) (m : AM) (x0 : Option Addr) (x0n x0c : Nat) (x1 : Option Addr) (x1n x1c : Nat) (x2 : Int) (R : Value → AM → Prop) (h :
 CallsA Try.prog w0 90 #[.slice x1 x1n x1c, .int .i64 x2] m fun r2 m3 =>
 ∃ i1 : Int, r2 = .int .i64 i1 ∧ IntKind.i64 = IntKind.i64 ∧ (bcase (decide ((i1 : Int) ≥ 0)) (
 RetP R (.bool false) m3) (
 vcS Try.prog w0 qs65 (sub c65 [1, 1, 0, 1, 0]) (upd (upd (upd (upd (upd (upd (argS [.slice x0 x0n x0c, .slice x1 x1n x1c, .int .i64 x2]) 6 (.bool false)) 10 (.slice x1 x1n x1c)) 11 (.int .i64 x2)) 12 (.int .i64 i1)) 13 (.bool (decide ((i1 : Int) ≥ 0)))) 7 (.int .i64 0)) m3 (blockS 0 (thenS (fun σ m => vcS Try.prog w0 qs65 (sub c65 [1, 1, 1]) σ m (retQ Try.prog Try.f65 R)) (retQ Try.prog Try.f65 R)))))) : CallsA Try.prog w0 65 #[.slice x0 x0n x0c, .slice x1 x1n x1c, .int .i64 x2] m R :=
  callsA_of (c := c65) (args := [.slice x0 x0n x0c, .slice x1 x1n x1c, .int .i64 x2]) (by kernel_rfl) Try.func65 (by kernel_rfl) qs65 (by kernel_rfl) (by kernel_rfl) (cast (by kernel_rfl) h)
def lq65_11010 (R : Value → AM → Prop) (x0 : Option Addr) (x0n x0c : Nat) (x1 : Option Addr) (x1n x1c : Nat) (x2 : Int) (I0 : Nat → Int → AM → Prop) (E0_0 : AM → Prop) (n0 : Nat) : Exit → Sg → AM → Prop
  | .normal, σ, m => σ 0 = .slice x0 x0n x0c ∧ σ 1 = .slice x1 x1n x1c ∧ σ 2 = .int .i64 x2 ∧ okI .i64 (σ 7) = true ∧ ∃ n' : Nat, n' < n0 ∧ I0 n' (vI (σ 7)) m
  | .exit id, σ, m => if id = 0 then σ 0 = .slice x0 x0n x0c ∧ σ 1 = .slice x1 x1n x1c ∧ σ 2 = .int .i64 x2 ∧ E0_0  m else False
  | .ret, σ, m => retQ Try.prog Try.f65 R .ret σ m
  | _, _, _ => False
theorem vl65_11010 (w0 : World) (m : AM) (σ : Sg) (R : Value → AM → Prop)  (x0 : Option Addr) (x0n x0c : Nat) (x1 : Option Addr) (x1n x1c : Nat) (x2 : Int) (x7 : Int) (I0 : Nat → Int → AM → Prop) (E0_0 : AM → Prop) (N : Nat) (h0 : σ 0 = .slice x0 x0n x0c) (h1 : σ 1 = .slice x1 x1n x1c) (h2 : σ 2 = .int .i64 x2) (h7 : σ 7 = .int .i64 x7)
 (h_0 : I0 N x7 m)
 (h_s : ∀ (n0 : Nat) (σ : Sg) (x7 : Int) (m : AM), I0 n0 x7 m → (
 IntKind.i64 = IntKind.i64 ∧ (bcase (decide ((x7 : Int) < x2)) (
 ((0 : Int) ≤ x7 ∧ x7 < ((x0n : Nat) : Int)) ∧ nilO x0 fun a4 =>
 ∃ i5 : Int, m.cell (a4.add ((x7 : Int).toNat * 5)) = some (.int .i64 i5) ∧ ∃ i6 : Int, m.cell ((a4.add ((x7 : Int).toNat * 5)).add 1) = some (.int .i64 i6) ∧ ∃ i7 : Int, m.cell ((a4.add ((x7 : Int).toNat * 5)).add 2) = some (.int .i64 i7) ∧ ∃ i8 : Int, m.cell ((a4.add ((x7 : Int).toNat * 5)).add 3) = some (.int .i64 i8) ∧ ∃ i9 : Int, m.cell ((a4.add ((x7 : Int).toNat * 5)).add 4) = some (.int .i64 i9) ∧ 
 ((0 : Int) ≤ x2 ∧ x2 < ((x0n : Nat) : Int)) ∧ nilO x0 fun a10 =>
 ∃ i11 : Int, m.cell (a10.add ((x2 : Int).toNat * 5)) = some (.int .i64 i11) ∧ ∃ i12 : Int, m.cell ((a10.add ((x2 : Int).toNat * 5)).add 1) = some (.int .i64 i12) ∧ ∃ i13 : Int, m.cell ((a10.add ((x2 : Int).toNat * 5)).add 2) = some (.int .i64 i13) ∧ ∃ i14 : Int, m.cell ((a10.add ((x2 : Int).toNat * 5)).add 3) = some (.int .i64 i14) ∧ ∃ i15 : Int, m.cell ((a10.add ((x2 : Int).toNat * 5)).add 4) = some (.int .i64 i15) ∧ 
 CallsA Try.prog w0 41 #[.agg #[.int .i64 i5, .int .i64 i6, .int .i64 i7, .int .i64 i8, .int .i64 i9], .agg #[.int .i64 i11, .int .i64 i12, .int .i64 i13, .int .i64 i14, .int .i64 i15]] m fun r17 m18 =>
 ∃ i16 : Int, r17 = .int .i64 i16 ∧ CallsA Try.prog w0 90 #[.slice x1 x1n x1c, .int .i64 x7] m18 fun r20 m21 =>
 ∃ i19 : Int, r20 = .int .i64 i19 ∧ IntKind.i64 = IntKind.i64 ∧ (bcase (decide ((i16 : Int) > 0)) (
 IntKind.i64 = IntKind.i64 ∧ (bcase (decide ((i19 : Int) < 0)) (
 (decide ((i19 : Int) < 0)) = true ∧ (bcase (bif decide ((i16 : Int) > 0) then true else false) (
 RetP R (.bool false) m21) (
 IntKind.i64 = IntKind.i64 ∧ (.slice x0 x0n x0c : Value) = .slice x0 x0n x0c ∧ (.slice x1 x1n x1c : Value) = .slice x1 x1n x1c ∧ (.int .i64 x2 : Value) = .int .i64 x2 ∧ true = true ∧ ∃ n' : Nat, n' < n0 ∧ I0 n' (IntKind.wrap .i64 (x7 + 1)) m21))) (
 IntKind.i64 = IntKind.i64 ∧ IntKind.i64 = IntKind.i64 ∧ (bcase (bif decide ((i16 : Int) > 0) then bif decide ((i19 : Int) < 0) then true else decide (((IntKind.wrap .i64 (((x1n : Nat) : Int) - i19)) : Int) < i16) else false) (
 RetP R (.bool false) m21) (
 IntKind.i64 = IntKind.i64 ∧ (.slice x0 x0n x0c : Value) = .slice x0 x0n x0c ∧ (.slice x1 x1n x1c : Value) = .slice x1 x1n x1c ∧ (.int .i64 x2 : Value) = .int .i64 x2 ∧ true = true ∧ ∃ n' : Nat, n' < n0 ∧ I0 n' (IntKind.wrap .i64 (x7 + 1)) m21))))) (
 (decide ((i16 : Int) > 0)) = false ∧ IntKind.i64 = IntKind.i64 ∧ (.slice x0 x0n x0c : Value) = .slice x0 x0n x0c ∧ (.slice x1 x1n x1c : Value) = .slice x1 x1n x1c ∧ (.int .i64 x2 : Value) = .int .i64 x2 ∧ true = true ∧ ∃ n' : Nat, n' < n0 ∧ I0 n' (IntKind.wrap .i64 (x7 + 1)) m21))) (
 (.slice x0 x0n x0c : Value) = .slice x0 x0n x0c ∧ (.slice x1 x1n x1c : Value) = .slice x1 x1n x1c ∧ (.int .i64 x2 : Value) = .int .i64 x2 ∧ E0_0  m))))
 (h_e0 : ∀ (σ : Sg)  (m : AM), E0_0  m → (
 RetP R (.bool true) m)) :
 vcS Try.prog w0 qs65 (sub c65 [1, 1, 0, 1, 0]) σ m (blockS 0 (thenS (fun σ m => vcS Try.prog w0 qs65 (sub c65 [1, 1, 1]) σ m (retQ Try.prog Try.f65 R)) (retQ Try.prog Try.f65 R))) := by
  rw [show sub c65 [1, 1, 0, 1, 0] = .loop (sub c65 [1, 1, 0, 1, 0, 0]) from by kernel_rfl]
  refine loopQ (fun n0 σ m => σ 0 = .slice x0 x0n x0c ∧ σ 1 = .slice x1 x1n x1c ∧ σ 2 = .int .i64 x2 ∧ okI .i64 (σ 7) = true ∧ I0 n0 (vI (σ 7)) m) N (fun n0 => (lq65_11010 R x0 x0n x0c x1 x1n x1c x2 I0 E0_0 n0)) ⟨h0, h1, h2, (by rw [h7]; rfl), (by rw [h7]; exact h_0)⟩ ?_ ?_ ?_
  · rintro n0 σ m ⟨kk0, kk1, kk2, kk3, n', hlt, hI⟩; exact ⟨n', hlt, kk0, kk1, kk2, kk3, hI⟩
  · intro n0 e σ m hne h
    cases e with
    | normal => exact absurd rfl hne
    | ret => exact h
    | exit id =>
      by_cases e0 : id = 0
      · subst e0
        obtain ⟨kk0, kk1, kk2, hE⟩ := h
        have es : (upd (upd (upd σ 0 (.slice x0 x0n x0c)) 1 (.slice x1 x1n x1c)) 2 (.int .i64 x2)) = σ := by rw [upd_id kk0, upd_id kk1, upd_id kk2]
        exact cast (congrArg (fun s => (blockS 0 (thenS (fun σ m => vcS Try.prog w0 qs65 (sub c65 [1, 1, 1]) σ m (retQ Try.prog Try.f65 R)) (retQ Try.prog Try.f65 R))) (.exit 0) s m) es) (cast (by kernel_rfl) (h_e0 σ  m hE))
      · replace h := (if_neg e0 : (if id = 0 then _ else _) = _).mp h
        exact False.elim h
    | _ => exact False.elim h
  · rintro n0 σ m ⟨kk0, kk1, kk2, kk3, hI⟩
    have es : (upd (upd (upd (upd σ 0 (.slice x0 x0n x0c)) 1 (.slice x1 x1n x1c)) 2 (.int .i64 x2)) 7 (.int .i64 (vI (σ 7)))) = σ := by rw [upd_id kk0, upd_id kk1, upd_id kk2, upd_id (ok_int kk3)]
    exact cast (congrArg (fun s => vcS Try.prog w0 qs65 (sub c65 [1, 1, 0, 1, 0, 0]) s m (lq65_11010 R x0 x0n x0c x1 x1n x1c x2 I0 E0_0 n0)) es) (cast (by kernel_rfl) (h_s n0 σ (vI (σ 7)) m hI))

/-! 35 delayslot/delayslotref11.Order -/
def qs35 : Nat → List (Nat × Nat) := fun i => match i with | _ => []
noncomputable def c35 : Code := bodyOf Try.f35
theorem cf35 (w0 : World) (m : AM) (x0 : Option Addr) (x0n x0c : Nat) (R : Value → AM → Prop) (h :
 CallsA Try.prog w0 64 #[.slice x0 x0n x0c] m fun r4 m5 =>
 ∃ (A1 : Option Addr) (n2 c3 : Nat), r4 = .slice A1 n2 c3 ∧ vcS Try.prog w0 qs35 (sub c35 [1, 1, 1, 1, 0, 0]) (upd (upd (upd (upd (upd (upd (argS [.slice x0 x0n x0c]) 2 (.slice none 0 0)) 8 (.slice x0 x0n x0c)) 9 (.slice A1 n2 c3)) 3 (.slice A1 n2 c3)) 4 (.slice none 0 0)) 5 (.int .i64 0)) m5 (blockS 0 (thenS (fun σ m => vcS Try.prog w0 qs35 (sub c35 [1, 1, 1, 1, 1]) σ m (retQ Try.prog Try.f35 R)) (retQ Try.prog Try.f35 R)))) : CallsA Try.prog w0 35 #[.slice x0 x0n x0c] m R :=
  callsA_of (c := c35) (args := [.slice x0 x0n x0c]) (by kernel_rfl) Try.func35 (by kernel_rfl) qs35 (by kernel_rfl) (by kernel_rfl) (cast (by kernel_rfl) h)
def lq35_111100 (R : Value → AM → Prop) (x0 : Option Addr) (x0n x0c : Nat) (x3 : Option Addr) (x3n x3c : Nat) (I0 : Nat → Option Addr → Nat → Nat → Int → AM → Prop) (E0_0 : Option Addr → Nat → Nat → AM → Prop) (n0 : Nat) : Exit → Sg → AM → Prop
  | .normal, σ, m => σ 0 = .slice x0 x0n x0c ∧ σ 3 = .slice x3 x3n x3c ∧ okS (σ 4) = true ∧ okI .i64 (σ 5) = true ∧ ∃ n' : Nat, n' < n0 ∧ I0 n' (vSA (σ 4)) (vSN (σ 4)) (vSC (σ 4)) (vI (σ 5)) m
  | .exit id, σ, m => if id = 0 then σ 0 = .slice x0 x0n x0c ∧ σ 3 = .slice x3 x3n x3c ∧ okS (σ 4) = true ∧ E0_0 (vSA (σ 4)) (vSN (σ 4)) (vSC (σ 4)) m else False
  | .ret, σ, m => retQ Try.prog Try.f35 R .ret σ m
  | _, _, _ => False
theorem vl35_111100 (w0 : World) (m : AM) (σ : Sg) (R : Value → AM → Prop)  (x0 : Option Addr) (x0n x0c : Nat) (x3 : Option Addr) (x3n x3c : Nat) (x4 : Option Addr) (x4n x4c : Nat) (x5 : Int) (I0 : Nat → Option Addr → Nat → Nat → Int → AM → Prop) (E0_0 : Option Addr → Nat → Nat → AM → Prop) (N : Nat) (h0 : σ 0 = .slice x0 x0n x0c) (h3 : σ 3 = .slice x3 x3n x3c) (h4 : σ 4 = .slice x4 x4n x4c) (h5 : σ 5 = .int .i64 x5)
 (h_0 : I0 N x4 x4n x4c x5 m)
 (h_s : ∀ (n0 : Nat) (σ : Sg) (x4 : Option Addr) (x4n : Nat) (x4c : Nat) (x5 : Int) (m : AM), I0 n0 x4 x4n x4c x5 m → (
 IntKind.i64 = IntKind.i64 ∧ (bcase (decide ((x5 : Int) < ((x0n : Nat) : Int))) (
 IntKind.i64 = IntKind.i64 ∧ vcS Try.prog w0 qs35 (sub c35 [1, 1, 1, 1, 0, 0, 0, 1, 0, 1, 0, 1, 0]) (upd (upd (upd (upd (upd (upd (upd (upd (upd (upd (upd (upd (upd σ 0 (.slice x0 x0n x0c)) 3 (.slice x3 x3n x3c)) 4 (.slice x4 x4n x4c)) 5 (.int .i64 x5)) 10 (.int .i64 x5)) 11 (.slice x0 x0n x0c)) 12 (.int .i64 ((x0n : Nat) : Int))) 13 (.bool (decide ((x5 : Int) < ((x0n : Nat) : Int))))) 6 (.int .i64 (-1))) 14 (.slice x0 x0n x0c)) 15 (.int .i64 ((x0n : Nat) : Int))) 16 (.int .i64 (IntKind.wrap .i64 (((x0n : Nat) : Int) - 1)))) 7 (.int .i64 (IntKind.wrap .i64 (((x0n : Nat) : Int) - 1)))) m (blockS 2 (thenS (fun σ m => vcS Try.prog w0 qs35 (sub c35 [1, 1, 1, 1, 0, 0, 0, 1, 0, 1, 1]) σ m (blockS 1 (lq35_111100 R x0 x0n x0c x3 x3n x3c I0 E0_0 n0))) (blockS 1 (lq35_111100 R x0 x0n x0c x3 x3n x3c I0 E0_0 n0))))) (
 (.slice x0 x0n x0c : Value) = .slice x0 x0n x0c ∧ (.slice x3 x3n x3c : Value) = .slice x3 x3n x3c ∧ true = true ∧ E0_0 x4 x4n x4c m))))
 (h_e0 : ∀ (σ : Sg) (x4 : Option Addr) (x4n : Nat) (x4c : Nat) (m : AM), E0_0 x4 x4n x4c m → (
 RetP R (.slice x4 x4n x4c) m)) :
 vcS Try.prog w0 qs35 (sub c35 [1, 1, 1, 1, 0, 0]) σ m (blockS 0 (thenS (fun σ m => vcS Try.prog w0 qs35 (sub c35 [1, 1, 1, 1, 1]) σ m (retQ Try.prog Try.f35 R)) (retQ Try.prog Try.f35 R))) := by
  rw [show sub c35 [1, 1, 1, 1, 0, 0] = .loop (sub c35 [1, 1, 1, 1, 0, 0, 0]) from by kernel_rfl]
  refine loopQ (fun n0 σ m => σ 0 = .slice x0 x0n x0c ∧ σ 3 = .slice x3 x3n x3c ∧ okS (σ 4) = true ∧ okI .i64 (σ 5) = true ∧ I0 n0 (vSA (σ 4)) (vSN (σ 4)) (vSC (σ 4)) (vI (σ 5)) m) N (fun n0 => (lq35_111100 R x0 x0n x0c x3 x3n x3c I0 E0_0 n0)) ⟨h0, h3, (by rw [h4]; rfl), (by rw [h5]; rfl), (by rw [h4, h5]; exact h_0)⟩ ?_ ?_ ?_
  · rintro n0 σ m ⟨kk0, kk1, kk2, kk3, n', hlt, hI⟩; exact ⟨n', hlt, kk0, kk1, kk2, kk3, hI⟩
  · intro n0 e σ m hne h
    cases e with
    | normal => exact absurd rfl hne
    | ret => exact h
    | exit id =>
      by_cases e0 : id = 0
      · subst e0
        obtain ⟨kk0, kk1, kk2, hE⟩ := h
        have es : (upd (upd (upd σ 0 (.slice x0 x0n x0c)) 3 (.slice x3 x3n x3c)) 4 (.slice (vSA (σ 4)) (vSN (σ 4)) (vSC (σ 4)))) = σ := by rw [upd_id kk0, upd_id kk1, upd_id (ok_slice kk2)]
        exact cast (congrArg (fun s => (blockS 0 (thenS (fun σ m => vcS Try.prog w0 qs35 (sub c35 [1, 1, 1, 1, 1]) σ m (retQ Try.prog Try.f35 R)) (retQ Try.prog Try.f35 R))) (.exit 0) s m) es) (cast (by kernel_rfl) (h_e0 σ (vSA (σ 4)) (vSN (σ 4)) (vSC (σ 4)) m hE))
      · replace h := (if_neg e0 : (if id = 0 then _ else _) = _).mp h
        exact False.elim h
    | _ => exact False.elim h
  · rintro n0 σ m ⟨kk0, kk1, kk2, kk3, hI⟩
    have es : (upd (upd (upd (upd σ 0 (.slice x0 x0n x0c)) 3 (.slice x3 x3n x3c)) 4 (.slice (vSA (σ 4)) (vSN (σ 4)) (vSC (σ 4)))) 5 (.int .i64 (vI (σ 5)))) = σ := by rw [upd_id kk0, upd_id kk1, upd_id (ok_slice kk2), upd_id (ok_int kk3)]
    exact cast (congrArg (fun s => vcS Try.prog w0 qs35 (sub c35 [1, 1, 1, 1, 0, 0, 0]) s m (lq35_111100 R x0 x0n x0c x3 x3n x3c I0 E0_0 n0)) es) (cast (by kernel_rfl) (h_s n0 σ (vSA (σ 4)) (vSN (σ 4)) (vSC (σ 4)) (vI (σ 5)) m hI))
def lq35_1111000101010 (R : Value → AM → Prop) (x0 : Option Addr) (x0n x0c : Nat) (x3 : Option Addr) (x3n x3c : Nat) (x4 : Option Addr) (x4n x4c : Nat) (x5 : Int) (I1 : Nat → Int → Int → AM → Prop) (E1_2 : Int → AM → Prop) (n1 : Nat) : Exit → Sg → AM → Prop
  | .normal, σ, m => σ 0 = .slice x0 x0n x0c ∧ σ 3 = .slice x3 x3n x3c ∧ σ 4 = .slice x4 x4n x4c ∧ σ 5 = .int .i64 x5 ∧ okI .i64 (σ 6) = true ∧ okI .i64 (σ 7) = true ∧ ∃ n' : Nat, n' < n1 ∧ I1 n' (vI (σ 6)) (vI (σ 7)) m
  | .exit id, σ, m => if id = 2 then σ 0 = .slice x0 x0n x0c ∧ σ 3 = .slice x3 x3n x3c ∧ σ 4 = .slice x4 x4n x4c ∧ σ 5 = .int .i64 x5 ∧ okI .i64 (σ 6) = true ∧ E1_2 (vI (σ 6)) m else False
  | .ret, σ, m => retQ Try.prog Try.f35 R .ret σ m
  | _, _, _ => False
theorem vl35_1111000101010 (w0 : World) (m : AM) (σ : Sg) (R : Value → AM → Prop) (n0 : Nat) (I0 : Nat → Option Addr → Nat → Nat → Int → AM → Prop) (E0_0 : Option Addr → Nat → Nat → AM → Prop) (x0 : Option Addr) (x0n x0c : Nat) (x3 : Option Addr) (x3n x3c : Nat) (x4 : Option Addr) (x4n x4c : Nat) (x5 : Int) (x6 : Int) (x7 : Int) (I1 : Nat → Int → Int → AM → Prop) (E1_2 : Int → AM → Prop) (N : Nat) (h0 : σ 0 = .slice x0 x0n x0c) (h3 : σ 3 = .slice x3 x3n x3c) (h4 : σ 4 = .slice x4 x4n x4c) (h5 : σ 5 = .int .i64 x5) (h6 : σ 6 = .int .i64 x6) (h7 : σ 7 = .int .i64 x7)
 (h_0 : I1 N x6 x7 m)
 (h_s : ∀ (n1 : Nat) (σ : Sg) (x6 : Int) (x7 : Int) (m : AM), I1 n1 x6 x7 m → (
 IntKind.i64 = IntKind.i64 ∧ (bcase (decide ((x7 : Int) ≥ 0)) (
 CallsA Try.prog w0 65 #[.slice x0 x0n x0c, .slice x4 x4n x4c, .int .i64 x7] m fun r7 m8 =>
 ∃ t6 : Bool, r7 = .bool t6 ∧ (bcase t6 (
 IntKind.i64 = IntKind.i64 ∧ (bcase (decide ((x6 : Int) < 0)) (
 (decide ((x6 : Int) < 0)) = true ∧ (bcase (bif t6 then true else false) (
 IntKind.i64 = IntKind.i64 ∧ (.slice x0 x0n x0c : Value) = .slice x0 x0n x0c ∧ (.slice x3 x3n x3c : Value) = .slice x3 x3n x3c ∧ (.slice x4 x4n x4c : Value) = .slice x4 x4n x4c ∧ (.int .i64 x5 : Value) = .int .i64 x5 ∧ true = true ∧ true = true ∧ ∃ n' : Nat, n' < n1 ∧ I1 n' x7 (IntKind.wrap .i64 (x7 - 1)) m8) (
 IntKind.i64 = IntKind.i64 ∧ (.slice x0 x0n x0c : Value) = .slice x0 x0n x0c ∧ (.slice x3 x3n x3c : Value) = .slice x3 x3n x3c ∧ (.slice x4 x4n x4c : Value) = .slice x4 x4n x4c ∧ (.int .i64 x5 : Value) = .int .i64 x5 ∧ true = true ∧ true = true ∧ ∃ n' : Nat, n' < n1 ∧ I1 n' x6 (IntKind.wrap .i64 (x7 - 1)) m8))) (
 ((0 : Int) ≤ x7 ∧ x7 < ((x3n : Nat) : Int)) ∧ nilO x3 fun a9 =>
 ∃ i10 : Int, m8.cell (a9.add ((x7 : Int).toNat * 1)) = some (.int .i64 i10) ∧ 
 ((0 : Int) ≤ x6 ∧ x6 < ((x3n : Nat) : Int)) ∧ nilO x3 fun a11 =>
 ∃ i12 : Int, m8.cell (a11.add ((x6 : Int).toNat * 1)) = some (.int .i64 i12) ∧ 
 IntKind.i64 = IntKind.i64 ∧ (bcase (bif t6 then bif decide ((x6 : Int) < 0) then true else decide ((i10 : Int) ≥ i12) else false) (
 IntKind.i64 = IntKind.i64 ∧ (.slice x0 x0n x0c : Value) = .slice x0 x0n x0c ∧ (.slice x3 x3n x3c : Value) = .slice x3 x3n x3c ∧ (.slice x4 x4n x4c : Value) = .slice x4 x4n x4c ∧ (.int .i64 x5 : Value) = .int .i64 x5 ∧ true = true ∧ true = true ∧ ∃ n' : Nat, n' < n1 ∧ I1 n' x7 (IntKind.wrap .i64 (x7 - 1)) m8) (
 IntKind.i64 = IntKind.i64 ∧ (.slice x0 x0n x0c : Value) = .slice x0 x0n x0c ∧ (.slice x3 x3n x3c : Value) = .slice x3 x3n x3c ∧ (.slice x4 x4n x4c : Value) = .slice x4 x4n x4c ∧ (.int .i64 x5 : Value) = .int .i64 x5 ∧ true = true ∧ true = true ∧ ∃ n' : Nat, n' < n1 ∧ I1 n' x6 (IntKind.wrap .i64 (x7 - 1)) m8))))) (
 t6 = false ∧ IntKind.i64 = IntKind.i64 ∧ (.slice x0 x0n x0c : Value) = .slice x0 x0n x0c ∧ (.slice x3 x3n x3c : Value) = .slice x3 x3n x3c ∧ (.slice x4 x4n x4c : Value) = .slice x4 x4n x4c ∧ (.int .i64 x5 : Value) = .int .i64 x5 ∧ true = true ∧ true = true ∧ ∃ n' : Nat, n' < n1 ∧ I1 n' x6 (IntKind.wrap .i64 (x7 - 1)) m8))) (
 (.slice x0 x0n x0c : Value) = .slice x0 x0n x0c ∧ (.slice x3 x3n x3c : Value) = .slice x3 x3n x3c ∧ (.slice x4 x4n x4c : Value) = .slice x4 x4n x4c ∧ (.int .i64 x5 : Value) = .int .i64 x5 ∧ true = true ∧ E1_2 x6 m))))
 (h_e2 : ∀ (σ : Sg) (x6 : Int) (m : AM), E1_2 x6 m → (
 true = true ∧ ∀ b13 : Nat, w0.heap.size ≤ b13 → m b13 = none → let m14 := AM.upd m b13 (.cells #[.int .i64 x6] 3);
 awp Try.prog w0.heap.size (Builtin.append_ #[30, 30] 30 #[.slice x4 x4n x4c, .slice (some ⟨b13, 0, none⟩) 1 1]) m14 fun v15 m16 =>
 ∃ (A17 : Option Addr) (n18 c19 : Nat), v15 = .slice A17 n18 c19 ∧ IntKind.i64 = IntKind.i64 ∧ (bcase (decide ((x6 : Int) ≥ 0)) (
 IntKind.i64 = IntKind.i64 ∧ (.slice x0 x0n x0c : Value) = .slice x0 x0n x0c ∧ (.slice x3 x3n x3c : Value) = .slice x3 x3n x3c ∧ true = true ∧ true = true ∧ ∃ n' : Nat, n' < n0 ∧ I0 n' A17 n18 c19 (IntKind.wrap .i64 (x5 + 1)) m16) (
 (.slice x0 x0n x0c : Value) = .slice x0 x0n x0c ∧ (.slice x3 x3n x3c : Value) = .slice x3 x3n x3c ∧ true = true ∧ true = true ∧ ∃ n' : Nat, n' < n0 ∧ I0 n' A17 n18 c19 x5 m16)))) :
 vcS Try.prog w0 qs35 (sub c35 [1, 1, 1, 1, 0, 0, 0, 1, 0, 1, 0, 1, 0]) σ m (blockS 2 (thenS (fun σ m => vcS Try.prog w0 qs35 (sub c35 [1, 1, 1, 1, 0, 0, 0, 1, 0, 1, 1]) σ m (blockS 1 (lq35_111100 R x0 x0n x0c x3 x3n x3c I0 E0_0 n0))) (blockS 1 (lq35_111100 R x0 x0n x0c x3 x3n x3c I0 E0_0 n0)))) := by
  rw [show sub c35 [1, 1, 1, 1, 0, 0, 0, 1, 0, 1, 0, 1, 0] = .loop (sub c35 [1, 1, 1, 1, 0, 0, 0, 1, 0, 1, 0, 1, 0, 0]) from by kernel_rfl]
  refine loopQ (fun n1 σ m => σ 0 = .slice x0 x0n x0c ∧ σ 3 = .slice x3 x3n x3c ∧ σ 4 = .slice x4 x4n x4c ∧ σ 5 = .int .i64 x5 ∧ okI .i64 (σ 6) = true ∧ okI .i64 (σ 7) = true ∧ I1 n1 (vI (σ 6)) (vI (σ 7)) m) N (fun n1 => (lq35_1111000101010 R x0 x0n x0c x3 x3n x3c x4 x4n x4c x5 I1 E1_2 n1)) ⟨h0, h3, h4, h5, (by rw [h6]; rfl), (by rw [h7]; rfl), (by rw [h6, h7]; exact h_0)⟩ ?_ ?_ ?_
  · rintro n1 σ m ⟨kk0, kk1, kk2, kk3, kk4, kk5, n', hlt, hI⟩; exact ⟨n', hlt, kk0, kk1, kk2, kk3, kk4, kk5, hI⟩
  · intro n1 e σ m hne h
    cases e with
    | normal => exact absurd rfl hne
    | ret => exact h
    | exit id =>
      by_cases e2 : id = 2
      · subst e2
        obtain ⟨kk0, kk1, kk2, kk3, kk4, hE⟩ := h
        have es : (upd (upd (upd (upd (upd σ 0 (.slice x0 x0n x0c)) 3 (.slice x3 x3n x3c)) 4 (.slice x4 x4n x4c)) 5 (.int .i64 x5)) 6 (.int .i64 (vI (σ 6)))) = σ := by rw [upd_id kk0, upd_id kk1, upd_id kk2, upd_id kk3, upd_id (ok_int kk4)]
        exact cast (congrArg (fun s => (blockS 2 (thenS (fun σ m => vcS Try.prog w0 qs35 (sub c35 [1, 1, 1, 1, 0, 0, 0, 1, 0, 1, 1]) σ m (blockS 1 (lq35_111100 R x0 x0n x0c x3 x3n x3c I0 E0_0 n0))) (blockS 1 (lq35_111100 R x0 x0n x0c x3 x3n x3c I0 E0_0 n0)))) (.exit 2) s m) es) (cast (by kernel_rfl) (h_e2 σ (vI (σ 6)) m hE))
      · replace h := (if_neg e2 : (if id = 2 then _ else _) = _).mp h
        exact False.elim h
    | _ => exact False.elim h
  · rintro n1 σ m ⟨kk0, kk1, kk2, kk3, kk4, kk5, hI⟩
    have es : (upd (upd (upd (upd (upd (upd σ 0 (.slice x0 x0n x0c)) 3 (.slice x3 x3n x3c)) 4 (.slice x4 x4n x4c)) 5 (.int .i64 x5)) 6 (.int .i64 (vI (σ 6)))) 7 (.int .i64 (vI (σ 7)))) = σ := by rw [upd_id kk0, upd_id kk1, upd_id kk2, upd_id kk3, upd_id (ok_int kk4), upd_id (ok_int kk5)]
    exact cast (congrArg (fun s => vcS Try.prog w0 qs35 (sub c35 [1, 1, 1, 1, 0, 0, 0, 1, 0, 1, 0, 1, 0, 0]) s m (lq35_1111000101010 R x0 x0n x0c x3 x3n x3c x4 x4n x4c x5 I1 E1_2 n1)) es) (cast (by kernel_rfl) (h_s n1 σ (vI (σ 6)) (vI (σ 7)) m hI))

/-! 70 delayslot/delayslotref11.clear -/
def qs70 : Nat → List (Nat × Nat) := fun i => match i with | _ => []
noncomputable def c70 : Code := bodyOf Try.f70
theorem cf70 (w0 : World) (m : AM) (x0 : Option Addr) (x0n x0c : Nat) (x1 : Option Addr) (x1n x1c : Nat) (x2_0 : Int) (x2_1 : Int) (x2_2 : Int) (x2_3 : Int) (x2_4 : Int) (x3 : Int) (R : Value → AM → Prop) (h :
 ∀ b1 : Nat, w0.heap.size ≤ b1 → m b1 = none → let m2 := AM.upd m b1 (.cells #[.int .i64 x2_0, .int .i64 x2_1, .int .i64 x2_2, .int .i64 x2_3, .int .i64 x2_4] 24);
 vcS Try.prog w0 qs70 (sub c70 [1, 0, 1, 0]) (upd (upd (upd (argS [.slice x0 x0n x0c, .slice x1 x1n x1c, .agg #[.int .i64 x2_0, .int .i64 x2_1, .int .i64 x2_2, .int .i64 x2_3, .int .i64 x2_4], .int .i64 x3]) 6 (.pointer (some ⟨b1, 0, none⟩))) 8 (.bool false)) 9 (.int .i64 0)) m2 (blockS 0 (thenS (fun σ m => vcS Try.prog w0 qs70 (sub c70 [1, 1]) σ m (retQ Try.prog Try.f70 R)) (retQ Try.prog Try.f70 R)))) : CallsA Try.prog w0 70 #[.slice x0 x0n x0c, .slice x1 x1n x1c, .agg #[.int .i64 x2_0, .int .i64 x2_1, .int .i64 x2_2, .int .i64 x2_3, .int .i64 x2_4], .int .i64 x3] m R :=
  callsA_of (c := c70) (args := [.slice x0 x0n x0c, .slice x1 x1n x1c, .agg #[.int .i64 x2_0, .int .i64 x2_1, .int .i64 x2_2, .int .i64 x2_3, .int .i64 x2_4], .int .i64 x3]) (by kernel_rfl) Try.func70 (by kernel_rfl) qs70 (by kernel_rfl) (by kernel_rfl) (cast (by kernel_rfl) h)
def lq70_1010 (R : Value → AM → Prop) (x0 : Option Addr) (x0n x0c : Nat) (x1 : Option Addr) (x1n x1c : Nat) (x3 : Int) (x6 : Nat) (I0 : Nat → Int → AM → Prop) (E0_0 : AM → Prop) (n0 : Nat) : Exit → Sg → AM → Prop
  | .normal, σ, m => σ 0 = .slice x0 x0n x0c ∧ σ 1 = .slice x1 x1n x1c ∧ σ 3 = .int .i64 x3 ∧ σ 6 = .pointer (some ⟨x6, 0, none⟩) ∧ okI .i64 (σ 9) = true ∧ ∃ n' : Nat, n' < n0 ∧ I0 n' (vI (σ 9)) m
  | .exit id, σ, m => if id = 0 then σ 0 = .slice x0 x0n x0c ∧ σ 1 = .slice x1 x1n x1c ∧ σ 3 = .int .i64 x3 ∧ σ 6 = .pointer (some ⟨x6, 0, none⟩) ∧ E0_0  m else False
  | .ret, σ, m => retQ Try.prog Try.f70 R .ret σ m
  | _, _, _ => False
theorem vl70_1010 (w0 : World) (m : AM) (σ : Sg) (R : Value → AM → Prop)  (x0 : Option Addr) (x0n x0c : Nat) (x1 : Option Addr) (x1n x1c : Nat) (x3 : Int) (x6 : Nat) (x9 : Int) (I0 : Nat → Int → AM → Prop) (E0_0 : AM → Prop) (N : Nat) (h0 : σ 0 = .slice x0 x0n x0c) (h1 : σ 1 = .slice x1 x1n x1c) (h3 : σ 3 = .int .i64 x3) (h6 : σ 6 = .pointer (some ⟨x6, 0, none⟩)) (h9 : σ 9 = .int .i64 x9)
 (h_0 : I0 N x9 m)
 (h_s : ∀ (n0 : Nat) (σ : Sg) (x9 : Int) (m : AM), I0 n0 x9 m → (
 IntKind.i64 = IntKind.i64 ∧ (bcase (decide ((x9 : Int) < ((x1n : Nat) : Int))) (
 ((0 : Int) ≤ x9 ∧ x9 < ((x1n : Nat) : Int)) ∧ nilO x1 fun a3 =>
 ∃ i4 : Int, m.cell (a3.add ((x9 : Int).toNat * 1)) = some (.int .i64 i4) ∧ 
 IntKind.i64 = IntKind.i64 ∧ (bcase (decide ((i4 : Int) ≥ 0)) (
 IntKind.i64 = IntKind.i64 ∧ ((0 : Int) ≤ x9 ∧ x9 < ((x1n : Nat) : Int)) ∧ nilO x1 fun a5 =>
 ∃ i6 : Int, m.cell (a5.add ((x9 : Int).toNat * 1)) = some (.int .i64 i6) ∧ 
 ((0 : Int) ≤ i6 ∧ i6 < ((x0n : Nat) : Int)) ∧ nilO x0 fun a7 =>
 ∃ i8 : Int, m.cell (a7.add ((i6 : Int).toNat * 5)) = some (.int .i64 i8) ∧ ∃ i9 : Int, m.cell ((a7.add ((i6 : Int).toNat * 5)).add 1) = some (.int .i64 i9) ∧ ∃ i10 : Int, m.cell ((a7.add ((i6 : Int).toNat * 5)).add 2) = some (.int .i64 i10) ∧ ∃ i11 : Int, m.cell ((a7.add ((i6 : Int).toNat * 5)).add 3) = some (.int .i64 i11) ∧ ∃ i12 : Int, m.cell ((a7.add ((i6 : Int).toNat * 5)).add 4) = some (.int .i64 i12) ∧ 
 ∃ i13 : Int, m.cell ⟨x6, 0, none⟩ = some (.int .i64 i13) ∧ ∃ i14 : Int, m.cell ⟨x6, 1, none⟩ = some (.int .i64 i14) ∧ ∃ i15 : Int, m.cell ⟨x6, 2, none⟩ = some (.int .i64 i15) ∧ ∃ i16 : Int, m.cell ⟨x6, 3, none⟩ = some (.int .i64 i16) ∧ ∃ i17 : Int, m.cell ⟨x6, 4, none⟩ = some (.int .i64 i17) ∧ 
 CallsA Try.prog w0 41 #[.agg #[.int .i64 i8, .int .i64 i9, .int .i64 i10, .int .i64 i11, .int .i64 i12], .agg #[.int .i64 i13, .int .i64 i14, .int .i64 i15, .int .i64 i16, .int .i64 i17]] m fun r19 m20 =>
 ∃ i18 : Int, r19 = .int .i64 i18 ∧ IntKind.i64 = IntKind.i64 ∧ (bcase (bif decide ((i4 : Int) ≥ 0) then decide (((IntKind.wrap .i64 (x3 - x9)) : Int) < i18) else false) (
 RetP R (.bool false) m20) (
 IntKind.i64 = IntKind.i64 ∧ (.slice x0 x0n x0c : Value) = .slice x0 x0n x0c ∧ (.slice x1 x1n x1c : Value) = .slice x1 x1n x1c ∧ (.int .i64 x3 : Value) = .int .i64 x3 ∧ (.pointer (some ⟨x6, 0, none⟩) : Value) = .pointer (some ⟨x6, 0, none⟩) ∧ true = true ∧ ∃ n' : Nat, n' < n0 ∧ I0 n' (IntKind.wrap .i64 (x9 + 1)) m20))) (
 (decide ((i4 : Int) ≥ 0)) = false ∧ IntKind.i64 = IntKind.i64 ∧ (.slice x0 x0n x0c : Value) = .slice x0 x0n x0c ∧ (.slice x1 x1n x1c : Value) = .slice x1 x1n x1c ∧ (.int .i64 x3 : Value) = .int .i64 x3 ∧ (.pointer (some ⟨x6, 0, none⟩) : Value) = .pointer (some ⟨x6, 0, none⟩) ∧ true = true ∧ ∃ n' : Nat, n' < n0 ∧ I0 n' (IntKind.wrap .i64 (x9 + 1)) m))) (
 (.slice x0 x0n x0c : Value) = .slice x0 x0n x0c ∧ (.slice x1 x1n x1c : Value) = .slice x1 x1n x1c ∧ (.int .i64 x3 : Value) = .int .i64 x3 ∧ (.pointer (some ⟨x6, 0, none⟩) : Value) = .pointer (some ⟨x6, 0, none⟩) ∧ E0_0  m))))
 (h_e0 : ∀ (σ : Sg)  (m : AM), E0_0  m → (
 RetP R (.bool true) m)) :
 vcS Try.prog w0 qs70 (sub c70 [1, 0, 1, 0]) σ m (blockS 0 (thenS (fun σ m => vcS Try.prog w0 qs70 (sub c70 [1, 1]) σ m (retQ Try.prog Try.f70 R)) (retQ Try.prog Try.f70 R))) := by
  rw [show sub c70 [1, 0, 1, 0] = .loop (sub c70 [1, 0, 1, 0, 0]) from by kernel_rfl]
  refine loopQ (fun n0 σ m => σ 0 = .slice x0 x0n x0c ∧ σ 1 = .slice x1 x1n x1c ∧ σ 3 = .int .i64 x3 ∧ σ 6 = .pointer (some ⟨x6, 0, none⟩) ∧ okI .i64 (σ 9) = true ∧ I0 n0 (vI (σ 9)) m) N (fun n0 => (lq70_1010 R x0 x0n x0c x1 x1n x1c x3 x6 I0 E0_0 n0)) ⟨h0, h1, h3, h6, (by rw [h9]; rfl), (by rw [h9]; exact h_0)⟩ ?_ ?_ ?_
  · rintro n0 σ m ⟨kk0, kk1, kk2, kk3, kk4, n', hlt, hI⟩; exact ⟨n', hlt, kk0, kk1, kk2, kk3, kk4, hI⟩
  · intro n0 e σ m hne h
    cases e with
    | normal => exact absurd rfl hne
    | ret => exact h
    | exit id =>
      by_cases e0 : id = 0
      · subst e0
        obtain ⟨kk0, kk1, kk2, kk3, hE⟩ := h
        have es : (upd (upd (upd (upd σ 0 (.slice x0 x0n x0c)) 1 (.slice x1 x1n x1c)) 3 (.int .i64 x3)) 6 (.pointer (some ⟨x6, 0, none⟩))) = σ := by rw [upd_id kk0, upd_id kk1, upd_id kk2, upd_id kk3]
        exact cast (congrArg (fun s => (blockS 0 (thenS (fun σ m => vcS Try.prog w0 qs70 (sub c70 [1, 1]) σ m (retQ Try.prog Try.f70 R)) (retQ Try.prog Try.f70 R))) (.exit 0) s m) es) (cast (by kernel_rfl) (h_e0 σ  m hE))
      · replace h := (if_neg e0 : (if id = 0 then _ else _) = _).mp h
        exact False.elim h
    | _ => exact False.elim h
  · rintro n0 σ m ⟨kk0, kk1, kk2, kk3, kk4, hI⟩
    have es : (upd (upd (upd (upd (upd σ 0 (.slice x0 x0n x0c)) 1 (.slice x1 x1n x1c)) 3 (.int .i64 x3)) 6 (.pointer (some ⟨x6, 0, none⟩))) 9 (.int .i64 (vI (σ 9)))) = σ := by rw [upd_id kk0, upd_id kk1, upd_id kk2, upd_id kk3, upd_id (ok_int kk4)]
    exact cast (congrArg (fun s => vcS Try.prog w0 qs70 (sub c70 [1, 0, 1, 0, 0]) s m (lq70_1010 R x0 x0n x0c x1 x1n x1c x3 x6 I0 E0_0 n0)) es) (cast (by kernel_rfl) (h_s n0 σ (vI (σ 9)) m hI))

/-! 38 delayslot/delayslotref11.Lay -/
def qs38 : Nat → List (Nat × Nat) := fun i => match i with | _ => []
noncomputable def c38 : Code := bodyOf Try.f38
theorem cf38 (w0 : World) (m : AM) (x0 : Option Addr) (x0n x0c : Nat) (R : Value → AM → Prop) (h :
 IntKind.i64 = IntKind.i64 ∧ (bcase ((((x0n : Nat) : Int) : Int) == 0) (
 RetP R (.slice none 0 0) m) (
 IntKind.i64 = IntKind.i64 ∧ ((0 : Int) ≤ (IntKind.wrap .i64 (((x0n : Nat) : Int) - 1)) ∧ (IntKind.wrap .i64 (((x0n : Nat) : Int) - 1)) < ((x0n : Nat) : Int)) ∧ nilO x0 fun a1 =>
 ∃ i2 : Int, m.cell (a1.add ((IntKind.wrap .i64 (((x0n : Nat) : Int) - 1) : Int).toNat * 5)) = some (.int .i64 i2) ∧ ∃ i3 : Int, m.cell ((a1.add ((IntKind.wrap .i64 (((x0n : Nat) : Int) - 1) : Int).toNat * 5)).add 1) = some (.int .i64 i3) ∧ ∃ i4 : Int, m.cell ((a1.add ((IntKind.wrap .i64 (((x0n : Nat) : Int) - 1) : Int).toNat * 5)).add 2) = some (.int .i64 i4) ∧ ∃ i5 : Int, m.cell ((a1.add ((IntKind.wrap .i64 (((x0n : Nat) : Int) - 1) : Int).toNat * 5)).add 3) = some (.int .i64 i5) ∧ ∃ i6 : Int, m.cell ((a1.add ((IntKind.wrap .i64 (((x0n : Nat) : Int) - 1) : Int).toNat * 5)).add 4) = some (.int .i64 i6) ∧ 
 CallsA Try.prog w0 30 #[.agg #[.int .i64 i2, .int .i64 i3, .int .i64 i4, .int .i64 i5, .int .i64 i6]] m fun r8 m9 =>
 ∃ t7 : Bool, r8 = .bool t7 ∧ (bcase (!t7) (
 CallsA Try.prog w0 35 #[.slice x0 x0n x0c] m9 fun r13 m14 =>
 ∃ (A10 : Option Addr) (n11 c12 : Nat), r13 = .slice A10 n11 c12 ∧ IntKind.i64 = IntKind.i64 ∧ ((0 : Int) ≤ (IntKind.wrap .i64 (((n11 : Nat) : Int) - 1)) ∧ (IntKind.wrap .i64 (((n11 : Nat) : Int) - 1)) < ((n11 : Nat) : Int)) ∧ nilO A10 fun a15 =>
 ∃ i16 : Int, m14.cell (a15.add ((IntKind.wrap .i64 (((n11 : Nat) : Int) - 1) : Int).toNat * 1)) = some (.int .i64 i16) ∧ 
 IntKind.i64 = IntKind.i64 ∧ (bcase (decide ((i16 : Int) ≥ 0)) (
 ((0 : Int) ≤ i16 ∧ i16 < ((x0n : Nat) : Int)) ∧ nilO x0 fun a17 =>
 ∃ i18 : Int, m14.cell (a17.add ((i16 : Int).toNat * 5)) = some (.int .i64 i18) ∧ ∃ i19 : Int, m14.cell ((a17.add ((i16 : Int).toNat * 5)).add 1) = some (.int .i64 i19) ∧ ∃ i20 : Int, m14.cell ((a17.add ((i16 : Int).toNat * 5)).add 2) = some (.int .i64 i20) ∧ ∃ i21 : Int, m14.cell ((a17.add ((i16 : Int).toNat * 5)).add 3) = some (.int .i64 i21) ∧ ∃ i22 : Int, m14.cell ((a17.add ((i16 : Int).toNat * 5)).add 4) = some (.int .i64 i22) ∧ 
 CallsA Try.prog w0 40 #[.agg #[.int .i64 i18, .int .i64 i19, .int .i64 i20, .int .i64 i21, .int .i64 i22]] m14 fun r24 m25 =>
 ∃ t23 : Bool, r24 = .bool t23 ∧ (bcase (bif decide ((i16 : Int) ≥ 0) then t23 else false) (
 true = true ∧ ∀ b26 : Nat, w0.heap.size ≤ b26 → m25 b26 = none → let m27 := AM.upd m25 b26 (.cells #[.int .i64 (-1)] 3);
 awp Try.prog w0.heap.size (Builtin.append_ #[30, 30] 30 #[.slice A10 n11 c12, .slice (some ⟨b26, 0, none⟩) 1 1]) m27 fun v28 m29 =>
 ∃ (A30 : Option Addr) (n31 c32 : Nat), v28 = .slice A30 n31 c32 ∧ RetP R (.slice A30 n31 c32) m29) (
 RetP R (.slice A10 n11 c12) m25))) (
 (decide ((i16 : Int) ≥ 0)) = false ∧ RetP R (.slice A10 n11 c12) m14))) (
 (0 : Int) ≤ (IntKind.wrap .i64 (((x0n : Nat) : Int) - 1)) ∧ ((IntKind.wrap .i64 (((x0n : Nat) : Int) - 1) : Int).toNat) ≤ x0c ∧ 0 ≤ ((IntKind.wrap .i64 (((x0n : Nat) : Int) - 1) : Int).toNat) ∧
 CallsA Try.prog w0 35 #[.slice (if x0c = 0 then x0 else Option.map (fun x => Addr.add x (0 * 5)) x0) (((IntKind.wrap .i64 (((x0n : Nat) : Int) - 1) : Int).toNat) - 0) (x0c - 0)] m9 fun r36 m37 =>
 ∃ (A33 : Option Addr) (n34 c35 : Nat), r36 = .slice A33 n34 c35 ∧ IntKind.i64 = IntKind.i64 ∧ IntKind.i64 = IntKind.i64 ∧ (bcase (decide (((IntKind.wrap .i64 (((n34 : Nat) : Int) - 1)) : Int) ≥ 0)) (
 ((0 : Int) ≤ (IntKind.wrap .i64 (((n34 : Nat) : Int) - 1)) ∧ (IntKind.wrap .i64 (((n34 : Nat) : Int) - 1)) < ((n34 : Nat) : Int)) ∧ nilO A33 fun a38 =>
 ∃ i39 : Int, m37.cell (a38.add ((IntKind.wrap .i64 (((n34 : Nat) : Int) - 1) : Int).toNat * 1)) = some (.int .i64 i39) ∧ 
 ((0 : Int) ≤ i39 ∧ i39 < ((x0n : Nat) : Int)) ∧ nilO x0 fun a40 =>
 ∃ i41 : Int, m37.cell (a40.add ((i39 : Int).toNat * 5)) = some (.int .i64 i41) ∧ ∃ i42 : Int, m37.cell ((a40.add ((i39 : Int).toNat * 5)).add 1) = some (.int .i64 i42) ∧ ∃ i43 : Int, m37.cell ((a40.add ((i39 : Int).toNat * 5)).add 2) = some (.int .i64 i43) ∧ ∃ i44 : Int, m37.cell ((a40.add ((i39 : Int).toNat * 5)).add 3) = some (.int .i64 i44) ∧ ∃ i45 : Int, m37.cell ((a40.add ((i39 : Int).toNat * 5)).add 4) = some (.int .i64 i45) ∧ 
 CallsA Try.prog w0 40 #[.agg #[.int .i64 i41, .int .i64 i42, .int .i64 i43, .int .i64 i44, .int .i64 i45]] m37 fun r47 m48 =>
 ∃ t46 : Bool, r47 = .bool t46 ∧ (bcase (bif decide (((IntKind.wrap .i64 (((n34 : Nat) : Int) - 1)) : Int) ≥ 0) then !t46 else false) (
 ((0 : Int) ≤ (IntKind.wrap .i64 (((n34 : Nat) : Int) - 1)) ∧ (IntKind.wrap .i64 (((n34 : Nat) : Int) - 1)) < ((n34 : Nat) : Int)) ∧ nilO A33 fun a49 =>
 ∃ i50 : Int, m48.cell (a49.add ((IntKind.wrap .i64 (((n34 : Nat) : Int) - 1) : Int).toNat * 1)) = some (.int .i64 i50) ∧ 
 ((0 : Int) ≤ i50 ∧ i50 < ((x0n : Nat) : Int)) ∧ nilO x0 fun a51 =>
 ∃ i52 : Int, m48.cell (a51.add ((i50 : Int).toNat * 5)) = some (.int .i64 i52) ∧ ∃ i53 : Int, m48.cell ((a51.add ((i50 : Int).toNat * 5)).add 1) = some (.int .i64 i53) ∧ ∃ i54 : Int, m48.cell ((a51.add ((i50 : Int).toNat * 5)).add 2) = some (.int .i64 i54) ∧ ∃ i55 : Int, m48.cell ((a51.add ((i50 : Int).toNat * 5)).add 3) = some (.int .i64 i55) ∧ ∃ i56 : Int, m48.cell ((a51.add ((i50 : Int).toNat * 5)).add 4) = some (.int .i64 i56) ∧ 
 ((0 : Int) ≤ (IntKind.wrap .i64 (((x0n : Nat) : Int) - 1)) ∧ (IntKind.wrap .i64 (((x0n : Nat) : Int) - 1)) < ((x0n : Nat) : Int)) ∧ nilO x0 fun a57 =>
 ∃ i58 : Int, m48.cell (a57.add ((IntKind.wrap .i64 (((x0n : Nat) : Int) - 1) : Int).toNat * 5)) = some (.int .i64 i58) ∧ ∃ i59 : Int, m48.cell ((a57.add ((IntKind.wrap .i64 (((x0n : Nat) : Int) - 1) : Int).toNat * 5)).add 1) = some (.int .i64 i59) ∧ ∃ i60 : Int, m48.cell ((a57.add ((IntKind.wrap .i64 (((x0n : Nat) : Int) - 1) : Int).toNat * 5)).add 2) = some (.int .i64 i60) ∧ ∃ i61 : Int, m48.cell ((a57.add ((IntKind.wrap .i64 (((x0n : Nat) : Int) - 1) : Int).toNat * 5)).add 3) = some (.int .i64 i61) ∧ ∃ i62 : Int, m48.cell ((a57.add ((IntKind.wrap .i64 (((x0n : Nat) : Int) - 1) : Int).toNat * 5)).add 4) = some (.int .i64 i62) ∧ 
 CallsA Try.prog w0 41 #[.agg #[.int .i64 i52, .int .i64 i53, .int .i64 i54, .int .i64 i55, .int .i64 i56], .agg #[.int .i64 i58, .int .i64 i59, .int .i64 i60, .int .i64 i61, .int .i64 i62]] m48 fun r64 m65 =>
 ∃ i63 : Int, r64 = .int .i64 i63 ∧ IntKind.i64 = IntKind.i64 ∧ (bcase (bif bif decide (((IntKind.wrap .i64 (((n34 : Nat) : Int) - 1)) : Int) ≥ 0) then !t46 else false then (i63 : Int) == 0 else false) (
 (0 : Int) ≤ (IntKind.wrap .i64 (((n34 : Nat) : Int) - 1)) ∧ ((IntKind.wrap .i64 (((n34 : Nat) : Int) - 1) : Int).toNat) ≤ c35 ∧ 0 ≤ ((IntKind.wrap .i64 (((n34 : Nat) : Int) - 1) : Int).toNat) ∧
 ((0 : Int) ≤ (IntKind.wrap .i64 (((x0n : Nat) : Int) - 1)) ∧ (IntKind.wrap .i64 (((x0n : Nat) : Int) - 1)) < ((x0n : Nat) : Int)) ∧ nilO x0 fun a66 =>
 ∃ i67 : Int, m65.cell (a66.add ((IntKind.wrap .i64 (((x0n : Nat) : Int) - 1) : Int).toNat * 5)) = some (.int .i64 i67) ∧ ∃ i68 : Int, m65.cell ((a66.add ((IntKind.wrap .i64 (((x0n : Nat) : Int) - 1) : Int).toNat * 5)).add 1) = some (.int .i64 i68) ∧ ∃ i69 : Int, m65.cell ((a66.add ((IntKind.wrap .i64 (((x0n : Nat) : Int) - 1) : Int).toNat * 5)).add 2) = some (.int .i64 i69) ∧ ∃ i70 : Int, m65.cell ((a66.add ((IntKind.wrap .i64 (((x0n : Nat) : Int) - 1) : Int).toNat * 5)).add 3) = some (.int .i64 i70) ∧ ∃ i71 : Int, m65.cell ((a66.add ((IntKind.wrap .i64 (((x0n : Nat) : Int) - 1) : Int).toNat * 5)).add 4) = some (.int .i64 i71) ∧ 
 CallsA Try.prog w0 70 #[.slice x0 x0n x0c, .slice (if c35 = 0 then A33 else Option.map (fun x => Addr.add x (0 * 1)) A33) (((IntKind.wrap .i64 (((n34 : Nat) : Int) - 1) : Int).toNat) - 0) (c35 - 0), .agg #[.int .i64 i67, .int .i64 i68, .int .i64 i69, .int .i64 i70, .int .i64 i71], .int .i64 (IntKind.wrap .i64 (((n34 : Nat) : Int) - 1))] m65 fun r73 m74 =>
 ∃ t72 : Bool, r73 = .bool t72 ∧ vcS Try.prog w0 qs38 (sub c38 [1, 1, 1, 1, 1, 1, 0, 1]) (upd (upd (upd (upd (upd (upd (upd (upd (upd (upd (upd (upd (upd (upd (upd (upd (upd (upd (upd (upd (upd (upd (upd (upd (upd (upd (upd (upd (upd (upd (upd (upd (upd (upd (upd (upd (upd (upd (upd (upd (upd (upd (upd (upd (upd (upd (upd (upd (upd (upd (upd (upd (upd (upd (upd (upd (upd (upd (upd (upd (upd (upd (upd (argS [.slice x0 x0n x0c]) 2 (.slice none 0 0)) 10 (.slice x0 x0n x0c)) 11 (.int .i64 ((x0n : Nat) : Int))) 12 (.bool ((((x0n : Nat) : Int) : Int) == 0))) 13 (.slice x0 x0n x0c)) 14 (.int .i64 ((x0n : Nat) : Int))) 15 (.int .i64 (IntKind.wrap .i64 (((x0n : Nat) : Int) - 1)))) 3 (.int .i64 (IntKind.wrap .i64 (((x0n : Nat) : Int) - 1)))) 16 (.slice x0 x0n x0c)) 17 (.int .i64 (IntKind.wrap .i64 (((x0n : Nat) : Int) - 1)))) 18 (.pointer (some (a1.add ((IntKind.wrap .i64 (((x0n : Nat) : Int) - 1) : Int).toNat * 5))))) 19 (.agg #[.int .i64 i2, .int .i64 i3, .int .i64 i4, .int .i64 i5, .int .i64 i6])) 20 (.bool t7)) 21 (.bool (!t7))) 43 (.slice x0 x0n x0c)) 44 (.int .i64 (IntKind.wrap .i64 (((x0n : Nat) : Int) - 1)))) 45 (.slice (if x0c = 0 then x0 else Option.map (fun x => Addr.add x (0 * 5)) x0) (((IntKind.wrap .i64 (((x0n : Nat) : Int) - 1) : Int).toNat) - 0) (x0c - 0))) 46 (.slice A33 n34 c35)) 6 (.slice A33 n34 c35)) 47 (.slice A33 n34 c35)) 48 (.int .i64 ((n34 : Nat) : Int))) 49 (.int .i64 (IntKind.wrap .i64 (((n34 : Nat) : Int) - 1)))) 7 (.int .i64 (IntKind.wrap .i64 (((n34 : Nat) : Int) - 1)))) 50 (.int .i64 (IntKind.wrap .i64 (((n34 : Nat) : Int) - 1)))) 51 (.bool (decide (((IntKind.wrap .i64 (((n34 : Nat) : Int) - 1)) : Int) ≥ 0)))) 52 (.bool (decide (((IntKind.wrap .i64 (((n34 : Nat) : Int) - 1)) : Int) ≥ 0)))) 53 (.slice x0 x0n x0c)) 54 (.slice A33 n34 c35)) 55 (.int .i64 (IntKind.wrap .i64 (((n34 : Nat) : Int) - 1)))) 56 (.pointer (some (a38.add ((IntKind.wrap .i64 (((n34 : Nat) : Int) - 1) : Int).toNat * 1))))) 57 (.int .i64 i39)) 58 (.pointer (some (a40.add ((i39 : Int).toNat * 5))))) 59 (.agg #[.int .i64 i41, .int .i64 i42, .int .i64 i43, .int .i64 i44, .int .i64 i45])) 60 (.bool t46)) 61 (.bool (!t46))) 62 (.bool (bif decide (((IntKind.wrap .i64 (((n34 : Nat) : Int) - 1)) : Int) ≥ 0) then !t46 else false))) 63 (.bool (bif decide (((IntKind.wrap .i64 (((n34 : Nat) : Int) - 1)) : Int) ≥ 0) then !t46 else false))) 64 (.slice x0 x0n x0c)) 65 (.slice A33 n34 c35)) 66 (.int .i64 (IntKind.wrap .i64 (((n34 : Nat) : Int) - 1)))) 67 (.pointer (some (a49.add ((IntKind.wrap .i64 (((n34 : Nat) : Int) - 1) : Int).toNat * 1))))) 68 (.int .i64 i50)) 69 (.pointer (some (a51.add ((i50 : Int).toNat * 5))))) 70 (.agg #[.int .i64 i52, .int .i64 i53, .int .i64 i54, .int .i64 i55, .int .i64 i56])) 71 (.slice x0 x0n x0c)) 72 (.int .i64 (IntKind.wrap .i64 (((x0n : Nat) : Int) - 1)))) 73 (.pointer (some (a57.add ((IntKind.wrap .i64 (((x0n : Nat) : Int) - 1) : Int).toNat * 5))))) 74 (.agg #[.int .i64 i58, .int .i64 i59, .int .i64 i60, .int .i64 i61, .int .i64 i62])) 75 (.int .i64 i63)) 76 (.bool ((i63 : Int) == 0))) 77 (.bool (bif bif decide (((IntKind.wrap .i64 (((n34 : Nat) : Int) - 1)) : Int) ≥ 0) then !t46 else false then (i63 : Int) == 0 else false))) 78 (.bool (bif bif decide (((IntKind.wrap .i64 (((n34 : Nat) : Int) - 1)) : Int) ≥ 0) then !t46 else false then (i63 : Int) == 0 else false))) 79 (.slice x0 x0n x0c)) 80 (.slice A33 n34 c35)) 81 (.int .i64 (IntKind.wrap .i64 (((n34 : Nat) : Int) - 1)))) 82 (.slice (if c35 = 0 then A33 else Option.map (fun x => Addr.add x (0 * 1)) A33) (((IntKind.wrap .i64 (((n34 : Nat) : Int) - 1) : Int).toNat) - 0) (c35 - 0))) 83 (.slice x0 x0n x0c)) 84 (.int .i64 (IntKind.wrap .i64 (((x0n : Nat) : Int) - 1)))) 85 (.pointer (some (a66.add ((IntKind.wrap .i64 (((x0n : Nat) : Int) - 1) : Int).toNat * 5))))) 86 (.agg #[.int .i64 i67, .int .i64 i68, .int .i64 i69, .int .i64 i70, .int .i64 i71])) 87 (.int .i64 (IntKind.wrap .i64 (((n34 : Nat) : Int) - 1)))) 88 (.bool t72)) 89 (.bool (bif bif bif decide (((IntKind.wrap .i64 (((n34 : Nat) : Int) - 1)) : Int) ≥ 0) then !t46 else false then (i63 : Int) == 0 else false then t72 else false))) m74 (thenS (fun σ m => vcS Try.prog w0 qs38 (sub c38 [1, 1, 1, 1, 1, 1, 1]) σ m (retQ Try.prog Try.f38 R)) (retQ Try.prog Try.f38 R))) (
 (bif bif decide (((IntKind.wrap .i64 (((n34 : Nat) : Int) - 1)) : Int) ≥ 0) then !t46 else false then (i63 : Int) == 0 else false) = false ∧ vcS Try.prog w0 qs38 (sub c38 [1, 1, 1, 1, 1, 1, 0, 1]) (upd (upd (upd (upd (upd (upd (upd (upd (upd (upd (upd (upd (upd (upd (upd (upd (upd (upd (upd (upd (upd (upd (upd (upd (upd (upd (upd (upd (upd (upd (upd (upd (upd (upd (upd (upd (upd (upd (upd (upd (upd (upd (upd (upd (upd (upd (upd (upd (upd (upd (upd (upd (upd (upd (upd (upd (upd (upd (upd (upd (upd (upd (upd (argS [.slice x0 x0n x0c]) 2 (.slice none 0 0)) 10 (.slice x0 x0n x0c)) 11 (.int .i64 ((x0n : Nat) : Int))) 12 (.bool ((((x0n : Nat) : Int) : Int) == 0))) 13 (.slice x0 x0n x0c)) 14 (.int .i64 ((x0n : Nat) : Int))) 15 (.int .i64 (IntKind.wrap .i64 (((x0n : Nat) : Int) - 1)))) 3 (.int .i64 (IntKind.wrap .i64 (((x0n : Nat) : Int) - 1)))) 16 (.slice x0 x0n x0c)) 17 (.int .i64 (IntKind.wrap .i64 (((x0n : Nat) : Int) - 1)))) 18 (.pointer (some (a1.add ((IntKind.wrap .i64 (((x0n : Nat) : Int) - 1) : Int).toNat * 5))))) 19 (.agg #[.int .i64 i2, .int .i64 i3, .int .i64 i4, .int .i64 i5, .int .i64 i6])) 20 (.bool t7)) 21 (.bool (!t7))) 43 (.slice x0 x0n x0c)) 44 (.int .i64 (IntKind.wrap .i64 (((x0n : Nat) : Int) - 1)))) 45 (.slice (if x0c = 0 then x0 else Option.map (fun x => Addr.add x (0 * 5)) x0) (((IntKind.wrap .i64 (((x0n : Nat) : Int) - 1) : Int).toNat) - 0) (x0c - 0))) 46 (.slice A33 n34 c35)) 6 (.slice A33 n34 c35)) 47 (.slice A33 n34 c35)) 48 (.int .i64 ((n34 : Nat) : Int))) 49 (.int .i64 (IntKind.wrap .i64 (((n34 : Nat) : Int) - 1)))) 7 (.int .i64 (IntKind.wrap .i64 (((n34 : Nat) : Int) - 1)))) 50 (.int .i64 (IntKind.wrap .i64 (((n34 : Nat) : Int) - 1)))) 51 (.bool (decide (((IntKind.wrap .i64 (((n34 : Nat) : Int) - 1)) : Int) ≥ 0)))) 52 (.bool (decide (((IntKind.wrap .i64 (((n34 : Nat) : Int) - 1)) : Int) ≥ 0)))) 53 (.slice x0 x0n x0c)) 54 (.slice A33 n34 c35)) 55 (.int .i64 (IntKind.wrap .i64 (((n34 : Nat) : Int) - 1)))) 56 (.pointer (some (a38.add ((IntKind.wrap .i64 (((n34 : Nat) : Int) - 1) : Int).toNat * 1))))) 57 (.int .i64 i39)) 58 (.pointer (some (a40.add ((i39 : Int).toNat * 5))))) 59 (.agg #[.int .i64 i41, .int .i64 i42, .int .i64 i43, .int .i64 i44, .int .i64 i45])) 60 (.bool t46)) 61 (.bool (!t46))) 62 (.bool (bif decide (((IntKind.wrap .i64 (((n34 : Nat) : Int) - 1)) : Int) ≥ 0) then !t46 else false))) 63 (.bool (bif decide (((IntKind.wrap .i64 (((n34 : Nat) : Int) - 1)) : Int) ≥ 0) then !t46 else false))) 64 (.slice x0 x0n x0c)) 65 (.slice A33 n34 c35)) 66 (.int .i64 (IntKind.wrap .i64 (((n34 : Nat) : Int) - 1)))) 67 (.pointer (some (a49.add ((IntKind.wrap .i64 (((n34 : Nat) : Int) - 1) : Int).toNat * 1))))) 68 (.int .i64 i50)) 69 (.pointer (some (a51.add ((i50 : Int).toNat * 5))))) 70 (.agg #[.int .i64 i52, .int .i64 i53, .int .i64 i54, .int .i64 i55, .int .i64 i56])) 71 (.slice x0 x0n x0c)) 72 (.int .i64 (IntKind.wrap .i64 (((x0n : Nat) : Int) - 1)))) 73 (.pointer (some (a57.add ((IntKind.wrap .i64 (((x0n : Nat) : Int) - 1) : Int).toNat * 5))))) 74 (.agg #[.int .i64 i58, .int .i64 i59, .int .i64 i60, .int .i64 i61, .int .i64 i62])) 75 (.int .i64 i63)) 76 (.bool ((i63 : Int) == 0))) 77 (.bool (bif bif decide (((IntKind.wrap .i64 (((n34 : Nat) : Int) - 1)) : Int) ≥ 0) then !t46 else false then (i63 : Int) == 0 else false))) 78 (.bool (bif bif decide (((IntKind.wrap .i64 (((n34 : Nat) : Int) - 1)) : Int) ≥ 0) then !t46 else false then (i63 : Int) == 0 else false))) 79 (undef)) 80 (undef)) 81 (undef)) 82 (undef)) 83 (undef)) 84 (undef)) 85 (undef)) 86 (undef)) 87 (undef)) 88 (undef)) 89 (.bool false)) m65 (thenS (fun σ m => vcS Try.prog w0 qs38 (sub c38 [1, 1, 1, 1, 1, 1, 1]) σ m (retQ Try.prog Try.f38 R)) (retQ Try.prog Try.f38 R))))) (
 (bif decide (((IntKind.wrap .i64 (((n34 : Nat) : Int) - 1)) : Int) ≥ 0) then !t46 else false) = false ∧ false = false ∧ vcS Try.prog w0 qs38 (sub c38 [1, 1, 1, 1, 1, 1, 0, 1]) (upd (upd (upd (upd (upd (upd (upd (upd (upd (upd (upd (upd (upd (upd (upd (upd (upd (upd (upd (upd (upd (upd (upd (upd (upd (upd (upd (upd (upd (upd (upd (upd (upd (upd (upd (upd (upd (upd (upd (upd (upd (upd (upd (upd (upd (upd (upd (upd (upd (upd (upd (upd (upd (upd (upd (upd (upd (upd (upd (upd (upd (upd (upd (argS [.slice x0 x0n x0c]) 2 (.slice none 0 0)) 10 (.slice x0 x0n x0c)) 11 (.int .i64 ((x0n : Nat) : Int))) 12 (.bool ((((x0n : Nat) : Int) : Int) == 0))) 13 (.slice x0 x0n x0c)) 14 (.int .i64 ((x0n : Nat) : Int))) 15 (.int .i64 (IntKind.wrap .i64 (((x0n : Nat) : Int) - 1)))) 3 (.int .i64 (IntKind.wrap .i64 (((x0n : Nat) : Int) - 1)))) 16 (.slice x0 x0n x0c)) 17 (.int .i64 (IntKind.wrap .i64 (((x0n : Nat) : Int) - 1)))) 18 (.pointer (some (a1.add ((IntKind.wrap .i64 (((x0n : Nat) : Int) - 1) : Int).toNat * 5))))) 19 (.agg #[.int .i64 i2, .int .i64 i3, .int .i64 i4, .int .i64 i5, .int .i64 i6])) 20 (.bool t7)) 21 (.bool (!t7))) 43 (.slice x0 x0n x0c)) 44 (.int .i64 (IntKind.wrap .i64 (((x0n : Nat) : Int) - 1)))) 45 (.slice (if x0c = 0 then x0 else Option.map (fun x => Addr.add x (0 * 5)) x0) (((IntKind.wrap .i64 (((x0n : Nat) : Int) - 1) : Int).toNat) - 0) (x0c - 0))) 46 (.slice A33 n34 c35)) 6 (.slice A33 n34 c35)) 47 (.slice A33 n34 c35)) 48 (.int .i64 ((n34 : Nat) : Int))) 49 (.int .i64 (IntKind.wrap .i64 (((n34 : Nat) : Int) - 1)))) 7 (.int .i64 (IntKind.wrap .i64 (((n34 : Nat) : Int) - 1)))) 50 (.int .i64 (IntKind.wrap .i64 (((n34 : Nat) : Int) - 1)))) 51 (.bool (decide (((IntKind.wrap .i64 (((n34 : Nat) : Int) - 1)) : Int) ≥ 0)))) 52 (.bool (decide (((IntKind.wrap .i64 (((n34 : Nat) : Int) - 1)) : Int) ≥ 0)))) 53 (.slice x0 x0n x0c)) 54 (.slice A33 n34 c35)) 55 (.int .i64 (IntKind.wrap .i64 (((n34 : Nat) : Int) - 1)))) 56 (.pointer (some (a38.add ((IntKind.wrap .i64 (((n34 : Nat) : Int) - 1) : Int).toNat * 1))))) 57 (.int .i64 i39)) 58 (.pointer (some (a40.add ((i39 : Int).toNat * 5))))) 59 (.agg #[.int .i64 i41, .int .i64 i42, .int .i64 i43, .int .i64 i44, .int .i64 i45])) 60 (.bool t46)) 61 (.bool (!t46))) 62 (.bool (bif decide (((IntKind.wrap .i64 (((n34 : Nat) : Int) - 1)) : Int) ≥ 0) then !t46 else false))) 63 (.bool (bif decide (((IntKind.wrap .i64 (((n34 : Nat) : Int) - 1)) : Int) ≥ 0) then !t46 else false))) 64 (undef)) 65 (undef)) 66 (undef)) 67 (undef)) 68 (undef)) 69 (undef)) 70 (undef)) 71 (undef)) 72 (undef)) 73 (undef)) 74 (undef)) 75 (undef)) 76 (undef)) 77 (.bool false)) 78 (.bool false)) 79 (undef)) 80 (undef)) 81 (undef)) 82 (undef)) 83 (undef)) 84 (undef)) 85 (undef)) 86 (undef)) 87 (undef)) 88 (undef)) 89 (.bool false)) m48 (thenS (fun σ m => vcS Try.prog w0 qs38 (sub c38 [1, 1, 1, 1, 1, 1, 1]) σ m (retQ Try.prog Try.f38 R)) (retQ Try.prog Try.f38 R))))) (
 (decide (((IntKind.wrap .i64 (((n34 : Nat) : Int) - 1)) : Int) ≥ 0)) = false ∧ false = false ∧ false = false ∧ vcS Try.prog w0 qs38 (sub c38 [1, 1, 1, 1, 1, 1, 0, 1]) (upd (upd (upd (upd (upd (upd (upd (upd (upd (upd (upd (upd (upd (upd (upd (upd (upd (upd (upd (upd (upd (upd (upd (upd (upd (upd (upd (upd (upd (upd (upd (upd (upd (upd (upd (upd (upd (upd (upd (upd (upd (upd (upd (upd (upd (upd (upd (upd (upd (upd (upd (upd (upd (upd (upd (upd (upd (upd (upd (upd (upd (upd (upd (argS [.slice x0 x0n x0c]) 2 (.slice none 0 0)) 10 (.slice x0 x0n x0c)) 11 (.int .i64 ((x0n : Nat) : Int))) 12 (.bool ((((x0n : Nat) : Int) : Int) == 0))) 13 (.slice x0 x0n x0c)) 14 (.int .i64 ((x0n : Nat) : Int))) 15 (.int .i64 (IntKind.wrap .i64 (((x0n : Nat) : Int) - 1)))) 3 (.int .i64 (IntKind.wrap .i64 (((x0n : Nat) : Int) - 1)))) 16 (.slice x0 x0n x0c)) 17 (.int .i64 (IntKind.wrap .i64 (((x0n : Nat) : Int) - 1)))) 18 (.pointer (some (a1.add ((IntKind.wrap .i64 (((x0n : Nat) : Int) - 1) : Int).toNat * 5))))) 19 (.agg #[.int .i64 i2, .int .i64 i3, .int .i64 i4, .int .i64 i5, .int .i64 i6])) 20 (.bool t7)) 21 (.bool (!t7))) 43 (.slice x0 x0n x0c)) 44 (.int .i64 (IntKind.wrap .i64 (((x0n : Nat) : Int) - 1)))) 45 (.slice (if x0c = 0 then x0 else Option.map (fun x => Addr.add x (0 * 5)) x0) (((IntKind.wrap .i64 (((x0n : Nat) : Int) - 1) : Int).toNat) - 0) (x0c - 0))) 46 (.slice A33 n34 c35)) 6 (.slice A33 n34 c35)) 47 (.slice A33 n34 c35)) 48 (.int .i64 ((n34 : Nat) : Int))) 49 (.int .i64 (IntKind.wrap .i64 (((n34 : Nat) : Int) - 1)))) 7 (.int .i64 (IntKind.wrap .i64 (((n34 : Nat) : Int) - 1)))) 50 (.int .i64 (IntKind.wrap .i64 (((n34 : Nat) : Int) - 1)))) 51 (.bool (decide (((IntKind.wrap .i64 (((n34 : Nat) : Int) - 1)) : Int) ≥ 0)))) 52 (.bool (decide (((IntKind.wrap .i64 (((n34 : Nat) : Int) - 1)) : Int) ≥ 0)))) 53 (undef)) 54 (undef)) 55 (undef)) 56 (undef)) 57 (undef)) 58 (undef)) 59 (undef)) 60 (undef)) 61 (undef)) 62 (.bool false)) 63 (.bool false)) 64 (undef)) 65 (undef)) 66 (undef)) 67 (undef)) 68 (undef)) 69 (undef)) 70 (undef)) 71 (undef)) 72 (undef)) 73 (undef)) 74 (undef)) 75 (undef)) 76 (undef)) 77 (.bool false)) 78 (.bool false)) 79 (undef)) 80 (undef)) 81 (undef)) 82 (undef)) 83 (undef)) 84 (undef)) 85 (undef)) 86 (undef)) 87 (undef)) 88 (undef)) 89 (.bool false)) m37 (thenS (fun σ m => vcS Try.prog w0 qs38 (sub c38 [1, 1, 1, 1, 1, 1, 1]) σ m (retQ Try.prog Try.f38 R)) (retQ Try.prog Try.f38 R))))))))) : CallsA Try.prog w0 38 #[.slice x0 x0n x0c] m R :=
  callsA_of (c := c38) (args := [.slice x0 x0n x0c]) (by kernel_rfl) Try.func38 (by kernel_rfl) qs38 (by kernel_rfl) (by kernel_rfl) (cast (by kernel_rfl) h)
theorem vk38_11111101 (w0 : World) (m : AM) (σ : Sg) (R : Value → AM → Prop)  (x0 : Option Addr) (x0n x0c : Nat) (x3 : Int) (x6 : Option Addr) (x6n x6c : Nat) (x7 : Int) (x89 : Bool) (h0 : σ 0 = .slice x0 x0n x0c) (h3 : σ 3 = .int .i64 x3) (h6 : σ 6 = .slice x6 x6n x6c) (h7 : σ 7 = .int .i64 x7) (h89 : σ 89 = .bool x89) (h :
 (bcase x89 (
 ((0 : Int) ≤ x7 ∧ x7 < ((x6n : Nat) : Int)) ∧ nilO x6 fun a75 =>
 ∃ i76 : Int, m.cell (a75.add ((x7 : Int).toNat * 1)) = some (.int .i64 i76) ∧ 
 (0 : Int) ≤ x7 ∧ ((x7 : Int).toNat) ≤ x6c ∧ 0 ≤ ((x7 : Int).toNat) ∧
 awp Try.prog w0.heap.size (Builtin.append_ #[30, 30] 30 #[.slice none 0 0, .slice (if x6c = 0 then x6 else Option.map (fun x => Addr.add x (0 * 1)) x6) (((x7 : Int).toNat) - 0) (x6c - 0)]) m fun v77 m78 =>
 ∃ (A79 : Option Addr) (n80 c81 : Nat), v77 = .slice A79 n80 c81 ∧ true = true ∧ ∀ b82 : Nat, w0.heap.size ≤ b82 → m78 b82 = none → let m83 := AM.upd m78 b82 (.cells #[.int .i64 x3, .int .i64 i76] 3);
 awp Try.prog w0.heap.size (Builtin.append_ #[30, 30] 30 #[.slice A79 n80 c81, .slice (some ⟨b82, 0, none⟩) 2 2]) m83 fun v84 m85 =>
 ∃ (A86 : Option Addr) (n87 c88 : Nat), v84 = .slice A86 n87 c88 ∧ RetP R (.slice A86 n87 c88) m85) (
 vcS Try.prog w0 qs38 (sub c38 [1, 1, 1, 1, 1, 1, 1]) (upd (upd (upd (upd (upd σ 0 (.slice x0 x0n x0c)) 3 (.int .i64 x3)) 6 (.slice x6 x6n x6c)) 7 (.int .i64 x7)) 89 (.bool x89)) m (retQ Try.prog Try.f38 R)))) :
 vcS Try.prog w0 qs38 (sub c38 [1, 1, 1, 1, 1, 1, 0, 1]) σ m (thenS (fun σ m => vcS Try.prog w0 qs38 (sub c38 [1, 1, 1, 1, 1, 1, 1]) σ m (retQ Try.prog Try.f38 R)) (retQ Try.prog Try.f38 R)) := by
  have es0 : (upd (upd (upd (upd (upd σ 0 (.slice x0 x0n x0c)) 3 (.int .i64 x3)) 6 (.slice x6 x6n x6c)) 7 (.int .i64 x7)) 89 (.bool x89)) = σ := by rw [upd_id h0, upd_id h3, upd_id h6, upd_id h7, upd_id h89]
  exact cast (congrArg (fun s => vcS Try.prog w0 qs38 (sub c38 [1, 1, 1, 1, 1, 1, 0, 1]) s m (thenS (fun σ m => vcS Try.prog w0 qs38 (sub c38 [1, 1, 1, 1, 1, 1, 1]) σ m (retQ Try.prog Try.f38 R)) (retQ Try.prog Try.f38 R))) es0) (cast (by kernel_rfl) h)
theorem vk38_1111111 (w0 : World) (m : AM) (σ : Sg) (R : Value → AM → Prop)  (x0 : Option Addr) (x0n x0c : Nat) (x3 : Int) (x6 : Option Addr) (x6n x6c : Nat) (h0 : σ 0 = .slice x0 x0n x0c) (h3 : σ 3 = .int .i64 x3) (h6 : σ 6 = .slice x6 x6n x6c) (h :
 vcS Try.prog w0 qs38 (sub c38 [1, 1, 1, 1, 1, 1, 1, 0, 0]) (upd (upd (upd σ 0 (.slice x0 x0n x0c)) 3 (.int .i64 x3)) 6 (.slice x6 x6n x6c)) m (blockS 0 (thenS (fun σ m => vcS Try.prog w0 qs38 (sub c38 [1, 1, 1, 1, 1, 1, 1, 1]) σ m (retQ Try.prog Try.f38 R)) (retQ Try.prog Try.f38 R)))) :
 vcS Try.prog w0 qs38 (sub c38 [1, 1, 1, 1, 1, 1, 1]) σ m (retQ Try.prog Try.f38 R) := by
  have es0 : (upd (upd (upd σ 0 (.slice x0 x0n x0c)) 3 (.int .i64 x3)) 6 (.slice x6 x6n x6c)) = σ := by rw [upd_id h0, upd_id h3, upd_id h6]
  exact cast (congrArg (fun s => vcS Try.prog w0 qs38 (sub c38 [1, 1, 1, 1, 1, 1, 1]) s m (retQ Try.prog Try.f38 R)) es0) (cast (by kernel_rfl) h)
def lq38_111111100 (R : Value → AM → Prop) (x0 : Option Addr) (x0n x0c : Nat) (x3 : Int) (I0 : Nat → Option Addr → Nat → Nat → AM → Prop) (E0_0 : Option Addr → Nat → Nat → AM → Prop) (n0 : Nat) : Exit → Sg → AM → Prop
  | .normal, σ, m => σ 0 = .slice x0 x0n x0c ∧ σ 3 = .int .i64 x3 ∧ okS (σ 6) = true ∧ ∃ n' : Nat, n' < n0 ∧ I0 n' (vSA (σ 6)) (vSN (σ 6)) (vSC (σ 6)) m
  | .exit id, σ, m => if id = 0 then σ 0 = .slice x0 x0n x0c ∧ σ 3 = .int .i64 x3 ∧ okS (σ 6) = true ∧ E0_0 (vSA (σ 6)) (vSN (σ 6)) (vSC (σ 6)) m else False
  | .ret, σ, m => retQ Try.prog Try.f38 R .ret σ m
  | _, _, _ => False
theorem vl38_111111100 (w0 : World) (m : AM) (σ : Sg) (R : Value → AM → Prop)  (x0 : Option Addr) (x0n x0c : Nat) (x3 : Int) (x6 : Option Addr) (x6n x6c : Nat) (I0 : Nat → Option Addr → Nat → Nat → AM → Prop) (E0_0 : Option Addr → Nat → Nat → AM → Prop) (N : Nat) (h0 : σ 0 = .slice x0 x0n x0c) (h3 : σ 3 = .int .i64 x3) (h6 : σ 6 = .slice x6 x6n x6c)
 (h_0 : I0 N x6 x6n x6c m)
 (h_s : ∀ (n0 : Nat) (σ : Sg) (x6 : Option Addr) (x6n : Nat) (x6c : Nat) (m : AM), I0 n0 x6 x6n x6c m → (
 ((0 : Int) ≤ x3 ∧ x3 < ((x0n : Nat) : Int)) ∧ nilO x0 fun a89 =>
 ∃ i90 : Int, m.cell (a89.add ((x3 : Int).toNat * 5)) = some (.int .i64 i90) ∧ ∃ i91 : Int, m.cell ((a89.add ((x3 : Int).toNat * 5)).add 1) = some (.int .i64 i91) ∧ ∃ i92 : Int, m.cell ((a89.add ((x3 : Int).toNat * 5)).add 2) = some (.int .i64 i92) ∧ ∃ i93 : Int, m.cell ((a89.add ((x3 : Int).toNat * 5)).add 3) = some (.int .i64 i93) ∧ ∃ i94 : Int, m.cell ((a89.add ((x3 : Int).toNat * 5)).add 4) = some (.int .i64 i94) ∧ 
 CallsA Try.prog w0 70 #[.slice x0 x0n x0c, .slice x6 x6n x6c, .agg #[.int .i64 i90, .int .i64 i91, .int .i64 i92, .int .i64 i93, .int .i64 i94], .int .i64 ((x6n : Nat) : Int)] m fun r96 m97 =>
 ∃ t95 : Bool, r96 = .bool t95 ∧ (bcase (!t95) (
 true = true ∧ ∀ b98 : Nat, w0.heap.size ≤ b98 → m97 b98 = none → let m99 := AM.upd m97 b98 (.cells #[.int .i64 (-1)] 3);
 awp Try.prog w0.heap.size (Builtin.append_ #[30, 30] 30 #[.slice x6 x6n x6c, .slice (some ⟨b98, 0, none⟩) 1 1]) m99 fun v100 m101 =>
 ∃ (A102 : Option Addr) (n103 c104 : Nat), v100 = .slice A102 n103 c104 ∧ (.slice x0 x0n x0c : Value) = .slice x0 x0n x0c ∧ (.int .i64 x3 : Value) = .int .i64 x3 ∧ true = true ∧ ∃ n' : Nat, n' < n0 ∧ I0 n' A102 n103 c104 m101) (
 (.slice x0 x0n x0c : Value) = .slice x0 x0n x0c ∧ (.int .i64 x3 : Value) = .int .i64 x3 ∧ true = true ∧ E0_0 x6 x6n x6c m97))))
 (h_e0 : ∀ (σ : Sg) (x6 : Option Addr) (x6n : Nat) (x6c : Nat) (m : AM), E0_0 x6 x6n x6c m → (
 true = true ∧ ∀ b105 : Nat, w0.heap.size ≤ b105 → m b105 = none → let m106 := AM.upd m b105 (.cells #[.int .i64 x3, .int .i64 (-1)] 3);
 awp Try.prog w0.heap.size (Builtin.append_ #[30, 30] 30 #[.slice x6 x6n x6c, .slice (some ⟨b105, 0, none⟩) 2 2]) m106 fun v107 m108 =>
 ∃ (A109 : Option Addr) (n110 c111 : Nat), v107 = .slice A109 n110 c111 ∧ RetP R (.slice A109 n110 c111) m108)) :
 vcS Try.prog w0 qs38 (sub c38 [1, 1, 1, 1, 1, 1, 1, 0, 0]) σ m (blockS 0 (thenS (fun σ m => vcS Try.prog w0 qs38 (sub c38 [1, 1, 1, 1, 1, 1, 1, 1]) σ m (retQ Try.prog Try.f38 R)) (retQ Try.prog Try.f38 R))) := by
  rw [show sub c38 [1, 1, 1, 1, 1, 1, 1, 0, 0] = .loop (sub c38 [1, 1, 1, 1, 1, 1, 1, 0, 0, 0]) from by kernel_rfl]
  refine loopQ (fun n0 σ m => σ 0 = .slice x0 x0n x0c ∧ σ 3 = .int .i64 x3 ∧ okS (σ 6) = true ∧ I0 n0 (vSA (σ 6)) (vSN (σ 6)) (vSC (σ 6)) m) N (fun n0 => (lq38_111111100 R x0 x0n x0c x3 I0 E0_0 n0)) ⟨h0, h3, (by rw [h6]; rfl), (by rw [h6]; exact h_0)⟩ ?_ ?_ ?_
  · rintro n0 σ m ⟨kk0, kk1, kk2, n', hlt, hI⟩; exact ⟨n', hlt, kk0, kk1, kk2, hI⟩
  · intro n0 e σ m hne h
    cases e with
    | normal => exact absurd rfl hne
    | ret => exact h
    | exit id =>
      by_cases e0 : id = 0
      · subst e0
        obtain ⟨kk0, kk1, kk2, hE⟩ := h
        have es : (upd (upd (upd σ 0 (.slice x0 x0n x0c)) 3 (.int .i64 x3)) 6 (.slice (vSA (σ 6)) (vSN (σ 6)) (vSC (σ 6)))) = σ := by rw [upd_id kk0, upd_id kk1, upd_id (ok_slice kk2)]
        exact cast (congrArg (fun s => (blockS 0 (thenS (fun σ m => vcS Try.prog w0 qs38 (sub c38 [1, 1, 1, 1, 1, 1, 1, 1]) σ m (retQ Try.prog Try.f38 R)) (retQ Try.prog Try.f38 R))) (.exit 0) s m) es) (cast (by kernel_rfl) (h_e0 σ (vSA (σ 6)) (vSN (σ 6)) (vSC (σ 6)) m hE))
      · replace h := (if_neg e0 : (if id = 0 then _ else _) = _).mp h
        exact False.elim h
    | _ => exact False.elim h
  · rintro n0 σ m ⟨kk0, kk1, kk2, hI⟩
    have es : (upd (upd (upd σ 0 (.slice x0 x0n x0c)) 3 (.int .i64 x3)) 6 (.slice (vSA (σ 6)) (vSN (σ 6)) (vSC (σ 6)))) = σ := by rw [upd_id kk0, upd_id kk1, upd_id (ok_slice kk2)]
    exact cast (congrArg (fun s => vcS Try.prog w0 qs38 (sub c38 [1, 1, 1, 1, 1, 1, 1, 0, 0, 0]) s m (lq38_111111100 R x0 x0n x0c x3 I0 E0_0 n0)) es) (cast (by kernel_rfl) (h_s n0 σ (vSA (σ 6)) (vSN (σ 6)) (vSC (σ 6)) m hI))
end Go.Proofs.Ytkfemiloehkmhaa.V

