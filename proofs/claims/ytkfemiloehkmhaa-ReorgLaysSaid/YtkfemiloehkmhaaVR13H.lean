/- Ytkfemiloehkmhaa: a text of our own, by an AI agent: VR13H -/
import Derived.Test.YtkfemiloehkmhaaCoreA
import Derived.Test.YtkfemiloehkmhaaTabH
namespace Go.Proofs.Ytkfemiloehkmhaa.V
open Go Go.Alog Go.Proofs.Ytkfemiloehkmhaa.T
set_option linter.unusedVariables false
set_option maxRecDepth 100000

/-! 74 delayslot/delayslotref13.heads -/
def qs74 : Nat → List (Nat × Nat) := fun i => match i with | _ => []
noncomputable def c74 : Code := bodyOf Try.f74
theorem cf74 (w0 : World) (m : AM) (x0 : Option Addr) (x0n x0c : Nat) (R : Value → AM → Prop) (h :
 vcS Try.prog w0 qs74 (sub c74 [1, 1, 0, 1, 0]) (upd (upd (upd (argS [.slice x0 x0n x0c]) 2 (.slice none 0 0)) 3 (.slice none 0 0)) 4 (.int .i64 0)) m (blockS 0 (thenS (fun σ m => vcS Try.prog w0 qs74 (sub c74 [1, 1, 1]) σ m (retQ Try.prog Try.f74 R)) (retQ Try.prog Try.f74 R)))) : CallsA Try.prog w0 74 #[.slice x0 x0n x0c] m R :=
  callsA_of (c := c74) (args := [.slice x0 x0n x0c]) (by kernel_rfl) Try.func74 (by kernel_rfl) qs74 (by kernel_rfl) (by kernel_rfl) (cast (by kernel_rfl) h)
def lq74_11010 (R : Value → AM → Prop) (x0 : Option Addr) (x0n x0c : Nat) (I0 : Nat → Option Addr → Nat → Nat → Int → AM → Prop) (E0_0 : Option Addr → Nat → Nat → AM → Prop) (n0 : Nat) : Exit → Sg → AM → Prop
  | .normal, σ, m => σ 0 = .slice x0 x0n x0c ∧ okS (σ 3) = true ∧ okI .i64 (σ 4) = true ∧ ∃ n' : Nat, n' < n0 ∧ I0 n' (vSA (σ 3)) (vSN (σ 3)) (vSC (σ 3)) (vI (σ 4)) m
  | .exit id, σ, m => if id = 0 then σ 0 = .slice x0 x0n x0c ∧ okS (σ 3) = true ∧ E0_0 (vSA (σ 3)) (vSN (σ 3)) (vSC (σ 3)) m else False
  | .ret, σ, m => retQ Try.prog Try.f74 R .ret σ m
  | _, _, _ => False
theorem vl74_11010 (w0 : World) (m : AM) (σ : Sg) (R : Value → AM → Prop)  (x0 : Option Addr) (x0n x0c : Nat) (x3 : Option Addr) (x3n x3c : Nat) (x4 : Int) (I0 : Nat → Option Addr → Nat → Nat → Int → AM → Prop) (E0_0 : Option Addr → Nat → Nat → AM → Prop) (N : Nat) (h0 : σ 0 = .slice x0 x0n x0c) (h3 : σ 3 = .slice x3 x3n x3c) (h4 : σ 4 = .int .i64 x4)
 (h_0 : I0 N x3 x3n x3c x4 m)
 (h_s : ∀ (n0 : Nat) (σ : Sg) (x3 : Option Addr) (x3n : Nat) (x3c : Nat) (x4 : Int) (m : AM), I0 n0 x3 x3n x3c x4 m → (
 IntKind.i64 = IntKind.i64 ∧ (bcase (decide ((x4 : Int) < ((x0n : Nat) : Int))) (
 CallsA Try.prog w0 29 #[.slice x0 x0n x0c, .int .i64 x4] m fun r2 m3 =>
 ∃ t1 : Bool, r2 = .bool t1 ∧ (bcase t1 (
 true = true ∧ ∀ b4 : Nat, w0.heap.size ≤ b4 → m3 b4 = none → let m5 := AM.upd m3 b4 (.cells #[.int .i64 x4] 3);
 awp Try.prog w0.heap.size (Builtin.append_ #[30, 30] 30 #[.slice x3 x3n x3c, .slice (some ⟨b4, 0, none⟩) 1 1]) m5 fun v6 m7 =>
 ∃ (A8 : Option Addr) (n9 c10 : Nat), v6 = .slice A8 n9 c10 ∧ IntKind.i64 = IntKind.i64 ∧ (.slice x0 x0n x0c : Value) = .slice x0 x0n x0c ∧ true = true ∧ true = true ∧ ∃ n' : Nat, n' < n0 ∧ I0 n' A8 n9 c10 (IntKind.wrap .i64 (x4 + 1)) m7) (
 IntKind.i64 = IntKind.i64 ∧ (.slice x0 x0n x0c : Value) = .slice x0 x0n x0c ∧ true = true ∧ true = true ∧ ∃ n' : Nat, n' < n0 ∧ I0 n' x3 x3n x3c (IntKind.wrap .i64 (x4 + 1)) m3))) (
 (.slice x0 x0n x0c : Value) = .slice x0 x0n x0c ∧ true = true ∧ E0_0 x3 x3n x3c m))))
 (h_e0 : ∀ (σ : Sg) (x3 : Option Addr) (x3n : Nat) (x3c : Nat) (m : AM), E0_0 x3 x3n x3c m → (
 true = true ∧ ∀ b11 : Nat, w0.heap.size ≤ b11 → m b11 = none → let m12 := AM.upd m b11 (.cells #[.int .i64 ((x0n : Nat) : Int)] 3);
 awp Try.prog w0.heap.size (Builtin.append_ #[30, 30] 30 #[.slice x3 x3n x3c, .slice (some ⟨b11, 0, none⟩) 1 1]) m12 fun v13 m14 =>
 ∃ (A15 : Option Addr) (n16 c17 : Nat), v13 = .slice A15 n16 c17 ∧ RetP R (.slice A15 n16 c17) m14)) :
 vcS Try.prog w0 qs74 (sub c74 [1, 1, 0, 1, 0]) σ m (blockS 0 (thenS (fun σ m => vcS Try.prog w0 qs74 (sub c74 [1, 1, 1]) σ m (retQ Try.prog Try.f74 R)) (retQ Try.prog Try.f74 R))) := by
  rw [show sub c74 [1, 1, 0, 1, 0] = .loop (sub c74 [1, 1, 0, 1, 0, 0]) from by kernel_rfl]
  refine loopQ (fun n0 σ m => σ 0 = .slice x0 x0n x0c ∧ okS (σ 3) = true ∧ okI .i64 (σ 4) = true ∧ I0 n0 (vSA (σ 3)) (vSN (σ 3)) (vSC (σ 3)) (vI (σ 4)) m) N (fun n0 => (lq74_11010 R x0 x0n x0c I0 E0_0 n0)) ⟨h0, (by rw [h3]; rfl), (by rw [h4]; rfl), (by rw [h3, h4]; exact h_0)⟩ ?_ ?_ ?_
  · rintro n0 σ m ⟨kk0, kk1, kk2, n', hlt, hI⟩; exact ⟨n', hlt, kk0, kk1, kk2, hI⟩
  · intro n0 e σ m hne h
    cases e with
    | normal => exact absurd rfl hne
    | ret => exact h
    | exit id =>
      by_cases e0 : id = 0
      · subst e0
        obtain ⟨kk0, kk1, hE⟩ := h
        have es : (upd (upd σ 0 (.slice x0 x0n x0c)) 3 (.slice (vSA (σ 3)) (vSN (σ 3)) (vSC (σ 3)))) = σ := by rw [upd_id kk0, upd_id (ok_slice kk1)]
        exact cast (congrArg (fun s => (blockS 0 (thenS (fun σ m => vcS Try.prog w0 qs74 (sub c74 [1, 1, 1]) σ m (retQ Try.prog Try.f74 R)) (retQ Try.prog Try.f74 R))) (.exit 0) s m) es) (cast (by kernel_rfl) (h_e0 σ (vSA (σ 3)) (vSN (σ 3)) (vSC (σ 3)) m hE))
      · replace h := (if_neg e0 : (if id = 0 then _ else _) = _).mp h
        exact False.elim h
    | _ => exact False.elim h
  · rintro n0 σ m ⟨kk0, kk1, kk2, hI⟩
    have es : (upd (upd (upd σ 0 (.slice x0 x0n x0c)) 3 (.slice (vSA (σ 3)) (vSN (σ 3)) (vSC (σ 3)))) 4 (.int .i64 (vI (σ 4)))) = σ := by rw [upd_id kk0, upd_id (ok_slice kk1), upd_id (ok_int kk2)]
    exact cast (congrArg (fun s => vcS Try.prog w0 qs74 (sub c74 [1, 1, 0, 1, 0, 0]) s m (lq74_11010 R x0 x0n x0c I0 E0_0 n0)) es) (cast (by kernel_rfl) (h_s n0 σ (vSA (σ 3)) (vSN (σ 3)) (vSC (σ 3)) (vI (σ 4)) m hI))

/-! 75 delayslot/delayslotref13.anew -/
def qs75 : Nat → List (Nat × Nat) := fun i => match i with | _ => []
noncomputable def c75 : Code := bodyOf Try.f75
theorem cf75 (w0 : World) (m : AM) (x0 : Option Addr) (x0n x0c : Nat) (x1 : Option Addr) (x1n x1c : Nat) (x2 : Int) (R : Value → AM → Prop) (h :
 vcS Try.prog w0 qs75 (sub c75 [1, 0, 1, 0]) (upd (upd (argS [.slice x0 x0n x0c, .slice x1 x1n x1c, .int .i64 x2]) 6 (.int .i64 0)) 7 (.int .i64 0)) m (blockS 0 (thenS (fun σ m => vcS Try.prog w0 qs75 (sub c75 [1, 1]) σ m (retQ Try.prog Try.f75 R)) (retQ Try.prog Try.f75 R)))) : CallsA Try.prog w0 75 #[.slice x0 x0n x0c, .slice x1 x1n x1c, .int .i64 x2] m R :=
  callsA_of (c := c75) (args := [.slice x0 x0n x0c, .slice x1 x1n x1c, .int .i64 x2]) (by kernel_rfl) Try.func75 (by kernel_rfl) qs75 (by kernel_rfl) (by kernel_rfl) (cast (by kernel_rfl) h)
def lq75_1010 (R : Value → AM → Prop) (x0 : Option Addr) (x0n x0c : Nat) (x1 : Option Addr) (x1n x1c : Nat) (x2 : Int) (I0 : Nat → Int → AM → Prop) (E0_0 : AM → Prop) (n0 : Nat) : Exit → Sg → AM → Prop
  | .normal, σ, m => σ 0 = .slice x0 x0n x0c ∧ σ 1 = .slice x1 x1n x1c ∧ σ 2 = .int .i64 x2 ∧ okI .i64 (σ 7) = true ∧ ∃ n' : Nat, n' < n0 ∧ I0 n' (vI (σ 7)) m
  | .exit id, σ, m => if id = 0 then σ 0 = .slice x0 x0n x0c ∧ σ 1 = .slice x1 x1n x1c ∧ σ 2 = .int .i64 x2 ∧ E0_0  m else False
  | .ret, σ, m => retQ Try.prog Try.f75 R .ret σ m
  | _, _, _ => False
theorem vl75_1010 (w0 : World) (m : AM) (σ : Sg) (R : Value → AM → Prop)  (x0 : Option Addr) (x0n x0c : Nat) (x1 : Option Addr) (x1n x1c : Nat) (x2 : Int) (x7 : Int) (I0 : Nat → Int → AM → Prop) (E0_0 : AM → Prop) (N : Nat) (h0 : σ 0 = .slice x0 x0n x0c) (h1 : σ 1 = .slice x1 x1n x1c) (h2 : σ 2 = .int .i64 x2) (h7 : σ 7 = .int .i64 x7)
 (h_0 : I0 N x7 m)
 (h_s : ∀ (n0 : Nat) (σ : Sg) (x7 : Int) (m : AM), I0 n0 x7 m → (
 IntKind.i64 = IntKind.i64 ∧ (bcase (decide ((x7 : Int) < ((x0n : Nat) : Int))) (
 ((0 : Int) ≤ x7 ∧ x7 < ((x0n : Nat) : Int)) ∧ nilO x0 fun a1 =>
 ∃ i2 : Int, m.cell (a1.add ((x7 : Int).toNat * 1)) = some (.int .i64 i2) ∧ 
 IntKind.i64 = IntKind.i64 ∧ (bcase ((i2 : Int) == x2) (
 ((0 : Int) ≤ x7 ∧ x7 < ((x1n : Nat) : Int)) ∧ nilO x1 fun a3 =>
 ∃ i4 : Int, m.cell (a3.add ((x7 : Int).toNat * 1)) = some (.int .i64 i4) ∧ 
 RetP R (.int .i64 i4) m) (
 IntKind.i64 = IntKind.i64 ∧ (.slice x0 x0n x0c : Value) = .slice x0 x0n x0c ∧ (.slice x1 x1n x1c : Value) = .slice x1 x1n x1c ∧ (.int .i64 x2 : Value) = .int .i64 x2 ∧ true = true ∧ ∃ n' : Nat, n' < n0 ∧ I0 n' (IntKind.wrap .i64 (x7 + 1)) m))) (
 (.slice x0 x0n x0c : Value) = .slice x0 x0n x0c ∧ (.slice x1 x1n x1c : Value) = .slice x1 x1n x1c ∧ (.int .i64 x2 : Value) = .int .i64 x2 ∧ E0_0  m))))
 (h_e0 : ∀ (σ : Sg)  (m : AM), E0_0  m → (
 RetP R (.int .i64 (-1)) m)) :
 vcS Try.prog w0 qs75 (sub c75 [1, 0, 1, 0]) σ m (blockS 0 (thenS (fun σ m => vcS Try.prog w0 qs75 (sub c75 [1, 1]) σ m (retQ Try.prog Try.f75 R)) (retQ Try.prog Try.f75 R))) := by
  rw [show sub c75 [1, 0, 1, 0] = .loop (sub c75 [1, 0, 1, 0, 0]) from by kernel_rfl]
  refine loopQ (fun n0 σ m => σ 0 = .slice x0 x0n x0c ∧ σ 1 = .slice x1 x1n x1c ∧ σ 2 = .int .i64 x2 ∧ okI .i64 (σ 7) = true ∧ I0 n0 (vI (σ 7)) m) N (fun n0 => (lq75_1010 R x0 x0n x0c x1 x1n x1c x2 I0 E0_0 n0)) ⟨h0, h1, h2, (by rw [h7]; rfl), (by rw [h7]; exact h_0)⟩ ?_ ?_ ?_
  · rintro n0 σ m ⟨kk0, kk1, kk2, kk3, n', hlt, hI⟩; exact ⟨n', hlt, kk0, kk1, kk2, kk3, hI⟩
  · intro n0 e σ m hne h
    cases e with
    | normal => exact absurd rfl hne
    | ret => exact h
    | exit id =>
      by_cases e0 : id = 0
      · subst e0
        obtain ⟨kk0, kk1, kk2, hE⟩ := h
        have es : (upd (upd (upd σ 0 (.slice x0 x0n x0c)) 1 (.slice x1 x1n x1c)) 2 (.int .i64 x2)) = σ := by rw [upd_id kk0, upd_id kk1, upd_id kk2]
        exact cast (congrArg (fun s => (blockS 0 (thenS (fun σ m => vcS Try.prog w0 qs75 (sub c75 [1, 1]) σ m (retQ Try.prog Try.f75 R)) (retQ Try.prog Try.f75 R))) (.exit 0) s m) es) (cast (by kernel_rfl) (h_e0 σ  m hE))
      · replace h := (if_neg e0 : (if id = 0 then _ else _) = _).mp h
        exact False.elim h
    | _ => exact False.elim h
  · rintro n0 σ m ⟨kk0, kk1, kk2, kk3, hI⟩
    have es : (upd (upd (upd (upd σ 0 (.slice x0 x0n x0c)) 1 (.slice x1 x1n x1c)) 2 (.int .i64 x2)) 7 (.int .i64 (vI (σ 7)))) = σ := by rw [upd_id kk0, upd_id kk1, upd_id kk2, upd_id (ok_int kk3)]
    exact cast (congrArg (fun s => vcS Try.prog w0 qs75 (sub c75 [1, 0, 1, 0, 0]) s m (lq75_1010 R x0 x0n x0c x1 x1n x1c x2 I0 E0_0 n0)) es) (cast (by kernel_rfl) (h_s n0 σ (vI (σ 7)) m hI))

/-! 44 delayslot/delayslotref13.Reorg -/
def qs44 : Nat → List (Nat × Nat) := fun i => match i with | _ => []
noncomputable def c44 : Code := bodyOf Try.f44
theorem cf44 (w0 : World) (m : AM) (x0 : Option Addr) (x0n x0c : Nat) (R : Value → AM → Prop) (h :
 CallsA Try.prog w0 24 #[.slice x0 x0n x0c] m fun r2 m3 =>
 ∃ t1 : Bool, r2 = .bool t1 ∧ (bcase (!t1) (
 RetP R (.tuple #[.slice none 0 0, .slice none 0 0, .int .i64 1]) m3) (
 CallsA Try.prog w0 74 #[.slice x0 x0n x0c] m3 fun r7 m8 =>
 ∃ (A4 : Option Addr) (n5 c6 : Nat), r7 = .slice A4 n5 c6 ∧ vcS Try.prog w0 qs44 (sub c44 [1, 1, 1, 1, 1, 0, 1, 0]) (upd (upd (upd (upd (upd (upd (upd (upd (upd (upd (upd (upd (argS [.slice x0 x0n x0c]) 2 (.slice none 0 0)) 3 (.slice none 0 0)) 4 (.int .i64 0)) 18 (.slice x0 x0n x0c)) 19 (.bool t1)) 20 (.bool (!t1))) 21 (.slice x0 x0n x0c)) 22 (.slice A4 n5 c6)) 5 (.slice A4 n5 c6)) 6 (.slice none 0 0)) 7 (.slice none 0 0)) 8 (.int .i64 0)) m8 (blockS 0 (thenS (fun σ m => vcS Try.prog w0 qs44 (sub c44 [1, 1, 1, 1, 1, 1]) σ m (retQ Try.prog Try.f44 R)) (retQ Try.prog Try.f44 R)))))) : CallsA Try.prog w0 44 #[.slice x0 x0n x0c] m R :=
  callsA_of (c := c44) (args := [.slice x0 x0n x0c]) (by kernel_rfl) Try.func44 (by kernel_rfl) qs44 (by kernel_rfl) (by kernel_rfl) (cast (by kernel_rfl) h)
def lq44_11111010 (R : Value → AM → Prop) (x0 : Option Addr) (x0n x0c : Nat) (x5 : Option Addr) (x5n x5c : Nat) (I0 : Nat → Option Addr → Nat → Nat → Option Addr → Nat → Nat → Int → AM → Prop) (E0_0 : Option Addr → Nat → Nat → Option Addr → Nat → Nat → AM → Prop) (n0 : Nat) : Exit → Sg → AM → Prop
  | .normal, σ, m => σ 0 = .slice x0 x0n x0c ∧ σ 5 = .slice x5 x5n x5c ∧ okS (σ 6) = true ∧ okS (σ 7) = true ∧ okI .i64 (σ 8) = true ∧ ∃ n' : Nat, n' < n0 ∧ I0 n' (vSA (σ 6)) (vSN (σ 6)) (vSC (σ 6)) (vSA (σ 7)) (vSN (σ 7)) (vSC (σ 7)) (vI (σ 8)) m
  | .exit id, σ, m => if id = 0 then σ 0 = .slice x0 x0n x0c ∧ σ 5 = .slice x5 x5n x5c ∧ okS (σ 6) = true ∧ okS (σ 7) = true ∧ E0_0 (vSA (σ 6)) (vSN (σ 6)) (vSC (σ 6)) (vSA (σ 7)) (vSN (σ 7)) (vSC (σ 7)) m else False
  | .ret, σ, m => retQ Try.prog Try.f44 R .ret σ m
  | _, _, _ => False
theorem vl44_11111010 (w0 : World) (m : AM) (σ : Sg) (R : Value → AM → Prop)  (x0 : Option Addr) (x0n x0c : Nat) (x5 : Option Addr) (x5n x5c : Nat) (x6 : Option Addr) (x6n x6c : Nat) (x7 : Option Addr) (x7n x7c : Nat) (x8 : Int) (I0 : Nat → Option Addr → Nat → Nat → Option Addr → Nat → Nat → Int → AM → Prop) (E0_0 : Option Addr → Nat → Nat → Option Addr → Nat → Nat → AM → Prop) (N : Nat) (h0 : σ 0 = .slice x0 x0n x0c) (h5 : σ 5 = .slice x5 x5n x5c) (h6 : σ 6 = .slice x6 x6n x6c) (h7 : σ 7 = .slice x7 x7n x7c) (h8 : σ 8 = .int .i64 x8)
 (h_0 : I0 N x6 x6n x6c x7 x7n x7c x8 m)
 (h_s : ∀ (n0 : Nat) (σ : Sg) (x6 : Option Addr) (x6n : Nat) (x6c : Nat) (x7 : Option Addr) (x7n : Nat) (x7c : Nat) (x8 : Int) (m : AM), I0 n0 x6 x6n x6c x7 x7n x7c x8 m → (
 IntKind.i64 = IntKind.i64 ∧ IntKind.i64 = IntKind.i64 ∧ (bcase (decide (((IntKind.wrap .i64 (x8 + 1)) : Int) < ((x5n : Nat) : Int))) (
 true = true ∧ ∀ b9 : Nat, w0.heap.size ≤ b9 → m b9 = none → let m10 := AM.upd m b9 (.cells #[.int .i64 ((x6n : Nat) : Int)] 3);
 awp Try.prog w0.heap.size (Builtin.append_ #[30, 30] 30 #[.slice x7 x7n x7c, .slice (some ⟨b9, 0, none⟩) 1 1]) m10 fun v11 m12 =>
 ∃ (A13 : Option Addr) (n14 c15 : Nat), v11 = .slice A13 n14 c15 ∧ ((0 : Int) ≤ x8 ∧ x8 < ((x5n : Nat) : Int)) ∧ nilO x5 fun a16 =>
 ∃ i17 : Int, m12.cell (a16.add ((x8 : Int).toNat * 1)) = some (.int .i64 i17) ∧ 
 IntKind.i64 = IntKind.i64 ∧ ((0 : Int) ≤ (IntKind.wrap .i64 (x8 + 1)) ∧ (IntKind.wrap .i64 (x8 + 1)) < ((x5n : Nat) : Int)) ∧ nilO x5 fun a18 =>
 ∃ i19 : Int, m12.cell (a18.add ((IntKind.wrap .i64 (x8 + 1) : Int).toNat * 1)) = some (.int .i64 i19) ∧ 
 (0 : Int) ≤ i19 ∧ (0 : Int) ≤ i17 ∧ ((i19 : Int).toNat) ≤ x0c ∧ ((i17 : Int).toNat) ≤ ((i19 : Int).toNat) ∧
 CallsA Try.prog w0 38 #[.slice (if x0c = ((i17 : Int).toNat) then x0 else Option.map (fun x => Addr.add x ((i17 : Int).toNat * 5)) x0) (((i19 : Int).toNat) - ((i17 : Int).toNat)) (x0c - ((i17 : Int).toNat))] m12 fun r23 m24 =>
 ∃ (A20 : Option Addr) (n21 c22 : Nat), r23 = .slice A20 n21 c22 ∧ vcS Try.prog w0 qs44 (sub c44 [1, 1, 1, 1, 1, 0, 1, 0, 0, 1, 0, 0, 1, 1, 1, 1, 0]) (upd (upd (upd (upd (upd (upd (upd (upd (upd (upd (upd (upd (upd (upd (upd (upd (upd (upd (upd (upd (upd (upd (upd (upd (upd (upd (upd (upd (upd (upd (upd (upd (upd (upd σ 0 (.slice x0 x0n x0c)) 5 (.slice x5 x5n x5c)) 6 (.slice x6 x6n x6c)) 7 (.slice x7 x7n x7c)) 8 (.int .i64 x8)) 23 (.int .i64 x8)) 24 (.int .i64 (IntKind.wrap .i64 (x8 + 1)))) 25 (.slice x5 x5n x5c)) 26 (.int .i64 ((x5n : Nat) : Int))) 27 (.bool (decide (((IntKind.wrap .i64 (x8 + 1)) : Int) < ((x5n : Nat) : Int))))) 30 (.slice x7 x7n x7c)) 31 (.slice x6 x6n x6c)) 32 (.int .i64 ((x6n : Nat) : Int))) 33 (.slice (some ⟨b9, 0, none⟩) 1 1)) 34 (.slice A13 n14 c15)) 7 (.slice A13 n14 c15)) 35 (.slice x0 x0n x0c)) 36 (.slice x5 x5n x5c)) 37 (.int .i64 x8)) 38 (.pointer (some (a16.add ((x8 : Int).toNat * 1))))) 39 (.int .i64 i17)) 40 (.slice x5 x5n x5c)) 41 (.int .i64 x8)) 42 (.int .i64 (IntKind.wrap .i64 (x8 + 1)))) 43 (.pointer (some (a18.add ((IntKind.wrap .i64 (x8 + 1) : Int).toNat * 1))))) 44 (.int .i64 i19)) 45 (.slice (if x0c = ((i17 : Int).toNat) then x0 else Option.map (fun x => Addr.add x ((i17 : Int).toNat * 5)) x0) (((i19 : Int).toNat) - ((i17 : Int).toNat)) (x0c - ((i17 : Int).toNat)))) 9 (.slice (if x0c = ((i17 : Int).toNat) then x0 else Option.map (fun x => Addr.add x ((i17 : Int).toNat * 5)) x0) (((i19 : Int).toNat) - ((i17 : Int).toNat)) (x0c - ((i17 : Int).toNat)))) 46 (.slice (if x0c = ((i17 : Int).toNat) then x0 else Option.map (fun x => Addr.add x ((i17 : Int).toNat * 5)) x0) (((i19 : Int).toNat) - ((i17 : Int).toNat)) (x0c - ((i17 : Int).toNat)))) 47 (.slice A20 n21 c22)) 10 (.slice A20 n21 c22)) 48 (.slice A20 n21 c22)) 49 (.int .i64 ((n21 : Nat) : Int))) 50 (.int .i64 0)) m24 (blockS 2 (blockS 1 (thenS (fun σ m => vcS Try.prog w0 qs44 (sub c44 [1, 1, 1, 1, 1, 0, 1, 0, 0, 1, 1]) σ m (lq44_11111010 R x0 x0n x0c x5 x5n x5c I0 E0_0 n0)) (lq44_11111010 R x0 x0n x0c x5 x5n x5c I0 E0_0 n0))))) (
 (.slice x0 x0n x0c : Value) = .slice x0 x0n x0c ∧ (.slice x5 x5n x5c : Value) = .slice x5 x5n x5c ∧ true = true ∧ true = true ∧ E0_0 x6 x6n x6c x7 x7n x7c m))))
 (h_e0 : ∀ (σ : Sg) (x6 : Option Addr) (x6n : Nat) (x6c : Nat) (x7 : Option Addr) (x7n : Nat) (x7c : Nat) (m : AM), E0_0 x6 x6n x6c x7 x7n x7c m → (
 true = true ∧ ∀ b25 : Nat, w0.heap.size ≤ b25 → m b25 = none → let m26 := AM.upd m b25 (.cells #[.int .i64 ((x6n : Nat) : Int)] 3);
 awp Try.prog w0.heap.size (Builtin.append_ #[30, 30] 30 #[.slice x7 x7n x7c, .slice (some ⟨b25, 0, none⟩) 1 1]) m26 fun v27 m28 =>
 ∃ (A29 : Option Addr) (n30 c31 : Nat), v27 = .slice A29 n30 c31 ∧ IntKind.i64 = IntKind.i64 ∧ (bcase (decide ((((x6n : Nat) : Int) : Int) > 4096)) (
 RetP R (.tuple #[.slice none 0 0, .slice none 0 0, .int .i64 4]) m28) (
 vcS Try.prog w0 qs44 (sub c44 [1, 1, 1, 1, 1, 1, 1, 1, 0, 1, 0]) (upd (upd (upd (upd (upd (upd (upd (upd (upd (upd (upd (upd (upd (upd σ 0 (.slice x0 x0n x0c)) 5 (.slice x5 x5n x5c)) 6 (.slice x6 x6n x6c)) 7 (.slice x7 x7n x7c)) 68 (.slice x7 x7n x7c)) 69 (.slice x6 x6n x6c)) 70 (.int .i64 ((x6n : Nat) : Int))) 71 (.slice (some ⟨b25, 0, none⟩) 1 1)) 72 (.slice A29 n30 c31)) 7 (.slice A29 n30 c31)) 73 (.slice x6 x6n x6c)) 74 (.int .i64 ((x6n : Nat) : Int))) 75 (.bool (decide ((((x6n : Nat) : Int) : Int) > 4096)))) 13 (.int .i64 0)) m28 (blockS 4 (thenS (fun σ m => vcS Try.prog w0 qs44 (sub c44 [1, 1, 1, 1, 1, 1, 1, 1, 1]) σ m (retQ Try.prog Try.f44 R)) (retQ Try.prog Try.f44 R))))))) :
 vcS Try.prog w0 qs44 (sub c44 [1, 1, 1, 1, 1, 0, 1, 0]) σ m (blockS 0 (thenS (fun σ m => vcS Try.prog w0 qs44 (sub c44 [1, 1, 1, 1, 1, 1]) σ m (retQ Try.prog Try.f44 R)) (retQ Try.prog Try.f44 R))) := by
  rw [show sub c44 [1, 1, 1, 1, 1, 0, 1, 0] = .loop (sub c44 [1, 1, 1, 1, 1, 0, 1, 0, 0]) from by kernel_rfl]
  refine loopQ (fun n0 σ m => σ 0 = .slice x0 x0n x0c ∧ σ 5 = .slice x5 x5n x5c ∧ okS (σ 6) = true ∧ okS (σ 7) = true ∧ okI .i64 (σ 8) = true ∧ I0 n0 (vSA (σ 6)) (vSN (σ 6)) (vSC (σ 6)) (vSA (σ 7)) (vSN (σ 7)) (vSC (σ 7)) (vI (σ 8)) m) N (fun n0 => (lq44_11111010 R x0 x0n x0c x5 x5n x5c I0 E0_0 n0)) ⟨h0, h5, (by rw [h6]; rfl), (by rw [h7]; rfl), (by rw [h8]; rfl), (by rw [h6, h7, h8]; exact h_0)⟩ ?_ ?_ ?_
  · rintro n0 σ m ⟨kk0, kk1, kk2, kk3, kk4, n', hlt, hI⟩; exact ⟨n', hlt, kk0, kk1, kk2, kk3, kk4, hI⟩
  · intro n0 e σ m hne h
    cases e with
    | normal => exact absurd rfl hne
    | ret => exact h
    | exit id =>
      by_cases e0 : id = 0
      · subst e0
        obtain ⟨kk0, kk1, kk2, kk3, hE⟩ := h
        have es : (upd (upd (upd (upd σ 0 (.slice x0 x0n x0c)) 5 (.slice x5 x5n x5c)) 6 (.slice (vSA (σ 6)) (vSN (σ 6)) (vSC (σ 6)))) 7 (.slice (vSA (σ 7)) (vSN (σ 7)) (vSC (σ 7)))) = σ := by rw [upd_id kk0, upd_id kk1, upd_id (ok_slice kk2), upd_id (ok_slice kk3)]
        exact cast (congrArg (fun s => (blockS 0 (thenS (fun σ m => vcS Try.prog w0 qs44 (sub c44 [1, 1, 1, 1, 1, 1]) σ m (retQ Try.prog Try.f44 R)) (retQ Try.prog Try.f44 R))) (.exit 0) s m) es) (cast (by kernel_rfl) (h_e0 σ (vSA (σ 6)) (vSN (σ 6)) (vSC (σ 6)) (vSA (σ 7)) (vSN (σ 7)) (vSC (σ 7)) m hE))
      · replace h := (if_neg e0 : (if id = 0 then _ else _) = _).mp h
        exact False.elim h
    | _ => exact False.elim h
  · rintro n0 σ m ⟨kk0, kk1, kk2, kk3, kk4, hI⟩
    have es : (upd (upd (upd (upd (upd σ 0 (.slice x0 x0n x0c)) 5 (.slice x5 x5n x5c)) 6 (.slice (vSA (σ 6)) (vSN (σ 6)) (vSC (σ 6)))) 7 (.slice (vSA (σ 7)) (vSN (σ 7)) (vSC (σ 7)))) 8 (.int .i64 (vI (σ 8)))) = σ := by rw [upd_id kk0, upd_id kk1, upd_id (ok_slice kk2), upd_id (ok_slice kk3), upd_id (ok_int kk4)]
    exact cast (congrArg (fun s => vcS Try.prog w0 qs44 (sub c44 [1, 1, 1, 1, 1, 0, 1, 0, 0]) s m (lq44_11111010 R x0 x0n x0c x5 x5n x5c I0 E0_0 n0)) es) (cast (by kernel_rfl) (h_s n0 σ (vSA (σ 6)) (vSN (σ 6)) (vSC (σ 6)) (vSA (σ 7)) (vSN (σ 7)) (vSC (σ 7)) (vI (σ 8)) m hI))
def lq44_11111010010011110 (R : Value → AM → Prop) (x0 : Option Addr) (x0n x0c : Nat) (x5 : Option Addr) (x5n x5c : Nat) (x7 : Option Addr) (x7n x7c : Nat) (x8 : Int) (x9 : Option Addr) (x9n x9c : Nat) (x48 : Option Addr) (x48n x48c : Nat) (x49 : Int) (I1 : Nat → Option Addr → Nat → Nat → Int → AM → Prop) (E1_2 : Option Addr → Nat → Nat → AM → Prop) (n1 : Nat) : Exit → Sg → AM → Prop
  | .normal, σ, m => σ 0 = .slice x0 x0n x0c ∧ σ 5 = .slice x5 x5n x5c ∧ σ 7 = .slice x7 x7n x7c ∧ σ 8 = .int .i64 x8 ∧ σ 9 = .slice x9 x9n x9c ∧ σ 48 = .slice x48 x48n x48c ∧ σ 49 = .int .i64 x49 ∧ okS (σ 6) = true ∧ okI .i64 (σ 50) = true ∧ ∃ n' : Nat, n' < n1 ∧ I1 n' (vSA (σ 6)) (vSN (σ 6)) (vSC (σ 6)) (vI (σ 50)) m
  | .exit id, σ, m => if id = 2 then σ 0 = .slice x0 x0n x0c ∧ σ 5 = .slice x5 x5n x5c ∧ σ 7 = .slice x7 x7n x7c ∧ σ 8 = .int .i64 x8 ∧ σ 9 = .slice x9 x9n x9c ∧ σ 48 = .slice x48 x48n x48c ∧ σ 49 = .int .i64 x49 ∧ okS (σ 6) = true ∧ E1_2 (vSA (σ 6)) (vSN (σ 6)) (vSC (σ 6)) m else False
  | .ret, σ, m => retQ Try.prog Try.f44 R .ret σ m
  | _, _, _ => False
theorem vl44_11111010010011110 (w0 : World) (m : AM) (σ : Sg) (R : Value → AM → Prop) (n0 : Nat) (I0 : Nat → Option Addr → Nat → Nat → Option Addr → Nat → Nat → Int → AM → Prop) (E0_0 : Option Addr → Nat → Nat → Option Addr → Nat → Nat → AM → Prop) (x0 : Option Addr) (x0n x0c : Nat) (x5 : Option Addr) (x5n x5c : Nat) (x7 : Option Addr) (x7n x7c : Nat) (x8 : Int) (x9 : Option Addr) (x9n x9c : Nat) (x48 : Option Addr) (x48n x48c : Nat) (x49 : Int) (x6 : Option Addr) (x6n x6c : Nat) (x50 : Int) (I1 : Nat → Option Addr → Nat → Nat → Int → AM → Prop) (E1_2 : Option Addr → Nat → Nat → AM → Prop) (N : Nat) (h0 : σ 0 = .slice x0 x0n x0c) (h5 : σ 5 = .slice x5 x5n x5c) (h6 : σ 6 = .slice x6 x6n x6c) (h7 : σ 7 = .slice x7 x7n x7c) (h8 : σ 8 = .int .i64 x8) (h9 : σ 9 = .slice x9 x9n x9c) (h48 : σ 48 = .slice x48 x48n x48c) (h49 : σ 49 = .int .i64 x49) (h50 : σ 50 = .int .i64 x50)
 (h_0 : I1 N x6 x6n x6c x50 m)
 (h_s : ∀ (n1 : Nat) (σ : Sg) (x6 : Option Addr) (x6n : Nat) (x6c : Nat) (x50 : Int) (m : AM), I1 n1 x6 x6n x6c x50 m → (
 IntKind.i64 = IntKind.i64 ∧ (bcase (decide ((x50 : Int) < x49)) (
 ((0 : Int) ≤ x50 ∧ x50 < ((x48n : Nat) : Int)) ∧ nilO x48 fun a32 =>
 ∃ i33 : Int, m.cell (a32.add ((x50 : Int).toNat * 1)) = some (.int .i64 i33) ∧ 
 IntKind.i64 = IntKind.i64 ∧ (bcase (decide ((i33 : Int) < 0)) (
 true = true ∧ true = true ∧ ∀ b34 : Nat, w0.heap.size ≤ b34 → m b34 = none → let m35 := AM.upd m b34 (.cells #[.int .i64 0, .int .i64 0, .int .i64 0, .int .i64 0, .int .i64 0] 24);
 awp Try.prog w0.heap.size (Builtin.append_ #[22, 22] 22 #[.slice x6 x6n x6c, .slice (some ⟨b34, 0, none⟩) 1 1]) m35 fun v36 m37 =>
 ∃ (A38 : Option Addr) (n39 c40 : Nat), v36 = .slice A38 n39 c40 ∧ IntKind.i64 = IntKind.i64 ∧ (.slice x0 x0n x0c : Value) = .slice x0 x0n x0c ∧ (.slice x5 x5n x5c : Value) = .slice x5 x5n x5c ∧ (.slice x7 x7n x7c : Value) = .slice x7 x7n x7c ∧ (.int .i64 x8 : Value) = .int .i64 x8 ∧ (.slice x9 x9n x9c : Value) = .slice x9 x9n x9c ∧ (.slice x48 x48n x48c : Value) = .slice x48 x48n x48c ∧ (.int .i64 x49 : Value) = .int .i64 x49 ∧ true = true ∧ true = true ∧ ∃ n' : Nat, n' < n1 ∧ I1 n' A38 n39 c40 (IntKind.wrap .i64 (x50 + 1)) m37) (
 ((0 : Int) ≤ i33 ∧ i33 < ((x9n : Nat) : Int)) ∧ nilO x9 fun a41 =>
 ∃ i42 : Int, m.cell (a41.add ((i33 : Int).toNat * 5)) = some (.int .i64 i42) ∧ ∃ i43 : Int, m.cell ((a41.add ((i33 : Int).toNat * 5)).add 1) = some (.int .i64 i43) ∧ ∃ i44 : Int, m.cell ((a41.add ((i33 : Int).toNat * 5)).add 2) = some (.int .i64 i44) ∧ ∃ i45 : Int, m.cell ((a41.add ((i33 : Int).toNat * 5)).add 3) = some (.int .i64 i45) ∧ ∃ i46 : Int, m.cell ((a41.add ((i33 : Int).toNat * 5)).add 4) = some (.int .i64 i46) ∧ 
 true = true ∧ ∀ b47 : Nat, w0.heap.size ≤ b47 → m b47 = none → let m48 := AM.upd m b47 (.cells #[.int .i64 i42, .int .i64 i43, .int .i64 i44, .int .i64 i45, .int .i64 i46] 24);
 awp Try.prog w0.heap.size (Builtin.append_ #[22, 22] 22 #[.slice x6 x6n x6c, .slice (some ⟨b47, 0, none⟩) 1 1]) m48 fun v49 m50 =>
 ∃ (A51 : Option Addr) (n52 c53 : Nat), v49 = .slice A51 n52 c53 ∧ IntKind.i64 = IntKind.i64 ∧ (.slice x0 x0n x0c : Value) = .slice x0 x0n x0c ∧ (.slice x5 x5n x5c : Value) = .slice x5 x5n x5c ∧ (.slice x7 x7n x7c : Value) = .slice x7 x7n x7c ∧ (.int .i64 x8 : Value) = .int .i64 x8 ∧ (.slice x9 x9n x9c : Value) = .slice x9 x9n x9c ∧ (.slice x48 x48n x48c : Value) = .slice x48 x48n x48c ∧ (.int .i64 x49 : Value) = .int .i64 x49 ∧ true = true ∧ true = true ∧ ∃ n' : Nat, n' < n1 ∧ I1 n' A51 n52 c53 (IntKind.wrap .i64 (x50 + 1)) m50))) (
 (.slice x0 x0n x0c : Value) = .slice x0 x0n x0c ∧ (.slice x5 x5n x5c : Value) = .slice x5 x5n x5c ∧ (.slice x7 x7n x7c : Value) = .slice x7 x7n x7c ∧ (.int .i64 x8 : Value) = .int .i64 x8 ∧ (.slice x9 x9n x9c : Value) = .slice x9 x9n x9c ∧ (.slice x48 x48n x48c : Value) = .slice x48 x48n x48c ∧ (.int .i64 x49 : Value) = .int .i64 x49 ∧ true = true ∧ E1_2 x6 x6n x6c m))))
 (h_e2 : ∀ (σ : Sg) (x6 : Option Addr) (x6n : Nat) (x6c : Nat) (m : AM), E1_2 x6 x6n x6c m → (
 IntKind.i64 = IntKind.i64 ∧ (.slice x0 x0n x0c : Value) = .slice x0 x0n x0c ∧ (.slice x5 x5n x5c : Value) = .slice x5 x5n x5c ∧ true = true ∧ true = true ∧ true = true ∧ ∃ n' : Nat, n' < n0 ∧ I0 n' x6 x6n x6c x7 x7n x7c (IntKind.wrap .i64 (x8 + 1)) m)) :
 vcS Try.prog w0 qs44 (sub c44 [1, 1, 1, 1, 1, 0, 1, 0, 0, 1, 0, 0, 1, 1, 1, 1, 0]) σ m (blockS 2 (blockS 1 (thenS (fun σ m => vcS Try.prog w0 qs44 (sub c44 [1, 1, 1, 1, 1, 0, 1, 0, 0, 1, 1]) σ m (lq44_11111010 R x0 x0n x0c x5 x5n x5c I0 E0_0 n0)) (lq44_11111010 R x0 x0n x0c x5 x5n x5c I0 E0_0 n0)))) := by
  rw [show sub c44 [1, 1, 1, 1, 1, 0, 1, 0, 0, 1, 0, 0, 1, 1, 1, 1, 0] = .loop (sub c44 [1, 1, 1, 1, 1, 0, 1, 0, 0, 1, 0, 0, 1, 1, 1, 1, 0, 0]) from by kernel_rfl]
  refine loopQ (fun n1 σ m => σ 0 = .slice x0 x0n x0c ∧ σ 5 = .slice x5 x5n x5c ∧ σ 7 = .slice x7 x7n x7c ∧ σ 8 = .int .i64 x8 ∧ σ 9 = .slice x9 x9n x9c ∧ σ 48 = .slice x48 x48n x48c ∧ σ 49 = .int .i64 x49 ∧ okS (σ 6) = true ∧ okI .i64 (σ 50) = true ∧ I1 n1 (vSA (σ 6)) (vSN (σ 6)) (vSC (σ 6)) (vI (σ 50)) m) N (fun n1 => (lq44_11111010010011110 R x0 x0n x0c x5 x5n x5c x7 x7n x7c x8 x9 x9n x9c x48 x48n x48c x49 I1 E1_2 n1)) ⟨h0, h5, h7, h8, h9, h48, h49, (by rw [h6]; rfl), (by rw [h50]; rfl), (by rw [h6, h50]; exact h_0)⟩ ?_ ?_ ?_
  · rintro n1 σ m ⟨kk0, kk1, kk2, kk3, kk4, kk5, kk6, kk7, kk8, n', hlt, hI⟩; exact ⟨n', hlt, kk0, kk1, kk2, kk3, kk4, kk5, kk6, kk7, kk8, hI⟩
  · intro n1 e σ m hne h
    cases e with
    | normal => exact absurd rfl hne
    | ret => exact h
    | exit id =>
      by_cases e2 : id = 2
      · subst e2
        obtain ⟨kk0, kk1, kk2, kk3, kk4, kk5, kk6, kk7, hE⟩ := h
        have es : (upd (upd (upd (upd (upd (upd (upd (upd σ 0 (.slice x0 x0n x0c)) 5 (.slice x5 x5n x5c)) 7 (.slice x7 x7n x7c)) 8 (.int .i64 x8)) 9 (.slice x9 x9n x9c)) 48 (.slice x48 x48n x48c)) 49 (.int .i64 x49)) 6 (.slice (vSA (σ 6)) (vSN (σ 6)) (vSC (σ 6)))) = σ := by rw [upd_id kk0, upd_id kk1, upd_id kk2, upd_id kk3, upd_id kk4, upd_id kk5, upd_id kk6, upd_id (ok_slice kk7)]
        exact cast (congrArg (fun s => (blockS 2 (blockS 1 (thenS (fun σ m => vcS Try.prog w0 qs44 (sub c44 [1, 1, 1, 1, 1, 0, 1, 0, 0, 1, 1]) σ m (lq44_11111010 R x0 x0n x0c x5 x5n x5c I0 E0_0 n0)) (lq44_11111010 R x0 x0n x0c x5 x5n x5c I0 E0_0 n0)))) (.exit 2) s m) es) (cast (by kernel_rfl) (h_e2 σ (vSA (σ 6)) (vSN (σ 6)) (vSC (σ 6)) m hE))
      · replace h := (if_neg e2 : (if id = 2 then _ else _) = _).mp h
        exact False.elim h
    | _ => exact False.elim h
  · rintro n1 σ m ⟨kk0, kk1, kk2, kk3, kk4, kk5, kk6, kk7, kk8, hI⟩
    have es : (upd (upd (upd (upd (upd (upd (upd (upd (upd σ 0 (.slice x0 x0n x0c)) 5 (.slice x5 x5n x5c)) 6 (.slice (vSA (σ 6)) (vSN (σ 6)) (vSC (σ 6)))) 7 (.slice x7 x7n x7c)) 8 (.int .i64 x8)) 9 (.slice x9 x9n x9c)) 48 (.slice x48 x48n x48c)) 49 (.int .i64 x49)) 50 (.int .i64 (vI (σ 50)))) = σ := by rw [upd_id kk0, upd_id kk1, upd_id (ok_slice kk7), upd_id kk2, upd_id kk3, upd_id kk4, upd_id kk5, upd_id kk6, upd_id (ok_int kk8)]
    exact cast (congrArg (fun s => vcS Try.prog w0 qs44 (sub c44 [1, 1, 1, 1, 1, 0, 1, 0, 0, 1, 0, 0, 1, 1, 1, 1, 0, 0]) s m (lq44_11111010010011110 R x0 x0n x0c x5 x5n x5c x7 x7n x7c x8 x9 x9n x9c x48 x48n x48c x49 I1 E1_2 n1)) es) (cast (by kernel_rfl) (h_s n1 σ (vSA (σ 6)) (vSN (σ 6)) (vSC (σ 6)) (vI (σ 50)) m hI))
def lq44_11111111010 (R : Value → AM → Prop) (x0 : Option Addr) (x0n x0c : Nat) (x5 : Option Addr) (x5n x5c : Nat) (x6 : Option Addr) (x6n x6c : Nat) (x7 : Option Addr) (x7n x7c : Nat) (I0 : Nat → Int → AM → Prop) (E0_4 : AM → Prop) (n0 : Nat) : Exit → Sg → AM → Prop
  | .normal, σ, m => σ 0 = .slice x0 x0n x0c ∧ σ 5 = .slice x5 x5n x5c ∧ σ 6 = .slice x6 x6n x6c ∧ σ 7 = .slice x7 x7n x7c ∧ okI .i64 (σ 13) = true ∧ ∃ n' : Nat, n' < n0 ∧ I0 n' (vI (σ 13)) m
  | .exit id, σ, m => if id = 4 then σ 0 = .slice x0 x0n x0c ∧ σ 5 = .slice x5 x5n x5c ∧ σ 6 = .slice x6 x6n x6c ∧ σ 7 = .slice x7 x7n x7c ∧ E0_4  m else False
  | .ret, σ, m => retQ Try.prog Try.f44 R .ret σ m
  | _, _, _ => False
theorem vl44_11111111010 (w0 : World) (m : AM) (σ : Sg) (R : Value → AM → Prop)  (x0 : Option Addr) (x0n x0c : Nat) (x5 : Option Addr) (x5n x5c : Nat) (x6 : Option Addr) (x6n x6c : Nat) (x7 : Option Addr) (x7n x7c : Nat) (x13 : Int) (I0 : Nat → Int → AM → Prop) (E0_4 : AM → Prop) (N : Nat) (h0 : σ 0 = .slice x0 x0n x0c) (h5 : σ 5 = .slice x5 x5n x5c) (h6 : σ 6 = .slice x6 x6n x6c) (h7 : σ 7 = .slice x7 x7n x7c) (h13 : σ 13 = .int .i64 x13)
 (h_0 : I0 N x13 m)
 (h_s : ∀ (n0 : Nat) (σ : Sg) (x13 : Int) (m : AM), I0 n0 x13 m → (
 IntKind.i64 = IntKind.i64 ∧ IntKind.i64 = IntKind.i64 ∧ (bcase (decide (((IntKind.wrap .i64 (x13 + 1)) : Int) < ((x5n : Nat) : Int))) (
 IntKind.i64 = IntKind.i64 ∧ ((0 : Int) ≤ (IntKind.wrap .i64 (x13 + 1)) ∧ (IntKind.wrap .i64 (x13 + 1)) < ((x5n : Nat) : Int)) ∧ nilO x5 fun a54 =>
 ∃ i55 : Int, m.cell (a54.add ((IntKind.wrap .i64 (x13 + 1) : Int).toNat * 1)) = some (.int .i64 i55) ∧ 
 IntKind.i64 = IntKind.i64 ∧ ((0 : Int) ≤ (IntKind.wrap .i64 (i55 - 1)) ∧ (IntKind.wrap .i64 (i55 - 1)) < ((x0n : Nat) : Int)) ∧ nilO x0 fun a56 =>
 ∃ i57 : Int, m.cell (a56.add ((IntKind.wrap .i64 (i55 - 1) : Int).toNat * 5)) = some (.int .i64 i57) ∧ ∃ i58 : Int, m.cell ((a56.add ((IntKind.wrap .i64 (i55 - 1) : Int).toNat * 5)).add 1) = some (.int .i64 i58) ∧ ∃ i59 : Int, m.cell ((a56.add ((IntKind.wrap .i64 (i55 - 1) : Int).toNat * 5)).add 2) = some (.int .i64 i59) ∧ ∃ i60 : Int, m.cell ((a56.add ((IntKind.wrap .i64 (i55 - 1) : Int).toNat * 5)).add 3) = some (.int .i64 i60) ∧ ∃ i61 : Int, m.cell ((a56.add ((IntKind.wrap .i64 (i55 - 1) : Int).toNat * 5)).add 4) = some (.int .i64 i61) ∧ 
 CallsA Try.prog w0 22 #[.agg #[.int .i64 i57, .int .i64 i58, .int .i64 i59, .int .i64 i60, .int .i64 i61], .int .i64 (IntKind.wrap .i64 (i55 - 1))] m fun r64 m65 =>
 ∃ i62 : Int, ∃ t63 : Bool, r64 = .tuple #[.int .i64 i62, .bool t63] ∧ (bcase (!t63) (
 IntKind.i64 = IntKind.i64 ∧ (.slice x0 x0n x0c : Value) = .slice x0 x0n x0c ∧ (.slice x5 x5n x5c : Value) = .slice x5 x5n x5c ∧ (.slice x6 x6n x6c : Value) = .slice x6 x6n x6c ∧ (.slice x7 x7n x7c : Value) = .slice x7 x7n x7c ∧ true = true ∧ ∃ n' : Nat, n' < n0 ∧ I0 n' (IntKind.wrap .i64 (x13 + 1)) m65) (
 IntKind.i64 = IntKind.i64 ∧ ((0 : Int) ≤ (IntKind.wrap .i64 (x13 + 1)) ∧ (IntKind.wrap .i64 (x13 + 1)) < ((x7n : Nat) : Int)) ∧ nilO x7 fun a68 =>
 ∃ i69 : Int, m65.cell (a68.add ((IntKind.wrap .i64 (x13 + 1) : Int).toNat * 1)) = some (.int .i64 i69) ∧ 
 IntKind.i64 = IntKind.i64 ∧ CallsA Try.prog w0 75 #[.slice x5 x5n x5c, .slice x7 x7n x7c, .int .i64 i62] m65 fun r71 m72 =>
 ∃ i70 : Int, r71 = .int .i64 i70 ∧ ((0 : Int) ≤ (IntKind.wrap .i64 (i69 - 2)) ∧ (IntKind.wrap .i64 (i69 - 2)) < ((x6n : Nat) : Int)) ∧ nilO x6 fun a73 =>
 StC w0.heap.size m72 ((a73.add ((IntKind.wrap .i64 (i69 - 2) : Int).toNat * 5)).add 4) (.int .i64 i70) fun m74 =>
 ((0 : Int) ≤ (IntKind.wrap .i64 (i69 - 2)) ∧ (IntKind.wrap .i64 (i69 - 2)) < ((x6n : Nat) : Int)) ∧ nilO x6 fun a75 =>
 ∃ i76 : Int, m74.cell (a75.add ((IntKind.wrap .i64 (i69 - 2) : Int).toNat * 5)) = some (.int .i64 i76) ∧ 
 IntKind.i64 = IntKind.i64 ∧ (bcase (decide ((i76 : Int) < 17)) (
 ((0 : Int) ≤ (IntKind.wrap .i64 (i69 - 2)) ∧ (IntKind.wrap .i64 (i69 - 2)) < ((x6n : Nat) : Int)) ∧ nilO x6 fun a77 =>
 ∃ i78 : Int, m74.cell ((a77.add ((IntKind.wrap .i64 (i69 - 2) : Int).toNat * 5)).add 4) = some (.int .i64 i78) ∧ 
 IntKind.i64 = IntKind.i64 ∧ IntKind.i64 = IntKind.i64 ∧ ((0 : Int) ≤ (IntKind.wrap .i64 (i69 - 2)) ∧ (IntKind.wrap .i64 (i69 - 2)) < ((x6n : Nat) : Int)) ∧ nilO x6 fun a79 =>
 StC w0.heap.size m74 ((a79.add ((IntKind.wrap .i64 (i69 - 2) : Int).toNat * 5)).add 4) (.int .i64 (IntKind.wrap .i64 (i78 - (IntKind.wrap .i64 ((IntKind.wrap .i64 (i69 - 2)) + 1))))) fun m80 =>
 ((0 : Int) ≤ (IntKind.wrap .i64 (i69 - 2)) ∧ (IntKind.wrap .i64 (i69 - 2)) < ((x6n : Nat) : Int)) ∧ nilO x6 fun a81 =>
 ∃ i82 : Int, m80.cell (a81.add ((IntKind.wrap .i64 (i69 - 2) : Int).toNat * 5)) = some (.int .i64 i82) ∧ ∃ i83 : Int, m80.cell ((a81.add ((IntKind.wrap .i64 (i69 - 2) : Int).toNat * 5)).add 1) = some (.int .i64 i83) ∧ ∃ i84 : Int, m80.cell ((a81.add ((IntKind.wrap .i64 (i69 - 2) : Int).toNat * 5)).add 2) = some (.int .i64 i84) ∧ ∃ i85 : Int, m80.cell ((a81.add ((IntKind.wrap .i64 (i69 - 2) : Int).toNat * 5)).add 3) = some (.int .i64 i85) ∧ ∃ i86 : Int, m80.cell ((a81.add ((IntKind.wrap .i64 (i69 - 2) : Int).toNat * 5)).add 4) = some (.int .i64 i86) ∧ 
 CallsA Try.prog w0 31 #[.agg #[.int .i64 i82, .int .i64 i83, .int .i64 i84, .int .i64 i85, .int .i64 i86]] m80 fun r88 m89 =>
 ∃ t87 : Bool, r88 = .bool t87 ∧ (bcase (!t87) (
 RetP R (.tuple #[.slice none 0 0, .slice none 0 0, .int .i64 3]) m89) (
 IntKind.i64 = IntKind.i64 ∧ (.slice x0 x0n x0c : Value) = .slice x0 x0n x0c ∧ (.slice x5 x5n x5c : Value) = .slice x5 x5n x5c ∧ (.slice x6 x6n x6c : Value) = .slice x6 x6n x6c ∧ (.slice x7 x7n x7c : Value) = .slice x7 x7n x7c ∧ true = true ∧ ∃ n' : Nat, n' < n0 ∧ I0 n' (IntKind.wrap .i64 (x13 + 1)) m89))) (
 ((0 : Int) ≤ (IntKind.wrap .i64 (i69 - 2)) ∧ (IntKind.wrap .i64 (i69 - 2)) < ((x6n : Nat) : Int)) ∧ nilO x6 fun a90 =>
 ∃ i91 : Int, m74.cell (a90.add ((IntKind.wrap .i64 (i69 - 2) : Int).toNat * 5)) = some (.int .i64 i91) ∧ ∃ i92 : Int, m74.cell ((a90.add ((IntKind.wrap .i64 (i69 - 2) : Int).toNat * 5)).add 1) = some (.int .i64 i92) ∧ ∃ i93 : Int, m74.cell ((a90.add ((IntKind.wrap .i64 (i69 - 2) : Int).toNat * 5)).add 2) = some (.int .i64 i93) ∧ ∃ i94 : Int, m74.cell ((a90.add ((IntKind.wrap .i64 (i69 - 2) : Int).toNat * 5)).add 3) = some (.int .i64 i94) ∧ ∃ i95 : Int, m74.cell ((a90.add ((IntKind.wrap .i64 (i69 - 2) : Int).toNat * 5)).add 4) = some (.int .i64 i95) ∧ 
 CallsA Try.prog w0 31 #[.agg #[.int .i64 i91, .int .i64 i92, .int .i64 i93, .int .i64 i94, .int .i64 i95]] m74 fun r97 m98 =>
 ∃ t96 : Bool, r97 = .bool t96 ∧ (bcase (!t96) (
 RetP R (.tuple #[.slice none 0 0, .slice none 0 0, .int .i64 3]) m98) (
 IntKind.i64 = IntKind.i64 ∧ (.slice x0 x0n x0c : Value) = .slice x0 x0n x0c ∧ (.slice x5 x5n x5c : Value) = .slice x5 x5n x5c ∧ (.slice x6 x6n x6c : Value) = .slice x6 x6n x6c ∧ (.slice x7 x7n x7c : Value) = .slice x7 x7n x7c ∧ true = true ∧ ∃ n' : Nat, n' < n0 ∧ I0 n' (IntKind.wrap .i64 (x13 + 1)) m98))))))) (
 (.slice x0 x0n x0c : Value) = .slice x0 x0n x0c ∧ (.slice x5 x5n x5c : Value) = .slice x5 x5n x5c ∧ (.slice x6 x6n x6c : Value) = .slice x6 x6n x6c ∧ (.slice x7 x7n x7c : Value) = .slice x7 x7n x7c ∧ E0_4  m))))
 (h_e4 : ∀ (σ : Sg)  (m : AM), E0_4  m → (
 RetP R (.tuple #[.slice x6 x6n x6c, .slice x7 x7n x7c, .int .i64 0]) m)) :
 vcS Try.prog w0 qs44 (sub c44 [1, 1, 1, 1, 1, 1, 1, 1, 0, 1, 0]) σ m (blockS 4 (thenS (fun σ m => vcS Try.prog w0 qs44 (sub c44 [1, 1, 1, 1, 1, 1, 1, 1, 1]) σ m (retQ Try.prog Try.f44 R)) (retQ Try.prog Try.f44 R))) := by
  rw [show sub c44 [1, 1, 1, 1, 1, 1, 1, 1, 0, 1, 0] = .loop (sub c44 [1, 1, 1, 1, 1, 1, 1, 1, 0, 1, 0, 0]) from by kernel_rfl]
  refine loopQ (fun n0 σ m => σ 0 = .slice x0 x0n x0c ∧ σ 5 = .slice x5 x5n x5c ∧ σ 6 = .slice x6 x6n x6c ∧ σ 7 = .slice x7 x7n x7c ∧ okI .i64 (σ 13) = true ∧ I0 n0 (vI (σ 13)) m) N (fun n0 => (lq44_11111111010 R x0 x0n x0c x5 x5n x5c x6 x6n x6c x7 x7n x7c I0 E0_4 n0)) ⟨h0, h5, h6, h7, (by rw [h13]; rfl), (by rw [h13]; exact h_0)⟩ ?_ ?_ ?_
  · rintro n0 σ m ⟨kk0, kk1, kk2, kk3, kk4, n', hlt, hI⟩; exact ⟨n', hlt, kk0, kk1, kk2, kk3, kk4, hI⟩
  · intro n0 e σ m hne h
    cases e with
    | normal => exact absurd rfl hne
    | ret => exact h
    | exit id =>
      by_cases e4 : id = 4
      · subst e4
        obtain ⟨kk0, kk1, kk2, kk3, hE⟩ := h
        have es : (upd (upd (upd (upd σ 0 (.slice x0 x0n x0c)) 5 (.slice x5 x5n x5c)) 6 (.slice x6 x6n x6c)) 7 (.slice x7 x7n x7c)) = σ := by rw [upd_id kk0, upd_id kk1, upd_id kk2, upd_id kk3]
        exact cast (congrArg (fun s => (blockS 4 (thenS (fun σ m => vcS Try.prog w0 qs44 (sub c44 [1, 1, 1, 1, 1, 1, 1, 1, 1]) σ m (retQ Try.prog Try.f44 R)) (retQ Try.prog Try.f44 R))) (.exit 4) s m) es) (cast (by kernel_rfl) (h_e4 σ  m hE))
      · replace h := (if_neg e4 : (if id = 4 then _ else _) = _).mp h
        exact False.elim h
    | _ => exact False.elim h
  · rintro n0 σ m ⟨kk0, kk1, kk2, kk3, kk4, hI⟩
    have es : (upd (upd (upd (upd (upd σ 0 (.slice x0 x0n x0c)) 5 (.slice x5 x5n x5c)) 6 (.slice x6 x6n x6c)) 7 (.slice x7 x7n x7c)) 13 (.int .i64 (vI (σ 13)))) = σ := by rw [upd_id kk0, upd_id kk1, upd_id kk2, upd_id kk3, upd_id (ok_int kk4)]
    exact cast (congrArg (fun s => vcS Try.prog w0 qs44 (sub c44 [1, 1, 1, 1, 1, 1, 1, 1, 0, 1, 0, 0]) s m (lq44_11111111010 R x0 x0n x0c x5 x5n x5c x6 x6n x6c x7 x7n x7c I0 E0_4 n0)) es) (cast (by kernel_rfl) (h_s n0 σ (vI (σ 13)) m hI))
end Go.Proofs.Ytkfemiloehkmhaa.V

