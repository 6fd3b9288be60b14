/- Ytadcbnldahcelaa: a text of our own, by an AI agent: VR7C -/
import Derived.Test.YtadcbnldahcelaaCore5
import Derived.Test.YtadcbnldahcelaaTabC
namespace Go.Proofs.Ytadcbnldahcelaa.V
open Go Go.Alog Go.Proofs.Ytadcbnldahcelaa.T
set_option linter.unusedVariables false
set_option maxRecDepth 100000

/-! 39 delayslot/delayslotref06.Used -/
def qs39 : Nat → List (Nat × Nat) := fun i => match i with | _ => []
noncomputable def c39 : Code := bodyOf Try.f39
theorem cf39 (w0 : World) (m : AM) (x0 : Option Addr) (x0n x0c : Nat) (R : Value → AM → Prop) (h :
 vcS Try.prog w0 qs39 (sub c39 [1, 1, 0, 1, 0]) (upd (upd (upd (argS [.slice x0 x0n x0c]) 2 (.slice none 0 0)) 3 (.int .i64 0)) 4 (.int .i64 0)) m (blockS 0 (thenS (fun σ m => vcS Try.prog w0 qs39 (sub c39 [1, 1, 1]) σ m (retQ Try.prog Try.f39 R)) (retQ Try.prog Try.f39 R)))) : CallsA Try.prog w0 39 #[.slice x0 x0n x0c] m R :=
  callsA_of (c := c39) (args := [.slice x0 x0n x0c]) (by kernel_rfl) Try.func39 (by kernel_rfl) qs39 (by kernel_rfl) (by kernel_rfl) (cast (by kernel_rfl) h)
def lq39_11010 (R : Value → AM → Prop) (x0 : Option Addr) (x0n x0c : Nat) (I0 : Nat → Int → Int → AM → Prop) (E0_0 : Int → AM → Prop) (n0 : Nat) : Exit → Sg → AM → Prop
  | .normal, σ, m => σ 0 = .slice x0 x0n x0c ∧ okI .i64 (σ 3) = true ∧ okI .i64 (σ 4) = true ∧ ∃ n' : Nat, n' < n0 ∧ I0 n' (vI (σ 3)) (vI (σ 4)) m
  | .exit id, σ, m => if id = 0 then σ 0 = .slice x0 x0n x0c ∧ okI .i64 (σ 3) = true ∧ E0_0 (vI (σ 3)) m else False
  | .ret, σ, m => retQ Try.prog Try.f39 R .ret σ m
  | _, _, _ => False
theorem vl39_11010 (w0 : World) (m : AM) (σ : Sg) (R : Value → AM → Prop)  (x0 : Option Addr) (x0n x0c : Nat) (x3 : Int) (x4 : Int) (I0 : Nat → Int → Int → AM → Prop) (E0_0 : Int → AM → Prop) (N : Nat) (h0 : σ 0 = .slice x0 x0n x0c) (h3 : σ 3 = .int .i64 x3) (h4 : σ 4 = .int .i64 x4)
 (h_0 : I0 N x3 x4 m)
 (h_s : ∀ (n0 : Nat) (σ : Sg) (x3 : Int) (x4 : Int) (m : AM), I0 n0 x3 x4 m → (
 IntKind.i64 = IntKind.i64 ∧ (bcase (decide ((x4 : Int) < ((x0n : Nat) : Int))) (
 ((0 : Int) ≤ x4 ∧ x4 < ((x0n : Nat) : Int)) ∧ nilO x0 fun a1 =>
 ∃ i2 : Int, m.cell (a1.add ((x4 : Int).toNat * 1)) = some (.int .i64 i2) ∧ 
 IntKind.i64 = IntKind.i64 ∧ (bcase ((i2 : Int) != 0) (
 IntKind.i64 = IntKind.i64 ∧ IntKind.i64 = IntKind.i64 ∧ (.slice x0 x0n x0c : Value) = .slice x0 x0n x0c ∧ true = true ∧ true = true ∧ ∃ n' : Nat, n' < n0 ∧ I0 n' (IntKind.wrap .i64 (x4 + 1)) (IntKind.wrap .i64 (x4 + 1)) m) (
 IntKind.i64 = IntKind.i64 ∧ (.slice x0 x0n x0c : Value) = .slice x0 x0n x0c ∧ true = true ∧ true = true ∧ ∃ n' : Nat, n' < n0 ∧ I0 n' x3 (IntKind.wrap .i64 (x4 + 1)) m))) (
 (.slice x0 x0n x0c : Value) = .slice x0 x0n x0c ∧ true = true ∧ E0_0 x3 m))))
 (h_e0 : ∀ (σ : Sg) (x3 : Int) (m : AM), E0_0 x3 m → (
 (0 : Int) ≤ x3 ∧ ((x3 : Int).toNat) ≤ x0c ∧ 0 ≤ ((x3 : Int).toNat) ∧
 RetP R (.slice (if x0c = 0 then x0 else Option.map (fun x => Addr.add x (0 * 1)) x0) (((x3 : Int).toNat) - 0) (x0c - 0)) m)) :
 vcS Try.prog w0 qs39 (sub c39 [1, 1, 0, 1, 0]) σ m (blockS 0 (thenS (fun σ m => vcS Try.prog w0 qs39 (sub c39 [1, 1, 1]) σ m (retQ Try.prog Try.f39 R)) (retQ Try.prog Try.f39 R))) := by
  rw [show sub c39 [1, 1, 0, 1, 0] = .loop (sub c39 [1, 1, 0, 1, 0, 0]) from by kernel_rfl]
  refine loopQ (fun n0 σ m => σ 0 = .slice x0 x0n x0c ∧ okI .i64 (σ 3) = true ∧ okI .i64 (σ 4) = true ∧ I0 n0 (vI (σ 3)) (vI (σ 4)) m) N (fun n0 => (lq39_11010 R x0 x0n x0c I0 E0_0 n0)) ⟨h0, (by rw [h3]; rfl), (by rw [h4]; rfl), (by rw [h3, h4]; exact h_0)⟩ ?_ ?_ ?_
  · rintro n0 σ m ⟨kk0, kk1, kk2, n', hlt, hI⟩; exact ⟨n', hlt, kk0, kk1, kk2, hI⟩
  · intro n0 e σ m hne h
    cases e with
    | normal => exact absurd rfl hne
    | ret => exact h
    | exit id =>
      by_cases e0 : id = 0
      · subst e0
        obtain ⟨kk0, kk1, hE⟩ := h
        have es : (upd (upd σ 0 (.slice x0 x0n x0c)) 3 (.int .i64 (vI (σ 3)))) = σ := by rw [upd_id kk0, upd_id (ok_int kk1)]
        exact cast (congrArg (fun s => (blockS 0 (thenS (fun σ m => vcS Try.prog w0 qs39 (sub c39 [1, 1, 1]) σ m (retQ Try.prog Try.f39 R)) (retQ Try.prog Try.f39 R))) (.exit 0) s m) es) (cast (by kernel_rfl) (h_e0 σ (vI (σ 3)) m hE))
      · replace h := (if_neg e0 : (if id = 0 then _ else _) = _).mp h
        exact False.elim h
    | _ => exact False.elim h
  · rintro n0 σ m ⟨kk0, kk1, kk2, hI⟩
    have es : (upd (upd (upd σ 0 (.slice x0 x0n x0c)) 3 (.int .i64 (vI (σ 3)))) 4 (.int .i64 (vI (σ 4)))) = σ := by rw [upd_id kk0, upd_id (ok_int kk1), upd_id (ok_int kk2)]
    exact cast (congrArg (fun s => vcS Try.prog w0 qs39 (sub c39 [1, 1, 0, 1, 0, 0]) s m (lq39_11010 R x0 x0n x0c I0 E0_0 n0)) es) (cast (by kernel_rfl) (h_s n0 σ (vI (σ 3)) (vI (σ 4)) m hI))

/-! 37 delayslot/delayslotref07.Begin -/
def qs37 : Nat → List (Nat × Nat) := fun i => match i with | 1000001 => [(0, 0)] | _ => []
noncomputable def c37 : Code := bodyOf Try.f37
theorem cf37 (w0 : World) (m : AM) (x0 : Int) (R : Value → AM → Prop) (h :
 vcS Try.prog w0 qs37 (sub c37 [1, 0]) (upd (argS [.int .i64 x0]) 2 (.pointer none)) m (thenS (fun σ m => vcS Try.prog w0 qs37 (sub c37 [1, 1]) σ m (retQ Try.prog Try.f37 R)) (retQ Try.prog Try.f37 R))) : CallsA Try.prog w0 37 #[.int .i64 x0] m R :=
  callsA_of (c := c37) (args := [.int .i64 x0]) (by kernel_rfl) Try.func37 (by kernel_rfl) qs37 (by kernel_rfl) (by kernel_rfl) (cast (by kernel_rfl) h)
theorem vr37_10 (w0 : World) (m : AM) (σ : Sg) (R : Value → AM → Prop)  (x0 : Int) (K : Nat → AM → Prop) (h0 : σ 0 = .int .i64 x0)
 (h_t : 
 (((0 : Int) ≤ 32 ∧ (32 : Int) ≤ 32 ∧ (32 : Int) ≤ 9223372036854775807 ∧ ((8 : Nat) : Int) * 32 ≤ 281474976710656) ∧ ∀ b1 : Nat, w0.heap.size ≤ b1 → m b1 = none → let m2 := AM.upd m b1 (.cells (zeros [.int .i64 0] (32 : Int).toNat).toArray 3);
 ((0 : Int) ≤ x0 ∧ (x0 : Int) ≤ x0 ∧ (x0 : Int) ≤ 9223372036854775807 ∧ ((8 : Nat) : Int) * x0 ≤ 281474976710656) ∧ ∀ b3 : Nat, w0.heap.size ≤ b3 → m2 b3 = none → let m4 := AM.upd m2 b3 (.cells (zeros [.int .i64 0] (x0 : Int).toNat).toArray 3);
 true = true ∧ ∀ b5 : Nat, w0.heap.size ≤ b5 → m4 b5 = none → let m6 := AM.upd m4 b5 (.cells #[.slice (some ⟨b1, 0, none⟩) ((32 : Int).toNat) ((32 : Int).toNat), .slice (some ⟨b3, 0, none⟩) ((x0 : Int).toNat) ((x0 : Int).toNat), .int .i64 0, .int .i64 0, .slice none 0 0, .int .i64 0] 68);
 true = true ∧ (.pointer (some ⟨b5, 0, none⟩) : Value) = .pointer (some ⟨b5, 0, none⟩) ∧ K b5 m6) ∧
 (((0 : Int) ≤ x0 ∧ (x0 : Int) ≤ x0 ∧ (x0 : Int) ≤ 9223372036854775807 ∧ ((8 : Nat) : Int) * x0 ≤ 281474976710656) ∧ ∀ b7 : Nat, w0.heap.size ≤ b7 → m b7 = none → let m8 := AM.upd m b7 (.cells (zeros [.int .i64 0] (x0 : Int).toNat).toArray 3);
 ((0 : Int) ≤ 32 ∧ (32 : Int) ≤ 32 ∧ (32 : Int) ≤ 9223372036854775807 ∧ ((8 : Nat) : Int) * 32 ≤ 281474976710656) ∧ ∀ b9 : Nat, w0.heap.size ≤ b9 → m8 b9 = none → let m10 := AM.upd m8 b9 (.cells (zeros [.int .i64 0] (32 : Int).toNat).toArray 3);
 true = true ∧ ∀ b11 : Nat, w0.heap.size ≤ b11 → m10 b11 = none → let m12 := AM.upd m10 b11 (.cells #[.slice (some ⟨b9, 0, none⟩) ((32 : Int).toNat) ((32 : Int).toNat), .slice (some ⟨b7, 0, none⟩) ((x0 : Int).toNat) ((x0 : Int).toNat), .int .i64 0, .int .i64 0, .slice none 0 0, .int .i64 0] 68);
 true = true ∧ (.pointer (some ⟨b11, 0, none⟩) : Value) = .pointer (some ⟨b11, 0, none⟩) ∧ K b11 m12))
 (h_k : ∀ (σ : Sg) (y2 : Nat) (m : AM), K y2 m → (
 RetP R (.pointer (some ⟨y2, 0, none⟩)) m)) :
 vcS Try.prog w0 qs37 (sub c37 [1, 0]) σ m (thenS (fun σ m => vcS Try.prog w0 qs37 (sub c37 [1, 1]) σ m (retQ Try.prog Try.f37 R)) (retQ Try.prog Try.f37 R)) := by
  have es0 : (upd σ 0 (.int .i64 x0)) = σ := by rw [upd_id h0]
  refine vcS_cut (Q0 := (fun σ m => (σ 2) = .pointer (some ⟨(vP (σ 2)), 0, none⟩) ∧ K (vP (σ 2)) m)) (by kernel_rfl) (cast (congrArg (fun s => trC Try.prog w0 qs37 (sub c37 [1, 0]) s m (fun σ m => (σ 2) = .pointer (some ⟨(vP (σ 2)), 0, none⟩) ∧ K (vP (σ 2)) m)) es0) (cast (by kernel_rfl) h_t)) ?_
  rintro σ m ⟨kk0, hK⟩
  have es : (upd σ 2 (.pointer (some ⟨(vP (σ 2)), 0, none⟩))) = σ := by rw [upd_id kk0]
  exact cast (congrArg (fun s => (thenS (fun σ m => vcS Try.prog w0 qs37 (sub c37 [1, 1]) σ m (retQ Try.prog Try.f37 R)) (retQ Try.prog Try.f37 R)) .normal s m) es) (cast (by kernel_rfl) (h_k σ (vP (σ 2)) m hK))

/-! 54 (*delayslot/delayslotref07.Machine).set -/
def qs54 : Nat → List (Nat × Nat) := fun i => match i with | 1000001 => [(0, 0)] | _ => []
noncomputable def c54 : Code := bodyOf Try.f54
theorem cf54 (w0 : World) (m : AM) (x0 : Nat) (x1 : Int) (x2 : Int) (R : Value → AM → Prop) (h :
 IntKind.i64 = IntKind.i64 ∧ (bcase ((x1 : Int) != 0) (
 vcS Try.prog w0 qs54 (sub c54 [1, 0]) (upd (upd (argS [.pointer (some ⟨x0, 0, none⟩), .int .i64 x1, .int .i64 x2]) 6 (.int .i64 x1)) 7 (.bool ((x1 : Int) != 0))) m (retQ Try.prog Try.f54 R)) (
 RetP R (.tuple #[]) m))) : CallsA Try.prog w0 54 #[.pointer (some ⟨x0, 0, none⟩), .int .i64 x1, .int .i64 x2] m R :=
  callsA_of (c := c54) (args := [.pointer (some ⟨x0, 0, none⟩), .int .i64 x1, .int .i64 x2]) (by kernel_rfl) Try.func54 (by kernel_rfl) qs54 (by kernel_rfl) (by kernel_rfl) (cast (by kernel_rfl) h)
theorem vr54_10 (w0 : World) (m : AM) (σ : Sg) (R : Value → AM → Prop)  (x0 : Nat) (x1 : Int) (x2 : Int) (K : AM → Prop) (h0 : σ 0 = .pointer (some ⟨x0, 0, none⟩)) (h1 : σ 1 = .int .i64 x1) (h2 : σ 2 = .int .i64 x2)
 (h_t : 
 (∃ (A1 : Option Addr) (n2 c3 : Nat), m.cell ⟨x0, 0, none⟩ = some (.slice A1 n2 c3) ∧ 
 CallsA Try.prog w0 28 #[.int .i64 x2] m fun r5 m6 =>
 ∃ i4 : Int, r5 = .int .i64 i4 ∧ ((0 : Int) ≤ x1 ∧ x1 < ((n2 : Nat) : Int)) ∧ nilO A1 fun a7 =>
 StC w0.heap.size m6 (a7.add ((x1 : Int).toNat * 1)) (.int .i64 i4) fun m8 =>
 true = true ∧ K  m8) ∧
 (CallsA Try.prog w0 28 #[.int .i64 x2] m fun r10 m11 =>
 ∃ i9 : Int, r10 = .int .i64 i9 ∧ ∃ (A12 : Option Addr) (n13 c14 : Nat), m11.cell ⟨x0, 0, none⟩ = some (.slice A12 n13 c14) ∧ 
 ((0 : Int) ≤ x1 ∧ x1 < ((n13 : Nat) : Int)) ∧ nilO A12 fun a15 =>
 StC w0.heap.size m11 (a15.add ((x1 : Int).toNat * 1)) (.int .i64 i9) fun m16 =>
 true = true ∧ K  m16))
 (h_k : ∀ (σ : Sg)  (m : AM), K  m → (
 RetP R (.tuple #[]) m)) :
 vcS Try.prog w0 qs54 (sub c54 [1, 0]) σ m (retQ Try.prog Try.f54 R) := by
  have es0 : (upd (upd (upd σ 0 (.pointer (some ⟨x0, 0, none⟩))) 1 (.int .i64 x1)) 2 (.int .i64 x2)) = σ := by rw [upd_id h0, upd_id h1, upd_id h2]
  refine vcS_cut (Q0 := (fun σ m => K  m)) (by kernel_rfl) (cast (congrArg (fun s => trC Try.prog w0 qs54 (sub c54 [1, 0]) s m (fun σ m => K  m)) es0) (cast (by kernel_rfl) h_t)) ?_
  intro σ m hK
  have es : σ = σ := by rfl
  exact cast (congrArg (fun s => (retQ Try.prog Try.f54 R) .normal s m) es) (cast (by kernel_rfl) (h_k σ  m hK))

/-! 59 delayslot/delayslotref07.half -/
def qs59 : Nat → List (Nat × Nat) := fun i => match i with | _ => []
noncomputable def c59 : Code := bodyOf Try.f59
theorem cf59 (w0 : World) (m : AM) (x0 : Int) (R : Value → AM → Prop) (h :
 IntKind.i64 = IntKind.i64 ∧ (bcase (decide ((x0 : Int) < 0)) (
 IntKind.i64 = IntKind.i64 ∧ IntKind.i64 = IntKind.i64 ∧ (2 : Int) ≠ 0 ∧ RetP R (.int .i64 (IntKind.wrap .i64 (0 - (IntKind.wrap .i64 (Int.tdiv (IntKind.wrap .i64 (1 - x0)) 2))))) m) (
 IntKind.i64 = IntKind.i64 ∧ (2 : Int) ≠ 0 ∧ RetP R (.int .i64 (IntKind.wrap .i64 (Int.tdiv x0 2))) m))) : CallsA Try.prog w0 59 #[.int .i64 x0] m R :=
  callsA_of (c := c59) (args := [.int .i64 x0]) (by kernel_rfl) Try.func59 (by kernel_rfl) qs59 (by kernel_rfl) (by kernel_rfl) (cast (by kernel_rfl) h)

/-! 47 delayslot/delayslotref07.bits -/
def qs47 : Nat → List (Nat × Nat) := fun i => match i with | _ => []
noncomputable def c47 : Code := bodyOf Try.f47
theorem cf47 (w0 : World) (m : AM) (x0 : Int) (x1 : Int) (x2 : Bool) (R : Value → AM → Prop) (h :
 vcS Try.prog w0 qs47 (sub c47 [1, 1, 0, 1, 0]) (upd (upd (upd (upd (argS [.int .i64 x0, .int .i64 x1, .bool x2]) 6 (.int .i64 0)) 7 (.int .i64 0)) 8 (.int .i64 1)) 9 (.int .i64 0)) m (blockS 0 (thenS (fun σ m => vcS Try.prog w0 qs47 (sub c47 [1, 1, 1]) σ m (retQ Try.prog Try.f47 R)) (retQ Try.prog Try.f47 R)))) : CallsA Try.prog w0 47 #[.int .i64 x0, .int .i64 x1, .bool x2] m R :=
  callsA_of (c := c47) (args := [.int .i64 x0, .int .i64 x1, .bool x2]) (by kernel_rfl) Try.func47 (by kernel_rfl) qs47 (by kernel_rfl) (by kernel_rfl) (cast (by kernel_rfl) h)
def lq47_11010 (R : Value → AM → Prop) (x2 : Bool) (I0 : Nat → Int → Int → Int → Int → Int → AM → Prop) (E0_0 : Int → AM → Prop) (n0 : Nat) : Exit → Sg → AM → Prop
  | .normal, σ, m => σ 2 = .bool x2 ∧ okI .i64 (σ 0) = true ∧ okI .i64 (σ 1) = true ∧ okI .i64 (σ 7) = true ∧ okI .i64 (σ 8) = true ∧ okI .i64 (σ 9) = true ∧ ∃ n' : Nat, n' < n0 ∧ I0 n' (vI (σ 0)) (vI (σ 1)) (vI (σ 7)) (vI (σ 8)) (vI (σ 9)) m
  | .exit id, σ, m => if id = 0 then σ 2 = .bool x2 ∧ okI .i64 (σ 7) = true ∧ E0_0 (vI (σ 7)) m else False
  | .ret, σ, m => retQ Try.prog Try.f47 R .ret σ m
  | _, _, _ => False
theorem vl47_11010 (w0 : World) (m : AM) (σ : Sg) (R : Value → AM → Prop)  (x2 : Bool) (x0 : Int) (x1 : Int) (x7 : Int) (x8 : Int) (x9 : Int) (I0 : Nat → Int → Int → Int → Int → Int → AM → Prop) (E0_0 : Int → AM → Prop) (N : Nat) (h0 : σ 0 = .int .i64 x0) (h1 : σ 1 = .int .i64 x1) (h2 : σ 2 = .bool x2) (h7 : σ 7 = .int .i64 x7) (h8 : σ 8 = .int .i64 x8) (h9 : σ 9 = .int .i64 x9)
 (h_0 : I0 N x0 x1 x7 x8 x9 m)
 (h_s : ∀ (n0 : Nat) (σ : Sg) (x0 : Int) (x1 : Int) (x7 : Int) (x8 : Int) (x9 : Int) (m : AM), I0 n0 x0 x1 x7 x8 x9 m → (
 IntKind.i64 = IntKind.i64 ∧ (bcase (decide ((x9 : Int) < 32)) (
 IntKind.i64 = IntKind.i64 ∧ (2 : Int) ≠ 0 ∧ IntKind.i64 = IntKind.i64 ∧ IntKind.i64 = IntKind.i64 ∧ (2 : Int) ≠ 0 ∧ IntKind.i64 = IntKind.i64 ∧ (bcase (((Int.tmod x0 2) : Int) != 0) (
 (bcase (bif ((Int.tmod x0 2) : Int) != 0 then ((Int.tmod x1 2) : Int) != 0 else false) (
 (bif ((Int.tmod x0 2) : Int) != 0 then ((Int.tmod x1 2) : Int) != 0 else false) = true ∧ vcS Try.prog w0 qs47 (sub c47 [1, 1, 0, 1, 0, 0, 1, 0, 0, 1, 0, 1]) (upd (upd (upd (upd (upd (upd (upd (upd (upd (upd (upd (upd (upd (upd (upd (upd (upd (upd (upd (upd (upd (upd (upd (upd (upd (upd (upd (upd (upd σ 0 (.int .i64 x0)) 1 (.int .i64 x1)) 2 (.bool x2)) 7 (.int .i64 x7)) 8 (.int .i64 x8)) 9 (.int .i64 x9)) 12 (.int .i64 x9)) 13 (.bool (decide ((x9 : Int) < 32)))) 16 (.int .i64 x0)) 17 (.int .i64 (Int.tmod x0 2))) 18 (.bool (((Int.tmod x0 2) : Int) != 0))) 19 (.int .i64 x1)) 20 (.int .i64 (Int.tmod x1 2))) 21 (.bool (((Int.tmod x1 2) : Int) != 0))) 10 (.bool (((Int.tmod x0 2) : Int) != 0))) 11 (.bool (((Int.tmod x1 2) : Int) != 0))) 22 (.bool (((Int.tmod x0 2) : Int) != 0))) 23 (.bool (((Int.tmod x0 2) : Int) != 0))) 24 (.bool (((Int.tmod x1 2) : Int) != 0))) 25 (.bool (bif ((Int.tmod x0 2) : Int) != 0 then ((Int.tmod x1 2) : Int) != 0 else false))) 26 (.bool (bif ((Int.tmod x0 2) : Int) != 0 then ((Int.tmod x1 2) : Int) != 0 else false))) 27 (undef)) 28 (undef)) 29 (undef)) 30 (undef)) 31 (undef)) 32 (undef)) 33 (undef)) 34 (.bool true)) m (thenS (fun σ m => vcS Try.prog w0 qs47 (sub c47 [1, 1, 0, 1, 0, 0, 1, 0, 0, 1, 1]) σ m (blockS 1 (thenS (fun σ m => vcS Try.prog w0 qs47 (sub c47 [1, 1, 0, 1, 0, 0, 1, 1]) σ m (lq47_11010 R x2 I0 E0_0 n0)) (lq47_11010 R x2 I0 E0_0 n0)))) (blockS 1 (thenS (fun σ m => vcS Try.prog w0 qs47 (sub c47 [1, 1, 0, 1, 0, 0, 1, 1]) σ m (lq47_11010 R x2 I0 E0_0 n0)) (lq47_11010 R x2 I0 E0_0 n0))))) (
 (bcase x2 (
 (bcase (((Int.tmod x0 2) : Int) != 0) (
 (((Int.tmod x0 2) : Int) != 0) = true ∧ vcS Try.prog w0 qs47 (sub c47 [1, 1, 0, 1, 0, 0, 1, 0, 0, 1, 0, 1]) (upd (upd (upd (upd (upd (upd (upd (upd (upd (upd (upd (upd (upd (upd (upd (upd (upd (upd (upd (upd (upd (upd (upd (upd (upd (upd (upd (upd (upd σ 0 (.int .i64 x0)) 1 (.int .i64 x1)) 2 (.bool x2)) 7 (.int .i64 x7)) 8 (.int .i64 x8)) 9 (.int .i64 x9)) 12 (.int .i64 x9)) 13 (.bool (decide ((x9 : Int) < 32)))) 16 (.int .i64 x0)) 17 (.int .i64 (Int.tmod x0 2))) 18 (.bool (((Int.tmod x0 2) : Int) != 0))) 19 (.int .i64 x1)) 20 (.int .i64 (Int.tmod x1 2))) 21 (.bool (((Int.tmod x1 2) : Int) != 0))) 10 (.bool (((Int.tmod x0 2) : Int) != 0))) 11 (.bool (((Int.tmod x1 2) : Int) != 0))) 22 (.bool (((Int.tmod x0 2) : Int) != 0))) 23 (.bool (((Int.tmod x0 2) : Int) != 0))) 24 (.bool (((Int.tmod x1 2) : Int) != 0))) 25 (.bool (bif ((Int.tmod x0 2) : Int) != 0 then ((Int.tmod x1 2) : Int) != 0 else false))) 26 (.bool (bif ((Int.tmod x0 2) : Int) != 0 then ((Int.tmod x1 2) : Int) != 0 else false))) 27 (.bool x2)) 28 (.bool x2)) 29 (.bool (((Int.tmod x0 2) : Int) != 0))) 30 (.bool (((Int.tmod x0 2) : Int) != 0))) 31 (undef)) 32 (.bool true)) 33 (.bool (bif x2 then true else false))) 34 (.bool (bif bif ((Int.tmod x0 2) : Int) != 0 then ((Int.tmod x1 2) : Int) != 0 else false then true else bif x2 then true else false))) m (thenS (fun σ m => vcS Try.prog w0 qs47 (sub c47 [1, 1, 0, 1, 0, 0, 1, 0, 0, 1, 1]) σ m (blockS 1 (thenS (fun σ m => vcS Try.prog w0 qs47 (sub c47 [1, 1, 0, 1, 0, 0, 1, 1]) σ m (lq47_11010 R x2 I0 E0_0 n0)) (lq47_11010 R x2 I0 E0_0 n0)))) (blockS 1 (thenS (fun σ m => vcS Try.prog w0 qs47 (sub c47 [1, 1, 0, 1, 0, 0, 1, 1]) σ m (lq47_11010 R x2 I0 E0_0 n0)) (lq47_11010 R x2 I0 E0_0 n0))))) (
 vcS Try.prog w0 qs47 (sub c47 [1, 1, 0, 1, 0, 0, 1, 0, 0, 1, 0, 1]) (upd (upd (upd (upd (upd (upd (upd (upd (upd (upd (upd (upd (upd (upd (upd (upd (upd (upd (upd (upd (upd (upd (upd (upd (upd (upd (upd (upd (upd σ 0 (.int .i64 x0)) 1 (.int .i64 x1)) 2 (.bool x2)) 7 (.int .i64 x7)) 8 (.int .i64 x8)) 9 (.int .i64 x9)) 12 (.int .i64 x9)) 13 (.bool (decide ((x9 : Int) < 32)))) 16 (.int .i64 x0)) 17 (.int .i64 (Int.tmod x0 2))) 18 (.bool (((Int.tmod x0 2) : Int) != 0))) 19 (.int .i64 x1)) 20 (.int .i64 (Int.tmod x1 2))) 21 (.bool (((Int.tmod x1 2) : Int) != 0))) 10 (.bool (((Int.tmod x0 2) : Int) != 0))) 11 (.bool (((Int.tmod x1 2) : Int) != 0))) 22 (.bool (((Int.tmod x0 2) : Int) != 0))) 23 (.bool (((Int.tmod x0 2) : Int) != 0))) 24 (.bool (((Int.tmod x1 2) : Int) != 0))) 25 (.bool (bif ((Int.tmod x0 2) : Int) != 0 then ((Int.tmod x1 2) : Int) != 0 else false))) 26 (.bool (bif ((Int.tmod x0 2) : Int) != 0 then ((Int.tmod x1 2) : Int) != 0 else false))) 27 (.bool x2)) 28 (.bool x2)) 29 (.bool (((Int.tmod x0 2) : Int) != 0))) 30 (.bool (((Int.tmod x0 2) : Int) != 0))) 31 (.bool (((Int.tmod x1 2) : Int) != 0))) 32 (.bool (bif ((Int.tmod x0 2) : Int) != 0 then true else ((Int.tmod x1 2) : Int) != 0))) 33 (.bool (bif x2 then bif ((Int.tmod x0 2) : Int) != 0 then true else ((Int.tmod x1 2) : Int) != 0 else false))) 34 (.bool (bif bif ((Int.tmod x0 2) : Int) != 0 then ((Int.tmod x1 2) : Int) != 0 else false then true else bif x2 then bif ((Int.tmod x0 2) : Int) != 0 then true else ((Int.tmod x1 2) : Int) != 0 else false))) m (thenS (fun σ m => vcS Try.prog w0 qs47 (sub c47 [1, 1, 0, 1, 0, 0, 1, 0, 0, 1, 1]) σ m (blockS 1 (thenS (fun σ m => vcS Try.prog w0 qs47 (sub c47 [1, 1, 0, 1, 0, 0, 1, 1]) σ m (lq47_11010 R x2 I0 E0_0 n0)) (lq47_11010 R x2 I0 E0_0 n0)))) (blockS 1 (thenS (fun σ m => vcS Try.prog w0 qs47 (sub c47 [1, 1, 0, 1, 0, 0, 1, 1]) σ m (lq47_11010 R x2 I0 E0_0 n0)) (lq47_11010 R x2 I0 E0_0 n0))))))) (
 x2 = false ∧ vcS Try.prog w0 qs47 (sub c47 [1, 1, 0, 1, 0, 0, 1, 0, 0, 1, 0, 1]) (upd (upd (upd (upd (upd (upd (upd (upd (upd (upd (upd (upd (upd (upd (upd (upd (upd (upd (upd (upd (upd (upd (upd (upd (upd (upd (upd (upd (upd σ 0 (.int .i64 x0)) 1 (.int .i64 x1)) 2 (.bool x2)) 7 (.int .i64 x7)) 8 (.int .i64 x8)) 9 (.int .i64 x9)) 12 (.int .i64 x9)) 13 (.bool (decide ((x9 : Int) < 32)))) 16 (.int .i64 x0)) 17 (.int .i64 (Int.tmod x0 2))) 18 (.bool (((Int.tmod x0 2) : Int) != 0))) 19 (.int .i64 x1)) 20 (.int .i64 (Int.tmod x1 2))) 21 (.bool (((Int.tmod x1 2) : Int) != 0))) 10 (.bool (((Int.tmod x0 2) : Int) != 0))) 11 (.bool (((Int.tmod x1 2) : Int) != 0))) 22 (.bool (((Int.tmod x0 2) : Int) != 0))) 23 (.bool (((Int.tmod x0 2) : Int) != 0))) 24 (.bool (((Int.tmod x1 2) : Int) != 0))) 25 (.bool (bif ((Int.tmod x0 2) : Int) != 0 then ((Int.tmod x1 2) : Int) != 0 else false))) 26 (.bool (bif ((Int.tmod x0 2) : Int) != 0 then ((Int.tmod x1 2) : Int) != 0 else false))) 27 (.bool x2)) 28 (.bool x2)) 29 (undef)) 30 (undef)) 31 (undef)) 32 (undef)) 33 (.bool false)) 34 (.bool (bif bif ((Int.tmod x0 2) : Int) != 0 then ((Int.tmod x1 2) : Int) != 0 else false then true else false))) m (thenS (fun σ m => vcS Try.prog w0 qs47 (sub c47 [1, 1, 0, 1, 0, 0, 1, 0, 0, 1, 1]) σ m (blockS 1 (thenS (fun σ m => vcS Try.prog w0 qs47 (sub c47 [1, 1, 0, 1, 0, 0, 1, 1]) σ m (lq47_11010 R x2 I0 E0_0 n0)) (lq47_11010 R x2 I0 E0_0 n0)))) (blockS 1 (thenS (fun σ m => vcS Try.prog w0 qs47 (sub c47 [1, 1, 0, 1, 0, 0, 1, 1]) σ m (lq47_11010 R x2 I0 E0_0 n0)) (lq47_11010 R x2 I0 E0_0 n0))))))))) (
 (((Int.tmod x0 2) : Int) != 0) = false ∧ (bcase x2 (
 (bcase (((Int.tmod x0 2) : Int) != 0) (
 (((Int.tmod x0 2) : Int) != 0) = true ∧ vcS Try.prog w0 qs47 (sub c47 [1, 1, 0, 1, 0, 0, 1, 0, 0, 1, 0, 1]) (upd (upd (upd (upd (upd (upd (upd (upd (upd (upd (upd (upd (upd (upd (upd (upd (upd (upd (upd (upd (upd (upd (upd (upd (upd (upd (upd (upd (upd σ 0 (.int .i64 x0)) 1 (.int .i64 x1)) 2 (.bool x2)) 7 (.int .i64 x7)) 8 (.int .i64 x8)) 9 (.int .i64 x9)) 12 (.int .i64 x9)) 13 (.bool (decide ((x9 : Int) < 32)))) 16 (.int .i64 x0)) 17 (.int .i64 (Int.tmod x0 2))) 18 (.bool (((Int.tmod x0 2) : Int) != 0))) 19 (.int .i64 x1)) 20 (.int .i64 (Int.tmod x1 2))) 21 (.bool (((Int.tmod x1 2) : Int) != 0))) 10 (.bool (((Int.tmod x0 2) : Int) != 0))) 11 (.bool (((Int.tmod x1 2) : Int) != 0))) 22 (.bool (((Int.tmod x0 2) : Int) != 0))) 23 (.bool (((Int.tmod x0 2) : Int) != 0))) 24 (undef)) 25 (.bool false)) 26 (.bool false)) 27 (.bool x2)) 28 (.bool x2)) 29 (.bool (((Int.tmod x0 2) : Int) != 0))) 30 (.bool (((Int.tmod x0 2) : Int) != 0))) 31 (undef)) 32 (.bool true)) 33 (.bool (bif x2 then true else false))) 34 (.bool (bif false then true else bif x2 then true else false))) m (thenS (fun σ m => vcS Try.prog w0 qs47 (sub c47 [1, 1, 0, 1, 0, 0, 1, 0, 0, 1, 1]) σ m (blockS 1 (thenS (fun σ m => vcS Try.prog w0 qs47 (sub c47 [1, 1, 0, 1, 0, 0, 1, 1]) σ m (lq47_11010 R x2 I0 E0_0 n0)) (lq47_11010 R x2 I0 E0_0 n0)))) (blockS 1 (thenS (fun σ m => vcS Try.prog w0 qs47 (sub c47 [1, 1, 0, 1, 0, 0, 1, 1]) σ m (lq47_11010 R x2 I0 E0_0 n0)) (lq47_11010 R x2 I0 E0_0 n0))))) (
 vcS Try.prog w0 qs47 (sub c47 [1, 1, 0, 1, 0, 0, 1, 0, 0, 1, 0, 1]) (upd (upd (upd (upd (upd (upd (upd (upd (upd (upd (upd (upd (upd (upd (upd (upd (upd (upd (upd (upd (upd (upd (upd (upd (upd (upd (upd (upd (upd σ 0 (.int .i64 x0)) 1 (.int .i64 x1)) 2 (.bool x2)) 7 (.int .i64 x7)) 8 (.int .i64 x8)) 9 (.int .i64 x9)) 12 (.int .i64 x9)) 13 (.bool (decide ((x9 : Int) < 32)))) 16 (.int .i64 x0)) 17 (.int .i64 (Int.tmod x0 2))) 18 (.bool (((Int.tmod x0 2) : Int) != 0))) 19 (.int .i64 x1)) 20 (.int .i64 (Int.tmod x1 2))) 21 (.bool (((Int.tmod x1 2) : Int) != 0))) 10 (.bool (((Int.tmod x0 2) : Int) != 0))) 11 (.bool (((Int.tmod x1 2) : Int) != 0))) 22 (.bool (((Int.tmod x0 2) : Int) != 0))) 23 (.bool (((Int.tmod x0 2) : Int) != 0))) 24 (undef)) 25 (.bool false)) 26 (.bool false)) 27 (.bool x2)) 28 (.bool x2)) 29 (.bool (((Int.tmod x0 2) : Int) != 0))) 30 (.bool (((Int.tmod x0 2) : Int) != 0))) 31 (.bool (((Int.tmod x1 2) : Int) != 0))) 32 (.bool (bif ((Int.tmod x0 2) : Int) != 0 then true else ((Int.tmod x1 2) : Int) != 0))) 33 (.bool (bif x2 then bif ((Int.tmod x0 2) : Int) != 0 then true else ((Int.tmod x1 2) : Int) != 0 else false))) 34 (.bool (bif false then true else bif x2 then bif ((Int.tmod x0 2) : Int) != 0 then true else ((Int.tmod x1 2) : Int) != 0 else false))) m (thenS (fun σ m => vcS Try.prog w0 qs47 (sub c47 [1, 1, 0, 1, 0, 0, 1, 0, 0, 1, 1]) σ m (blockS 1 (thenS (fun σ m => vcS Try.prog w0 qs47 (sub c47 [1, 1, 0, 1, 0, 0, 1, 1]) σ m (lq47_11010 R x2 I0 E0_0 n0)) (lq47_11010 R x2 I0 E0_0 n0)))) (blockS 1 (thenS (fun σ m => vcS Try.prog w0 qs47 (sub c47 [1, 1, 0, 1, 0, 0, 1, 1]) σ m (lq47_11010 R x2 I0 E0_0 n0)) (lq47_11010 R x2 I0 E0_0 n0))))))) (
 x2 = false ∧ vcS Try.prog w0 qs47 (sub c47 [1, 1, 0, 1, 0, 0, 1, 0, 0, 1, 0, 1]) (upd (upd (upd (upd (upd (upd (upd (upd (upd (upd (upd (upd (upd (upd (upd (upd (upd (upd (upd (upd (upd (upd (upd (upd (upd (upd (upd (upd (upd σ 0 (.int .i64 x0)) 1 (.int .i64 x1)) 2 (.bool x2)) 7 (.int .i64 x7)) 8 (.int .i64 x8)) 9 (.int .i64 x9)) 12 (.int .i64 x9)) 13 (.bool (decide ((x9 : Int) < 32)))) 16 (.int .i64 x0)) 17 (.int .i64 (Int.tmod x0 2))) 18 (.bool (((Int.tmod x0 2) : Int) != 0))) 19 (.int .i64 x1)) 20 (.int .i64 (Int.tmod x1 2))) 21 (.bool (((Int.tmod x1 2) : Int) != 0))) 10 (.bool (((Int.tmod x0 2) : Int) != 0))) 11 (.bool (((Int.tmod x1 2) : Int) != 0))) 22 (.bool (((Int.tmod x0 2) : Int) != 0))) 23 (.bool (((Int.tmod x0 2) : Int) != 0))) 24 (undef)) 25 (.bool false)) 26 (.bool false)) 27 (.bool x2)) 28 (.bool x2)) 29 (undef)) 30 (undef)) 31 (undef)) 32 (undef)) 33 (.bool false)) 34 (.bool (bif false then true else false))) m (thenS (fun σ m => vcS Try.prog w0 qs47 (sub c47 [1, 1, 0, 1, 0, 0, 1, 0, 0, 1, 1]) σ m (blockS 1 (thenS (fun σ m => vcS Try.prog w0 qs47 (sub c47 [1, 1, 0, 1, 0, 0, 1, 1]) σ m (lq47_11010 R x2 I0 E0_0 n0)) (lq47_11010 R x2 I0 E0_0 n0)))) (blockS 1 (thenS (fun σ m => vcS Try.prog w0 qs47 (sub c47 [1, 1, 0, 1, 0, 0, 1, 1]) σ m (lq47_11010 R x2 I0 E0_0 n0)) (lq47_11010 R x2 I0 E0_0 n0))))))))) (
 (.bool x2 : Value) = .bool x2 ∧ true = true ∧ E0_0 x7 m))))
 (h_e0 : ∀ (σ : Sg) (x7 : Int) (m : AM), E0_0 x7 m → (
 RetP R (.int .i64 x7) m)) :
 vcS Try.prog w0 qs47 (sub c47 [1, 1, 0, 1, 0]) σ m (blockS 0 (thenS (fun σ m => vcS Try.prog w0 qs47 (sub c47 [1, 1, 1]) σ m (retQ Try.prog Try.f47 R)) (retQ Try.prog Try.f47 R))) := by
  rw [show sub c47 [1, 1, 0, 1, 0] = .loop (sub c47 [1, 1, 0, 1, 0, 0]) from by kernel_rfl]
  refine loopQ (fun n0 σ m => σ 2 = .bool x2 ∧ okI .i64 (σ 0) = true ∧ okI .i64 (σ 1) = true ∧ okI .i64 (σ 7) = true ∧ okI .i64 (σ 8) = true ∧ okI .i64 (σ 9) = true ∧ I0 n0 (vI (σ 0)) (vI (σ 1)) (vI (σ 7)) (vI (σ 8)) (vI (σ 9)) m) N (fun n0 => (lq47_11010 R x2 I0 E0_0 n0)) ⟨h2, (by rw [h0]; rfl), (by rw [h1]; rfl), (by rw [h7]; rfl), (by rw [h8]; rfl), (by rw [h9]; rfl), (by rw [h0, h1, h7, h8, h9]; exact h_0)⟩ ?_ ?_ ?_
  · rintro n0 σ m ⟨kk0, kk1, kk2, kk3, kk4, kk5, n', hlt, hI⟩; exact ⟨n', hlt, kk0, kk1, kk2, kk3, kk4, kk5, hI⟩
  · intro n0 e σ m hne h
    cases e with
    | normal => exact absurd rfl hne
    | ret => exact h
    | exit id =>
      by_cases e0 : id = 0
      · subst e0
        obtain ⟨kk0, kk1, hE⟩ := h
        have es : (upd (upd σ 2 (.bool x2)) 7 (.int .i64 (vI (σ 7)))) = σ := by rw [upd_id kk0, upd_id (ok_int kk1)]
        exact cast (congrArg (fun s => (blockS 0 (thenS (fun σ m => vcS Try.prog w0 qs47 (sub c47 [1, 1, 1]) σ m (retQ Try.prog Try.f47 R)) (retQ Try.prog Try.f47 R))) (.exit 0) s m) es) (cast (by kernel_rfl) (h_e0 σ (vI (σ 7)) m hE))
      · replace h := (if_neg e0 : (if id = 0 then _ else _) = _).mp h
        exact False.elim h
    | _ => exact False.elim h
  · rintro n0 σ m ⟨kk0, kk1, kk2, kk3, kk4, kk5, hI⟩
    have es : (upd (upd (upd (upd (upd (upd σ 0 (.int .i64 (vI (σ 0)))) 1 (.int .i64 (vI (σ 1)))) 2 (.bool x2)) 7 (.int .i64 (vI (σ 7)))) 8 (.int .i64 (vI (σ 8)))) 9 (.int .i64 (vI (σ 9)))) = σ := by rw [upd_id (ok_int kk1), upd_id (ok_int kk2), upd_id kk0, upd_id (ok_int kk3), upd_id (ok_int kk4), upd_id (ok_int kk5)]
    exact cast (congrArg (fun s => vcS Try.prog w0 qs47 (sub c47 [1, 1, 0, 1, 0, 0]) s m (lq47_11010 R x2 I0 E0_0 n0)) es) (cast (by kernel_rfl) (h_s n0 σ (vI (σ 0)) (vI (σ 1)) (vI (σ 7)) (vI (σ 8)) (vI (σ 9)) m hI))
theorem vk47_110100100101 (w0 : World) (m : AM) (σ : Sg) (R : Value → AM → Prop) (n0 : Nat) (I0 : Nat → Int → Int → Int → Int → Int → AM → Prop) (E0_0 : Int → AM → Prop) (x0 : Int) (x1 : Int) (x2 : Bool) (x7 : Int) (x8 : Int) (x9 : Int) (x34 : Bool) (h0 : σ 0 = .int .i64 x0) (h1 : σ 1 = .int .i64 x1) (h2 : σ 2 = .bool x2) (h7 : σ 7 = .int .i64 x7) (h8 : σ 8 = .int .i64 x8) (h9 : σ 9 = .int .i64 x9) (h34 : σ 34 = .bool x34) (h :
 (bcase x34 (
 IntKind.i64 = IntKind.i64 ∧ CallsA Try.prog w0 59 #[.int .i64 x0] m fun r2 m3 =>
 ∃ i1 : Int, r2 = .int .i64 i1 ∧ CallsA Try.prog w0 59 #[.int .i64 x1] m3 fun r5 m6 =>
 ∃ i4 : Int, r5 = .int .i64 i4 ∧ IntKind.i64 = IntKind.i64 ∧ IntKind.i64 = IntKind.i64 ∧ (.bool x2 : Value) = .bool x2 ∧ true = true ∧ true = true ∧ true = true ∧ true = true ∧ true = true ∧ ∃ n' : Nat, n' < n0 ∧ I0 n' i1 i4 (IntKind.wrap .i64 (x7 + x8)) (IntKind.wrap .i64 (x8 * 2)) (IntKind.wrap .i64 (x9 + 1)) m6) (
 CallsA Try.prog w0 59 #[.int .i64 x0] m fun r8 m9 =>
 ∃ i7 : Int, r8 = .int .i64 i7 ∧ CallsA Try.prog w0 59 #[.int .i64 x1] m9 fun r11 m12 =>
 ∃ i10 : Int, r11 = .int .i64 i10 ∧ IntKind.i64 = IntKind.i64 ∧ IntKind.i64 = IntKind.i64 ∧ (.bool x2 : Value) = .bool x2 ∧ true = true ∧ true = true ∧ true = true ∧ true = true ∧ true = true ∧ ∃ n' : Nat, n' < n0 ∧ I0 n' i7 i10 x7 (IntKind.wrap .i64 (x8 * 2)) (IntKind.wrap .i64 (x9 + 1)) m12))) :
 vcS Try.prog w0 qs47 (sub c47 [1, 1, 0, 1, 0, 0, 1, 0, 0, 1, 0, 1]) σ m (thenS (fun σ m => vcS Try.prog w0 qs47 (sub c47 [1, 1, 0, 1, 0, 0, 1, 0, 0, 1, 1]) σ m (blockS 1 (thenS (fun σ m => vcS Try.prog w0 qs47 (sub c47 [1, 1, 0, 1, 0, 0, 1, 1]) σ m (lq47_11010 R x2 I0 E0_0 n0)) (lq47_11010 R x2 I0 E0_0 n0)))) (blockS 1 (thenS (fun σ m => vcS Try.prog w0 qs47 (sub c47 [1, 1, 0, 1, 0, 0, 1, 1]) σ m (lq47_11010 R x2 I0 E0_0 n0)) (lq47_11010 R x2 I0 E0_0 n0)))) := by
  have es0 : (upd (upd (upd (upd (upd (upd (upd σ 0 (.int .i64 x0)) 1 (.int .i64 x1)) 2 (.bool x2)) 7 (.int .i64 x7)) 8 (.int .i64 x8)) 9 (.int .i64 x9)) 34 (.bool x34)) = σ := by rw [upd_id h0, upd_id h1, upd_id h2, upd_id h7, upd_id h8, upd_id h9, upd_id h34]
  exact cast (congrArg (fun s => vcS Try.prog w0 qs47 (sub c47 [1, 1, 0, 1, 0, 0, 1, 0, 0, 1, 0, 1]) s m (thenS (fun σ m => vcS Try.prog w0 qs47 (sub c47 [1, 1, 0, 1, 0, 0, 1, 0, 0, 1, 1]) σ m (blockS 1 (thenS (fun σ m => vcS Try.prog w0 qs47 (sub c47 [1, 1, 0, 1, 0, 0, 1, 1]) σ m (lq47_11010 R x2 I0 E0_0 n0)) (lq47_11010 R x2 I0 E0_0 n0)))) (blockS 1 (thenS (fun σ m => vcS Try.prog w0 qs47 (sub c47 [1, 1, 0, 1, 0, 0, 1, 1]) σ m (lq47_11010 R x2 I0 E0_0 n0)) (lq47_11010 R x2 I0 E0_0 n0))))) es0) (cast (by kernel_rfl) h)

/-! 27 delayslot/delayslotref07.Value -/
def qs27 : Nat → List (Nat × Nat) := fun i => match i with | _ => []
noncomputable def c27 : Code := bodyOf Try.f27
theorem cf27 (w0 : World) (m : AM) (x0_0 : Int) (x0_1 : Int) (x0_2 : Int) (x0_3 : Int) (x0_4 : Int) (x1 : Int) (x2 : Int) (R : Value → AM → Prop) (h :
 ∀ b1 : Nat, w0.heap.size ≤ b1 → m b1 = none → let m2 := AM.upd m b1 (.cells #[.int .i64 x0_0, .int .i64 x0_1, .int .i64 x0_2, .int .i64 x0_3, .int .i64 x0_4] 34);
 ∃ i3 : Int, m2.cell ⟨b1, 0, none⟩ = some (.int .i64 i3) ∧ 
 IntKind.i64 = IntKind.i64 ∧ (bcase ((i3 : Int) == 1) (
 IntKind.i64 = IntKind.i64 ∧ RetP R (.tuple #[.int .i64 (IntKind.wrap .i64 (x1 + x2)), .bool true]) m2) (
 IntKind.i64 = IntKind.i64 ∧ (bcase ((i3 : Int) == 2) (
 IntKind.i64 = IntKind.i64 ∧ RetP R (.tuple #[.int .i64 (IntKind.wrap .i64 (x1 - x2)), .bool true]) m2) (
 IntKind.i64 = IntKind.i64 ∧ (bcase ((i3 : Int) == 3) (
 CallsA Try.prog w0 45 #[.int .i64 x1, .int .i64 x2] m2 fun r5 m6 =>
 ∃ i4 : Int, r5 = .int .i64 i4 ∧ RetP R (.tuple #[.int .i64 i4, .bool true]) m6) (
 IntKind.i64 = IntKind.i64 ∧ (bcase ((i3 : Int) == 4) (
 vcS Try.prog w0 qs27 (sub c27 [1, 0, 1, 0, 1, 1, 1, 1, 1, 1, 1]) (upd (upd (upd (upd (upd (upd (upd (upd (upd (upd (upd (upd (upd (argS [.agg #[.int .i64 x0_0, .int .i64 x0_1, .int .i64 x0_2, .int .i64 x0_3, .int .i64 x0_4], .int .i64 x1, .int .i64 x2]) 3 (.pointer (some ⟨b1, 0, none⟩))) 6 (.int .i64 0)) 7 (.bool false)) 10 (.pointer (some ⟨b1, 0, none⟩))) 11 (.int .i64 i3)) 13 (.bool ((i3 : Int) == 1))) 12 (.bool ((i3 : Int) == 1))) 18 (.bool ((i3 : Int) == 2))) 17 (.bool ((i3 : Int) == 2))) 23 (.bool ((i3 : Int) == 3))) 22 (.bool ((i3 : Int) == 3))) 28 (.bool ((i3 : Int) == 4))) 27 (.bool ((i3 : Int) == 4))) m2 (blockS 0 (thenS (fun σ m => vcS Try.prog w0 qs27 (sub c27 [1, 1]) σ m (retQ Try.prog Try.f27 R)) (retQ Try.prog Try.f27 R)))) (
 IntKind.i64 = IntKind.i64 ∧ vcS Try.prog w0 qs27 (sub c27 [1, 0, 1, 0, 1, 1, 1, 1, 1, 1, 1]) (upd (upd (upd (upd (upd (upd (upd (upd (upd (upd (upd (upd (upd (upd (upd (argS [.agg #[.int .i64 x0_0, .int .i64 x0_1, .int .i64 x0_2, .int .i64 x0_3, .int .i64 x0_4], .int .i64 x1, .int .i64 x2]) 3 (.pointer (some ⟨b1, 0, none⟩))) 6 (.int .i64 0)) 7 (.bool false)) 10 (.pointer (some ⟨b1, 0, none⟩))) 11 (.int .i64 i3)) 13 (.bool ((i3 : Int) == 1))) 12 (.bool ((i3 : Int) == 1))) 18 (.bool ((i3 : Int) == 2))) 17 (.bool ((i3 : Int) == 2))) 23 (.bool ((i3 : Int) == 3))) 22 (.bool ((i3 : Int) == 3))) 28 (.bool ((i3 : Int) == 4))) 27 (.bool ((i3 : Int) == 4))) 29 (.bool ((i3 : Int) == 5))) 27 (.bool ((i3 : Int) == 5))) m2 (blockS 0 (thenS (fun σ m => vcS Try.prog w0 qs27 (sub c27 [1, 1]) σ m (retQ Try.prog Try.f27 R)) (retQ Try.prog Try.f27 R)))))))))))) : CallsA Try.prog w0 27 #[.agg #[.int .i64 x0_0, .int .i64 x0_1, .int .i64 x0_2, .int .i64 x0_3, .int .i64 x0_4], .int .i64 x1, .int .i64 x2] m R :=
  callsA_of (c := c27) (args := [.agg #[.int .i64 x0_0, .int .i64 x0_1, .int .i64 x0_2, .int .i64 x0_3, .int .i64 x0_4], .int .i64 x1, .int .i64 x2]) (by kernel_rfl) Try.func27 (by kernel_rfl) qs27 (by kernel_rfl) (by kernel_rfl) (cast (by kernel_rfl) h)
theorem vk27_10101111111 (w0 : World) (m : AM) (σ : Sg) (R : Value → AM → Prop)  (x1 : Int) (x2 : Int) (x3 : Nat) (x11 : Int) (x27 : Bool) (h1 : σ 1 = .int .i64 x1) (h2 : σ 2 = .int .i64 x2) (h3 : σ 3 = .pointer (some ⟨x3, 0, none⟩)) (h11 : σ 11 = .int .i64 x11) (h27 : σ 27 = .bool x27) (h :
 (bcase x27 (
 IntKind.i64 = IntKind.i64 ∧ (bcase ((x2 : Int) == 0) (
 RetP R (.tuple #[.int .i64 0, .bool false]) m) (
 CallsA Try.prog w0 46 #[.int .i64 x1, .int .i64 x2] m fun r9 m10 =>
 ∃ i7 : Int, ∃ i8 : Int, r9 = .tuple #[.int .i64 i7, .int .i64 i8] ∧ ∃ i13 : Int, m10.cell ⟨x3, 0, none⟩ = some (.int .i64 i13) ∧ 
 IntKind.i64 = IntKind.i64 ∧ (bcase ((i13 : Int) == 5) (
 RetP R (.tuple #[.int .i64 i8, .bool true]) m10) (
 RetP R (.tuple #[.int .i64 i7, .bool true]) m10))))) (
 IntKind.i64 = IntKind.i64 ∧ (bcase ((x11 : Int) == 6) (
 vcS Try.prog w0 qs27 (sub c27 [1, 0, 1, 0, 1, 1, 1, 1, 1, 1, 1, 1, 1]) (upd (upd (upd (upd (upd (upd (upd σ 1 (.int .i64 x1)) 2 (.int .i64 x2)) 3 (.pointer (some ⟨x3, 0, none⟩))) 11 (.int .i64 x11)) 27 (.bool x27)) 44 (.bool ((x11 : Int) == 6))) 43 (.bool ((x11 : Int) == 6))) m (blockS 0 (thenS (fun σ m => vcS Try.prog w0 qs27 (sub c27 [1, 1]) σ m (retQ Try.prog Try.f27 R)) (retQ Try.prog Try.f27 R)))) (
 IntKind.i64 = IntKind.i64 ∧ vcS Try.prog w0 qs27 (sub c27 [1, 0, 1, 0, 1, 1, 1, 1, 1, 1, 1, 1, 1]) (upd (upd (upd (upd (upd (upd (upd (upd (upd σ 1 (.int .i64 x1)) 2 (.int .i64 x2)) 3 (.pointer (some ⟨x3, 0, none⟩))) 11 (.int .i64 x11)) 27 (.bool x27)) 44 (.bool ((x11 : Int) == 6))) 43 (.bool ((x11 : Int) == 6))) 45 (.bool ((x11 : Int) == 7))) 43 (.bool ((x11 : Int) == 7))) m (blockS 0 (thenS (fun σ m => vcS Try.prog w0 qs27 (sub c27 [1, 1]) σ m (retQ Try.prog Try.f27 R)) (retQ Try.prog Try.f27 R)))))))) :
 vcS Try.prog w0 qs27 (sub c27 [1, 0, 1, 0, 1, 1, 1, 1, 1, 1, 1]) σ m (blockS 0 (thenS (fun σ m => vcS Try.prog w0 qs27 (sub c27 [1, 1]) σ m (retQ Try.prog Try.f27 R)) (retQ Try.prog Try.f27 R))) := by
  have es0 : (upd (upd (upd (upd (upd σ 1 (.int .i64 x1)) 2 (.int .i64 x2)) 3 (.pointer (some ⟨x3, 0, none⟩))) 11 (.int .i64 x11)) 27 (.bool x27)) = σ := by rw [upd_id h1, upd_id h2, upd_id h3, upd_id h11, upd_id h27]
  exact cast (congrArg (fun s => vcS Try.prog w0 qs27 (sub c27 [1, 0, 1, 0, 1, 1, 1, 1, 1, 1, 1]) s m (blockS 0 (thenS (fun σ m => vcS Try.prog w0 qs27 (sub c27 [1, 1]) σ m (retQ Try.prog Try.f27 R)) (retQ Try.prog Try.f27 R)))) es0) (cast (by kernel_rfl) h)
theorem vk27_1010111111111 (w0 : World) (m : AM) (σ : Sg) (R : Value → AM → Prop)  (x1 : Int) (x2 : Int) (x3 : Nat) (x11 : Int) (x43 : Bool) (h1 : σ 1 = .int .i64 x1) (h2 : σ 2 = .int .i64 x2) (h3 : σ 3 = .pointer (some ⟨x3, 0, none⟩)) (h11 : σ 11 = .int .i64 x11) (h43 : σ 43 = .bool x43) (h :
 (bcase x43 (
 ∃ i14 : Int, m.cell ⟨x3, 0, none⟩ = some (.int .i64 i14) ∧ 
 IntKind.i64 = IntKind.i64 ∧ CallsA Try.prog w0 47 #[.int .i64 x1, .int .i64 x2, .bool ((i14 : Int) == 7)] m fun r16 m17 =>
 ∃ i15 : Int, r16 = .int .i64 i15 ∧ RetP R (.tuple #[.int .i64 i15, .bool true]) m17) (
 IntKind.i64 = IntKind.i64 ∧ (bcase ((x11 : Int) == 8) (
 (bcase ((x11 : Int) == 8) (
 ∃ i18 : Int, m.cell ⟨x3, 0, none⟩ = some (.int .i64 i18) ∧ 
 IntKind.i64 = IntKind.i64 ∧ (bcase ((i18 : Int) == 8) (
 IntKind.i64 = IntKind.i64 ∧ (bcase (bif (i18 : Int) == 8 then decide ((x1 : Int) < x2) else false) (
 (bif (i18 : Int) == 8 then decide ((x1 : Int) < x2) else false) = true ∧ RetP R (.tuple #[.int .i64 1, .bool true]) m) (
 ∃ i19 : Int, m.cell ⟨x3, 0, none⟩ = some (.int .i64 i19) ∧ 
 IntKind.i64 = IntKind.i64 ∧ (bcase ((i19 : Int) == 9) (
 IntKind.i64 = IntKind.i64 ∧ (bcase (bif bif (i18 : Int) == 8 then decide ((x1 : Int) < x2) else false then true else bif (i19 : Int) == 9 then (x1 : Int) == x2 else false) (
 RetP R (.tuple #[.int .i64 1, .bool true]) m) (
 RetP R (.tuple #[.int .i64 0, .bool true]) m))) (
 ((i19 : Int) == 9) = false ∧ (bcase (bif bif (i18 : Int) == 8 then decide ((x1 : Int) < x2) else false then true else false) (
 RetP R (.tuple #[.int .i64 1, .bool true]) m) (
 RetP R (.tuple #[.int .i64 0, .bool true]) m))))))) (
 ((i18 : Int) == 8) = false ∧ ∃ i20 : Int, m.cell ⟨x3, 0, none⟩ = some (.int .i64 i20) ∧ 
 IntKind.i64 = IntKind.i64 ∧ (bcase ((i20 : Int) == 9) (
 IntKind.i64 = IntKind.i64 ∧ (bcase (bif false then true else bif (i20 : Int) == 9 then (x1 : Int) == x2 else false) (
 RetP R (.tuple #[.int .i64 1, .bool true]) m) (
 RetP R (.tuple #[.int .i64 0, .bool true]) m))) (
 ((i20 : Int) == 9) = false ∧ (bcase (bif false then true else false) (
 RetP R (.tuple #[.int .i64 1, .bool true]) m) (
 RetP R (.tuple #[.int .i64 0, .bool true]) m))))))) (
 IntKind.i64 = IntKind.i64 ∧ (bcase ((x11 : Int) == 10) (
 ∃ i21 : Int, m.cell ⟨x3, 4, none⟩ = some (.int .i64 i21) ∧ 
 IntKind.i64 = IntKind.i64 ∧ RetP R (.tuple #[.int .i64 (IntKind.wrap .i64 (x1 + i21)), .bool true]) m) (
 IntKind.i64 = IntKind.i64 ∧ (bcase ((x11 : Int) == 11) (
 ∃ i22 : Int, m.cell ⟨x3, 4, none⟩ = some (.int .i64 i22) ∧ 
 IntKind.i64 = IntKind.i64 ∧ RetP R (.tuple #[.int .i64 (IntKind.wrap .i64 (65536 * i22)), .bool true]) m) (
 RetP R (.tuple #[.int .i64 0, .bool false]) m))))))) (
 IntKind.i64 = IntKind.i64 ∧ (bcase ((x11 : Int) == 9) (
 ∃ i23 : Int, m.cell ⟨x3, 0, none⟩ = some (.int .i64 i23) ∧ 
 IntKind.i64 = IntKind.i64 ∧ (bcase ((i23 : Int) == 8) (
 IntKind.i64 = IntKind.i64 ∧ (bcase (bif (i23 : Int) == 8 then decide ((x1 : Int) < x2) else false) (
 (bif (i23 : Int) == 8 then decide ((x1 : Int) < x2) else false) = true ∧ RetP R (.tuple #[.int .i64 1, .bool true]) m) (
 ∃ i24 : Int, m.cell ⟨x3, 0, none⟩ = some (.int .i64 i24) ∧ 
 IntKind.i64 = IntKind.i64 ∧ (bcase ((i24 : Int) == 9) (
 IntKind.i64 = IntKind.i64 ∧ (bcase (bif bif (i23 : Int) == 8 then decide ((x1 : Int) < x2) else false then true else bif (i24 : Int) == 9 then (x1 : Int) == x2 else false) (
 RetP R (.tuple #[.int .i64 1, .bool true]) m) (
 RetP R (.tuple #[.int .i64 0, .bool true]) m))) (
 ((i24 : Int) == 9) = false ∧ (bcase (bif bif (i23 : Int) == 8 then decide ((x1 : Int) < x2) else false then true else false) (
 RetP R (.tuple #[.int .i64 1, .bool true]) m) (
 RetP R (.tuple #[.int .i64 0, .bool true]) m))))))) (
 ((i23 : Int) == 8) = false ∧ ∃ i25 : Int, m.cell ⟨x3, 0, none⟩ = some (.int .i64 i25) ∧ 
 IntKind.i64 = IntKind.i64 ∧ (bcase ((i25 : Int) == 9) (
 IntKind.i64 = IntKind.i64 ∧ (bcase (bif false then true else bif (i25 : Int) == 9 then (x1 : Int) == x2 else false) (
 RetP R (.tuple #[.int .i64 1, .bool true]) m) (
 RetP R (.tuple #[.int .i64 0, .bool true]) m))) (
 ((i25 : Int) == 9) = false ∧ (bcase (bif false then true else false) (
 RetP R (.tuple #[.int .i64 1, .bool true]) m) (
 RetP R (.tuple #[.int .i64 0, .bool true]) m))))))) (
 IntKind.i64 = IntKind.i64 ∧ (bcase ((x11 : Int) == 10) (
 ∃ i26 : Int, m.cell ⟨x3, 4, none⟩ = some (.int .i64 i26) ∧ 
 IntKind.i64 = IntKind.i64 ∧ RetP R (.tuple #[.int .i64 (IntKind.wrap .i64 (x1 + i26)), .bool true]) m) (
 IntKind.i64 = IntKind.i64 ∧ (bcase ((x11 : Int) == 11) (
 ∃ i27 : Int, m.cell ⟨x3, 4, none⟩ = some (.int .i64 i27) ∧ 
 IntKind.i64 = IntKind.i64 ∧ RetP R (.tuple #[.int .i64 (IntKind.wrap .i64 (65536 * i27)), .bool true]) m) (
 RetP R (.tuple #[.int .i64 0, .bool false]) m))))))))))) :
 vcS Try.prog w0 qs27 (sub c27 [1, 0, 1, 0, 1, 1, 1, 1, 1, 1, 1, 1, 1]) σ m (blockS 0 (thenS (fun σ m => vcS Try.prog w0 qs27 (sub c27 [1, 1]) σ m (retQ Try.prog Try.f27 R)) (retQ Try.prog Try.f27 R))) := by
  have es0 : (upd (upd (upd (upd (upd σ 1 (.int .i64 x1)) 2 (.int .i64 x2)) 3 (.pointer (some ⟨x3, 0, none⟩))) 11 (.int .i64 x11)) 43 (.bool x43)) = σ := by rw [upd_id h1, upd_id h2, upd_id h3, upd_id h11, upd_id h43]
  exact cast (congrArg (fun s => vcS Try.prog w0 qs27 (sub c27 [1, 0, 1, 0, 1, 1, 1, 1, 1, 1, 1, 1, 1]) s m (blockS 0 (thenS (fun σ m => vcS Try.prog w0 qs27 (sub c27 [1, 1]) σ m (retQ Try.prog Try.f27 R)) (retQ Try.prog Try.f27 R)))) es0) (cast (by kernel_rfl) h)

/-! 53 (*delayslot/delayslotref07.Machine).Effect -/
def qs53 : Nat → List (Nat × Nat) := fun i => match i with | _ => []
noncomputable def c53 : Code := bodyOf Try.f53
theorem cf53 (w0 : World) (m : AM) (x0 : Nat) (x1_0 : Int) (x1_1 : Int) (x1_2 : Int) (x1_3 : Int) (x1_4 : Int) (x2 : Int) (x3 : Int) (x4 : Int) (x5 : Option Addr) (x5n x5c : Nat) (R : Value → AM → Prop) (h :
 ∀ b1 : Nat, w0.heap.size ≤ b1 → m b1 = none → let m2 := AM.upd m b1 (.cells #[.int .i64 x1_0, .int .i64 x1_1, .int .i64 x1_2, .int .i64 x1_3, .int .i64 x1_4] 34);
 ∃ i3 : Int, m2.cell ⟨b1, 4, none⟩ = some (.int .i64 i3) ∧ 
 IntKind.i64 = IntKind.i64 ∧ CallsA Try.prog w0 28 #[.int .i64 (IntKind.wrap .i64 (x3 + i3))] m2 fun r5 m6 =>
 ∃ i4 : Int, r5 = .int .i64 i4 ∧ IntKind.i64 = IntKind.i64 ∧ (bcase (decide ((i4 : Int) ≥ 0)) (
 ∃ (A7 : Option Addr) (n8 c9 : Nat), m6.cell ⟨x0, 1, none⟩ = some (.slice A7 n8 c9) ∧ 
 IntKind.i64 = IntKind.i64 ∧ vcS Try.prog w0 qs53 (sub c53 [1, 1, 1]) (upd (upd (upd (upd (upd (upd (upd (upd (upd (upd (upd (upd (upd (upd (upd (upd (upd (upd (upd (upd (upd (argS [.pointer (some ⟨x0, 0, none⟩), .agg #[.int .i64 x1_0, .int .i64 x1_1, .int .i64 x1_2, .int .i64 x1_3, .int .i64 x1_4], .int .i64 x2, .int .i64 x3, .int .i64 x4, .slice x5 x5n x5c]) 7 (.pointer (some ⟨b1, 0, none⟩))) 12 (.int .i64 0)) 13 (.int .i64 0)) 16 (.int .i64 x3)) 17 (.pointer (some ⟨b1, 4, none⟩))) 18 (.int .i64 i3)) 19 (.int .i64 (IntKind.wrap .i64 (x3 + i3)))) 20 (.int .i64 i4)) 14 (.int .i64 i4)) 21 (.int .i64 i4)) 22 (.bool (decide ((i4 : Int) ≥ 0)))) 23 (.bool (decide ((i4 : Int) ≥ 0)))) 24 (.int .i64 i4)) 25 (.pointer (some ⟨x0, 0, none⟩))) 26 (.pointer (some ⟨x0, 0, none⟩))) 27 (.pointer (some ⟨x0, 1, none⟩))) 28 (.slice A7 n8 c9)) 29 (.int .i64 ((n8 : Nat) : Int))) 30 (.bool (decide ((i4 : Int) < ((n8 : Nat) : Int))))) 31 (.bool (bif decide ((i4 : Int) ≥ 0) then decide ((i4 : Int) < ((n8 : Nat) : Int)) else false))) 15 (.bool (bif decide ((i4 : Int) ≥ 0) then decide ((i4 : Int) < ((n8 : Nat) : Int)) else false))) m6 (retQ Try.prog Try.f53 R)) (
 (decide ((i4 : Int) ≥ 0)) = false ∧ vcS Try.prog w0 qs53 (sub c53 [1, 1, 1]) (upd (upd (upd (upd (upd (upd (upd (upd (upd (upd (upd (upd (upd (upd (upd (upd (upd (upd (upd (upd (upd (argS [.pointer (some ⟨x0, 0, none⟩), .agg #[.int .i64 x1_0, .int .i64 x1_1, .int .i64 x1_2, .int .i64 x1_3, .int .i64 x1_4], .int .i64 x2, .int .i64 x3, .int .i64 x4, .slice x5 x5n x5c]) 7 (.pointer (some ⟨b1, 0, none⟩))) 12 (.int .i64 0)) 13 (.int .i64 0)) 16 (.int .i64 x3)) 17 (.pointer (some ⟨b1, 4, none⟩))) 18 (.int .i64 i3)) 19 (.int .i64 (IntKind.wrap .i64 (x3 + i3)))) 20 (.int .i64 i4)) 14 (.int .i64 i4)) 21 (.int .i64 i4)) 22 (.bool (decide ((i4 : Int) ≥ 0)))) 23 (.bool (decide ((i4 : Int) ≥ 0)))) 24 (undef)) 25 (undef)) 26 (undef)) 27 (undef)) 28 (undef)) 29 (undef)) 30 (undef)) 31 (.bool false)) 15 (.bool false)) m6 (retQ Try.prog Try.f53 R)))) : CallsA Try.prog w0 53 #[.pointer (some ⟨x0, 0, none⟩), .agg #[.int .i64 x1_0, .int .i64 x1_1, .int .i64 x1_2, .int .i64 x1_3, .int .i64 x1_4], .int .i64 x2, .int .i64 x3, .int .i64 x4, .slice x5 x5n x5c] m R :=
  callsA_of (c := c53) (args := [.pointer (some ⟨x0, 0, none⟩), .agg #[.int .i64 x1_0, .int .i64 x1_1, .int .i64 x1_2, .int .i64 x1_3, .int .i64 x1_4], .int .i64 x2, .int .i64 x3, .int .i64 x4, .slice x5 x5n x5c]) (by kernel_rfl) Try.func53 (by kernel_rfl) qs53 (by kernel_rfl) (by kernel_rfl) (cast (by kernel_rfl) h)
theorem vk53_111 (w0 : World) (m : AM) (σ : Sg) (R : Value → AM → Prop)  (x0 : Nat) (x2 : Int) (x4 : Int) (x5 : Option Addr) (x5n x5c : Nat) (x7 : Nat) (x14 : Int) (x15 : Bool) (h0 : σ 0 = .pointer (some ⟨x0, 0, none⟩)) (h2 : σ 2 = .int .i64 x2) (h4 : σ 4 = .int .i64 x4) (h5 : σ 5 = .slice x5 x5n x5c) (h7 : σ 7 = .pointer (some ⟨x7, 0, none⟩)) (h14 : σ 14 = .int .i64 x14) (h15 : σ 15 = .bool x15) (h :
 ∃ i10 : Int, m.cell ⟨x7, 0, none⟩ = some (.int .i64 i10) ∧ 
 IntKind.i64 = IntKind.i64 ∧ (bcase ((i10 : Int) == 12) (
 (bcase (!x15) (
 RetP R (.tuple #[.int .i64 3, .int .i64 0]) m) (
 ∃ (A11 : Option Addr) (n12 c13 : Nat), m.cell ⟨x0, 1, none⟩ = some (.slice A11 n12 c13) ∧ 
 ((0 : Int) ≤ x14 ∧ x14 < ((n12 : Nat) : Int)) ∧ nilO A11 fun a14 =>
 ∃ i15 : Int, m.cell (a14.add ((x14 : Int).toNat * 1)) = some (.int .i64 i15) ∧ 
 RetP R (.tuple #[.int .i64 0, .int .i64 i15]) m))) (
 IntKind.i64 = IntKind.i64 ∧ (bcase ((i10 : Int) == 13) (
 (bcase (!x15) (
 RetP R (.tuple #[.int .i64 3, .int .i64 0]) m) (
 ∃ (A16 : Option Addr) (n17 c18 : Nat), m.cell ⟨x0, 1, none⟩ = some (.slice A16 n17 c18) ∧ 
 ((0 : Int) ≤ x14 ∧ x14 < ((n17 : Nat) : Int)) ∧ nilO A16 fun a19 =>
 StC w0.heap.size m (a19.add ((x14 : Int).toNat * 1)) (.int .i64 x2) fun m20 =>
 RetP R (.tuple #[.int .i64 0, .int .i64 0]) m20))) (
 IntKind.i64 = IntKind.i64 ∧ (bcase ((i10 : Int) == 14) (
 IntKind.i64 = IntKind.i64 ∧ (bcase (decide ((x2 : Int) < 0)) (
 (decide ((x2 : Int) < 0)) = true ∧ ∃ i21 : Int, m.cell ⟨x7, 2, none⟩ = some (.int .i64 i21) ∧ 
 IntKind.i64 = IntKind.i64 ∧ (bcase ((i21 : Int) == 0) (
 RetP R (.tuple #[.int .i64 5, .int .i64 0]) m) (
 ∃ i22 : Int, m.cell ⟨x7, 2, none⟩ = some (.int .i64 i22) ∧ 
 RetP R (.tuple #[.int .i64 i22, .int .i64 0]) m))) (
 ∃ i23 : Int, m.cell ⟨x7, 4, none⟩ = some (.int .i64 i23) ∧ 
 IntKind.i64 = IntKind.i64 ∧ (bcase (bif decide ((x2 : Int) < 0) then true else decide ((x2 : Int) ≥ i23)) (
 ∃ i24 : Int, m.cell ⟨x7, 2, none⟩ = some (.int .i64 i24) ∧ 
 IntKind.i64 = IntKind.i64 ∧ (bcase ((i24 : Int) == 0) (
 RetP R (.tuple #[.int .i64 5, .int .i64 0]) m) (
 ∃ i25 : Int, m.cell ⟨x7, 2, none⟩ = some (.int .i64 i25) ∧ 
 RetP R (.tuple #[.int .i64 i25, .int .i64 0]) m))) (
 RetP R (.tuple #[.int .i64 0, .int .i64 0]) m))))) (
 IntKind.i64 = IntKind.i64 ∧ (bcase ((i10 : Int) == 20) (
 ∃ i26 : Int, m.cell ⟨x7, 4, none⟩ = some (.int .i64 i26) ∧ 
 IntKind.i64 = IntKind.i64 ∧ (bcase ((i26 : Int) == 0) (
 RetP R (.tuple #[.int .i64 1, .int .i64 0]) m) (
 ∃ i27 : Int, m.cell ⟨x7, 4, none⟩ = some (.int .i64 i27) ∧ 
 IntKind.i64 = IntKind.i64 ∧ (bcase ((i27 : Int) == 1) (
 ∃ i28 : Int, m.cell ⟨x0, 3, none⟩ = some (.int .i64 i28) ∧ 
 IntKind.i64 = IntKind.i64 ∧ (bcase (decide ((i28 : Int) ≥ ((x5n : Nat) : Int))) (
 RetP R (.tuple #[.int .i64 6, .int .i64 0]) m) (
 ∃ i29 : Int, m.cell ⟨x0, 3, none⟩ = some (.int .i64 i29) ∧ 
 IntKind.i64 = IntKind.i64 ∧ StC w0.heap.size m ⟨x0, 3, none⟩ (.int .i64 (IntKind.wrap .i64 (i29 + 1))) fun m30 =>
 ∃ i31 : Int, m30.cell ⟨x0, 3, none⟩ = some (.int .i64 i31) ∧ 
 IntKind.i64 = IntKind.i64 ∧ ((0 : Int) ≤ (IntKind.wrap .i64 (i31 - 1)) ∧ (IntKind.wrap .i64 (i31 - 1)) < ((x5n : Nat) : Int)) ∧ nilO x5 fun a32 =>
 ∃ i33 : Int, m30.cell (a32.add ((IntKind.wrap .i64 (i31 - 1) : Int).toNat * 1)) = some (.int .i64 i33) ∧ 
 CallsA Try.prog w0 28 #[.int .i64 i33] m30 fun r35 m36 =>
 ∃ i34 : Int, r35 = .int .i64 i34 ∧ RetP R (.tuple #[.int .i64 0, .int .i64 i34]) m36))) (
 ∃ (A37 : Option Addr) (n38 c39 : Nat), m.cell ⟨x0, 4, none⟩ = some (.slice A37 n38 c39) ∧ 
 IntKind.i64 = IntKind.i64 ∧ (bcase (decide ((((n38 : Nat) : Int) : Int) > 9999)) (
 RetP R (.tuple #[.int .i64 9, .int .i64 0]) m) (
 ∃ (A40 : Option Addr) (n41 c42 : Nat), m.cell ⟨x0, 4, none⟩ = some (.slice A40 n41 c42) ∧ 
 true = true ∧ ∀ b43 : Nat, w0.heap.size ≤ b43 → m b43 = none → let m44 := AM.upd m b43 (.cells #[.int .i64 x4] 3);
 awp Try.prog w0.heap.size (Builtin.append_ #[23, 23] 23 #[.slice A40 n41 c42, .slice (some ⟨b43, 0, none⟩) 1 1]) m44 fun v45 m46 =>
 ∃ (A47 : Option Addr) (n48 c49 : Nat), v45 = .slice A47 n48 c49 ∧ StC w0.heap.size m46 ⟨x0, 4, none⟩ (.slice A47 n48 c49) fun m50 =>
 RetP R (.tuple #[.int .i64 0, .int .i64 0]) m50))))))) (
 RetP R (.tuple #[.int .i64 0, .int .i64 0]) m))))))))) :
 vcS Try.prog w0 qs53 (sub c53 [1, 1, 1]) σ m (retQ Try.prog Try.f53 R) := by
  have es0 : (upd (upd (upd (upd (upd (upd (upd σ 0 (.pointer (some ⟨x0, 0, none⟩))) 2 (.int .i64 x2)) 4 (.int .i64 x4)) 5 (.slice x5 x5n x5c)) 7 (.pointer (some ⟨x7, 0, none⟩))) 14 (.int .i64 x14)) 15 (.bool x15)) = σ := by rw [upd_id h0, upd_id h2, upd_id h4, upd_id h5, upd_id h7, upd_id h14, upd_id h15]
  exact cast (congrArg (fun s => vcS Try.prog w0 qs53 (sub c53 [1, 1, 1]) s m (retQ Try.prog Try.f53 R)) es0) (cast (by kernel_rfl) h)

/-! 38 (*delayslot/delayslotref07.Machine).Step -/
def qs38 : Nat → List (Nat × Nat) := fun i => match i with | _ => []
noncomputable def c38 : Code := bodyOf Try.f38
theorem cf38 (w0 : World) (m : AM) (x0 : Nat) (x1 : Option Addr) (x1n x1c : Nat) (x2 : Option Addr) (x2n x2c : Nat) (R : Value → AM → Prop) (h :
 ∃ i1 : Int, m.cell ⟨x0, 2, none⟩ = some (.int .i64 i1) ∧ 
 IntKind.i64 = IntKind.i64 ∧ (bcase (decide ((i1 : Int) < 0)) (
 (decide ((i1 : Int) < 0)) = true ∧ StC w0.heap.size m ⟨x0, 5, none⟩ (.int .i64 2) fun m2 =>
 RetP R (.tuple #[]) m2) (
 ∃ i3 : Int, m.cell ⟨x0, 2, none⟩ = some (.int .i64 i3) ∧ 
 IntKind.i64 = IntKind.i64 ∧ (bcase (bif decide ((i1 : Int) < 0) then true else decide ((i3 : Int) ≥ ((x1n : Nat) : Int))) (
 StC w0.heap.size m ⟨x0, 5, none⟩ (.int .i64 2) fun m4 =>
 RetP R (.tuple #[]) m4) (
 ∃ i5 : Int, m.cell ⟨x0, 2, none⟩ = some (.int .i64 i5) ∧ 
 ((0 : Int) ≤ i5 ∧ i5 < ((x1n : Nat) : Int)) ∧ nilO x1 fun a6 =>
 ∃ i7 : Int, m.cell (a6.add ((i5 : Int).toNat * 5)) = some (.int .i64 i7) ∧ ∃ i8 : Int, m.cell ((a6.add ((i5 : Int).toNat * 5)).add 1) = some (.int .i64 i8) ∧ ∃ i9 : Int, m.cell ((a6.add ((i5 : Int).toNat * 5)).add 2) = some (.int .i64 i9) ∧ ∃ i10 : Int, m.cell ((a6.add ((i5 : Int).toNat * 5)).add 3) = some (.int .i64 i10) ∧ ∃ i11 : Int, m.cell ((a6.add ((i5 : Int).toNat * 5)).add 4) = some (.int .i64 i11) ∧ 
 ∀ b12 : Nat, w0.heap.size ≤ b12 → m b12 = none → let m13 := AM.upd m b12 (.cells #[.int .i64 0, .int .i64 0, .int .i64 0, .int .i64 0, .int .i64 0] 34);
 StC w0.heap.size m13 ⟨b12, 0, none⟩ (.int .i64 i7) fun m14 =>
 StC w0.heap.size m14 ⟨b12, 1, none⟩ (.int .i64 i8) fun m15 =>
 StC w0.heap.size m15 ⟨b12, 2, none⟩ (.int .i64 i9) fun m16 =>
 StC w0.heap.size m16 ⟨b12, 3, none⟩ (.int .i64 i10) fun m17 =>
 StC w0.heap.size m17 ⟨b12, 4, none⟩ (.int .i64 i11) fun m18 =>
 ∃ i19 : Int, m18.cell ⟨b12, 0, none⟩ = some (.int .i64 i19) ∧ ∃ i20 : Int, m18.cell ⟨b12, 1, none⟩ = some (.int .i64 i20) ∧ ∃ i21 : Int, m18.cell ⟨b12, 2, none⟩ = some (.int .i64 i21) ∧ ∃ i22 : Int, m18.cell ⟨b12, 3, none⟩ = some (.int .i64 i22) ∧ ∃ i23 : Int, m18.cell ⟨b12, 4, none⟩ = some (.int .i64 i23) ∧ 
 CallsA Try.prog w0 26 #[.agg #[.int .i64 i19, .int .i64 i20, .int .i64 i21, .int .i64 i22, .int .i64 i23]] m18 fun r25 m26 =>
 ∃ t24 : Bool, r25 = .bool t24 ∧ (bcase (!t24) (
 StC w0.heap.size m26 ⟨x0, 5, none⟩ (.int .i64 8) fun m27 =>
 RetP R (.tuple #[]) m27) (
 ∃ (A28 : Option Addr) (n29 c30 : Nat), m26.cell ⟨x0, 0, none⟩ = some (.slice A28 n29 c30) ∧ 
 ∃ i31 : Int, m26.cell ⟨b12, 1, none⟩ = some (.int .i64 i31) ∧ 
 ((0 : Int) ≤ i31 ∧ i31 < ((n29 : Nat) : Int)) ∧ nilO A28 fun a32 =>
 ∃ i33 : Int, m26.cell (a32.add ((i31 : Int).toNat * 1)) = some (.int .i64 i33) ∧ 
 ∃ (A34 : Option Addr) (n35 c36 : Nat), m26.cell ⟨x0, 0, none⟩ = some (.slice A34 n35 c36) ∧ 
 ∃ i37 : Int, m26.cell ⟨b12, 2, none⟩ = some (.int .i64 i37) ∧ 
 ((0 : Int) ≤ i37 ∧ i37 < ((n35 : Nat) : Int)) ∧ nilO A34 fun a38 =>
 ∃ i39 : Int, m26.cell (a38.add ((i37 : Int).toNat * 1)) = some (.int .i64 i39) ∧ 
 ∃ (A40 : Option Addr) (n41 c42 : Nat), m26.cell ⟨x0, 0, none⟩ = some (.slice A40 n41 c42) ∧ 
 ∃ i43 : Int, m26.cell ⟨b12, 3, none⟩ = some (.int .i64 i43) ∧ 
 ((0 : Int) ≤ i43 ∧ i43 < ((n41 : Nat) : Int)) ∧ nilO A40 fun a44 =>
 ∃ i45 : Int, m26.cell (a44.add ((i43 : Int).toNat * 1)) = some (.int .i64 i45) ∧ 
 ∃ i46 : Int, m26.cell ⟨x0, 2, none⟩ = some (.int .i64 i46) ∧ 
 IntKind.i64 = IntKind.i64 ∧ ∃ i47 : Int, m26.cell ⟨b12, 0, none⟩ = some (.int .i64 i47) ∧ 
 IntKind.i64 = IntKind.i64 ∧ (bcase ((i47 : Int) == 0) (
 StC w0.heap.size m26 ⟨x0, 2, none⟩ (.int .i64 (IntKind.wrap .i64 (i46 + 1))) fun m48 =>
 RetP R (.tuple #[]) m48) (
 IntKind.i64 = IntKind.i64 ∧ (bcase ((i47 : Int) == 12) (
 vcS Try.prog w0 qs38 (sub c38 [1, 1, 1, 1, 1, 0, 1, 0, 1, 1, 1]) (upd (upd (upd (upd (upd (upd (upd (upd (upd (upd (upd (upd (upd (upd (upd (upd (upd (upd (upd (upd (upd (upd (upd (upd (upd (upd (upd (upd (upd (upd (upd (upd (upd (upd (upd (upd (upd (upd (upd (upd (upd (upd (upd (upd (upd (upd (upd (upd (upd (upd (upd (upd (upd (upd (upd (upd (upd (upd (upd (upd (upd (upd (upd (upd (argS [.pointer (some ⟨x0, 0, none⟩), .slice x1 x1n x1c, .slice x2 x2n x2c]) 15 (.pointer (some ⟨x0, 0, none⟩))) 16 (.pointer (some ⟨x0, 0, none⟩))) 17 (.pointer (some ⟨x0, 2, none⟩))) 18 (.int .i64 i1)) 19 (.bool (decide ((i1 : Int) < 0)))) 20 (.bool (decide ((i1 : Int) < 0)))) 21 (.pointer (some ⟨x0, 0, none⟩))) 22 (.pointer (some ⟨x0, 0, none⟩))) 23 (.pointer (some ⟨x0, 2, none⟩))) 24 (.int .i64 i3)) 25 (.slice x1 x1n x1c)) 26 (.int .i64 ((x1n : Nat) : Int))) 27 (.bool (decide ((i3 : Int) ≥ ((x1n : Nat) : Int))))) 28 (.bool (bif decide ((i1 : Int) < 0) then true else decide ((i3 : Int) ≥ ((x1n : Nat) : Int))))) 32 (.slice x1 x1n x1c)) 33 (.pointer (some ⟨x0, 0, none⟩))) 34 (.pointer (some ⟨x0, 0, none⟩))) 35 (.pointer (some ⟨x0, 2, none⟩))) 36 (.int .i64 i5)) 37 (.pointer (some (a6.add ((i5 : Int).toNat * 5))))) 38 (.agg #[.int .i64 i7, .int .i64 i8, .int .i64 i9, .int .i64 i10, .int .i64 i11])) 6 (.pointer (some ⟨b12, 0, none⟩))) 39 (.agg #[.int .i64 i19, .int .i64 i20, .int .i64 i21, .int .i64 i22, .int .i64 i23])) 40 (.bool t24)) 41 (.bool (!t24))) 45 (.pointer (some ⟨x0, 0, none⟩))) 46 (.pointer (some ⟨x0, 0, none⟩))) 47 (.pointer (some ⟨x0, 0, none⟩))) 48 (.slice A28 n29 c30)) 49 (.pointer (some ⟨b12, 1, none⟩))) 50 (.int .i64 i31)) 51 (.pointer (some (a32.add ((i31 : Int).toNat * 1))))) 52 (.int .i64 i33)) 53 (.pointer (some ⟨x0, 0, none⟩))) 54 (.pointer (some ⟨x0, 0, none⟩))) 55 (.pointer (some ⟨x0, 0, none⟩))) 56 (.slice A34 n35 c36)) 57 (.pointer (some ⟨b12, 2, none⟩))) 58 (.int .i64 i37)) 59 (.pointer (some (a38.add ((i37 : Int).toNat * 1))))) 60 (.int .i64 i39)) 61 (.pointer (some ⟨x0, 0, none⟩))) 62 (.pointer (some ⟨x0, 0, none⟩))) 63 (.pointer (some ⟨x0, 0, none⟩))) 64 (.slice A40 n41 c42)) 65 (.pointer (some ⟨b12, 3, none⟩))) 66 (.int .i64 i43)) 67 (.pointer (some (a44.add ((i43 : Int).toNat * 1))))) 68 (.int .i64 i45)) 7 (.int .i64 i33)) 8 (.int .i64 i39)) 9 (.int .i64 i45)) 69 (.pointer (some ⟨x0, 0, none⟩))) 70 (.pointer (some ⟨x0, 0, none⟩))) 71 (.pointer (some ⟨x0, 2, none⟩))) 72 (.int .i64 i46)) 73 (.int .i64 (IntKind.wrap .i64 (i46 + 1)))) 10 (.int .i64 (IntKind.wrap .i64 (i46 + 1)))) 74 (.pointer (some ⟨b12, 0, none⟩))) 75 (.int .i64 i47)) 94 (.bool ((i47 : Int) == 0))) 93 (.bool ((i47 : Int) == 0))) 96 (.bool ((i47 : Int) == 12))) 95 (.bool ((i47 : Int) == 12))) m26 (blockS 0 (thenS (fun σ m => vcS Try.prog w0 qs38 (sub c38 [1, 1, 1, 1, 1, 1]) σ m (retQ Try.prog Try.f38 R)) (retQ Try.prog Try.f38 R)))) (
 IntKind.i64 = IntKind.i64 ∧ (bcase ((i47 : Int) == 13) (
 vcS Try.prog w0 qs38 (sub c38 [1, 1, 1, 1, 1, 0, 1, 0, 1, 1, 1]) (upd (upd (upd (upd (upd (upd (upd (upd (upd (upd (upd (upd (upd (upd (upd (upd (upd (upd (upd (upd (upd (upd (upd (upd (upd (upd (upd (upd (upd (upd (upd (upd (upd (upd (upd (upd (upd (upd (upd (upd (upd (upd (upd (upd (upd (upd (upd (upd (upd (upd (upd (upd (upd (upd (upd (upd (upd (upd (upd (upd (upd (upd (upd (upd (upd (upd (argS [.pointer (some ⟨x0, 0, none⟩), .slice x1 x1n x1c, .slice x2 x2n x2c]) 15 (.pointer (some ⟨x0, 0, none⟩))) 16 (.pointer (some ⟨x0, 0, none⟩))) 17 (.pointer (some ⟨x0, 2, none⟩))) 18 (.int .i64 i1)) 19 (.bool (decide ((i1 : Int) < 0)))) 20 (.bool (decide ((i1 : Int) < 0)))) 21 (.pointer (some ⟨x0, 0, none⟩))) 22 (.pointer (some ⟨x0, 0, none⟩))) 23 (.pointer (some ⟨x0, 2, none⟩))) 24 (.int .i64 i3)) 25 (.slice x1 x1n x1c)) 26 (.int .i64 ((x1n : Nat) : Int))) 27 (.bool (decide ((i3 : Int) ≥ ((x1n : Nat) : Int))))) 28 (.bool (bif decide ((i1 : Int) < 0) then true else decide ((i3 : Int) ≥ ((x1n : Nat) : Int))))) 32 (.slice x1 x1n x1c)) 33 (.pointer (some ⟨x0, 0, none⟩))) 34 (.pointer (some ⟨x0, 0, none⟩))) 35 (.pointer (some ⟨x0, 2, none⟩))) 36 (.int .i64 i5)) 37 (.pointer (some (a6.add ((i5 : Int).toNat * 5))))) 38 (.agg #[.int .i64 i7, .int .i64 i8, .int .i64 i9, .int .i64 i10, .int .i64 i11])) 6 (.pointer (some ⟨b12, 0, none⟩))) 39 (.agg #[.int .i64 i19, .int .i64 i20, .int .i64 i21, .int .i64 i22, .int .i64 i23])) 40 (.bool t24)) 41 (.bool (!t24))) 45 (.pointer (some ⟨x0, 0, none⟩))) 46 (.pointer (some ⟨x0, 0, none⟩))) 47 (.pointer (some ⟨x0, 0, none⟩))) 48 (.slice A28 n29 c30)) 49 (.pointer (some ⟨b12, 1, none⟩))) 50 (.int .i64 i31)) 51 (.pointer (some (a32.add ((i31 : Int).toNat * 1))))) 52 (.int .i64 i33)) 53 (.pointer (some ⟨x0, 0, none⟩))) 54 (.pointer (some ⟨x0, 0, none⟩))) 55 (.pointer (some ⟨x0, 0, none⟩))) 56 (.slice A34 n35 c36)) 57 (.pointer (some ⟨b12, 2, none⟩))) 58 (.int .i64 i37)) 59 (.pointer (some (a38.add ((i37 : Int).toNat * 1))))) 60 (.int .i64 i39)) 61 (.pointer (some ⟨x0, 0, none⟩))) 62 (.pointer (some ⟨x0, 0, none⟩))) 63 (.pointer (some ⟨x0, 0, none⟩))) 64 (.slice A40 n41 c42)) 65 (.pointer (some ⟨b12, 3, none⟩))) 66 (.int .i64 i43)) 67 (.pointer (some (a44.add ((i43 : Int).toNat * 1))))) 68 (.int .i64 i45)) 7 (.int .i64 i33)) 8 (.int .i64 i39)) 9 (.int .i64 i45)) 69 (.pointer (some ⟨x0, 0, none⟩))) 70 (.pointer (some ⟨x0, 0, none⟩))) 71 (.pointer (some ⟨x0, 2, none⟩))) 72 (.int .i64 i46)) 73 (.int .i64 (IntKind.wrap .i64 (i46 + 1)))) 10 (.int .i64 (IntKind.wrap .i64 (i46 + 1)))) 74 (.pointer (some ⟨b12, 0, none⟩))) 75 (.int .i64 i47)) 94 (.bool ((i47 : Int) == 0))) 93 (.bool ((i47 : Int) == 0))) 96 (.bool ((i47 : Int) == 12))) 95 (.bool ((i47 : Int) == 12))) 97 (.bool ((i47 : Int) == 13))) 95 (.bool ((i47 : Int) == 13))) m26 (blockS 0 (thenS (fun σ m => vcS Try.prog w0 qs38 (sub c38 [1, 1, 1, 1, 1, 1]) σ m (retQ Try.prog Try.f38 R)) (retQ Try.prog Try.f38 R)))) (
 IntKind.i64 = IntKind.i64 ∧ (bcase ((i47 : Int) == 14) (
 vcS Try.prog w0 qs38 (sub c38 [1, 1, 1, 1, 1, 0, 1, 0, 1, 1, 1]) (upd (upd (upd (upd (upd (upd (upd (upd (upd (upd (upd (upd (upd (upd (upd (upd (upd (upd (upd (upd (upd (upd (upd (upd (upd (upd (upd (upd (upd (upd (upd (upd (upd (upd (upd (upd (upd (upd (upd (upd (upd (upd (upd (upd (upd (upd (upd (upd (upd (upd (upd (upd (upd (upd (upd (upd (upd (upd (upd (upd (upd (upd (upd (upd (upd (upd (upd (upd (argS [.pointer (some ⟨x0, 0, none⟩), .slice x1 x1n x1c, .slice x2 x2n x2c]) 15 (.pointer (some ⟨x0, 0, none⟩))) 16 (.pointer (some ⟨x0, 0, none⟩))) 17 (.pointer (some ⟨x0, 2, none⟩))) 18 (.int .i64 i1)) 19 (.bool (decide ((i1 : Int) < 0)))) 20 (.bool (decide ((i1 : Int) < 0)))) 21 (.pointer (some ⟨x0, 0, none⟩))) 22 (.pointer (some ⟨x0, 0, none⟩))) 23 (.pointer (some ⟨x0, 2, none⟩))) 24 (.int .i64 i3)) 25 (.slice x1 x1n x1c)) 26 (.int .i64 ((x1n : Nat) : Int))) 27 (.bool (decide ((i3 : Int) ≥ ((x1n : Nat) : Int))))) 28 (.bool (bif decide ((i1 : Int) < 0) then true else decide ((i3 : Int) ≥ ((x1n : Nat) : Int))))) 32 (.slice x1 x1n x1c)) 33 (.pointer (some ⟨x0, 0, none⟩))) 34 (.pointer (some ⟨x0, 0, none⟩))) 35 (.pointer (some ⟨x0, 2, none⟩))) 36 (.int .i64 i5)) 37 (.pointer (some (a6.add ((i5 : Int).toNat * 5))))) 38 (.agg #[.int .i64 i7, .int .i64 i8, .int .i64 i9, .int .i64 i10, .int .i64 i11])) 6 (.pointer (some ⟨b12, 0, none⟩))) 39 (.agg #[.int .i64 i19, .int .i64 i20, .int .i64 i21, .int .i64 i22, .int .i64 i23])) 40 (.bool t24)) 41 (.bool (!t24))) 45 (.pointer (some ⟨x0, 0, none⟩))) 46 (.pointer (some ⟨x0, 0, none⟩))) 47 (.pointer (some ⟨x0, 0, none⟩))) 48 (.slice A28 n29 c30)) 49 (.pointer (some ⟨b12, 1, none⟩))) 50 (.int .i64 i31)) 51 (.pointer (some (a32.add ((i31 : Int).toNat * 1))))) 52 (.int .i64 i33)) 53 (.pointer (some ⟨x0, 0, none⟩))) 54 (.pointer (some ⟨x0, 0, none⟩))) 55 (.pointer (some ⟨x0, 0, none⟩))) 56 (.slice A34 n35 c36)) 57 (.pointer (some ⟨b12, 2, none⟩))) 58 (.int .i64 i37)) 59 (.pointer (some (a38.add ((i37 : Int).toNat * 1))))) 60 (.int .i64 i39)) 61 (.pointer (some ⟨x0, 0, none⟩))) 62 (.pointer (some ⟨x0, 0, none⟩))) 63 (.pointer (some ⟨x0, 0, none⟩))) 64 (.slice A40 n41 c42)) 65 (.pointer (some ⟨b12, 3, none⟩))) 66 (.int .i64 i43)) 67 (.pointer (some (a44.add ((i43 : Int).toNat * 1))))) 68 (.int .i64 i45)) 7 (.int .i64 i33)) 8 (.int .i64 i39)) 9 (.int .i64 i45)) 69 (.pointer (some ⟨x0, 0, none⟩))) 70 (.pointer (some ⟨x0, 0, none⟩))) 71 (.pointer (some ⟨x0, 2, none⟩))) 72 (.int .i64 i46)) 73 (.int .i64 (IntKind.wrap .i64 (i46 + 1)))) 10 (.int .i64 (IntKind.wrap .i64 (i46 + 1)))) 74 (.pointer (some ⟨b12, 0, none⟩))) 75 (.int .i64 i47)) 94 (.bool ((i47 : Int) == 0))) 93 (.bool ((i47 : Int) == 0))) 96 (.bool ((i47 : Int) == 12))) 95 (.bool ((i47 : Int) == 12))) 97 (.bool ((i47 : Int) == 13))) 95 (.bool ((i47 : Int) == 13))) 98 (.bool ((i47 : Int) == 14))) 95 (.bool ((i47 : Int) == 14))) m26 (blockS 0 (thenS (fun σ m => vcS Try.prog w0 qs38 (sub c38 [1, 1, 1, 1, 1, 1]) σ m (retQ Try.prog Try.f38 R)) (retQ Try.prog Try.f38 R)))) (
 IntKind.i64 = IntKind.i64 ∧ vcS Try.prog w0 qs38 (sub c38 [1, 1, 1, 1, 1, 0, 1, 0, 1, 1, 1]) (upd (upd (upd (upd (upd (upd (upd (upd (upd (upd (upd (upd (upd (upd (upd (upd (upd (upd (upd (upd (upd (upd (upd (upd (upd (upd (upd (upd (upd (upd (upd (upd (upd (upd (upd (upd (upd (upd (upd (upd (upd (upd (upd (upd (upd (upd (upd (upd (upd (upd (upd (upd (upd (upd (upd (upd (upd (upd (upd (upd (upd (upd (upd (upd (upd (upd (upd (upd (upd (upd (argS [.pointer (some ⟨x0, 0, none⟩), .slice x1 x1n x1c, .slice x2 x2n x2c]) 15 (.pointer (some ⟨x0, 0, none⟩))) 16 (.pointer (some ⟨x0, 0, none⟩))) 17 (.pointer (some ⟨x0, 2, none⟩))) 18 (.int .i64 i1)) 19 (.bool (decide ((i1 : Int) < 0)))) 20 (.bool (decide ((i1 : Int) < 0)))) 21 (.pointer (some ⟨x0, 0, none⟩))) 22 (.pointer (some ⟨x0, 0, none⟩))) 23 (.pointer (some ⟨x0, 2, none⟩))) 24 (.int .i64 i3)) 25 (.slice x1 x1n x1c)) 26 (.int .i64 ((x1n : Nat) : Int))) 27 (.bool (decide ((i3 : Int) ≥ ((x1n : Nat) : Int))))) 28 (.bool (bif decide ((i1 : Int) < 0) then true else decide ((i3 : Int) ≥ ((x1n : Nat) : Int))))) 32 (.slice x1 x1n x1c)) 33 (.pointer (some ⟨x0, 0, none⟩))) 34 (.pointer (some ⟨x0, 0, none⟩))) 35 (.pointer (some ⟨x0, 2, none⟩))) 36 (.int .i64 i5)) 37 (.pointer (some (a6.add ((i5 : Int).toNat * 5))))) 38 (.agg #[.int .i64 i7, .int .i64 i8, .int .i64 i9, .int .i64 i10, .int .i64 i11])) 6 (.pointer (some ⟨b12, 0, none⟩))) 39 (.agg #[.int .i64 i19, .int .i64 i20, .int .i64 i21, .int .i64 i22, .int .i64 i23])) 40 (.bool t24)) 41 (.bool (!t24))) 45 (.pointer (some ⟨x0, 0, none⟩))) 46 (.pointer (some ⟨x0, 0, none⟩))) 47 (.pointer (some ⟨x0, 0, none⟩))) 48 (.slice A28 n29 c30)) 49 (.pointer (some ⟨b12, 1, none⟩))) 50 (.int .i64 i31)) 51 (.pointer (some (a32.add ((i31 : Int).toNat * 1))))) 52 (.int .i64 i33)) 53 (.pointer (some ⟨x0, 0, none⟩))) 54 (.pointer (some ⟨x0, 0, none⟩))) 55 (.pointer (some ⟨x0, 0, none⟩))) 56 (.slice A34 n35 c36)) 57 (.pointer (some ⟨b12, 2, none⟩))) 58 (.int .i64 i37)) 59 (.pointer (some (a38.add ((i37 : Int).toNat * 1))))) 60 (.int .i64 i39)) 61 (.pointer (some ⟨x0, 0, none⟩))) 62 (.pointer (some ⟨x0, 0, none⟩))) 63 (.pointer (some ⟨x0, 0, none⟩))) 64 (.slice A40 n41 c42)) 65 (.pointer (some ⟨b12, 3, none⟩))) 66 (.int .i64 i43)) 67 (.pointer (some (a44.add ((i43 : Int).toNat * 1))))) 68 (.int .i64 i45)) 7 (.int .i64 i33)) 8 (.int .i64 i39)) 9 (.int .i64 i45)) 69 (.pointer (some ⟨x0, 0, none⟩))) 70 (.pointer (some ⟨x0, 0, none⟩))) 71 (.pointer (some ⟨x0, 2, none⟩))) 72 (.int .i64 i46)) 73 (.int .i64 (IntKind.wrap .i64 (i46 + 1)))) 10 (.int .i64 (IntKind.wrap .i64 (i46 + 1)))) 74 (.pointer (some ⟨b12, 0, none⟩))) 75 (.int .i64 i47)) 94 (.bool ((i47 : Int) == 0))) 93 (.bool ((i47 : Int) == 0))) 96 (.bool ((i47 : Int) == 12))) 95 (.bool ((i47 : Int) == 12))) 97 (.bool ((i47 : Int) == 13))) 95 (.bool ((i47 : Int) == 13))) 98 (.bool ((i47 : Int) == 14))) 95 (.bool ((i47 : Int) == 14))) 99 (.bool ((i47 : Int) == 20))) 95 (.bool ((i47 : Int) == 20))) m26 (blockS 0 (thenS (fun σ m => vcS Try.prog w0 qs38 (sub c38 [1, 1, 1, 1, 1, 1]) σ m (retQ Try.prog Try.f38 R)) (retQ Try.prog Try.f38 R)))))))))))))))))) : CallsA Try.prog w0 38 #[.pointer (some ⟨x0, 0, none⟩), .slice x1 x1n x1c, .slice x2 x2n x2c] m R :=
  callsA_of (c := c38) (args := [.pointer (some ⟨x0, 0, none⟩), .slice x1 x1n x1c, .slice x2 x2n x2c]) (by kernel_rfl) Try.func38 (by kernel_rfl) qs38 (by kernel_rfl) (by kernel_rfl) (cast (by kernel_rfl) h)
theorem vk38_11111010111 (w0 : World) (m : AM) (σ : Sg) (R : Value → AM → Prop)  (x0 : Nat) (x2 : Option Addr) (x2n x2c : Nat) (x6 : Nat) (x7 : Int) (x8 : Int) (x9 : Int) (x10 : Int) (x75 : Int) (x95 : Bool) (h0 : σ 0 = .pointer (some ⟨x0, 0, none⟩)) (h2 : σ 2 = .slice x2 x2n x2c) (h6 : σ 6 = .pointer (some ⟨x6, 0, none⟩)) (h7 : σ 7 = .int .i64 x7) (h8 : σ 8 = .int .i64 x8) (h9 : σ 9 = .int .i64 x9) (h10 : σ 10 = .int .i64 x10) (h75 : σ 75 = .int .i64 x75) (h95 : σ 95 = .bool x95) (h :
 (bcase x95 (
 ∃ i49 : Int, m.cell ⟨x6, 0, none⟩ = some (.int .i64 i49) ∧ ∃ i50 : Int, m.cell ⟨x6, 1, none⟩ = some (.int .i64 i50) ∧ ∃ i51 : Int, m.cell ⟨x6, 2, none⟩ = some (.int .i64 i51) ∧ ∃ i52 : Int, m.cell ⟨x6, 3, none⟩ = some (.int .i64 i52) ∧ ∃ i53 : Int, m.cell ⟨x6, 4, none⟩ = some (.int .i64 i53) ∧ 
 ∃ (A54 : Option Addr) (n55 c56 : Nat), m.cell ⟨x0, 0, none⟩ = some (.slice A54 n55 c56) ∧ 
 ((0 : Int) ≤ 4 ∧ 4 < ((n55 : Nat) : Int)) ∧ nilO A54 fun a57 =>
 ∃ i58 : Int, m.cell (a57.add (4)) = some (.int .i64 i58) ∧ 
 CallsA Try.prog w0 53 #[.pointer (some ⟨x0, 0, none⟩), .agg #[.int .i64 i49, .int .i64 i50, .int .i64 i51, .int .i64 i52, .int .i64 i53], .int .i64 x7, .int .i64 x8, .int .i64 i58, .slice x2 x2n x2c] m fun r61 m62 =>
 ∃ i59 : Int, ∃ i60 : Int, r61 = .tuple #[.int .i64 i59, .int .i64 i60] ∧ StC w0.heap.size m62 ⟨x0, 5, none⟩ (.int .i64 i59) fun m65 =>
 IntKind.i64 = IntKind.i64 ∧ (bcase ((i59 : Int) == 0) (
 ∃ i66 : Int, m65.cell ⟨x6, 0, none⟩ = some (.int .i64 i66) ∧ 
 IntKind.i64 = IntKind.i64 ∧ (bcase (bif (i59 : Int) == 0 then (i66 : Int) == 12 else false) (
 ∃ i67 : Int, m65.cell ⟨x6, 1, none⟩ = some (.int .i64 i67) ∧ 
 CallsA Try.prog w0 54 #[.pointer (some ⟨x0, 0, none⟩), .int .i64 i67, .int .i64 i60] m65 fun r68 m69 =>
 r68 = .tuple #[] ∧ IntKind.i64 = IntKind.i64 ∧ (bcase ((i59 : Int) == 0) (
 ∃ i70 : Int, m69.cell ⟨x6, 0, none⟩ = some (.int .i64 i70) ∧ 
 IntKind.i64 = IntKind.i64 ∧ (bcase (bif (i59 : Int) == 0 then (i70 : Int) == 20 else false) (
 ∃ i71 : Int, m69.cell ⟨x6, 4, none⟩ = some (.int .i64 i71) ∧ 
 IntKind.i64 = IntKind.i64 ∧ (bcase (bif bif (i59 : Int) == 0 then (i70 : Int) == 20 else false then (i71 : Int) == 1 else false) (
 CallsA Try.prog w0 54 #[.pointer (some ⟨x0, 0, none⟩), .int .i64 4, .int .i64 i60] m69 fun r72 m73 =>
 r72 = .tuple #[] ∧ StC w0.heap.size m73 ⟨x0, 2, none⟩ (.int .i64 x10) fun m74 =>
 RetP R (.tuple #[]) m74) (
 StC w0.heap.size m69 ⟨x0, 2, none⟩ (.int .i64 x10) fun m75 =>
 RetP R (.tuple #[]) m75))) (
 (bif (i59 : Int) == 0 then (i70 : Int) == 20 else false) = false ∧ StC w0.heap.size m69 ⟨x0, 2, none⟩ (.int .i64 x10) fun m76 =>
 RetP R (.tuple #[]) m76))) (
 ((i59 : Int) == 0) = false ∧ false = false ∧ StC w0.heap.size m69 ⟨x0, 2, none⟩ (.int .i64 x10) fun m77 =>
 RetP R (.tuple #[]) m77))) (
 IntKind.i64 = IntKind.i64 ∧ (bcase ((i59 : Int) == 0) (
 ∃ i78 : Int, m65.cell ⟨x6, 0, none⟩ = some (.int .i64 i78) ∧ 
 IntKind.i64 = IntKind.i64 ∧ (bcase (bif (i59 : Int) == 0 then (i78 : Int) == 20 else false) (
 ∃ i79 : Int, m65.cell ⟨x6, 4, none⟩ = some (.int .i64 i79) ∧ 
 IntKind.i64 = IntKind.i64 ∧ (bcase (bif bif (i59 : Int) == 0 then (i78 : Int) == 20 else false then (i79 : Int) == 1 else false) (
 CallsA Try.prog w0 54 #[.pointer (some ⟨x0, 0, none⟩), .int .i64 4, .int .i64 i60] m65 fun r80 m81 =>
 r80 = .tuple #[] ∧ StC w0.heap.size m81 ⟨x0, 2, none⟩ (.int .i64 x10) fun m82 =>
 RetP R (.tuple #[]) m82) (
 StC w0.heap.size m65 ⟨x0, 2, none⟩ (.int .i64 x10) fun m83 =>
 RetP R (.tuple #[]) m83))) (
 (bif (i59 : Int) == 0 then (i78 : Int) == 20 else false) = false ∧ StC w0.heap.size m65 ⟨x0, 2, none⟩ (.int .i64 x10) fun m84 =>
 RetP R (.tuple #[]) m84))) (
 ((i59 : Int) == 0) = false ∧ false = false ∧ StC w0.heap.size m65 ⟨x0, 2, none⟩ (.int .i64 x10) fun m85 =>
 RetP R (.tuple #[]) m85))))) (
 ((i59 : Int) == 0) = false ∧ IntKind.i64 = IntKind.i64 ∧ (bcase ((i59 : Int) == 0) (
 ∃ i86 : Int, m65.cell ⟨x6, 0, none⟩ = some (.int .i64 i86) ∧ 
 IntKind.i64 = IntKind.i64 ∧ (bcase (bif (i59 : Int) == 0 then (i86 : Int) == 20 else false) (
 ∃ i87 : Int, m65.cell ⟨x6, 4, none⟩ = some (.int .i64 i87) ∧ 
 IntKind.i64 = IntKind.i64 ∧ (bcase (bif bif (i59 : Int) == 0 then (i86 : Int) == 20 else false then (i87 : Int) == 1 else false) (
 CallsA Try.prog w0 54 #[.pointer (some ⟨x0, 0, none⟩), .int .i64 4, .int .i64 i60] m65 fun r88 m89 =>
 r88 = .tuple #[] ∧ StC w0.heap.size m89 ⟨x0, 2, none⟩ (.int .i64 x10) fun m90 =>
 RetP R (.tuple #[]) m90) (
 StC w0.heap.size m65 ⟨x0, 2, none⟩ (.int .i64 x10) fun m91 =>
 RetP R (.tuple #[]) m91))) (
 (bif (i59 : Int) == 0 then (i86 : Int) == 20 else false) = false ∧ StC w0.heap.size m65 ⟨x0, 2, none⟩ (.int .i64 x10) fun m92 =>
 RetP R (.tuple #[]) m92))) (
 ((i59 : Int) == 0) = false ∧ false = false ∧ StC w0.heap.size m65 ⟨x0, 2, none⟩ (.int .i64 x10) fun m93 =>
 RetP R (.tuple #[]) m93))))) (
 IntKind.i64 = IntKind.i64 ∧ (bcase ((x75 : Int) == 15) (
 vcS Try.prog w0 qs38 (sub c38 [1, 1, 1, 1, 1, 0, 1, 0, 1, 1, 1, 1, 1]) (upd (upd (upd (upd (upd (upd (upd (upd (upd (upd (upd σ 0 (.pointer (some ⟨x0, 0, none⟩))) 2 (.slice x2 x2n x2c)) 6 (.pointer (some ⟨x6, 0, none⟩))) 7 (.int .i64 x7)) 8 (.int .i64 x8)) 9 (.int .i64 x9)) 10 (.int .i64 x10)) 75 (.int .i64 x75)) 95 (.bool x95)) 147 (.bool ((x75 : Int) == 15))) 146 (.bool ((x75 : Int) == 15))) m (blockS 0 (thenS (fun σ m => vcS Try.prog w0 qs38 (sub c38 [1, 1, 1, 1, 1, 1]) σ m (retQ Try.prog Try.f38 R)) (retQ Try.prog Try.f38 R)))) (
 IntKind.i64 = IntKind.i64 ∧ vcS Try.prog w0 qs38 (sub c38 [1, 1, 1, 1, 1, 0, 1, 0, 1, 1, 1, 1, 1]) (upd (upd (upd (upd (upd (upd (upd (upd (upd (upd (upd (upd (upd σ 0 (.pointer (some ⟨x0, 0, none⟩))) 2 (.slice x2 x2n x2c)) 6 (.pointer (some ⟨x6, 0, none⟩))) 7 (.int .i64 x7)) 8 (.int .i64 x8)) 9 (.int .i64 x9)) 10 (.int .i64 x10)) 75 (.int .i64 x75)) 95 (.bool x95)) 147 (.bool ((x75 : Int) == 15))) 146 (.bool ((x75 : Int) == 15))) 148 (.bool ((x75 : Int) == 16))) 146 (.bool ((x75 : Int) == 16))) m (blockS 0 (thenS (fun σ m => vcS Try.prog w0 qs38 (sub c38 [1, 1, 1, 1, 1, 1]) σ m (retQ Try.prog Try.f38 R)) (retQ Try.prog Try.f38 R)))))))) :
 vcS Try.prog w0 qs38 (sub c38 [1, 1, 1, 1, 1, 0, 1, 0, 1, 1, 1]) σ m (blockS 0 (thenS (fun σ m => vcS Try.prog w0 qs38 (sub c38 [1, 1, 1, 1, 1, 1]) σ m (retQ Try.prog Try.f38 R)) (retQ Try.prog Try.f38 R))) := by
  have es0 : (upd (upd (upd (upd (upd (upd (upd (upd (upd σ 0 (.pointer (some ⟨x0, 0, none⟩))) 2 (.slice x2 x2n x2c)) 6 (.pointer (some ⟨x6, 0, none⟩))) 7 (.int .i64 x7)) 8 (.int .i64 x8)) 9 (.int .i64 x9)) 10 (.int .i64 x10)) 75 (.int .i64 x75)) 95 (.bool x95)) = σ := by rw [upd_id h0, upd_id h2, upd_id h6, upd_id h7, upd_id h8, upd_id h9, upd_id h10, upd_id h75, upd_id h95]
  exact cast (congrArg (fun s => vcS Try.prog w0 qs38 (sub c38 [1, 1, 1, 1, 1, 0, 1, 0, 1, 1, 1]) s m (blockS 0 (thenS (fun σ m => vcS Try.prog w0 qs38 (sub c38 [1, 1, 1, 1, 1, 1]) σ m (retQ Try.prog Try.f38 R)) (retQ Try.prog Try.f38 R)))) es0) (cast (by kernel_rfl) h)
theorem vk38_1111101011111 (w0 : World) (m : AM) (σ : Sg) (R : Value → AM → Prop)  (x0 : Nat) (x6 : Nat) (x7 : Int) (x8 : Int) (x9 : Int) (x10 : Int) (x75 : Int) (x146 : Bool) (h0 : σ 0 = .pointer (some ⟨x0, 0, none⟩)) (h6 : σ 6 = .pointer (some ⟨x6, 0, none⟩)) (h7 : σ 7 = .int .i64 x7) (h8 : σ 8 = .int .i64 x8) (h9 : σ 9 = .int .i64 x9) (h10 : σ 10 = .int .i64 x10) (h75 : σ 75 = .int .i64 x75) (h146 : σ 146 = .bool x146) (h :
 (bcase x146 (
 IntKind.i64 = IntKind.i64 ∧ (bcase ((x7 : Int) == x8) (
 ∃ i94 : Int, m.cell ⟨x6, 0, none⟩ = some (.int .i64 i94) ∧ 
 IntKind.i64 = IntKind.i64 ∧ (bcase (bif (x7 : Int) == x8 then (i94 : Int) == 15 else false) (
 (bif (x7 : Int) == x8 then (i94 : Int) == 15 else false) = true ∧ ∃ i95 : Int, m.cell ⟨x6, 4, none⟩ = some (.int .i64 i95) ∧ 
 IntKind.i64 = IntKind.i64 ∧ StC w0.heap.size m ⟨x0, 2, none⟩ (.int .i64 (IntKind.wrap .i64 (x10 + i95))) fun m96 =>
 RetP R (.tuple #[]) m96) (
 IntKind.i64 = IntKind.i64 ∧ (bcase ((x7 : Int) != x8) (
 ∃ i97 : Int, m.cell ⟨x6, 0, none⟩ = some (.int .i64 i97) ∧ 
 IntKind.i64 = IntKind.i64 ∧ (bcase (bif bif (x7 : Int) == x8 then (i94 : Int) == 15 else false then true else bif (x7 : Int) != x8 then (i97 : Int) == 16 else false) (
 ∃ i98 : Int, m.cell ⟨x6, 4, none⟩ = some (.int .i64 i98) ∧ 
 IntKind.i64 = IntKind.i64 ∧ StC w0.heap.size m ⟨x0, 2, none⟩ (.int .i64 (IntKind.wrap .i64 (x10 + i98))) fun m99 =>
 RetP R (.tuple #[]) m99) (
 StC w0.heap.size m ⟨x0, 2, none⟩ (.int .i64 x10) fun m100 =>
 RetP R (.tuple #[]) m100))) (
 ((x7 : Int) != x8) = false ∧ (bcase (bif bif (x7 : Int) == x8 then (i94 : Int) == 15 else false then true else false) (
 ∃ i101 : Int, m.cell ⟨x6, 4, none⟩ = some (.int .i64 i101) ∧ 
 IntKind.i64 = IntKind.i64 ∧ StC w0.heap.size m ⟨x0, 2, none⟩ (.int .i64 (IntKind.wrap .i64 (x10 + i101))) fun m102 =>
 RetP R (.tuple #[]) m102) (
 StC w0.heap.size m ⟨x0, 2, none⟩ (.int .i64 x10) fun m103 =>
 RetP R (.tuple #[]) m103))))))) (
 ((x7 : Int) == x8) = false ∧ IntKind.i64 = IntKind.i64 ∧ (bcase ((x7 : Int) != x8) (
 ∃ i104 : Int, m.cell ⟨x6, 0, none⟩ = some (.int .i64 i104) ∧ 
 IntKind.i64 = IntKind.i64 ∧ (bcase (bif false then true else bif (x7 : Int) != x8 then (i104 : Int) == 16 else false) (
 ∃ i105 : Int, m.cell ⟨x6, 4, none⟩ = some (.int .i64 i105) ∧ 
 IntKind.i64 = IntKind.i64 ∧ StC w0.heap.size m ⟨x0, 2, none⟩ (.int .i64 (IntKind.wrap .i64 (x10 + i105))) fun m106 =>
 RetP R (.tuple #[]) m106) (
 StC w0.heap.size m ⟨x0, 2, none⟩ (.int .i64 x10) fun m107 =>
 RetP R (.tuple #[]) m107))) (
 ((x7 : Int) != x8) = false ∧ (bcase (bif false then true else false) (
 ∃ i108 : Int, m.cell ⟨x6, 4, none⟩ = some (.int .i64 i108) ∧ 
 IntKind.i64 = IntKind.i64 ∧ StC w0.heap.size m ⟨x0, 2, none⟩ (.int .i64 (IntKind.wrap .i64 (x10 + i108))) fun m109 =>
 RetP R (.tuple #[]) m109) (
 StC w0.heap.size m ⟨x0, 2, none⟩ (.int .i64 x10) fun m110 =>
 RetP R (.tuple #[]) m110))))))) (
 IntKind.i64 = IntKind.i64 ∧ (bcase ((x75 : Int) == 17) (
 (bcase ((x75 : Int) == 17) (
 ∃ i111 : Int, m.cell ⟨x6, 0, none⟩ = some (.int .i64 i111) ∧ 
 IntKind.i64 = IntKind.i64 ∧ (bcase ((i111 : Int) == 18) (
 CallsA Try.prog w0 54 #[.pointer (some ⟨x0, 0, none⟩), .int .i64 31, .int .i64 x10] m fun r112 m113 =>
 r112 = .tuple #[] ∧ ∃ i114 : Int, m113.cell ⟨x6, 4, none⟩ = some (.int .i64 i114) ∧ 
 StC w0.heap.size m113 ⟨x0, 2, none⟩ (.int .i64 i114) fun m115 =>
 RetP R (.tuple #[]) m115) (
 ∃ i116 : Int, m.cell ⟨x6, 4, none⟩ = some (.int .i64 i116) ∧ 
 StC w0.heap.size m ⟨x0, 2, none⟩ (.int .i64 i116) fun m117 =>
 RetP R (.tuple #[]) m117))) (
 IntKind.i64 = IntKind.i64 ∧ (bcase ((x75 : Int) == 19) (
 StC w0.heap.size m ⟨x0, 2, none⟩ (.int .i64 x7) fun m118 =>
 RetP R (.tuple #[]) m118) (
 ∃ i119 : Int, m.cell ⟨x6, 0, none⟩ = some (.int .i64 i119) ∧ ∃ i120 : Int, m.cell ⟨x6, 1, none⟩ = some (.int .i64 i120) ∧ ∃ i121 : Int, m.cell ⟨x6, 2, none⟩ = some (.int .i64 i121) ∧ ∃ i122 : Int, m.cell ⟨x6, 3, none⟩ = some (.int .i64 i122) ∧ ∃ i123 : Int, m.cell ⟨x6, 4, none⟩ = some (.int .i64 i123) ∧ 
 CallsA Try.prog w0 27 #[.agg #[.int .i64 i119, .int .i64 i120, .int .i64 i121, .int .i64 i122, .int .i64 i123], .int .i64 x8, .int .i64 x9] m fun r126 m127 =>
 ∃ i124 : Int, ∃ t125 : Bool, r126 = .tuple #[.int .i64 i124, .bool t125] ∧ (bcase (!t125) (
 StC w0.heap.size m127 ⟨x0, 5, none⟩ (.int .i64 4) fun m130 =>
 RetP R (.tuple #[]) m130) (
 ∃ i131 : Int, m127.cell ⟨x6, 1, none⟩ = some (.int .i64 i131) ∧ 
 CallsA Try.prog w0 54 #[.pointer (some ⟨x0, 0, none⟩), .int .i64 i131, .int .i64 i124] m127 fun r132 m133 =>
 r132 = .tuple #[] ∧ StC w0.heap.size m133 ⟨x0, 2, none⟩ (.int .i64 x10) fun m134 =>
 RetP R (.tuple #[]) m134))))))) (
 IntKind.i64 = IntKind.i64 ∧ (bcase ((x75 : Int) == 18) (
 ∃ i135 : Int, m.cell ⟨x6, 0, none⟩ = some (.int .i64 i135) ∧ 
 IntKind.i64 = IntKind.i64 ∧ (bcase ((i135 : Int) == 18) (
 CallsA Try.prog w0 54 #[.pointer (some ⟨x0, 0, none⟩), .int .i64 31, .int .i64 x10] m fun r136 m137 =>
 r136 = .tuple #[] ∧ ∃ i138 : Int, m137.cell ⟨x6, 4, none⟩ = some (.int .i64 i138) ∧ 
 StC w0.heap.size m137 ⟨x0, 2, none⟩ (.int .i64 i138) fun m139 =>
 RetP R (.tuple #[]) m139) (
 ∃ i140 : Int, m.cell ⟨x6, 4, none⟩ = some (.int .i64 i140) ∧ 
 StC w0.heap.size m ⟨x0, 2, none⟩ (.int .i64 i140) fun m141 =>
 RetP R (.tuple #[]) m141))) (
 IntKind.i64 = IntKind.i64 ∧ (bcase ((x75 : Int) == 19) (
 StC w0.heap.size m ⟨x0, 2, none⟩ (.int .i64 x7) fun m142 =>
 RetP R (.tuple #[]) m142) (
 ∃ i143 : Int, m.cell ⟨x6, 0, none⟩ = some (.int .i64 i143) ∧ ∃ i144 : Int, m.cell ⟨x6, 1, none⟩ = some (.int .i64 i144) ∧ ∃ i145 : Int, m.cell ⟨x6, 2, none⟩ = some (.int .i64 i145) ∧ ∃ i146 : Int, m.cell ⟨x6, 3, none⟩ = some (.int .i64 i146) ∧ ∃ i147 : Int, m.cell ⟨x6, 4, none⟩ = some (.int .i64 i147) ∧ 
 CallsA Try.prog w0 27 #[.agg #[.int .i64 i143, .int .i64 i144, .int .i64 i145, .int .i64 i146, .int .i64 i147], .int .i64 x8, .int .i64 x9] m fun r150 m151 =>
 ∃ i148 : Int, ∃ t149 : Bool, r150 = .tuple #[.int .i64 i148, .bool t149] ∧ (bcase (!t149) (
 StC w0.heap.size m151 ⟨x0, 5, none⟩ (.int .i64 4) fun m154 =>
 RetP R (.tuple #[]) m154) (
 ∃ i155 : Int, m151.cell ⟨x6, 1, none⟩ = some (.int .i64 i155) ∧ 
 CallsA Try.prog w0 54 #[.pointer (some ⟨x0, 0, none⟩), .int .i64 i155, .int .i64 i148] m151 fun r156 m157 =>
 r156 = .tuple #[] ∧ StC w0.heap.size m157 ⟨x0, 2, none⟩ (.int .i64 x10) fun m158 =>
 RetP R (.tuple #[]) m158))))))))))) :
 vcS Try.prog w0 qs38 (sub c38 [1, 1, 1, 1, 1, 0, 1, 0, 1, 1, 1, 1, 1]) σ m (blockS 0 (thenS (fun σ m => vcS Try.prog w0 qs38 (sub c38 [1, 1, 1, 1, 1, 1]) σ m (retQ Try.prog Try.f38 R)) (retQ Try.prog Try.f38 R))) := by
  have es0 : (upd (upd (upd (upd (upd (upd (upd (upd σ 0 (.pointer (some ⟨x0, 0, none⟩))) 6 (.pointer (some ⟨x6, 0, none⟩))) 7 (.int .i64 x7)) 8 (.int .i64 x8)) 9 (.int .i64 x9)) 10 (.int .i64 x10)) 75 (.int .i64 x75)) 146 (.bool x146)) = σ := by rw [upd_id h0, upd_id h6, upd_id h7, upd_id h8, upd_id h9, upd_id h10, upd_id h75, upd_id h146]
  exact cast (congrArg (fun s => vcS Try.prog w0 qs38 (sub c38 [1, 1, 1, 1, 1, 0, 1, 0, 1, 1, 1, 1, 1]) s m (blockS 0 (thenS (fun σ m => vcS Try.prog w0 qs38 (sub c38 [1, 1, 1, 1, 1, 1]) σ m (retQ Try.prog Try.f38 R)) (retQ Try.prog Try.f38 R)))) es0) (cast (by kernel_rfl) h)

/-! 24 delayslot/delayslotref07.Run -/
def qs24 : Nat → List (Nat × Nat) := fun i => match i with | 1000008 => [(0, 0)] | _ => []
noncomputable def c24 : Code := bodyOf Try.f24
theorem cf24 (w0 : World) (m : AM) (x0 : Option Addr) (x0n x0c : Nat) (x1 : Int) (x2 : Option Addr) (x2n x2c : Nat) (x3 : Int) (R : Value → AM → Prop) (h :
 ∀ b1 : Nat, w0.heap.size ≤ b1 → m b1 = none → let m2 := AM.upd m b1 (.cells #[.int .i64 0, .int .i64 0, .slice none 0 0, .slice none 0 0] 28);
 IntKind.i64 = IntKind.i64 ∧ (bcase (decide ((((x0n : Nat) : Int) : Int) > 4096)) (
 (decide ((((x0n : Nat) : Int) : Int) > 4096)) = true ∧ true = true ∧ true = true ∧ StC w0.heap.size m2 ⟨b1, 0, none⟩ (.int .i64 0) fun m3 =>
 StC w0.heap.size m3 ⟨b1, 1, none⟩ (.int .i64 0) fun m4 =>
 StC w0.heap.size m4 ⟨b1, 2, none⟩ (.slice none 0 0) fun m5 =>
 StC w0.heap.size m5 ⟨b1, 3, none⟩ (.slice none 0 0) fun m6 =>
 ∃ i7 : Int, m6.cell ⟨b1, 0, none⟩ = some (.int .i64 i7) ∧ ∃ i8 : Int, m6.cell ⟨b1, 1, none⟩ = some (.int .i64 i8) ∧ ∃ (A9 : Option Addr) (n10 c11 : Nat), m6.cell ⟨b1, 2, none⟩ = some (.slice A9 n10 c11) ∧ ∃ (A12 : Option Addr) (n13 c14 : Nat), m6.cell ⟨b1, 3, none⟩ = some (.slice A12 n13 c14) ∧ RetP R (.agg #[.int .i64 i7, .int .i64 i8, .slice A9 n10 c11, .slice A12 n13 c14]) m6) (
 IntKind.i64 = IntKind.i64 ∧ (bcase (bif decide ((((x0n : Nat) : Int) : Int) > 4096) then true else decide ((x1 : Int) < 0)) (
 (bif decide ((((x0n : Nat) : Int) : Int) > 4096) then true else decide ((x1 : Int) < 0)) = true ∧ true = true ∧ StC w0.heap.size m2 ⟨b1, 0, none⟩ (.int .i64 0) fun m15 =>
 StC w0.heap.size m15 ⟨b1, 1, none⟩ (.int .i64 0) fun m16 =>
 StC w0.heap.size m16 ⟨b1, 2, none⟩ (.slice none 0 0) fun m17 =>
 StC w0.heap.size m17 ⟨b1, 3, none⟩ (.slice none 0 0) fun m18 =>
 ∃ i19 : Int, m18.cell ⟨b1, 0, none⟩ = some (.int .i64 i19) ∧ ∃ i20 : Int, m18.cell ⟨b1, 1, none⟩ = some (.int .i64 i20) ∧ ∃ (A21 : Option Addr) (n22 c23 : Nat), m18.cell ⟨b1, 2, none⟩ = some (.slice A21 n22 c23) ∧ ∃ (A24 : Option Addr) (n25 c26 : Nat), m18.cell ⟨b1, 3, none⟩ = some (.slice A24 n25 c26) ∧ RetP R (.agg #[.int .i64 i19, .int .i64 i20, .slice A21 n22 c23, .slice A24 n25 c26]) m18) (
 IntKind.i64 = IntKind.i64 ∧ (bcase (bif bif decide ((((x0n : Nat) : Int) : Int) > 4096) then true else decide ((x1 : Int) < 0) then true else decide ((x1 : Int) > 32000)) (
 true = true ∧ StC w0.heap.size m2 ⟨b1, 0, none⟩ (.int .i64 0) fun m27 =>
 StC w0.heap.size m27 ⟨b1, 1, none⟩ (.int .i64 0) fun m28 =>
 StC w0.heap.size m28 ⟨b1, 2, none⟩ (.slice none 0 0) fun m29 =>
 StC w0.heap.size m29 ⟨b1, 3, none⟩ (.slice none 0 0) fun m30 =>
 ∃ i31 : Int, m30.cell ⟨b1, 0, none⟩ = some (.int .i64 i31) ∧ ∃ i32 : Int, m30.cell ⟨b1, 1, none⟩ = some (.int .i64 i32) ∧ ∃ (A33 : Option Addr) (n34 c35 : Nat), m30.cell ⟨b1, 2, none⟩ = some (.slice A33 n34 c35) ∧ ∃ (A36 : Option Addr) (n37 c38 : Nat), m30.cell ⟨b1, 3, none⟩ = some (.slice A36 n37 c38) ∧ RetP R (.agg #[.int .i64 i31, .int .i64 i32, .slice A33 n34 c35, .slice A36 n37 c38]) m30) (
 CallsA Try.prog w0 37 #[.int .i64 x1] m2 fun r40 m41 =>
 ∃ p39 : Option Addr, r40 = .pointer p39 ∧ vcS Try.prog w0 qs24 (sub c24 [1, 1, 1, 1, 0, 0]) (upd (upd (upd (upd (upd (upd (upd (upd (upd (upd (upd (upd (upd (upd (upd (upd (argS [.slice x0 x0n x0c, .int .i64 x1, .slice x2 x2n x2c, .int .i64 x3]) 8 (.pointer (some ⟨b1, 0, none⟩))) 11 (.slice x0 x0n x0c)) 12 (.int .i64 ((x0n : Nat) : Int))) 13 (.bool (decide ((((x0n : Nat) : Int) : Int) > 4096)))) 14 (.bool (decide ((((x0n : Nat) : Int) : Int) > 4096)))) 15 (.int .i64 x1)) 16 (.bool (decide ((x1 : Int) < 0)))) 17 (.bool (bif decide ((((x0n : Nat) : Int) : Int) > 4096) then true else decide ((x1 : Int) < 0)))) 18 (.bool (bif decide ((((x0n : Nat) : Int) : Int) > 4096) then true else decide ((x1 : Int) < 0)))) 19 (.int .i64 x1)) 20 (.bool (decide ((x1 : Int) > 32000)))) 21 (.bool (bif bif decide ((((x0n : Nat) : Int) : Int) > 4096) then true else decide ((x1 : Int) < 0) then true else decide ((x1 : Int) > 32000)))) 23 (.int .i64 x1)) 24 (.pointer p39)) 9 (.pointer p39)) 10 (.int .i64 0)) m41 (blockS 0 (thenS (fun σ m => vcS Try.prog w0 qs24 (sub c24 [1, 1, 1, 1, 1]) σ m (retQ Try.prog Try.f24 R)) (retQ Try.prog Try.f24 R)))))))))) : CallsA Try.prog w0 24 #[.slice x0 x0n x0c, .int .i64 x1, .slice x2 x2n x2c, .int .i64 x3] m R :=
  callsA_of (c := c24) (args := [.slice x0 x0n x0c, .int .i64 x1, .slice x2 x2n x2c, .int .i64 x3]) (by kernel_rfl) Try.func24 (by kernel_rfl) qs24 (by kernel_rfl) (by kernel_rfl) (cast (by kernel_rfl) h)
def lq24_111100 (R : Value → AM → Prop) (x0 : Option Addr) (x0n x0c : Nat) (x2 : Option Addr) (x2n x2c : Nat) (x3 : Int) (x8 : Nat) (x9 : Option Addr) (I0 : Nat → Int → AM → Prop) (E0_0 : Int → AM → Prop) (n0 : Nat) : Exit → Sg → AM → Prop
  | .normal, σ, m => σ 0 = .slice x0 x0n x0c ∧ σ 2 = .slice x2 x2n x2c ∧ σ 3 = .int .i64 x3 ∧ σ 8 = .pointer (some ⟨x8, 0, none⟩) ∧ σ 9 = .pointer x9 ∧ okI .i64 (σ 10) = true ∧ ∃ n' : Nat, n' < n0 ∧ I0 n' (vI (σ 10)) m
  | .exit id, σ, m => if id = 0 then σ 0 = .slice x0 x0n x0c ∧ σ 2 = .slice x2 x2n x2c ∧ σ 3 = .int .i64 x3 ∧ σ 8 = .pointer (some ⟨x8, 0, none⟩) ∧ σ 9 = .pointer x9 ∧ okI .i64 (σ 10) = true ∧ E0_0 (vI (σ 10)) m else False
  | .ret, σ, m => retQ Try.prog Try.f24 R .ret σ m
  | _, _, _ => False
theorem vl24_111100 (w0 : World) (m : AM) (σ : Sg) (R : Value → AM → Prop)  (x0 : Option Addr) (x0n x0c : Nat) (x2 : Option Addr) (x2n x2c : Nat) (x3 : Int) (x8 : Nat) (x9 : Option Addr) (x10 : Int) (I0 : Nat → Int → AM → Prop) (E0_0 : Int → AM → Prop) (N : Nat) (h0 : σ 0 = .slice x0 x0n x0c) (h2 : σ 2 = .slice x2 x2n x2c) (h3 : σ 3 = .int .i64 x3) (h8 : σ 8 = .pointer (some ⟨x8, 0, none⟩)) (h9 : σ 9 = .pointer x9) (h10 : σ 10 = .int .i64 x10)
 (h_0 : I0 N x10 m)
 (h_s : ∀ (n0 : Nat) (σ : Sg) (x10 : Int) (m : AM), I0 n0 x10 m → (
 nilO x9 fun a42 =>
 ∃ i43 : Int, m.cell (a42.add 5) = some (.int .i64 i43) ∧ 
 IntKind.i64 = IntKind.i64 ∧ (bcase ((i43 : Int) == 0) (
 IntKind.i64 = IntKind.i64 ∧ (bcase (bif (i43 : Int) == 0 then decide ((x10 : Int) < x3) else false) (
 CallsA Try.prog w0 38 #[.pointer x9, .slice x0 x0n x0c, .slice x2 x2n x2c] m fun r44 m45 =>
 r44 = .tuple #[] ∧ IntKind.i64 = IntKind.i64 ∧ (.slice x0 x0n x0c : Value) = .slice x0 x0n x0c ∧ (.slice x2 x2n x2c : Value) = .slice x2 x2n x2c ∧ (.int .i64 x3 : Value) = .int .i64 x3 ∧ (.pointer (some ⟨x8, 0, none⟩) : Value) = .pointer (some ⟨x8, 0, none⟩) ∧ (.pointer x9 : Value) = .pointer x9 ∧ true = true ∧ ∃ n' : Nat, n' < n0 ∧ I0 n' (IntKind.wrap .i64 (x10 + 1)) m45) (
 (.slice x0 x0n x0c : Value) = .slice x0 x0n x0c ∧ (.slice x2 x2n x2c : Value) = .slice x2 x2n x2c ∧ (.int .i64 x3 : Value) = .int .i64 x3 ∧ (.pointer (some ⟨x8, 0, none⟩) : Value) = .pointer (some ⟨x8, 0, none⟩) ∧ (.pointer x9 : Value) = .pointer x9 ∧ true = true ∧ E0_0 x10 m))) (
 ((i43 : Int) == 0) = false ∧ (.slice x0 x0n x0c : Value) = .slice x0 x0n x0c ∧ (.slice x2 x2n x2c : Value) = .slice x2 x2n x2c ∧ (.int .i64 x3 : Value) = .int .i64 x3 ∧ (.pointer (some ⟨x8, 0, none⟩) : Value) = .pointer (some ⟨x8, 0, none⟩) ∧ (.pointer x9 : Value) = .pointer x9 ∧ true = true ∧ E0_0 x10 m))))
 (h_e0 : ∀ (σ : Sg) (x10 : Int) (m : AM), E0_0 x10 m → (
 vcS Try.prog w0 qs24 (sub c24 [1, 1, 1, 1, 1, 0]) (upd (upd (upd (upd (upd (upd σ 0 (.slice x0 x0n x0c)) 2 (.slice x2 x2n x2c)) 3 (.int .i64 x3)) 8 (.pointer (some ⟨x8, 0, none⟩))) 9 (.pointer x9)) 10 (.int .i64 x10)) m (thenS (fun σ m => vcS Try.prog w0 qs24 (sub c24 [1, 1, 1, 1, 1, 1]) σ m (retQ Try.prog Try.f24 R)) (retQ Try.prog Try.f24 R)))) :
 vcS Try.prog w0 qs24 (sub c24 [1, 1, 1, 1, 0, 0]) σ m (blockS 0 (thenS (fun σ m => vcS Try.prog w0 qs24 (sub c24 [1, 1, 1, 1, 1]) σ m (retQ Try.prog Try.f24 R)) (retQ Try.prog Try.f24 R))) := by
  rw [show sub c24 [1, 1, 1, 1, 0, 0] = .loop (sub c24 [1, 1, 1, 1, 0, 0, 0]) from by kernel_rfl]
  refine loopQ (fun n0 σ m => σ 0 = .slice x0 x0n x0c ∧ σ 2 = .slice x2 x2n x2c ∧ σ 3 = .int .i64 x3 ∧ σ 8 = .pointer (some ⟨x8, 0, none⟩) ∧ σ 9 = .pointer x9 ∧ okI .i64 (σ 10) = true ∧ I0 n0 (vI (σ 10)) m) N (fun n0 => (lq24_111100 R x0 x0n x0c x2 x2n x2c x3 x8 x9 I0 E0_0 n0)) ⟨h0, h2, h3, h8, h9, (by rw [h10]; rfl), (by rw [h10]; exact h_0)⟩ ?_ ?_ ?_
  · rintro n0 σ m ⟨kk0, kk1, kk2, kk3, kk4, kk5, n', hlt, hI⟩; exact ⟨n', hlt, kk0, kk1, kk2, kk3, kk4, kk5, hI⟩
  · intro n0 e σ m hne h
    cases e with
    | normal => exact absurd rfl hne
    | ret => exact h
    | exit id =>
      by_cases e0 : id = 0
      · subst e0
        obtain ⟨kk0, kk1, kk2, kk3, kk4, kk5, hE⟩ := h
        have es : (upd (upd (upd (upd (upd (upd σ 0 (.slice x0 x0n x0c)) 2 (.slice x2 x2n x2c)) 3 (.int .i64 x3)) 8 (.pointer (some ⟨x8, 0, none⟩))) 9 (.pointer x9)) 10 (.int .i64 (vI (σ 10)))) = σ := by rw [upd_id kk0, upd_id kk1, upd_id kk2, upd_id kk3, upd_id kk4, upd_id (ok_int kk5)]
        exact cast (congrArg (fun s => (blockS 0 (thenS (fun σ m => vcS Try.prog w0 qs24 (sub c24 [1, 1, 1, 1, 1]) σ m (retQ Try.prog Try.f24 R)) (retQ Try.prog Try.f24 R))) (.exit 0) s m) es) (cast (by kernel_rfl) (h_e0 σ (vI (σ 10)) m hE))
      · replace h := (if_neg e0 : (if id = 0 then _ else _) = _).mp h
        exact False.elim h
    | _ => exact False.elim h
  · rintro n0 σ m ⟨kk0, kk1, kk2, kk3, kk4, kk5, hI⟩
    have es : (upd (upd (upd (upd (upd (upd σ 0 (.slice x0 x0n x0c)) 2 (.slice x2 x2n x2c)) 3 (.int .i64 x3)) 8 (.pointer (some ⟨x8, 0, none⟩))) 9 (.pointer x9)) 10 (.int .i64 (vI (σ 10)))) = σ := by rw [upd_id kk0, upd_id kk1, upd_id kk2, upd_id kk3, upd_id kk4, upd_id (ok_int kk5)]
    exact cast (congrArg (fun s => vcS Try.prog w0 qs24 (sub c24 [1, 1, 1, 1, 0, 0, 0]) s m (lq24_111100 R x0 x0n x0c x2 x2n x2c x3 x8 x9 I0 E0_0 n0)) es) (cast (by kernel_rfl) (h_s n0 σ (vI (σ 10)) m hI))
theorem vr24_111110 (w0 : World) (m : AM) (σ : Sg) (R : Value → AM → Prop)  (x8 : Nat) (x9 : Option Addr) (x10 : Int) (K : AM → Prop) (h8 : σ 8 = .pointer (some ⟨x8, 0, none⟩)) (h9 : σ 9 = .pointer x9) (h10 : σ 10 = .int .i64 x10)
 (h_t : 
 nilO x9 fun a46 =>
 nilO x9 fun a47 =>
 nilO x9 fun a48 =>
 ∃ (A49 : Option Addr) (n50 c51 : Nat), m.cell (a48.add 1) = some (.slice A49 n50 c51) ∧ 
 (∃ i52 : Int, m.cell (a46.add 5) = some (.int .i64 i52) ∧ 
 (∃ (A53 : Option Addr) (n54 c55 : Nat), m.cell (a47.add 4) = some (.slice A53 n54 c55) ∧ 
 CallsA Try.prog w0 39 #[.slice A49 n50 c51] m fun r59 m60 =>
 ∃ (A56 : Option Addr) (n57 c58 : Nat), r59 = .slice A56 n57 c58 ∧ true = true ∧ StC w0.heap.size m60 ⟨x8, 0, none⟩ (.int .i64 i52) fun m61 =>
 StC w0.heap.size m61 ⟨x8, 1, none⟩ (.int .i64 x10) fun m62 =>
 StC w0.heap.size m62 ⟨x8, 2, none⟩ (.slice A53 n54 c55) fun m63 =>
 StC w0.heap.size m63 ⟨x8, 3, none⟩ (.slice A56 n57 c58) fun m64 =>
 true = true ∧ (.pointer (some ⟨x8, 0, none⟩) : Value) = .pointer (some ⟨x8, 0, none⟩) ∧ K  m64) ∧
 (CallsA Try.prog w0 39 #[.slice A49 n50 c51] m fun r68 m69 =>
 ∃ (A65 : Option Addr) (n66 c67 : Nat), r68 = .slice A65 n66 c67 ∧ ∃ (A70 : Option Addr) (n71 c72 : Nat), m69.cell (a47.add 4) = some (.slice A70 n71 c72) ∧ 
 true = true ∧ StC w0.heap.size m69 ⟨x8, 0, none⟩ (.int .i64 i52) fun m73 =>
 StC w0.heap.size m73 ⟨x8, 1, none⟩ (.int .i64 x10) fun m74 =>
 StC w0.heap.size m74 ⟨x8, 2, none⟩ (.slice A70 n71 c72) fun m75 =>
 StC w0.heap.size m75 ⟨x8, 3, none⟩ (.slice A65 n66 c67) fun m76 =>
 true = true ∧ (.pointer (some ⟨x8, 0, none⟩) : Value) = .pointer (some ⟨x8, 0, none⟩) ∧ K  m76)) ∧
 (∃ (A77 : Option Addr) (n78 c79 : Nat), m.cell (a47.add 4) = some (.slice A77 n78 c79) ∧ 
 (∃ i80 : Int, m.cell (a46.add 5) = some (.int .i64 i80) ∧ 
 CallsA Try.prog w0 39 #[.slice A49 n50 c51] m fun r84 m85 =>
 ∃ (A81 : Option Addr) (n82 c83 : Nat), r84 = .slice A81 n82 c83 ∧ true = true ∧ StC w0.heap.size m85 ⟨x8, 0, none⟩ (.int .i64 i80) fun m86 =>
 StC w0.heap.size m86 ⟨x8, 1, none⟩ (.int .i64 x10) fun m87 =>
 StC w0.heap.size m87 ⟨x8, 2, none⟩ (.slice A77 n78 c79) fun m88 =>
 StC w0.heap.size m88 ⟨x8, 3, none⟩ (.slice A81 n82 c83) fun m89 =>
 true = true ∧ (.pointer (some ⟨x8, 0, none⟩) : Value) = .pointer (some ⟨x8, 0, none⟩) ∧ K  m89) ∧
 (CallsA Try.prog w0 39 #[.slice A49 n50 c51] m fun r93 m94 =>
 ∃ (A90 : Option Addr) (n91 c92 : Nat), r93 = .slice A90 n91 c92 ∧ ∃ i95 : Int, m94.cell (a46.add 5) = some (.int .i64 i95) ∧ 
 true = true ∧ StC w0.heap.size m94 ⟨x8, 0, none⟩ (.int .i64 i95) fun m96 =>
 StC w0.heap.size m96 ⟨x8, 1, none⟩ (.int .i64 x10) fun m97 =>
 StC w0.heap.size m97 ⟨x8, 2, none⟩ (.slice A77 n78 c79) fun m98 =>
 StC w0.heap.size m98 ⟨x8, 3, none⟩ (.slice A90 n91 c92) fun m99 =>
 true = true ∧ (.pointer (some ⟨x8, 0, none⟩) : Value) = .pointer (some ⟨x8, 0, none⟩) ∧ K  m99)) ∧
 (CallsA Try.prog w0 39 #[.slice A49 n50 c51] m fun r103 m104 =>
 ∃ (A100 : Option Addr) (n101 c102 : Nat), r103 = .slice A100 n101 c102 ∧ ∃ i105 : Int, m104.cell (a46.add 5) = some (.int .i64 i105) ∧ 
 ∃ (A106 : Option Addr) (n107 c108 : Nat), m104.cell (a47.add 4) = some (.slice A106 n107 c108) ∧ 
 true = true ∧ StC w0.heap.size m104 ⟨x8, 0, none⟩ (.int .i64 i105) fun m109 =>
 StC w0.heap.size m109 ⟨x8, 1, none⟩ (.int .i64 x10) fun m110 =>
 StC w0.heap.size m110 ⟨x8, 2, none⟩ (.slice A106 n107 c108) fun m111 =>
 StC w0.heap.size m111 ⟨x8, 3, none⟩ (.slice A100 n101 c102) fun m112 =>
 true = true ∧ (.pointer (some ⟨x8, 0, none⟩) : Value) = .pointer (some ⟨x8, 0, none⟩) ∧ K  m112))
 (h_k : ∀ (σ : Sg)  (m : AM), K  m → (
 ∃ i113 : Int, m.cell ⟨x8, 0, none⟩ = some (.int .i64 i113) ∧ ∃ i114 : Int, m.cell ⟨x8, 1, none⟩ = some (.int .i64 i114) ∧ ∃ (A115 : Option Addr) (n116 c117 : Nat), m.cell ⟨x8, 2, none⟩ = some (.slice A115 n116 c117) ∧ ∃ (A118 : Option Addr) (n119 c120 : Nat), m.cell ⟨x8, 3, none⟩ = some (.slice A118 n119 c120) ∧ RetP R (.agg #[.int .i64 i113, .int .i64 i114, .slice A115 n116 c117, .slice A118 n119 c120]) m)) :
 vcS Try.prog w0 qs24 (sub c24 [1, 1, 1, 1, 1, 0]) σ m (thenS (fun σ m => vcS Try.prog w0 qs24 (sub c24 [1, 1, 1, 1, 1, 1]) σ m (retQ Try.prog Try.f24 R)) (retQ Try.prog Try.f24 R)) := by
  have es0 : (upd (upd (upd σ 8 (.pointer (some ⟨x8, 0, none⟩))) 9 (.pointer x9)) 10 (.int .i64 x10)) = σ := by rw [upd_id h8, upd_id h9, upd_id h10]
  refine vcS_cut (Q0 := (fun σ m => σ 8 = .pointer (some ⟨x8, 0, none⟩) ∧ K  m)) (by kernel_rfl) (cast (congrArg (fun s => trC Try.prog w0 qs24 (sub c24 [1, 1, 1, 1, 1, 0]) s m (fun σ m => σ 8 = .pointer (some ⟨x8, 0, none⟩) ∧ K  m)) es0) (cast (by kernel_rfl) h_t)) ?_
  rintro σ m ⟨kk0, hK⟩
  have es : (upd σ 8 (.pointer (some ⟨x8, 0, none⟩))) = σ := by rw [upd_id kk0]
  exact cast (congrArg (fun s => (thenS (fun σ m => vcS Try.prog w0 qs24 (sub c24 [1, 1, 1, 1, 1, 1]) σ m (retQ Try.prog Try.f24 R)) (retQ Try.prog Try.f24 R)) .normal s m) es) (cast (by kernel_rfl) (h_k σ  m hK))

/-! 28 delayslot/delayslotref01.Wrap -/
def qs28 : Nat → List (Nat × Nat) := fun i => match i with | _ => []
noncomputable def c28 : Code := bodyOf Try.f28
theorem cf28 (w0 : World) (m : AM) (x0 : Int) (R : Value → AM → Prop) (h :
 IntKind.i64 = IntKind.i64 ∧ (4294967296 : Int) ≠ 0 ∧ IntKind.i64 = IntKind.i64 ∧ (bcase (decide (((Int.tmod x0 4294967296) : Int) < 0)) (
 IntKind.i64 = IntKind.i64 ∧ IntKind.i64 = IntKind.i64 ∧ (bcase (decide (((IntKind.wrap .i64 ((Int.tmod x0 4294967296) + 4294967296)) : Int) > 2147483647)) (
 IntKind.i64 = IntKind.i64 ∧ RetP R (.int .i64 (IntKind.wrap .i64 ((IntKind.wrap .i64 ((Int.tmod x0 4294967296) + 4294967296)) - 4294967296))) m) (
 RetP R (.int .i64 (IntKind.wrap .i64 ((Int.tmod x0 4294967296) + 4294967296))) m))) (
 IntKind.i64 = IntKind.i64 ∧ (bcase (decide (((Int.tmod x0 4294967296) : Int) > 2147483647)) (
 IntKind.i64 = IntKind.i64 ∧ RetP R (.int .i64 (IntKind.wrap .i64 ((Int.tmod x0 4294967296) - 4294967296))) m) (
 RetP R (.int .i64 (Int.tmod x0 4294967296)) m))))) : CallsA Try.prog w0 28 #[.int .i64 x0] m R :=
  callsA_of (c := c28) (args := [.int .i64 x0]) (by kernel_rfl) Try.func28 (by kernel_rfl) qs28 (by kernel_rfl) (by kernel_rfl) (cast (by kernel_rfl) h)

/-! 45 delayslot/delayslotref01.Mul -/
def qs45 : Nat → List (Nat × Nat) := fun i => match i with | _ => []
noncomputable def c45 : Code := bodyOf Try.f45
theorem cf45 (w0 : World) (m : AM) (x0 : Int) (x1 : Int) (R : Value → AM → Prop) (h :
 CallsA Try.prog w0 28 #[.int .i64 x0] m fun r2 m3 =>
 ∃ i1 : Int, r2 = .int .i64 i1 ∧ CallsA Try.prog w0 28 #[.int .i64 x1] m3 fun r5 m6 =>
 ∃ i4 : Int, r5 = .int .i64 i4 ∧ IntKind.i64 = IntKind.i64 ∧ (65536 : Int) ≠ 0 ∧ IntKind.i64 = IntKind.i64 ∧ (65536 : Int) ≠ 0 ∧ IntKind.i64 = IntKind.i64 ∧ IntKind.i64 = IntKind.i64 ∧ CallsA Try.prog w0 28 #[.int .i64 (IntKind.wrap .i64 (i1 * (IntKind.wrap .i64 (Int.tdiv i4 65536))))] m6 fun r8 m9 =>
 ∃ i7 : Int, r8 = .int .i64 i7 ∧ IntKind.i64 = IntKind.i64 ∧ (65536 : Int) ≠ 0 ∧ IntKind.i64 = IntKind.i64 ∧ IntKind.i64 = IntKind.i64 ∧ CallsA Try.prog w0 28 #[.int .i64 (IntKind.wrap .i64 ((IntKind.wrap .i64 (i1 * (Int.tmod i4 65536))) + (IntKind.wrap .i64 ((Int.tmod i7 65536) * 65536))))] m9 fun r11 m12 =>
 ∃ i10 : Int, r11 = .int .i64 i10 ∧ RetP R (.int .i64 i10) m12) : CallsA Try.prog w0 45 #[.int .i64 x0, .int .i64 x1] m R :=
  callsA_of (c := c45) (args := [.int .i64 x0, .int .i64 x1]) (by kernel_rfl) Try.func45 (by kernel_rfl) qs45 (by kernel_rfl) (by kernel_rfl) (cast (by kernel_rfl) h)

/-! 46 delayslot/delayslotref01.Div -/
def qs46 : Nat → List (Nat × Nat) := fun i => match i with | _ => []
noncomputable def c46 : Code := bodyOf Try.f46
theorem cf46 (w0 : World) (m : AM) (x0 : Int) (x1 : Int) (R : Value → AM → Prop) (h :
 CallsA Try.prog w0 28 #[.int .i64 x0] m fun r2 m3 =>
 ∃ i1 : Int, r2 = .int .i64 i1 ∧ CallsA Try.prog w0 28 #[.int .i64 x1] m3 fun r5 m6 =>
 ∃ i4 : Int, r5 = .int .i64 i4 ∧ IntKind.i64 = IntKind.i64 ∧ (bcase (decide ((i1 : Int) < 0)) (
 IntKind.i64 = IntKind.i64 ∧ (bcase (decide ((i4 : Int) < 0)) (
 vcS Try.prog w0 qs46 (sub c46 [1, 1, 1, 1, 1, 1, 0, 1, 0]) (upd (upd (upd (upd (upd (upd (upd (upd (upd (upd (upd (upd (upd (upd (upd (upd (upd (upd (upd (upd (upd (upd (upd (upd (argS [.int .i64 x0, .int .i64 x1]) 4 (.int .i64 0)) 5 (.int .i64 0)) 11 (.int .i64 x0)) 12 (.int .i64 i1)) 13 (.int .i64 x1)) 14 (.int .i64 i4)) 0 (.int .i64 i1)) 1 (.int .i64 i4)) 15 (.int .i64 i1)) 16 (.int .i64 i4)) 6 (.int .i64 i1)) 7 (.int .i64 i4)) 17 (.int .i64 i1)) 18 (.bool (decide ((i1 : Int) < 0)))) 19 (.int .i64 i1)) 20 (.int .i64 (IntKind.wrap .i64 (0 - i1)))) 6 (.int .i64 (IntKind.wrap .i64 (0 - i1)))) 21 (.int .i64 i4)) 22 (.bool (decide ((i4 : Int) < 0)))) 23 (.int .i64 i4)) 24 (.int .i64 (IntKind.wrap .i64 (0 - i4)))) 7 (.int .i64 (IntKind.wrap .i64 (0 - i4)))) 8 (.int .i64 0)) 9 (.int .i64 2147483648)) m6 (blockS 0 (thenS (fun σ m => vcS Try.prog w0 qs46 (sub c46 [1, 1, 1, 1, 1, 1, 1]) σ m (retQ Try.prog Try.f46 R)) (retQ Try.prog Try.f46 R)))) (
 vcS Try.prog w0 qs46 (sub c46 [1, 1, 1, 1, 1, 1, 0, 1, 0]) (upd (upd (upd (upd (upd (upd (upd (upd (upd (upd (upd (upd (upd (upd (upd (upd (upd (upd (upd (upd (upd (argS [.int .i64 x0, .int .i64 x1]) 4 (.int .i64 0)) 5 (.int .i64 0)) 11 (.int .i64 x0)) 12 (.int .i64 i1)) 13 (.int .i64 x1)) 14 (.int .i64 i4)) 0 (.int .i64 i1)) 1 (.int .i64 i4)) 15 (.int .i64 i1)) 16 (.int .i64 i4)) 6 (.int .i64 i1)) 7 (.int .i64 i4)) 17 (.int .i64 i1)) 18 (.bool (decide ((i1 : Int) < 0)))) 19 (.int .i64 i1)) 20 (.int .i64 (IntKind.wrap .i64 (0 - i1)))) 6 (.int .i64 (IntKind.wrap .i64 (0 - i1)))) 21 (.int .i64 i4)) 22 (.bool (decide ((i4 : Int) < 0)))) 8 (.int .i64 0)) 9 (.int .i64 2147483648)) m6 (blockS 0 (thenS (fun σ m => vcS Try.prog w0 qs46 (sub c46 [1, 1, 1, 1, 1, 1, 1]) σ m (retQ Try.prog Try.f46 R)) (retQ Try.prog Try.f46 R)))))) (
 IntKind.i64 = IntKind.i64 ∧ (bcase (decide ((i4 : Int) < 0)) (
 vcS Try.prog w0 qs46 (sub c46 [1, 1, 1, 1, 1, 1, 0, 1, 0]) (upd (upd (upd (upd (upd (upd (upd (upd (upd (upd (upd (upd (upd (upd (upd (upd (upd (upd (upd (upd (upd (argS [.int .i64 x0, .int .i64 x1]) 4 (.int .i64 0)) 5 (.int .i64 0)) 11 (.int .i64 x0)) 12 (.int .i64 i1)) 13 (.int .i64 x1)) 14 (.int .i64 i4)) 0 (.int .i64 i1)) 1 (.int .i64 i4)) 15 (.int .i64 i1)) 16 (.int .i64 i4)) 6 (.int .i64 i1)) 7 (.int .i64 i4)) 17 (.int .i64 i1)) 18 (.bool (decide ((i1 : Int) < 0)))) 21 (.int .i64 i4)) 22 (.bool (decide ((i4 : Int) < 0)))) 23 (.int .i64 i4)) 24 (.int .i64 (IntKind.wrap .i64 (0 - i4)))) 7 (.int .i64 (IntKind.wrap .i64 (0 - i4)))) 8 (.int .i64 0)) 9 (.int .i64 2147483648)) m6 (blockS 0 (thenS (fun σ m => vcS Try.prog w0 qs46 (sub c46 [1, 1, 1, 1, 1, 1, 1]) σ m (retQ Try.prog Try.f46 R)) (retQ Try.prog Try.f46 R)))) (
 vcS Try.prog w0 qs46 (sub c46 [1, 1, 1, 1, 1, 1, 0, 1, 0]) (upd (upd (upd (upd (upd (upd (upd (upd (upd (upd (upd (upd (upd (upd (upd (upd (upd (upd (argS [.int .i64 x0, .int .i64 x1]) 4 (.int .i64 0)) 5 (.int .i64 0)) 11 (.int .i64 x0)) 12 (.int .i64 i1)) 13 (.int .i64 x1)) 14 (.int .i64 i4)) 0 (.int .i64 i1)) 1 (.int .i64 i4)) 15 (.int .i64 i1)) 16 (.int .i64 i4)) 6 (.int .i64 i1)) 7 (.int .i64 i4)) 17 (.int .i64 i1)) 18 (.bool (decide ((i1 : Int) < 0)))) 21 (.int .i64 i4)) 22 (.bool (decide ((i4 : Int) < 0)))) 8 (.int .i64 0)) 9 (.int .i64 2147483648)) m6 (blockS 0 (thenS (fun σ m => vcS Try.prog w0 qs46 (sub c46 [1, 1, 1, 1, 1, 1, 1]) σ m (retQ Try.prog Try.f46 R)) (retQ Try.prog Try.f46 R)))))))) : CallsA Try.prog w0 46 #[.int .i64 x0, .int .i64 x1] m R :=
  callsA_of (c := c46) (args := [.int .i64 x0, .int .i64 x1]) (by kernel_rfl) Try.func46 (by kernel_rfl) qs46 (by kernel_rfl) (by kernel_rfl) (cast (by kernel_rfl) h)
def lq46_111111010 (R : Value → AM → Prop) (x0 : Int) (x1 : Int) (x6 : Int) (x7 : Int) (I0 : Nat → Int → Int → AM → Prop) (E0_0 : Int → AM → Prop) (n0 : Nat) : Exit → Sg → AM → Prop
  | .normal, σ, m => σ 0 = .int .i64 x0 ∧ σ 1 = .int .i64 x1 ∧ σ 6 = .int .i64 x6 ∧ σ 7 = .int .i64 x7 ∧ okI .i64 (σ 8) = true ∧ okI .i64 (σ 9) = true ∧ ∃ n' : Nat, n' < n0 ∧ I0 n' (vI (σ 8)) (vI (σ 9)) m
  | .exit id, σ, m => if id = 0 then σ 0 = .int .i64 x0 ∧ σ 1 = .int .i64 x1 ∧ σ 6 = .int .i64 x6 ∧ σ 7 = .int .i64 x7 ∧ okI .i64 (σ 8) = true ∧ E0_0 (vI (σ 8)) m else False
  | .ret, σ, m => retQ Try.prog Try.f46 R .ret σ m
  | _, _, _ => False
theorem vl46_111111010 (w0 : World) (m : AM) (σ : Sg) (R : Value → AM → Prop)  (x0 : Int) (x1 : Int) (x6 : Int) (x7 : Int) (x8 : Int) (x9 : Int) (I0 : Nat → Int → Int → AM → Prop) (E0_0 : Int → AM → Prop) (N : Nat) (h0 : σ 0 = .int .i64 x0) (h1 : σ 1 = .int .i64 x1) (h6 : σ 6 = .int .i64 x6) (h7 : σ 7 = .int .i64 x7) (h8 : σ 8 = .int .i64 x8) (h9 : σ 9 = .int .i64 x9)
 (h_0 : I0 N x8 x9 m)
 (h_s : ∀ (n0 : Nat) (σ : Sg) (x8 : Int) (x9 : Int) (m : AM), I0 n0 x8 x9 m → (
 IntKind.i64 = IntKind.i64 ∧ (bcase (decide ((x9 : Int) > 0)) (
 IntKind.i64 = IntKind.i64 ∧ IntKind.i64 = IntKind.i64 ∧ IntKind.i64 = IntKind.i64 ∧ (bcase (decide (((IntKind.wrap .i64 ((IntKind.wrap .i64 (x8 + x9)) * x7)) : Int) ≤ x6)) (
 IntKind.i64 = IntKind.i64 ∧ IntKind.i64 = IntKind.i64 ∧ (bcase (bif decide (((IntKind.wrap .i64 ((IntKind.wrap .i64 (x8 + x9)) * x7)) : Int) ≤ x6) then decide (((IntKind.wrap .i64 (x8 + x9)) : Int) ≤ x6) else false) (
 IntKind.i64 = IntKind.i64 ∧ IntKind.i64 = IntKind.i64 ∧ (2 : Int) ≠ 0 ∧ (.int .i64 x0 : Value) = .int .i64 x0 ∧ (.int .i64 x1 : Value) = .int .i64 x1 ∧ (.int .i64 x6 : Value) = .int .i64 x6 ∧ (.int .i64 x7 : Value) = .int .i64 x7 ∧ true = true ∧ true = true ∧ ∃ n' : Nat, n' < n0 ∧ I0 n' (IntKind.wrap .i64 (x8 + x9)) (IntKind.wrap .i64 (Int.tdiv x9 2)) m) (
 IntKind.i64 = IntKind.i64 ∧ (2 : Int) ≠ 0 ∧ (.int .i64 x0 : Value) = .int .i64 x0 ∧ (.int .i64 x1 : Value) = .int .i64 x1 ∧ (.int .i64 x6 : Value) = .int .i64 x6 ∧ (.int .i64 x7 : Value) = .int .i64 x7 ∧ true = true ∧ true = true ∧ ∃ n' : Nat, n' < n0 ∧ I0 n' x8 (IntKind.wrap .i64 (Int.tdiv x9 2)) m))) (
 (decide (((IntKind.wrap .i64 ((IntKind.wrap .i64 (x8 + x9)) * x7)) : Int) ≤ x6)) = false ∧ IntKind.i64 = IntKind.i64 ∧ (2 : Int) ≠ 0 ∧ (.int .i64 x0 : Value) = .int .i64 x0 ∧ (.int .i64 x1 : Value) = .int .i64 x1 ∧ (.int .i64 x6 : Value) = .int .i64 x6 ∧ (.int .i64 x7 : Value) = .int .i64 x7 ∧ true = true ∧ true = true ∧ ∃ n' : Nat, n' < n0 ∧ I0 n' x8 (IntKind.wrap .i64 (Int.tdiv x9 2)) m))) (
 (.int .i64 x0 : Value) = .int .i64 x0 ∧ (.int .i64 x1 : Value) = .int .i64 x1 ∧ (.int .i64 x6 : Value) = .int .i64 x6 ∧ (.int .i64 x7 : Value) = .int .i64 x7 ∧ true = true ∧ E0_0 x8 m))))
 (h_e0 : ∀ (σ : Sg) (x8 : Int) (m : AM), E0_0 x8 m → (
 IntKind.i64 = IntKind.i64 ∧ IntKind.i64 = IntKind.i64 ∧ IntKind.i64 = IntKind.i64 ∧ IntKind.i64 = IntKind.i64 ∧ (bcase (!(((decide ((x0 : Int) < 0)) : Bool) == (decide ((x1 : Int) < 0)))) (
 IntKind.i64 = IntKind.i64 ∧ (bcase (decide ((x0 : Int) < 0)) (
 CallsA Try.prog w0 28 #[.int .i64 (IntKind.wrap .i64 (0 - x8))] m fun r8 m9 =>
 ∃ i7 : Int, r8 = .int .i64 i7 ∧ RetP R (.tuple #[.int .i64 i7, .int .i64 (IntKind.wrap .i64 (0 - (IntKind.wrap .i64 (x6 - (IntKind.wrap .i64 (x8 * x7))))))]) m9) (
 CallsA Try.prog w0 28 #[.int .i64 (IntKind.wrap .i64 (0 - x8))] m fun r11 m12 =>
 ∃ i10 : Int, r11 = .int .i64 i10 ∧ RetP R (.tuple #[.int .i64 i10, .int .i64 (IntKind.wrap .i64 (x6 - (IntKind.wrap .i64 (x8 * x7))))]) m12))) (
 IntKind.i64 = IntKind.i64 ∧ (bcase (decide ((x0 : Int) < 0)) (
 CallsA Try.prog w0 28 #[.int .i64 x8] m fun r14 m15 =>
 ∃ i13 : Int, r14 = .int .i64 i13 ∧ RetP R (.tuple #[.int .i64 i13, .int .i64 (IntKind.wrap .i64 (0 - (IntKind.wrap .i64 (x6 - (IntKind.wrap .i64 (x8 * x7))))))]) m15) (
 CallsA Try.prog w0 28 #[.int .i64 x8] m fun r17 m18 =>
 ∃ i16 : Int, r17 = .int .i64 i16 ∧ RetP R (.tuple #[.int .i64 i16, .int .i64 (IntKind.wrap .i64 (x6 - (IntKind.wrap .i64 (x8 * x7))))]) m18)))))) :
 vcS Try.prog w0 qs46 (sub c46 [1, 1, 1, 1, 1, 1, 0, 1, 0]) σ m (blockS 0 (thenS (fun σ m => vcS Try.prog w0 qs46 (sub c46 [1, 1, 1, 1, 1, 1, 1]) σ m (retQ Try.prog Try.f46 R)) (retQ Try.prog Try.f46 R))) := by
  rw [show sub c46 [1, 1, 1, 1, 1, 1, 0, 1, 0] = .loop (sub c46 [1, 1, 1, 1, 1, 1, 0, 1, 0, 0]) from by kernel_rfl]
  refine loopQ (fun n0 σ m => σ 0 = .int .i64 x0 ∧ σ 1 = .int .i64 x1 ∧ σ 6 = .int .i64 x6 ∧ σ 7 = .int .i64 x7 ∧ okI .i64 (σ 8) = true ∧ okI .i64 (σ 9) = true ∧ I0 n0 (vI (σ 8)) (vI (σ 9)) m) N (fun n0 => (lq46_111111010 R x0 x1 x6 x7 I0 E0_0 n0)) ⟨h0, h1, h6, h7, (by rw [h8]; rfl), (by rw [h9]; rfl), (by rw [h8, h9]; exact h_0)⟩ ?_ ?_ ?_
  · rintro n0 σ m ⟨kk0, kk1, kk2, kk3, kk4, kk5, n', hlt, hI⟩; exact ⟨n', hlt, kk0, kk1, kk2, kk3, kk4, kk5, hI⟩
  · intro n0 e σ m hne h
    cases e with
    | normal => exact absurd rfl hne
    | ret => exact h
    | exit id =>
      by_cases e0 : id = 0
      · subst e0
        obtain ⟨kk0, kk1, kk2, kk3, kk4, hE⟩ := h
        have es : (upd (upd (upd (upd (upd σ 0 (.int .i64 x0)) 1 (.int .i64 x1)) 6 (.int .i64 x6)) 7 (.int .i64 x7)) 8 (.int .i64 (vI (σ 8)))) = σ := by rw [upd_id kk0, upd_id kk1, upd_id kk2, upd_id kk3, upd_id (ok_int kk4)]
        exact cast (congrArg (fun s => (blockS 0 (thenS (fun σ m => vcS Try.prog w0 qs46 (sub c46 [1, 1, 1, 1, 1, 1, 1]) σ m (retQ Try.prog Try.f46 R)) (retQ Try.prog Try.f46 R))) (.exit 0) s m) es) (cast (by kernel_rfl) (h_e0 σ (vI (σ 8)) m hE))
      · replace h := (if_neg e0 : (if id = 0 then _ else _) = _).mp h
        exact False.elim h
    | _ => exact False.elim h
  · rintro n0 σ m ⟨kk0, kk1, kk2, kk3, kk4, kk5, hI⟩
    have es : (upd (upd (upd (upd (upd (upd σ 0 (.int .i64 x0)) 1 (.int .i64 x1)) 6 (.int .i64 x6)) 7 (.int .i64 x7)) 8 (.int .i64 (vI (σ 8)))) 9 (.int .i64 (vI (σ 9)))) = σ := by rw [upd_id kk0, upd_id kk1, upd_id kk2, upd_id kk3, upd_id (ok_int kk4), upd_id (ok_int kk5)]
    exact cast (congrArg (fun s => vcS Try.prog w0 qs46 (sub c46 [1, 1, 1, 1, 1, 1, 0, 1, 0, 0]) s m (lq46_111111010 R x0 x1 x6 x7 I0 E0_0 n0)) es) (cast (by kernel_rfl) (h_s n0 σ (vI (σ 8)) (vI (σ 9)) m hI))
end Go.Proofs.Ytadcbnldahcelaa.V
