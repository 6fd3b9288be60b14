/- Ytkfemiloehkmhaa: a text of our own, by an AI agent: VRepH -/
import Derived.Test.YtkfemiloehkmhaaCoreA
import Derived.Test.YtkfemiloehkmhaaTabH
namespace Go.Proofs.Ytkfemiloehkmhaa.V
open Go Go.Alog Go.Proofs.Ytkfemiloehkmhaa.T
set_option linter.unusedVariables false
set_option maxRecDepth 100000

/-! 60 slices.Repeat[[]int,int] -/
def qs60 : Nat → List (Nat × Nat) := fun i => match i with | _ => []
noncomputable def c60 : Code := bodyOf Try.f60
theorem cf60 (w0 : World) (m : AM) (x0 : Option Addr) (x0n x0c : Nat) (x1 : Int) (R : Value → AM → Prop) (h :
 IntKind.i64 = IntKind.i64 ∧ (bcase (decide ((x1 : Int) < 0)) (
 vcS Try.prog w0 qs60 (sub c60 [1, 0, 1, 0]) (upd (upd (upd (argS [.slice x0 x0n x0c, .int .i64 x1]) 4 (.slice none 0 0)) 9 (.int .i64 x1)) 10 (.bool (decide ((x1 : Int) < 0)))) m (thenS (fun σ m => vcS Try.prog w0 qs60 (sub c60 [1, 1]) σ m (retQ Try.prog Try.f60 R)) (retQ Try.prog Try.f60 R))) (
 CallsA Try.prog w0 89 #[.int .u64 (IntKind.wrap .u64 ((x0n : Nat) : Int)), .int .u64 (IntKind.wrap .u64 x1)] m fun r3 m4 =>
 ∃ i1 : Int, ∃ i2 : Int, r3 = .tuple #[.int .u64 i1, .int .u64 i2] ∧ IntKind.u64 = IntKind.u64 ∧ (bcase (decide ((i1 : Int) > 0)) (
 (decide ((i1 : Int) > 0)) = true ∧ vcS Try.prog w0 qs60 (sub c60 [1, 1, 1, 0, 1, 0]) (upd (upd (upd (upd (upd (upd (upd (upd (upd (upd (upd (upd (upd (upd (upd (upd (upd (upd (upd (upd (argS [.slice x0 x0n x0c, .int .i64 x1]) 4 (.slice none 0 0)) 9 (.int .i64 x1)) 10 (.bool (decide ((x1 : Int) < 0)))) 13 (.slice x0 x0n x0c)) 14 (.int .i64 ((x0n : Nat) : Int))) 15 (.int .u64 (IntKind.wrap .u64 ((x0n : Nat) : Int)))) 16 (.int .i64 x1)) 17 (.int .u64 (IntKind.wrap .u64 x1))) 18 (.tuple #[.int .u64 i1, .int .u64 i2])) 12 (.tuple #[.int .u64 i1, .int .u64 i2])) 19 (.int .u64 i1)) 20 (.int .u64 i2)) 5 (.int .u64 i1)) 6 (.int .u64 i2)) 21 (.int .u64 i1)) 22 (.bool (decide ((i1 : Int) > 0)))) 23 (.bool (decide ((i1 : Int) > 0)))) 24 (undef)) 25 (undef)) 26 (.bool true)) m4 (thenS (fun σ m => vcS Try.prog w0 qs60 (sub c60 [1, 1, 1, 1]) σ m (retQ Try.prog Try.f60 R)) (retQ Try.prog Try.f60 R))) (
 IntKind.u64 = IntKind.u64 ∧ (bcase (bif decide ((i1 : Int) > 0) then true else decide ((i2 : Int) > 9223372036854775807)) (
 vcS Try.prog w0 qs60 (sub c60 [1, 1, 1, 0, 1, 0]) (upd (upd (upd (upd (upd (upd (upd (upd (upd (upd (upd (upd (upd (upd (upd (upd (upd (upd (upd (upd (argS [.slice x0 x0n x0c, .int .i64 x1]) 4 (.slice none 0 0)) 9 (.int .i64 x1)) 10 (.bool (decide ((x1 : Int) < 0)))) 13 (.slice x0 x0n x0c)) 14 (.int .i64 ((x0n : Nat) : Int))) 15 (.int .u64 (IntKind.wrap .u64 ((x0n : Nat) : Int)))) 16 (.int .i64 x1)) 17 (.int .u64 (IntKind.wrap .u64 x1))) 18 (.tuple #[.int .u64 i1, .int .u64 i2])) 12 (.tuple #[.int .u64 i1, .int .u64 i2])) 19 (.int .u64 i1)) 20 (.int .u64 i2)) 5 (.int .u64 i1)) 6 (.int .u64 i2)) 21 (.int .u64 i1)) 22 (.bool (decide ((i1 : Int) > 0)))) 23 (.bool (decide ((i1 : Int) > 0)))) 24 (.int .u64 i2)) 25 (.bool (decide ((i2 : Int) > 9223372036854775807)))) 26 (.bool (bif decide ((i1 : Int) > 0) then true else decide ((i2 : Int) > 9223372036854775807)))) m4 (thenS (fun σ m => vcS Try.prog w0 qs60 (sub c60 [1, 1, 1, 1]) σ m (retQ Try.prog Try.f60 R)) (retQ Try.prog Try.f60 R))) (
 ((0 : Int) ≤ (IntKind.wrap .i64 i2) ∧ ((IntKind.wrap .i64 i2) : Int) ≤ (IntKind.wrap .i64 i2) ∧ ((IntKind.wrap .i64 i2) : Int) ≤ 9223372036854775807 ∧ ((8 : Nat) : Int) * (IntKind.wrap .i64 i2) ≤ 281474976710656) ∧ ∀ b7 : Nat, w0.heap.size ≤ b7 → m4 b7 = none → let m8 := AM.upd m4 b7 (.cells (zeros [.int .i64 0] (IntKind.wrap .i64 i2 : Int).toNat).toArray 3);
 awp Try.prog w0.heap.size (Builtin.copy_ #[30, 30] 3 #[.slice (some ⟨b7, 0, none⟩) ((IntKind.wrap .i64 i2 : Int).toNat) ((IntKind.wrap .i64 i2 : Int).toNat), .slice x0 x0n x0c]) m8 fun v9 m10 =>
 ∃ i11 : Int, v9 = .int .i64 i11 ∧ vcS Try.prog w0 qs60 (sub c60 [1, 1, 1, 1, 1, 1, 0, 0]) (upd (upd (upd (upd (upd (upd (upd (upd (upd (upd (upd (upd (upd (upd (upd (upd (upd (upd (upd (upd (upd (upd (upd (upd (upd (upd (upd (upd (argS [.slice x0 x0n x0c, .int .i64 x1]) 4 (.slice none 0 0)) 9 (.int .i64 x1)) 10 (.bool (decide ((x1 : Int) < 0)))) 13 (.slice x0 x0n x0c)) 14 (.int .i64 ((x0n : Nat) : Int))) 15 (.int .u64 (IntKind.wrap .u64 ((x0n : Nat) : Int)))) 16 (.int .i64 x1)) 17 (.int .u64 (IntKind.wrap .u64 x1))) 18 (.tuple #[.int .u64 i1, .int .u64 i2])) 12 (.tuple #[.int .u64 i1, .int .u64 i2])) 19 (.int .u64 i1)) 20 (.int .u64 i2)) 5 (.int .u64 i1)) 6 (.int .u64 i2)) 21 (.int .u64 i1)) 22 (.bool (decide ((i1 : Int) > 0)))) 23 (.bool (decide ((i1 : Int) > 0)))) 24 (.int .u64 i2)) 25 (.bool (decide ((i2 : Int) > 9223372036854775807)))) 26 (.bool (bif decide ((i1 : Int) > 0) then true else decide ((i2 : Int) > 9223372036854775807)))) 28 (.int .u64 i2)) 29 (.int .i64 (IntKind.wrap .i64 i2))) 30 (.slice (some ⟨b7, 0, none⟩) ((IntKind.wrap .i64 i2 : Int).toNat) ((IntKind.wrap .i64 i2 : Int).toNat))) 7 (.slice (some ⟨b7, 0, none⟩) ((IntKind.wrap .i64 i2 : Int).toNat) ((IntKind.wrap .i64 i2 : Int).toNat))) 31 (.slice (some ⟨b7, 0, none⟩) ((IntKind.wrap .i64 i2 : Int).toNat) ((IntKind.wrap .i64 i2 : Int).toNat))) 32 (.slice x0 x0n x0c)) 33 (.int .i64 i11)) 8 (.int .i64 i11)) m10 (blockS 0 (thenS (fun σ m => vcS Try.prog w0 qs60 (sub c60 [1, 1, 1, 1, 1, 1, 1]) σ m (retQ Try.prog Try.f60 R)) (retQ Try.prog Try.f60 R)))))))))) : CallsA Try.prog w0 60 #[.slice x0 x0n x0c, .int .i64 x1] m R :=
  callsA_of (c := c60) (args := [.slice x0 x0n x0c, .int .i64 x1]) (by kernel_rfl) Try.func60 (by kernel_rfl) qs60 (by kernel_rfl) (by kernel_rfl) (cast (by kernel_rfl) h)
def lq60_11111100 (R : Value → AM → Prop) (x7 : Option Addr) (x7n x7c : Nat) (I0 : Nat → Int → AM → Prop) (E0_0 : AM → Prop) (n0 : Nat) : Exit → Sg → AM → Prop
  | .normal, σ, m => σ 7 = .slice x7 x7n x7c ∧ okI .i64 (σ 8) = true ∧ ∃ n' : Nat, n' < n0 ∧ I0 n' (vI (σ 8)) m
  | .exit id, σ, m => if id = 0 then σ 7 = .slice x7 x7n x7c ∧ E0_0  m else False
  | .ret, σ, m => retQ Try.prog Try.f60 R .ret σ m
  | _, _, _ => False
theorem vl60_11111100 (w0 : World) (m : AM) (σ : Sg) (R : Value → AM → Prop)  (x7 : Option Addr) (x7n x7c : Nat) (x8 : Int) (I0 : Nat → Int → AM → Prop) (E0_0 : AM → Prop) (N : Nat) (h7 : σ 7 = .slice x7 x7n x7c) (h8 : σ 8 = .int .i64 x8)
 (h_0 : I0 N x8 m)
 (h_s : ∀ (n0 : Nat) (σ : Sg) (x8 : Int) (m : AM), I0 n0 x8 m → (
 IntKind.i64 = IntKind.i64 ∧ (bcase (decide ((x8 : Int) < ((x7n : Nat) : Int))) (
 (0 : Int) ≤ x8 ∧ x7n ≤ x7c ∧ ((x8 : Int).toNat) ≤ x7n ∧
 (0 : Int) ≤ x8 ∧ ((x8 : Int).toNat) ≤ x7c ∧ 0 ≤ ((x8 : Int).toNat) ∧
 awp Try.prog w0.heap.size (Builtin.copy_ #[30, 30] 3 #[.slice (if x7c = ((x8 : Int).toNat) then x7 else Option.map (fun x => Addr.add x ((x8 : Int).toNat * 1)) x7) (x7n - ((x8 : Int).toNat)) (x7c - ((x8 : Int).toNat)), .slice (if x7c = 0 then x7 else Option.map (fun x => Addr.add x (0 * 1)) x7) (((x8 : Int).toNat) - 0) (x7c - 0)]) m fun v12 m13 =>
 ∃ i14 : Int, v12 = .int .i64 i14 ∧ IntKind.i64 = IntKind.i64 ∧ (.slice x7 x7n x7c : Value) = .slice x7 x7n x7c ∧ true = true ∧ ∃ n' : Nat, n' < n0 ∧ I0 n' (IntKind.wrap .i64 (x8 + i14)) m13) (
 (.slice x7 x7n x7c : Value) = .slice x7 x7n x7c ∧ E0_0  m))))
 (h_e0 : ∀ (σ : Sg)  (m : AM), E0_0  m → (
 RetP R (.slice x7 x7n x7c) m)) :
 vcS Try.prog w0 qs60 (sub c60 [1, 1, 1, 1, 1, 1, 0, 0]) σ m (blockS 0 (thenS (fun σ m => vcS Try.prog w0 qs60 (sub c60 [1, 1, 1, 1, 1, 1, 1]) σ m (retQ Try.prog Try.f60 R)) (retQ Try.prog Try.f60 R))) := by
  rw [show sub c60 [1, 1, 1, 1, 1, 1, 0, 0] = .loop (sub c60 [1, 1, 1, 1, 1, 1, 0, 0, 0]) from by kernel_rfl]
  refine loopQ (fun n0 σ m => σ 7 = .slice x7 x7n x7c ∧ okI .i64 (σ 8) = true ∧ I0 n0 (vI (σ 8)) m) N (fun n0 => (lq60_11111100 R x7 x7n x7c I0 E0_0 n0)) ⟨h7, (by rw [h8]; rfl), (by rw [h8]; exact h_0)⟩ ?_ ?_ ?_
  · rintro n0 σ m ⟨kk0, kk1, n', hlt, hI⟩; exact ⟨n', hlt, kk0, kk1, hI⟩
  · intro n0 e σ m hne h
    cases e with
    | normal => exact absurd rfl hne
    | ret => exact h
    | exit id =>
      by_cases e0 : id = 0
      · subst e0
        obtain ⟨kk0, hE⟩ := h
        have es : (upd σ 7 (.slice x7 x7n x7c)) = σ := by rw [upd_id kk0]
        exact cast (congrArg (fun s => (blockS 0 (thenS (fun σ m => vcS Try.prog w0 qs60 (sub c60 [1, 1, 1, 1, 1, 1, 1]) σ m (retQ Try.prog Try.f60 R)) (retQ Try.prog Try.f60 R))) (.exit 0) s m) es) (cast (by kernel_rfl) (h_e0 σ  m hE))
      · replace h := (if_neg e0 : (if id = 0 then _ else _) = _).mp h
        exact False.elim h
    | _ => exact False.elim h
  · rintro n0 σ m ⟨kk0, kk1, hI⟩
    have es : (upd (upd σ 7 (.slice x7 x7n x7c)) 8 (.int .i64 (vI (σ 8)))) = σ := by rw [upd_id kk0, upd_id (ok_int kk1)]
    exact cast (congrArg (fun s => vcS Try.prog w0 qs60 (sub c60 [1, 1, 1, 1, 1, 1, 0, 0, 0]) s m (lq60_11111100 R x7 x7n x7c I0 E0_0 n0)) es) (cast (by kernel_rfl) (h_s n0 σ (vI (σ 8)) m hI))

/-! 111 math/bits.Mul64 -/
def qs111 : Nat → List (Nat × Nat) := fun i => match i with | _ => []
noncomputable def c111 : Code := bodyOf Try.f111
theorem cf111 (w0 : World) (m : AM) (x0 : Int) (x1 : Int) (R : Value → AM → Prop) (h :
 IntKind.u64 = IntKind.u64 ∧ (0 : Int) ≤ 32 ∧ IntKind.u64 = IntKind.u64 ∧ (0 : Int) ≤ 32 ∧ IntKind.u64 = IntKind.u64 ∧ IntKind.u64 = IntKind.u64 ∧ (0 : Int) ≤ 32 ∧ IntKind.u64 = IntKind.u64 ∧ IntKind.u64 = IntKind.u64 ∧ (0 : Int) ≤ 32 ∧ IntKind.u64 = IntKind.u64 ∧ IntKind.u64 = IntKind.u64 ∧ IntKind.u64 = IntKind.u64 ∧ IntKind.u64 = IntKind.u64 ∧ (0 : Int) ≤ 32 ∧ IntKind.u64 = IntKind.u64 ∧ IntKind.u64 = IntKind.u64 ∧ RetP R (.tuple #[.int .u64 (IntKind.wrap .u64 ((IntKind.wrap .u64 ((IntKind.wrap .u64 ((Int.fdiv x0 (2 ^ (min (32 : Int).toNat (IntKind.bits .u64)))) * (Int.fdiv x1 (2 ^ (min (32 : Int).toNat (IntKind.bits .u64)))))) + (Int.fdiv (IntKind.wrap .u64 ((IntKind.wrap .u64 ((Int.fdiv x0 (2 ^ (min (32 : Int).toNat (IntKind.bits .u64)))) * (IntKind.wrap .u64 ((BitVec.ofInt (IntKind.bits .u64) x1 &&& BitVec.ofInt (IntKind.bits .u64) 4294967295).toNat : Int)))) + (Int.fdiv (IntKind.wrap .u64 ((IntKind.wrap .u64 ((BitVec.ofInt (IntKind.bits .u64) x0 &&& BitVec.ofInt (IntKind.bits .u64) 4294967295).toNat : Int)) * (IntKind.wrap .u64 ((BitVec.ofInt (IntKind.bits .u64) x1 &&& BitVec.ofInt (IntKind.bits .u64) 4294967295).toNat : Int)))) (2 ^ (min (32 : Int).toNat (IntKind.bits .u64)))))) (2 ^ (min (32 : Int).toNat (IntKind.bits .u64)))))) + (Int.fdiv (IntKind.wrap .u64 ((IntKind.wrap .u64 ((BitVec.ofInt (IntKind.bits .u64) (IntKind.wrap .u64 ((IntKind.wrap .u64 ((Int.fdiv x0 (2 ^ (min (32 : Int).toNat (IntKind.bits .u64)))) * (IntKind.wrap .u64 ((BitVec.ofInt (IntKind.bits .u64) x1 &&& BitVec.ofInt (IntKind.bits .u64) 4294967295).toNat : Int)))) + (Int.fdiv (IntKind.wrap .u64 ((IntKind.wrap .u64 ((BitVec.ofInt (IntKind.bits .u64) x0 &&& BitVec.ofInt (IntKind.bits .u64) 4294967295).toNat : Int)) * (IntKind.wrap .u64 ((BitVec.ofInt (IntKind.bits .u64) x1 &&& BitVec.ofInt (IntKind.bits .u64) 4294967295).toNat : Int)))) (2 ^ (min (32 : Int).toNat (IntKind.bits .u64)))))) &&& BitVec.ofInt (IntKind.bits .u64) 4294967295).toNat : Int)) + (IntKind.wrap .u64 ((IntKind.wrap .u64 ((BitVec.ofInt (IntKind.bits .u64) x0 &&& BitVec.ofInt (IntKind.bits .u64) 4294967295).toNat : Int)) * (Int.fdiv x1 (2 ^ (min (32 : Int).toNat (IntKind.bits .u64)))))))) (2 ^ (min (32 : Int).toNat (IntKind.bits .u64)))))), .int .u64 (IntKind.wrap .u64 (x0 * x1))]) m) : CallsA Try.prog w0 111 #[.int .u64 x0, .int .u64 x1] m R :=
  callsA_of (c := c111) (args := [.int .u64 x0, .int .u64 x1]) (by kernel_rfl) Try.func111 (by kernel_rfl) qs111 (by kernel_rfl) (by kernel_rfl) (cast (by kernel_rfl) h)
end Go.Proofs.Ytkfemiloehkmhaa.V

