/- Ytkfemiloehkmhaa: a text of our own, by an AI agent: VLaw11eH -/
import Derived.Test.YtkfemiloehkmhaaCoreA
import Derived.Test.YtkfemiloehkmhaaTabH
namespace Go.Proofs.Ytkfemiloehkmhaa.V
open Go Go.Alog Go.Proofs.Ytkfemiloehkmhaa.T
set_option linter.unusedVariables false
set_option maxRecDepth 100000

/-! 15 delayslot/delayslotlaw11.SchedShort -/
def qs15 : Nat → List (Nat × Nat) := fun i => match i with | _ => []
noncomputable def c15 : Code := bodyOf Try.f15
theorem cf15 (w0 : World) (m : AM) (x0 : Option Addr) (x0n x0c : Nat) (R : Value → AM → Prop) (h :
 IntKind.i64 = IntKind.i64 ∧ (bcase (decide ((((x0n : Nat) : Int) : Int) > 40)) (
 CallsA Try.prog w0 32 #[] m fun r2 m3 =>
 ∃ t1 : Bool, r2 = .bool t1 ∧ RetP R (.bool t1) m3) (
 vcS Try.prog w0 qs15 (sub c15 [1, 1, 1, 0, 1, 0]) (upd (upd (upd (upd (upd (upd (upd (upd (argS [.slice x0 x0n x0c]) 2 (.bool false)) 16 (.slice x0 x0n x0c)) 17 (.int .i64 ((x0n : Nat) : Int))) 18 (.bool (decide ((((x0n : Nat) : Int) : Int) > 40)))) 3 (.int .i64 0)) 20 (.slice x0 x0n x0c)) 21 (.int .i64 ((x0n : Nat) : Int))) 22 (.int .i64 0)) m (blockS 0 (thenS (fun σ m => vcS Try.prog w0 qs15 (sub c15 [1, 1, 1, 1]) σ m (retQ Try.prog Try.f15 R)) (retQ Try.prog Try.f15 R)))))) : CallsA Try.prog w0 15 #[.slice x0 x0n x0c] m R :=
  callsA_of (c := c15) (args := [.slice x0 x0n x0c]) (by kernel_rfl) Try.func15 (by kernel_rfl) qs15 (by kernel_rfl) (by kernel_rfl) (cast (by kernel_rfl) h)
def lq15_111010 (R : Value → AM → Prop) (x0 : Option Addr) (x0n x0c : Nat) (x20 : Option Addr) (x20n x20c : Nat) (x21 : Int) (I0 : Nat → Int → Int → AM → Prop) (E0_0 : Int → AM → Prop) (n0 : Nat) : Exit → Sg → AM → Prop
  | .normal, σ, m => σ 0 = .slice x0 x0n x0c ∧ σ 20 = .slice x20 x20n x20c ∧ σ 21 = .int .i64 x21 ∧ okI .i64 (σ 3) = true ∧ okI .i64 (σ 22) = true ∧ ∃ n' : Nat, n' < n0 ∧ I0 n' (vI (σ 3)) (vI (σ 22)) m
  | .exit id, σ, m => if id = 0 then σ 0 = .slice x0 x0n x0c ∧ σ 20 = .slice x20 x20n x20c ∧ σ 21 = .int .i64 x21 ∧ okI .i64 (σ 3) = true ∧ E0_0 (vI (σ 3)) m else False
  | .ret, σ, m => retQ Try.prog Try.f15 R .ret σ m
  | _, _, _ => False
theorem vl15_111010 (w0 : World) (m : AM) (σ : Sg) (R : Value → AM → Prop)  (x0 : Option Addr) (x0n x0c : Nat) (x20 : Option Addr) (x20n x20c : Nat) (x21 : Int) (x3 : Int) (x22 : Int) (I0 : Nat → Int → Int → AM → Prop) (E0_0 : Int → AM → Prop) (N : Nat) (h0 : σ 0 = .slice x0 x0n x0c) (h3 : σ 3 = .int .i64 x3) (h20 : σ 20 = .slice x20 x20n x20c) (h21 : σ 21 = .int .i64 x21) (h22 : σ 22 = .int .i64 x22)
 (h_0 : I0 N x3 x22 m)
 (h_s : ∀ (n0 : Nat) (σ : Sg) (x3 : Int) (x22 : Int) (m : AM), I0 n0 x3 x22 m → (
 IntKind.i64 = IntKind.i64 ∧ (bcase (decide ((x22 : Int) < x21)) (
 ((0 : Int) ≤ x22 ∧ x22 < ((x20n : Nat) : Int)) ∧ nilO x20 fun a4 =>
 ∃ i5 : Int, m.cell (a4.add ((x22 : Int).toNat * 5)) = some (.int .i64 i5) ∧ ∃ i6 : Int, m.cell ((a4.add ((x22 : Int).toNat * 5)).add 1) = some (.int .i64 i6) ∧ ∃ i7 : Int, m.cell ((a4.add ((x22 : Int).toNat * 5)).add 2) = some (.int .i64 i7) ∧ ∃ i8 : Int, m.cell ((a4.add ((x22 : Int).toNat * 5)).add 3) = some (.int .i64 i8) ∧ ∃ i9 : Int, m.cell ((a4.add ((x22 : Int).toNat * 5)).add 4) = some (.int .i64 i9) ∧ 
 ∀ b10 : Nat, w0.heap.size ≤ b10 → m b10 = none → let m11 := AM.upd m b10 (.cells #[.int .i64 0, .int .i64 0, .int .i64 0, .int .i64 0, .int .i64 0] 24);
 StC w0.heap.size m11 ⟨b10, 0, none⟩ (.int .i64 i5) fun m12 =>
 StC w0.heap.size m12 ⟨b10, 1, none⟩ (.int .i64 i6) fun m13 =>
 StC w0.heap.size m13 ⟨b10, 2, none⟩ (.int .i64 i7) fun m14 =>
 StC w0.heap.size m14 ⟨b10, 3, none⟩ (.int .i64 i8) fun m15 =>
 StC w0.heap.size m15 ⟨b10, 4, none⟩ (.int .i64 i9) fun m16 =>
 ∃ i17 : Int, m16.cell ⟨b10, 0, none⟩ = some (.int .i64 i17) ∧ ∃ i18 : Int, m16.cell ⟨b10, 1, none⟩ = some (.int .i64 i18) ∧ ∃ i19 : Int, m16.cell ⟨b10, 2, none⟩ = some (.int .i64 i19) ∧ ∃ i20 : Int, m16.cell ⟨b10, 3, none⟩ = some (.int .i64 i20) ∧ ∃ i21 : Int, m16.cell ⟨b10, 4, none⟩ = some (.int .i64 i21) ∧ 
 CallsA Try.prog w0 40 #[.agg #[.int .i64 i17, .int .i64 i18, .int .i64 i19, .int .i64 i20, .int .i64 i21]] m16 fun r23 m24 =>
 ∃ t22 : Bool, r23 = .bool t22 ∧ (bcase t22 (
 IntKind.i64 = IntKind.i64 ∧ IntKind.i64 = IntKind.i64 ∧ (.slice x0 x0n x0c : Value) = .slice x0 x0n x0c ∧ (.slice x20 x20n x20c : Value) = .slice x20 x20n x20c ∧ (.int .i64 x21 : Value) = .int .i64 x21 ∧ true = true ∧ true = true ∧ ∃ n' : Nat, n' < n0 ∧ I0 n' (IntKind.wrap .i64 (x3 + 1)) (IntKind.wrap .i64 (x22 + 1)) m24) (
 IntKind.i64 = IntKind.i64 ∧ (.slice x0 x0n x0c : Value) = .slice x0 x0n x0c ∧ (.slice x20 x20n x20c : Value) = .slice x20 x20n x20c ∧ (.int .i64 x21 : Value) = .int .i64 x21 ∧ true = true ∧ true = true ∧ ∃ n' : Nat, n' < n0 ∧ I0 n' x3 (IntKind.wrap .i64 (x22 + 1)) m24))) (
 (.slice x0 x0n x0c : Value) = .slice x0 x0n x0c ∧ (.slice x20 x20n x20c : Value) = .slice x20 x20n x20c ∧ (.int .i64 x21 : Value) = .int .i64 x21 ∧ true = true ∧ E0_0 x3 m))))
 (h_e0 : ∀ (σ : Sg) (x3 : Int) (m : AM), E0_0 x3 m → (
 CallsA Try.prog w0 34 #[.slice x0 x0n x0c] m fun r28 m29 =>
 ∃ (A25 : Option Addr) (n26 c27 : Nat), r28 = .slice A25 n26 c27 ∧ CallsA Try.prog w0 36 #[.slice x0 x0n x0c, .slice A25 n26 c27] m29 fun r33 m34 =>
 ∃ (A30 : Option Addr) (n31 c32 : Nat), r33 = .slice A30 n31 c32 ∧ IntKind.i64 = IntKind.i64 ∧ (bcase (decide ((((n26 : Nat) : Int) : Int) < ((x0n : Nat) : Int))) (
 (decide ((((n26 : Nat) : Int) : Int) < ((x0n : Nat) : Int))) = true ∧ true = true ∧ RetP R (.bool false) m34) (
 IntKind.i64 = IntKind.i64 ∧ IntKind.i64 = IntKind.i64 ∧ (bcase (bif decide ((((n26 : Nat) : Int) : Int) < ((x0n : Nat) : Int)) then true else decide ((((n26 : Nat) : Int) : Int) > (IntKind.wrap .i64 (((x0n : Nat) : Int) + x3)))) (
 (bif decide ((((n26 : Nat) : Int) : Int) < ((x0n : Nat) : Int)) then true else decide ((((n26 : Nat) : Int) : Int) > (IntKind.wrap .i64 (((x0n : Nat) : Int) + x3)))) = true ∧ RetP R (.bool false) m34) (
 IntKind.i64 = IntKind.i64 ∧ (bcase (bif bif decide ((((n26 : Nat) : Int) : Int) < ((x0n : Nat) : Int)) then true else decide ((((n26 : Nat) : Int) : Int) > (IntKind.wrap .i64 (((x0n : Nat) : Int) + x3))) then true else (((n31 : Nat) : Int) : Int) != ((n26 : Nat) : Int)) (
 RetP R (.bool false) m34) (
 vcS Try.prog w0 qs15 (sub c15 [1, 1, 1, 1, 1, 1, 1, 0, 1, 0]) (upd (upd (upd (upd (upd (upd (upd (upd (upd (upd (upd (upd (upd (upd (upd (upd (upd (upd (upd (upd (upd (upd (upd (upd (upd (upd (upd (upd (upd (upd (upd (upd (upd (upd (upd σ 0 (.slice x0 x0n x0c)) 20 (.slice x20 x20n x20c)) 21 (.int .i64 x21)) 3 (.int .i64 x3)) 31 (.slice x0 x0n x0c)) 32 (.slice A25 n26 c27)) 6 (.slice A25 n26 c27)) 33 (.slice x0 x0n x0c)) 34 (.slice A25 n26 c27)) 35 (.slice A30 n31 c32)) 7 (.slice A30 n31 c32)) 36 (.slice A25 n26 c27)) 37 (.int .i64 ((n26 : Nat) : Int))) 38 (.slice x0 x0n x0c)) 39 (.int .i64 ((x0n : Nat) : Int))) 40 (.bool (decide ((((n26 : Nat) : Int) : Int) < ((x0n : Nat) : Int))))) 41 (.bool (decide ((((n26 : Nat) : Int) : Int) < ((x0n : Nat) : Int))))) 42 (.slice A25 n26 c27)) 43 (.int .i64 ((n26 : Nat) : Int))) 44 (.slice x0 x0n x0c)) 45 (.int .i64 ((x0n : Nat) : Int))) 46 (.int .i64 x3)) 47 (.int .i64 (IntKind.wrap .i64 (((x0n : Nat) : Int) + x3)))) 48 (.bool (decide ((((n26 : Nat) : Int) : Int) > (IntKind.wrap .i64 (((x0n : Nat) : Int) + x3)))))) 49 (.bool (bif decide ((((n26 : Nat) : Int) : Int) < ((x0n : Nat) : Int)) then true else decide ((((n26 : Nat) : Int) : Int) > (IntKind.wrap .i64 (((x0n : Nat) : Int) + x3)))))) 50 (.bool (bif decide ((((n26 : Nat) : Int) : Int) < ((x0n : Nat) : Int)) then true else decide ((((n26 : Nat) : Int) : Int) > (IntKind.wrap .i64 (((x0n : Nat) : Int) + x3)))))) 51 (.slice A30 n31 c32)) 52 (.int .i64 ((n31 : Nat) : Int))) 53 (.slice A25 n26 c27)) 54 (.int .i64 ((n26 : Nat) : Int))) 55 (.bool ((((n31 : Nat) : Int) : Int) != ((n26 : Nat) : Int)))) 56 (.bool (bif bif decide ((((n26 : Nat) : Int) : Int) < ((x0n : Nat) : Int)) then true else decide ((((n26 : Nat) : Int) : Int) > (IntKind.wrap .i64 (((x0n : Nat) : Int) + x3))) then true else (((n31 : Nat) : Int) : Int) != ((n26 : Nat) : Int)))) 57 (.slice x0 x0n x0c)) 58 (.int .i64 ((x0n : Nat) : Int))) 59 (.int .i64 0)) m34 (blockS 2 (thenS (fun σ m => vcS Try.prog w0 qs15 (sub c15 [1, 1, 1, 1, 1, 1, 1, 1]) σ m (retQ Try.prog Try.f15 R)) (retQ Try.prog Try.f15 R))))))))))) :
 vcS Try.prog w0 qs15 (sub c15 [1, 1, 1, 0, 1, 0]) σ m (blockS 0 (thenS (fun σ m => vcS Try.prog w0 qs15 (sub c15 [1, 1, 1, 1]) σ m (retQ Try.prog Try.f15 R)) (retQ Try.prog Try.f15 R))) := by
  rw [show sub c15 [1, 1, 1, 0, 1, 0] = .loop (sub c15 [1, 1, 1, 0, 1, 0, 0]) from by kernel_rfl]
  refine loopQ (fun n0 σ m => σ 0 = .slice x0 x0n x0c ∧ σ 20 = .slice x20 x20n x20c ∧ σ 21 = .int .i64 x21 ∧ okI .i64 (σ 3) = true ∧ okI .i64 (σ 22) = true ∧ I0 n0 (vI (σ 3)) (vI (σ 22)) m) N (fun n0 => (lq15_111010 R x0 x0n x0c x20 x20n x20c x21 I0 E0_0 n0)) ⟨h0, h20, h21, (by rw [h3]; rfl), (by rw [h22]; rfl), (by rw [h3, h22]; exact h_0)⟩ ?_ ?_ ?_
  · rintro n0 σ m ⟨kk0, kk1, kk2, kk3, kk4, n', hlt, hI⟩; exact ⟨n', hlt, kk0, kk1, kk2, kk3, kk4, hI⟩
  · intro n0 e σ m hne h
    cases e with
    | normal => exact absurd rfl hne
    | ret => exact h
    | exit id =>
      by_cases e0 : id = 0
      · subst e0
        obtain ⟨kk0, kk1, kk2, kk3, hE⟩ := h
        have es : (upd (upd (upd (upd σ 0 (.slice x0 x0n x0c)) 20 (.slice x20 x20n x20c)) 21 (.int .i64 x21)) 3 (.int .i64 (vI (σ 3)))) = σ := by rw [upd_id kk0, upd_id kk1, upd_id kk2, upd_id (ok_int kk3)]
        exact cast (congrArg (fun s => (blockS 0 (thenS (fun σ m => vcS Try.prog w0 qs15 (sub c15 [1, 1, 1, 1]) σ m (retQ Try.prog Try.f15 R)) (retQ Try.prog Try.f15 R))) (.exit 0) s m) es) (cast (by kernel_rfl) (h_e0 σ (vI (σ 3)) m hE))
      · replace h := (if_neg e0 : (if id = 0 then _ else _) = _).mp h
        exact False.elim h
    | _ => exact False.elim h
  · rintro n0 σ m ⟨kk0, kk1, kk2, kk3, kk4, hI⟩
    have es : (upd (upd (upd (upd (upd σ 0 (.slice x0 x0n x0c)) 3 (.int .i64 (vI (σ 3)))) 20 (.slice x20 x20n x20c)) 21 (.int .i64 x21)) 22 (.int .i64 (vI (σ 22)))) = σ := by rw [upd_id kk0, upd_id (ok_int kk3), upd_id kk1, upd_id kk2, upd_id (ok_int kk4)]
    exact cast (congrArg (fun s => vcS Try.prog w0 qs15 (sub c15 [1, 1, 1, 0, 1, 0, 0]) s m (lq15_111010 R x0 x0n x0c x20 x20n x20c x21 I0 E0_0 n0)) es) (cast (by kernel_rfl) (h_s n0 σ (vI (σ 3)) (vI (σ 22)) m hI))
def lq15_1111111010 (R : Value → AM → Prop) (x0 : Option Addr) (x0n x0c : Nat) (x7 : Option Addr) (x7n x7c : Nat) (x57 : Option Addr) (x57n x57c : Nat) (x58 : Int) (I0 : Nat → Int → AM → Prop) (E0_2 : AM → Prop) (n0 : Nat) : Exit → Sg → AM → Prop
  | .normal, σ, m => σ 0 = .slice x0 x0n x0c ∧ σ 7 = .slice x7 x7n x7c ∧ σ 57 = .slice x57 x57n x57c ∧ σ 58 = .int .i64 x58 ∧ okI .i64 (σ 59) = true ∧ ∃ n' : Nat, n' < n0 ∧ I0 n' (vI (σ 59)) m
  | .exit id, σ, m => if id = 2 then σ 0 = .slice x0 x0n x0c ∧ σ 7 = .slice x7 x7n x7c ∧ σ 57 = .slice x57 x57n x57c ∧ σ 58 = .int .i64 x58 ∧ E0_2  m else False
  | .ret, σ, m => retQ Try.prog Try.f15 R .ret σ m
  | _, _, _ => False
theorem vl15_1111111010 (w0 : World) (m : AM) (σ : Sg) (R : Value → AM → Prop)  (x0 : Option Addr) (x0n x0c : Nat) (x7 : Option Addr) (x7n x7c : Nat) (x57 : Option Addr) (x57n x57c : Nat) (x58 : Int) (x59 : Int) (I0 : Nat → Int → AM → Prop) (E0_2 : AM → Prop) (N : Nat) (h0 : σ 0 = .slice x0 x0n x0c) (h7 : σ 7 = .slice x7 x7n x7c) (h57 : σ 57 = .slice x57 x57n x57c) (h58 : σ 58 = .int .i64 x58) (h59 : σ 59 = .int .i64 x59)
 (h_0 : I0 N x59 m)
 (h_s : ∀ (n0 : Nat) (σ : Sg) (x59 : Int) (m : AM), I0 n0 x59 m → (
 IntKind.i64 = IntKind.i64 ∧ (bcase (decide ((x59 : Int) < x58)) (
 ((0 : Int) ≤ x59 ∧ x59 < ((x57n : Nat) : Int)) ∧ nilO x57 fun a35 =>
 ∃ i36 : Int, m.cell (a35.add ((x59 : Int).toNat * 5)) = some (.int .i64 i36) ∧ ∃ i37 : Int, m.cell ((a35.add ((x59 : Int).toNat * 5)).add 1) = some (.int .i64 i37) ∧ ∃ i38 : Int, m.cell ((a35.add ((x59 : Int).toNat * 5)).add 2) = some (.int .i64 i38) ∧ ∃ i39 : Int, m.cell ((a35.add ((x59 : Int).toNat * 5)).add 3) = some (.int .i64 i39) ∧ ∃ i40 : Int, m.cell ((a35.add ((x59 : Int).toNat * 5)).add 4) = some (.int .i64 i40) ∧ 
 ∀ b41 : Nat, w0.heap.size ≤ b41 → m b41 = none → let m42 := AM.upd m b41 (.cells #[.int .i64 0, .int .i64 0, .int .i64 0, .int .i64 0, .int .i64 0] 24);
 StC w0.heap.size m42 ⟨b41, 0, none⟩ (.int .i64 i36) fun m43 =>
 StC w0.heap.size m43 ⟨b41, 1, none⟩ (.int .i64 i37) fun m44 =>
 StC w0.heap.size m44 ⟨b41, 2, none⟩ (.int .i64 i38) fun m45 =>
 StC w0.heap.size m45 ⟨b41, 3, none⟩ (.int .i64 i39) fun m46 =>
 StC w0.heap.size m46 ⟨b41, 4, none⟩ (.int .i64 i40) fun m47 =>
 vcS Try.prog w0 qs15 (sub c15 [1, 1, 1, 1, 1, 1, 1, 0, 1, 0, 0, 1, 1, 0, 0, 1, 1, 0, 1, 0]) (upd (upd (upd (upd (upd (upd (upd (upd (upd (upd (upd (upd (upd (upd σ 0 (.slice x0 x0n x0c)) 7 (.slice x7 x7n x7c)) 57 (.slice x57 x57n x57c)) 58 (.int .i64 x58)) 59 (.int .i64 x59)) 60 (.bool (decide ((x59 : Int) < x58)))) 61 (.pointer (some (a35.add ((x59 : Int).toNat * 5))))) 62 (.agg #[.int .i64 i36, .int .i64 i37, .int .i64 i38, .int .i64 i39, .int .i64 i40])) 9 (.pointer (some ⟨b41, 0, none⟩))) 10 (.int .i64 0)) 11 (.int .i64 0)) 63 (.slice x0 x0n x0c)) 64 (.int .i64 ((x0n : Nat) : Int))) 65 (.int .i64 0)) m47 (blockS 4 (thenS (fun σ m => vcS Try.prog w0 qs15 (sub c15 [1, 1, 1, 1, 1, 1, 1, 0, 1, 0, 0, 1, 1, 0, 0, 1, 1, 1]) σ m (blockS 3 (thenS (fun σ m => vcS Try.prog w0 qs15 (sub c15 [1, 1, 1, 1, 1, 1, 1, 0, 1, 0, 0, 1, 1, 1]) σ m (lq15_1111111010 R x0 x0n x0c x7 x7n x7c x57 x57n x57c x58 I0 E0_2 n0)) (lq15_1111111010 R x0 x0n x0c x7 x7n x7c x57 x57n x57c x58 I0 E0_2 n0)))) (blockS 3 (thenS (fun σ m => vcS Try.prog w0 qs15 (sub c15 [1, 1, 1, 1, 1, 1, 1, 0, 1, 0, 0, 1, 1, 1]) σ m (lq15_1111111010 R x0 x0n x0c x7 x7n x7c x57 x57n x57c x58 I0 E0_2 n0)) (lq15_1111111010 R x0 x0n x0c x7 x7n x7c x57 x57n x57c x58 I0 E0_2 n0)))))) (
 (.slice x0 x0n x0c : Value) = .slice x0 x0n x0c ∧ (.slice x7 x7n x7c : Value) = .slice x7 x7n x7c ∧ (.slice x57 x57n x57c : Value) = .slice x57 x57n x57c ∧ (.int .i64 x58 : Value) = .int .i64 x58 ∧ E0_2  m))))
 (h_e2 : ∀ (σ : Sg)  (m : AM), E0_2  m → (
 CallsA Try.prog w0 32 #[] m fun r49 m50 =>
 ∃ t48 : Bool, r49 = .bool t48 ∧ RetP R (.bool t48) m50)) :
 vcS Try.prog w0 qs15 (sub c15 [1, 1, 1, 1, 1, 1, 1, 0, 1, 0]) σ m (blockS 2 (thenS (fun σ m => vcS Try.prog w0 qs15 (sub c15 [1, 1, 1, 1, 1, 1, 1, 1]) σ m (retQ Try.prog Try.f15 R)) (retQ Try.prog Try.f15 R))) := by
  rw [show sub c15 [1, 1, 1, 1, 1, 1, 1, 0, 1, 0] = .loop (sub c15 [1, 1, 1, 1, 1, 1, 1, 0, 1, 0, 0]) from by kernel_rfl]
  refine loopQ (fun n0 σ m => σ 0 = .slice x0 x0n x0c ∧ σ 7 = .slice x7 x7n x7c ∧ σ 57 = .slice x57 x57n x57c ∧ σ 58 = .int .i64 x58 ∧ okI .i64 (σ 59) = true ∧ I0 n0 (vI (σ 59)) m) N (fun n0 => (lq15_1111111010 R x0 x0n x0c x7 x7n x7c x57 x57n x57c x58 I0 E0_2 n0)) ⟨h0, h7, h57, h58, (by rw [h59]; rfl), (by rw [h59]; exact h_0)⟩ ?_ ?_ ?_
  · rintro n0 σ m ⟨kk0, kk1, kk2, kk3, kk4, n', hlt, hI⟩; exact ⟨n', hlt, kk0, kk1, kk2, kk3, kk4, hI⟩
  · intro n0 e σ m hne h
    cases e with
    | normal => exact absurd rfl hne
    | ret => exact h
    | exit id =>
      by_cases e2 : id = 2
      · subst e2
        obtain ⟨kk0, kk1, kk2, kk3, hE⟩ := h
        have es : (upd (upd (upd (upd σ 0 (.slice x0 x0n x0c)) 7 (.slice x7 x7n x7c)) 57 (.slice x57 x57n x57c)) 58 (.int .i64 x58)) = σ := by rw [upd_id kk0, upd_id kk1, upd_id kk2, upd_id kk3]
        exact cast (congrArg (fun s => (blockS 2 (thenS (fun σ m => vcS Try.prog w0 qs15 (sub c15 [1, 1, 1, 1, 1, 1, 1, 1]) σ m (retQ Try.prog Try.f15 R)) (retQ Try.prog Try.f15 R))) (.exit 2) s m) es) (cast (by kernel_rfl) (h_e2 σ  m hE))
      · replace h := (if_neg e2 : (if id = 2 then _ else _) = _).mp h
        exact False.elim h
    | _ => exact False.elim h
  · rintro n0 σ m ⟨kk0, kk1, kk2, kk3, kk4, hI⟩
    have es : (upd (upd (upd (upd (upd σ 0 (.slice x0 x0n x0c)) 7 (.slice x7 x7n x7c)) 57 (.slice x57 x57n x57c)) 58 (.int .i64 x58)) 59 (.int .i64 (vI (σ 59)))) = σ := by rw [upd_id kk0, upd_id kk1, upd_id kk2, upd_id kk3, upd_id (ok_int kk4)]
    exact cast (congrArg (fun s => vcS Try.prog w0 qs15 (sub c15 [1, 1, 1, 1, 1, 1, 1, 0, 1, 0, 0]) s m (lq15_1111111010 R x0 x0n x0c x7 x7n x7c x57 x57n x57c x58 I0 E0_2 n0)) es) (cast (by kernel_rfl) (h_s n0 σ (vI (σ 59)) m hI))
def lq15_11111110100110011010 (R : Value → AM → Prop) (x0 : Option Addr) (x0n x0c : Nat) (x7 : Option Addr) (x7n x7c : Nat) (x9 : Nat) (x11 : Int) (x57 : Option Addr) (x57n x57c : Nat) (x58 : Int) (x59 : Int) (x63 : Option Addr) (x63n x63c : Nat) (x64 : Int) (I1 : Nat → Int → Int → AM → Prop) (E1_4 : Int → AM → Prop) (n1 : Nat) : Exit → Sg → AM → Prop
  | .normal, σ, m => σ 0 = .slice x0 x0n x0c ∧ σ 7 = .slice x7 x7n x7c ∧ σ 9 = .pointer (some ⟨x9, 0, none⟩) ∧ σ 11 = .int .i64 x11 ∧ σ 57 = .slice x57 x57n x57c ∧ σ 58 = .int .i64 x58 ∧ σ 59 = .int .i64 x59 ∧ σ 63 = .slice x63 x63n x63c ∧ σ 64 = .int .i64 x64 ∧ okI .i64 (σ 10) = true ∧ okI .i64 (σ 65) = true ∧ ∃ n' : Nat, n' < n1 ∧ I1 n' (vI (σ 10)) (vI (σ 65)) m
  | .exit id, σ, m => if id = 4 then σ 0 = .slice x0 x0n x0c ∧ σ 7 = .slice x7 x7n x7c ∧ σ 9 = .pointer (some ⟨x9, 0, none⟩) ∧ σ 11 = .int .i64 x11 ∧ σ 57 = .slice x57 x57n x57c ∧ σ 58 = .int .i64 x58 ∧ σ 59 = .int .i64 x59 ∧ σ 63 = .slice x63 x63n x63c ∧ σ 64 = .int .i64 x64 ∧ okI .i64 (σ 10) = true ∧ E1_4 (vI (σ 10)) m else False
  | .ret, σ, m => retQ Try.prog Try.f15 R .ret σ m
  | _, _, _ => False
theorem vl15_11111110100110011010 (w0 : World) (m : AM) (σ : Sg) (R : Value → AM → Prop) (n0 : Nat) (I0 : Nat → Int → AM → Prop) (E0_2 : AM → Prop) (x0 : Option Addr) (x0n x0c : Nat) (x7 : Option Addr) (x7n x7c : Nat) (x9 : Nat) (x11 : Int) (x57 : Option Addr) (x57n x57c : Nat) (x58 : Int) (x59 : Int) (x63 : Option Addr) (x63n x63c : Nat) (x64 : Int) (x10 : Int) (x65 : Int) (I1 : Nat → Int → Int → AM → Prop) (E1_4 : Int → AM → Prop) (N : Nat) (h0 : σ 0 = .slice x0 x0n x0c) (h7 : σ 7 = .slice x7 x7n x7c) (h9 : σ 9 = .pointer (some ⟨x9, 0, none⟩)) (h10 : σ 10 = .int .i64 x10) (h11 : σ 11 = .int .i64 x11) (h57 : σ 57 = .slice x57 x57n x57c) (h58 : σ 58 = .int .i64 x58) (h59 : σ 59 = .int .i64 x59) (h63 : σ 63 = .slice x63 x63n x63c) (h64 : σ 64 = .int .i64 x64) (h65 : σ 65 = .int .i64 x65)
 (h_0 : I1 N x10 x65 m)
 (h_s : ∀ (n1 : Nat) (σ : Sg) (x10 : Int) (x65 : Int) (m : AM), I1 n1 x10 x65 m → (
 IntKind.i64 = IntKind.i64 ∧ (bcase (decide ((x65 : Int) < x64)) (
 ((0 : Int) ≤ x65 ∧ x65 < ((x63n : Nat) : Int)) ∧ nilO x63 fun a51 =>
 ∃ i52 : Int, m.cell (a51.add ((x65 : Int).toNat * 5)) = some (.int .i64 i52) ∧ ∃ i53 : Int, m.cell ((a51.add ((x65 : Int).toNat * 5)).add 1) = some (.int .i64 i53) ∧ ∃ i54 : Int, m.cell ((a51.add ((x65 : Int).toNat * 5)).add 2) = some (.int .i64 i54) ∧ ∃ i55 : Int, m.cell ((a51.add ((x65 : Int).toNat * 5)).add 3) = some (.int .i64 i55) ∧ ∃ i56 : Int, m.cell ((a51.add ((x65 : Int).toNat * 5)).add 4) = some (.int .i64 i56) ∧ 
 ∀ b57 : Nat, w0.heap.size ≤ b57 → m b57 = none → let m58 := AM.upd m b57 (.cells #[.int .i64 0, .int .i64 0, .int .i64 0, .int .i64 0, .int .i64 0] 24);
 StC w0.heap.size m58 ⟨b57, 0, none⟩ (.int .i64 i52) fun m59 =>
 StC w0.heap.size m59 ⟨b57, 1, none⟩ (.int .i64 i53) fun m60 =>
 StC w0.heap.size m60 ⟨b57, 2, none⟩ (.int .i64 i54) fun m61 =>
 StC w0.heap.size m61 ⟨b57, 3, none⟩ (.int .i64 i55) fun m62 =>
 StC w0.heap.size m62 ⟨b57, 4, none⟩ (.int .i64 i56) fun m63 =>
 ∃ i64 : Int, m63.cell ⟨x9, 0, none⟩ = some (.int .i64 i64) ∧ ∃ i65 : Int, m63.cell ⟨x9, 1, none⟩ = some (.int .i64 i65) ∧ ∃ i66 : Int, m63.cell ⟨x9, 2, none⟩ = some (.int .i64 i66) ∧ ∃ i67 : Int, m63.cell ⟨x9, 3, none⟩ = some (.int .i64 i67) ∧ ∃ i68 : Int, m63.cell ⟨x9, 4, none⟩ = some (.int .i64 i68) ∧ 
 ∃ i69 : Int, m63.cell ⟨b57, 0, none⟩ = some (.int .i64 i69) ∧ ∃ i70 : Int, m63.cell ⟨b57, 1, none⟩ = some (.int .i64 i70) ∧ ∃ i71 : Int, m63.cell ⟨b57, 2, none⟩ = some (.int .i64 i71) ∧ ∃ i72 : Int, m63.cell ⟨b57, 3, none⟩ = some (.int .i64 i72) ∧ ∃ i73 : Int, m63.cell ⟨b57, 4, none⟩ = some (.int .i64 i73) ∧ 
 ∃ t74 : Bool, EqP Try.prog .eql 24 (.agg #[.int .i64 i64, .int .i64 i65, .int .i64 i66, .int .i64 i67, .int .i64 i68]) (.agg #[.int .i64 i69, .int .i64 i70, .int .i64 i71, .int .i64 i72, .int .i64 i73]) t74 ∧ (bcase t74 (
 IntKind.i64 = IntKind.i64 ∧ IntKind.i64 = IntKind.i64 ∧ (.slice x0 x0n x0c : Value) = .slice x0 x0n x0c ∧ (.slice x7 x7n x7c : Value) = .slice x7 x7n x7c ∧ (.pointer (some ⟨x9, 0, none⟩) : Value) = .pointer (some ⟨x9, 0, none⟩) ∧ (.int .i64 x11 : Value) = .int .i64 x11 ∧ (.slice x57 x57n x57c : Value) = .slice x57 x57n x57c ∧ (.int .i64 x58 : Value) = .int .i64 x58 ∧ (.int .i64 x59 : Value) = .int .i64 x59 ∧ (.slice x63 x63n x63c : Value) = .slice x63 x63n x63c ∧ (.int .i64 x64 : Value) = .int .i64 x64 ∧ true = true ∧ true = true ∧ ∃ n' : Nat, n' < n1 ∧ I1 n' (IntKind.wrap .i64 (x10 + 1)) (IntKind.wrap .i64 (x65 + 1)) m63) (
 IntKind.i64 = IntKind.i64 ∧ (.slice x0 x0n x0c : Value) = .slice x0 x0n x0c ∧ (.slice x7 x7n x7c : Value) = .slice x7 x7n x7c ∧ (.pointer (some ⟨x9, 0, none⟩) : Value) = .pointer (some ⟨x9, 0, none⟩) ∧ (.int .i64 x11 : Value) = .int .i64 x11 ∧ (.slice x57 x57n x57c : Value) = .slice x57 x57n x57c ∧ (.int .i64 x58 : Value) = .int .i64 x58 ∧ (.int .i64 x59 : Value) = .int .i64 x59 ∧ (.slice x63 x63n x63c : Value) = .slice x63 x63n x63c ∧ (.int .i64 x64 : Value) = .int .i64 x64 ∧ true = true ∧ true = true ∧ ∃ n' : Nat, n' < n1 ∧ I1 n' x10 (IntKind.wrap .i64 (x65 + 1)) m63))) (
 (.slice x0 x0n x0c : Value) = .slice x0 x0n x0c ∧ (.slice x7 x7n x7c : Value) = .slice x7 x7n x7c ∧ (.pointer (some ⟨x9, 0, none⟩) : Value) = .pointer (some ⟨x9, 0, none⟩) ∧ (.int .i64 x11 : Value) = .int .i64 x11 ∧ (.slice x57 x57n x57c : Value) = .slice x57 x57n x57c ∧ (.int .i64 x58 : Value) = .int .i64 x58 ∧ (.int .i64 x59 : Value) = .int .i64 x59 ∧ (.slice x63 x63n x63c : Value) = .slice x63 x63n x63c ∧ (.int .i64 x64 : Value) = .int .i64 x64 ∧ true = true ∧ E1_4 x10 m))))
 (h_e4 : ∀ (σ : Sg) (x10 : Int) (m : AM), E1_4 x10 m → (
 vcS Try.prog w0 qs15 (sub c15 [1, 1, 1, 1, 1, 1, 1, 0, 1, 0, 0, 1, 1, 0, 0, 1, 1, 1, 0, 1, 0]) (upd (upd (upd (upd (upd (upd (upd (upd (upd (upd (upd (upd (upd σ 0 (.slice x0 x0n x0c)) 7 (.slice x7 x7n x7c)) 9 (.pointer (some ⟨x9, 0, none⟩))) 11 (.int .i64 x11)) 57 (.slice x57 x57n x57c)) 58 (.int .i64 x58)) 59 (.int .i64 x59)) 63 (.slice x63 x63n x63c)) 64 (.int .i64 x64)) 10 (.int .i64 x10)) 75 (.slice x7 x7n x7c)) 76 (.int .i64 ((x7n : Nat) : Int))) 77 (.int .i64 0)) m (blockS 6 (thenS (fun σ m => vcS Try.prog w0 qs15 (sub c15 [1, 1, 1, 1, 1, 1, 1, 0, 1, 0, 0, 1, 1, 0, 0, 1, 1, 1, 1]) σ m (blockS 3 (thenS (fun σ m => vcS Try.prog w0 qs15 (sub c15 [1, 1, 1, 1, 1, 1, 1, 0, 1, 0, 0, 1, 1, 1]) σ m (lq15_1111111010 R x0 x0n x0c x7 x7n x7c x57 x57n x57c x58 I0 E0_2 n0)) (lq15_1111111010 R x0 x0n x0c x7 x7n x7c x57 x57n x57c x58 I0 E0_2 n0)))) (blockS 3 (thenS (fun σ m => vcS Try.prog w0 qs15 (sub c15 [1, 1, 1, 1, 1, 1, 1, 0, 1, 0, 0, 1, 1, 1]) σ m (lq15_1111111010 R x0 x0n x0c x7 x7n x7c x57 x57n x57c x58 I0 E0_2 n0)) (lq15_1111111010 R x0 x0n x0c x7 x7n x7c x57 x57n x57c x58 I0 E0_2 n0))))))) :
 vcS Try.prog w0 qs15 (sub c15 [1, 1, 1, 1, 1, 1, 1, 0, 1, 0, 0, 1, 1, 0, 0, 1, 1, 0, 1, 0]) σ m (blockS 4 (thenS (fun σ m => vcS Try.prog w0 qs15 (sub c15 [1, 1, 1, 1, 1, 1, 1, 0, 1, 0, 0, 1, 1, 0, 0, 1, 1, 1]) σ m (blockS 3 (thenS (fun σ m => vcS Try.prog w0 qs15 (sub c15 [1, 1, 1, 1, 1, 1, 1, 0, 1, 0, 0, 1, 1, 1]) σ m (lq15_1111111010 R x0 x0n x0c x7 x7n x7c x57 x57n x57c x58 I0 E0_2 n0)) (lq15_1111111010 R x0 x0n x0c x7 x7n x7c x57 x57n x57c x58 I0 E0_2 n0)))) (blockS 3 (thenS (fun σ m => vcS Try.prog w0 qs15 (sub c15 [1, 1, 1, 1, 1, 1, 1, 0, 1, 0, 0, 1, 1, 1]) σ m (lq15_1111111010 R x0 x0n x0c x7 x7n x7c x57 x57n x57c x58 I0 E0_2 n0)) (lq15_1111111010 R x0 x0n x0c x7 x7n x7c x57 x57n x57c x58 I0 E0_2 n0))))) := by
  rw [show sub c15 [1, 1, 1, 1, 1, 1, 1, 0, 1, 0, 0, 1, 1, 0, 0, 1, 1, 0, 1, 0] = .loop (sub c15 [1, 1, 1, 1, 1, 1, 1, 0, 1, 0, 0, 1, 1, 0, 0, 1, 1, 0, 1, 0, 0]) from by kernel_rfl]
  refine loopQ (fun n1 σ m => σ 0 = .slice x0 x0n x0c ∧ σ 7 = .slice x7 x7n x7c ∧ σ 9 = .pointer (some ⟨x9, 0, none⟩) ∧ σ 11 = .int .i64 x11 ∧ σ 57 = .slice x57 x57n x57c ∧ σ 58 = .int .i64 x58 ∧ σ 59 = .int .i64 x59 ∧ σ 63 = .slice x63 x63n x63c ∧ σ 64 = .int .i64 x64 ∧ okI .i64 (σ 10) = true ∧ okI .i64 (σ 65) = true ∧ I1 n1 (vI (σ 10)) (vI (σ 65)) m) N (fun n1 => (lq15_11111110100110011010 R x0 x0n x0c x7 x7n x7c x9 x11 x57 x57n x57c x58 x59 x63 x63n x63c x64 I1 E1_4 n1)) ⟨h0, h7, h9, h11, h57, h58, h59, h63, h64, (by rw [h10]; rfl), (by rw [h65]; rfl), (by rw [h10, h65]; exact h_0)⟩ ?_ ?_ ?_
  · rintro n1 σ m ⟨kk0, kk1, kk2, kk3, kk4, kk5, kk6, kk7, kk8, kk9, kk10, n', hlt, hI⟩; exact ⟨n', hlt, kk0, kk1, kk2, kk3, kk4, kk5, kk6, kk7, kk8, kk9, kk10, hI⟩
  · intro n1 e σ m hne h
    cases e with
    | normal => exact absurd rfl hne
    | ret => exact h
    | exit id =>
      by_cases e4 : id = 4
      · subst e4
        obtain ⟨kk0, kk1, kk2, kk3, kk4, kk5, kk6, kk7, kk8, kk9, hE⟩ := h
        have es : (upd (upd (upd (upd (upd (upd (upd (upd (upd (upd σ 0 (.slice x0 x0n x0c)) 7 (.slice x7 x7n x7c)) 9 (.pointer (some ⟨x9, 0, none⟩))) 11 (.int .i64 x11)) 57 (.slice x57 x57n x57c)) 58 (.int .i64 x58)) 59 (.int .i64 x59)) 63 (.slice x63 x63n x63c)) 64 (.int .i64 x64)) 10 (.int .i64 (vI (σ 10)))) = σ := by rw [upd_id kk0, upd_id kk1, upd_id kk2, upd_id kk3, upd_id kk4, upd_id kk5, upd_id kk6, upd_id kk7, upd_id kk8, upd_id (ok_int kk9)]
        exact cast (congrArg (fun s => (blockS 4 (thenS (fun σ m => vcS Try.prog w0 qs15 (sub c15 [1, 1, 1, 1, 1, 1, 1, 0, 1, 0, 0, 1, 1, 0, 0, 1, 1, 1]) σ m (blockS 3 (thenS (fun σ m => vcS Try.prog w0 qs15 (sub c15 [1, 1, 1, 1, 1, 1, 1, 0, 1, 0, 0, 1, 1, 1]) σ m (lq15_1111111010 R x0 x0n x0c x7 x7n x7c x57 x57n x57c x58 I0 E0_2 n0)) (lq15_1111111010 R x0 x0n x0c x7 x7n x7c x57 x57n x57c x58 I0 E0_2 n0)))) (blockS 3 (thenS (fun σ m => vcS Try.prog w0 qs15 (sub c15 [1, 1, 1, 1, 1, 1, 1, 0, 1, 0, 0, 1, 1, 1]) σ m (lq15_1111111010 R x0 x0n x0c x7 x7n x7c x57 x57n x57c x58 I0 E0_2 n0)) (lq15_1111111010 R x0 x0n x0c x7 x7n x7c x57 x57n x57c x58 I0 E0_2 n0))))) (.exit 4) s m) es) (cast (by kernel_rfl) (h_e4 σ (vI (σ 10)) m hE))
      · replace h := (if_neg e4 : (if id = 4 then _ else _) = _).mp h
        exact False.elim h
    | _ => exact False.elim h
  · rintro n1 σ m ⟨kk0, kk1, kk2, kk3, kk4, kk5, kk6, kk7, kk8, kk9, kk10, hI⟩
    have es : (upd (upd (upd (upd (upd (upd (upd (upd (upd (upd (upd σ 0 (.slice x0 x0n x0c)) 7 (.slice x7 x7n x7c)) 9 (.pointer (some ⟨x9, 0, none⟩))) 10 (.int .i64 (vI (σ 10)))) 11 (.int .i64 x11)) 57 (.slice x57 x57n x57c)) 58 (.int .i64 x58)) 59 (.int .i64 x59)) 63 (.slice x63 x63n x63c)) 64 (.int .i64 x64)) 65 (.int .i64 (vI (σ 65)))) = σ := by rw [upd_id kk0, upd_id kk1, upd_id kk2, upd_id (ok_int kk9), upd_id kk3, upd_id kk4, upd_id kk5, upd_id kk6, upd_id kk7, upd_id kk8, upd_id (ok_int kk10)]
    exact cast (congrArg (fun s => vcS Try.prog w0 qs15 (sub c15 [1, 1, 1, 1, 1, 1, 1, 0, 1, 0, 0, 1, 1, 0, 0, 1, 1, 0, 1, 0, 0]) s m (lq15_11111110100110011010 R x0 x0n x0c x7 x7n x7c x9 x11 x57 x57n x57c x58 x59 x63 x63n x63c x64 I1 E1_4 n1)) es) (cast (by kernel_rfl) (h_s n1 σ (vI (σ 10)) (vI (σ 65)) m hI))
def lq15_111111101001100111010 (R : Value → AM → Prop) (x0 : Option Addr) (x0n x0c : Nat) (x7 : Option Addr) (x7n x7c : Nat) (x9 : Nat) (x10 : Int) (x57 : Option Addr) (x57n x57c : Nat) (x58 : Int) (x59 : Int) (x75 : Option Addr) (x75n x75c : Nat) (x76 : Int) (I1 : Nat → Int → Int → AM → Prop) (E1_6 : Int → AM → Prop) (n1 : Nat) : Exit → Sg → AM → Prop
  | .normal, σ, m => σ 0 = .slice x0 x0n x0c ∧ σ 7 = .slice x7 x7n x7c ∧ σ 9 = .pointer (some ⟨x9, 0, none⟩) ∧ σ 10 = .int .i64 x10 ∧ σ 57 = .slice x57 x57n x57c ∧ σ 58 = .int .i64 x58 ∧ σ 59 = .int .i64 x59 ∧ σ 75 = .slice x75 x75n x75c ∧ σ 76 = .int .i64 x76 ∧ okI .i64 (σ 11) = true ∧ okI .i64 (σ 77) = true ∧ ∃ n' : Nat, n' < n1 ∧ I1 n' (vI (σ 11)) (vI (σ 77)) m
  | .exit id, σ, m => if id = 6 then σ 0 = .slice x0 x0n x0c ∧ σ 7 = .slice x7 x7n x7c ∧ σ 9 = .pointer (some ⟨x9, 0, none⟩) ∧ σ 10 = .int .i64 x10 ∧ σ 57 = .slice x57 x57n x57c ∧ σ 58 = .int .i64 x58 ∧ σ 59 = .int .i64 x59 ∧ σ 75 = .slice x75 x75n x75c ∧ σ 76 = .int .i64 x76 ∧ okI .i64 (σ 11) = true ∧ E1_6 (vI (σ 11)) m else False
  | .ret, σ, m => retQ Try.prog Try.f15 R .ret σ m
  | _, _, _ => False
theorem vl15_111111101001100111010 (w0 : World) (m : AM) (σ : Sg) (R : Value → AM → Prop) (n0 : Nat) (I0 : Nat → Int → AM → Prop) (E0_2 : AM → Prop) (x0 : Option Addr) (x0n x0c : Nat) (x7 : Option Addr) (x7n x7c : Nat) (x9 : Nat) (x10 : Int) (x57 : Option Addr) (x57n x57c : Nat) (x58 : Int) (x59 : Int) (x75 : Option Addr) (x75n x75c : Nat) (x76 : Int) (x11 : Int) (x77 : Int) (I1 : Nat → Int → Int → AM → Prop) (E1_6 : Int → AM → Prop) (N : Nat) (h0 : σ 0 = .slice x0 x0n x0c) (h7 : σ 7 = .slice x7 x7n x7c) (h9 : σ 9 = .pointer (some ⟨x9, 0, none⟩)) (h10 : σ 10 = .int .i64 x10) (h11 : σ 11 = .int .i64 x11) (h57 : σ 57 = .slice x57 x57n x57c) (h58 : σ 58 = .int .i64 x58) (h59 : σ 59 = .int .i64 x59) (h75 : σ 75 = .slice x75 x75n x75c) (h76 : σ 76 = .int .i64 x76) (h77 : σ 77 = .int .i64 x77)
 (h_0 : I1 N x11 x77 m)
 (h_s : ∀ (n1 : Nat) (σ : Sg) (x11 : Int) (x77 : Int) (m : AM), I1 n1 x11 x77 m → (
 IntKind.i64 = IntKind.i64 ∧ (bcase (decide ((x77 : Int) < x76)) (
 ((0 : Int) ≤ x77 ∧ x77 < ((x75n : Nat) : Int)) ∧ nilO x75 fun a75 =>
 ∃ i76 : Int, m.cell (a75.add ((x77 : Int).toNat * 5)) = some (.int .i64 i76) ∧ ∃ i77 : Int, m.cell ((a75.add ((x77 : Int).toNat * 5)).add 1) = some (.int .i64 i77) ∧ ∃ i78 : Int, m.cell ((a75.add ((x77 : Int).toNat * 5)).add 2) = some (.int .i64 i78) ∧ ∃ i79 : Int, m.cell ((a75.add ((x77 : Int).toNat * 5)).add 3) = some (.int .i64 i79) ∧ ∃ i80 : Int, m.cell ((a75.add ((x77 : Int).toNat * 5)).add 4) = some (.int .i64 i80) ∧ 
 ∀ b81 : Nat, w0.heap.size ≤ b81 → m b81 = none → let m82 := AM.upd m b81 (.cells #[.int .i64 0, .int .i64 0, .int .i64 0, .int .i64 0, .int .i64 0] 24);
 StC w0.heap.size m82 ⟨b81, 0, none⟩ (.int .i64 i76) fun m83 =>
 StC w0.heap.size m83 ⟨b81, 1, none⟩ (.int .i64 i77) fun m84 =>
 StC w0.heap.size m84 ⟨b81, 2, none⟩ (.int .i64 i78) fun m85 =>
 StC w0.heap.size m85 ⟨b81, 3, none⟩ (.int .i64 i79) fun m86 =>
 StC w0.heap.size m86 ⟨b81, 4, none⟩ (.int .i64 i80) fun m87 =>
 ∃ i88 : Int, m87.cell ⟨x9, 0, none⟩ = some (.int .i64 i88) ∧ ∃ i89 : Int, m87.cell ⟨x9, 1, none⟩ = some (.int .i64 i89) ∧ ∃ i90 : Int, m87.cell ⟨x9, 2, none⟩ = some (.int .i64 i90) ∧ ∃ i91 : Int, m87.cell ⟨x9, 3, none⟩ = some (.int .i64 i91) ∧ ∃ i92 : Int, m87.cell ⟨x9, 4, none⟩ = some (.int .i64 i92) ∧ 
 ∃ i93 : Int, m87.cell ⟨b81, 0, none⟩ = some (.int .i64 i93) ∧ ∃ i94 : Int, m87.cell ⟨b81, 1, none⟩ = some (.int .i64 i94) ∧ ∃ i95 : Int, m87.cell ⟨b81, 2, none⟩ = some (.int .i64 i95) ∧ ∃ i96 : Int, m87.cell ⟨b81, 3, none⟩ = some (.int .i64 i96) ∧ ∃ i97 : Int, m87.cell ⟨b81, 4, none⟩ = some (.int .i64 i97) ∧ 
 ∃ t98 : Bool, EqP Try.prog .eql 24 (.agg #[.int .i64 i88, .int .i64 i89, .int .i64 i90, .int .i64 i91, .int .i64 i92]) (.agg #[.int .i64 i93, .int .i64 i94, .int .i64 i95, .int .i64 i96, .int .i64 i97]) t98 ∧ (bcase t98 (
 IntKind.i64 = IntKind.i64 ∧ IntKind.i64 = IntKind.i64 ∧ (.slice x0 x0n x0c : Value) = .slice x0 x0n x0c ∧ (.slice x7 x7n x7c : Value) = .slice x7 x7n x7c ∧ (.pointer (some ⟨x9, 0, none⟩) : Value) = .pointer (some ⟨x9, 0, none⟩) ∧ (.int .i64 x10 : Value) = .int .i64 x10 ∧ (.slice x57 x57n x57c : Value) = .slice x57 x57n x57c ∧ (.int .i64 x58 : Value) = .int .i64 x58 ∧ (.int .i64 x59 : Value) = .int .i64 x59 ∧ (.slice x75 x75n x75c : Value) = .slice x75 x75n x75c ∧ (.int .i64 x76 : Value) = .int .i64 x76 ∧ true = true ∧ true = true ∧ ∃ n' : Nat, n' < n1 ∧ I1 n' (IntKind.wrap .i64 (x11 + 1)) (IntKind.wrap .i64 (x77 + 1)) m87) (
 IntKind.i64 = IntKind.i64 ∧ (.slice x0 x0n x0c : Value) = .slice x0 x0n x0c ∧ (.slice x7 x7n x7c : Value) = .slice x7 x7n x7c ∧ (.pointer (some ⟨x9, 0, none⟩) : Value) = .pointer (some ⟨x9, 0, none⟩) ∧ (.int .i64 x10 : Value) = .int .i64 x10 ∧ (.slice x57 x57n x57c : Value) = .slice x57 x57n x57c ∧ (.int .i64 x58 : Value) = .int .i64 x58 ∧ (.int .i64 x59 : Value) = .int .i64 x59 ∧ (.slice x75 x75n x75c : Value) = .slice x75 x75n x75c ∧ (.int .i64 x76 : Value) = .int .i64 x76 ∧ true = true ∧ true = true ∧ ∃ n' : Nat, n' < n1 ∧ I1 n' x11 (IntKind.wrap .i64 (x77 + 1)) m87))) (
 (.slice x0 x0n x0c : Value) = .slice x0 x0n x0c ∧ (.slice x7 x7n x7c : Value) = .slice x7 x7n x7c ∧ (.pointer (some ⟨x9, 0, none⟩) : Value) = .pointer (some ⟨x9, 0, none⟩) ∧ (.int .i64 x10 : Value) = .int .i64 x10 ∧ (.slice x57 x57n x57c : Value) = .slice x57 x57n x57c ∧ (.int .i64 x58 : Value) = .int .i64 x58 ∧ (.int .i64 x59 : Value) = .int .i64 x59 ∧ (.slice x75 x75n x75c : Value) = .slice x75 x75n x75c ∧ (.int .i64 x76 : Value) = .int .i64 x76 ∧ true = true ∧ E1_6 x11 m))))
 (h_e6 : ∀ (σ : Sg) (x11 : Int) (m : AM), E1_6 x11 m → (
 IntKind.i64 = IntKind.i64 ∧ (bcase (decide ((x11 : Int) < x10)) (
 (decide ((x11 : Int) < x10)) = true ∧ RetP R (.bool false) m) (
 ∃ i99 : Int, m.cell ⟨x9, 0, none⟩ = some (.int .i64 i99) ∧ ∃ i100 : Int, m.cell ⟨x9, 1, none⟩ = some (.int .i64 i100) ∧ ∃ i101 : Int, m.cell ⟨x9, 2, none⟩ = some (.int .i64 i101) ∧ ∃ i102 : Int, m.cell ⟨x9, 3, none⟩ = some (.int .i64 i102) ∧ ∃ i103 : Int, m.cell ⟨x9, 4, none⟩ = some (.int .i64 i103) ∧ 
 true = true ∧ ∃ t104 : Bool, EqP Try.prog .neq 24 (.agg #[.int .i64 i99, .int .i64 i100, .int .i64 i101, .int .i64 i102, .int .i64 i103]) (.agg #[.int .i64 0, .int .i64 0, .int .i64 0, .int .i64 0, .int .i64 0]) t104 ∧ (bcase t104 (
 IntKind.i64 = IntKind.i64 ∧ (bcase (bif decide ((x11 : Int) < x10) then true else bif t104 then (x11 : Int) != x10 else false) (
 RetP R (.bool false) m) (
 IntKind.i64 = IntKind.i64 ∧ (.slice x0 x0n x0c : Value) = .slice x0 x0n x0c ∧ (.slice x7 x7n x7c : Value) = .slice x7 x7n x7c ∧ (.slice x57 x57n x57c : Value) = .slice x57 x57n x57c ∧ (.int .i64 x58 : Value) = .int .i64 x58 ∧ true = true ∧ ∃ n' : Nat, n' < n0 ∧ I0 n' (IntKind.wrap .i64 (x59 + 1)) m))) (
 t104 = false ∧ (bcase (bif decide ((x11 : Int) < x10) then true else false) (
 RetP R (.bool false) m) (
 IntKind.i64 = IntKind.i64 ∧ (.slice x0 x0n x0c : Value) = .slice x0 x0n x0c ∧ (.slice x7 x7n x7c : Value) = .slice x7 x7n x7c ∧ (.slice x57 x57n x57c : Value) = .slice x57 x57n x57c ∧ (.int .i64 x58 : Value) = .int .i64 x58 ∧ true = true ∧ ∃ n' : Nat, n' < n0 ∧ I0 n' (IntKind.wrap .i64 (x59 + 1)) m)))))))) :
 vcS Try.prog w0 qs15 (sub c15 [1, 1, 1, 1, 1, 1, 1, 0, 1, 0, 0, 1, 1, 0, 0, 1, 1, 1, 0, 1, 0]) σ m (blockS 6 (thenS (fun σ m => vcS Try.prog w0 qs15 (sub c15 [1, 1, 1, 1, 1, 1, 1, 0, 1, 0, 0, 1, 1, 0, 0, 1, 1, 1, 1]) σ m (blockS 3 (thenS (fun σ m => vcS Try.prog w0 qs15 (sub c15 [1, 1, 1, 1, 1, 1, 1, 0, 1, 0, 0, 1, 1, 1]) σ m (lq15_1111111010 R x0 x0n x0c x7 x7n x7c x57 x57n x57c x58 I0 E0_2 n0)) (lq15_1111111010 R x0 x0n x0c x7 x7n x7c x57 x57n x57c x58 I0 E0_2 n0)))) (blockS 3 (thenS (fun σ m => vcS Try.prog w0 qs15 (sub c15 [1, 1, 1, 1, 1, 1, 1, 0, 1, 0, 0, 1, 1, 1]) σ m (lq15_1111111010 R x0 x0n x0c x7 x7n x7c x57 x57n x57c x58 I0 E0_2 n0)) (lq15_1111111010 R x0 x0n x0c x7 x7n x7c x57 x57n x57c x58 I0 E0_2 n0))))) := by
  rw [show sub c15 [1, 1, 1, 1, 1, 1, 1, 0, 1, 0, 0, 1, 1, 0, 0, 1, 1, 1, 0, 1, 0] = .loop (sub c15 [1, 1, 1, 1, 1, 1, 1, 0, 1, 0, 0, 1, 1, 0, 0, 1, 1, 1, 0, 1, 0, 0]) from by kernel_rfl]
  refine loopQ (fun n1 σ m => σ 0 = .slice x0 x0n x0c ∧ σ 7 = .slice x7 x7n x7c ∧ σ 9 = .pointer (some ⟨x9, 0, none⟩) ∧ σ 10 = .int .i64 x10 ∧ σ 57 = .slice x57 x57n x57c ∧ σ 58 = .int .i64 x58 ∧ σ 59 = .int .i64 x59 ∧ σ 75 = .slice x75 x75n x75c ∧ σ 76 = .int .i64 x76 ∧ okI .i64 (σ 11) = true ∧ okI .i64 (σ 77) = true ∧ I1 n1 (vI (σ 11)) (vI (σ 77)) m) N (fun n1 => (lq15_111111101001100111010 R x0 x0n x0c x7 x7n x7c x9 x10 x57 x57n x57c x58 x59 x75 x75n x75c x76 I1 E1_6 n1)) ⟨h0, h7, h9, h10, h57, h58, h59, h75, h76, (by rw [h11]; rfl), (by rw [h77]; rfl), (by rw [h11, h77]; exact h_0)⟩ ?_ ?_ ?_
  · rintro n1 σ m ⟨kk0, kk1, kk2, kk3, kk4, kk5, kk6, kk7, kk8, kk9, kk10, n', hlt, hI⟩; exact ⟨n', hlt, kk0, kk1, kk2, kk3, kk4, kk5, kk6, kk7, kk8, kk9, kk10, hI⟩
  · intro n1 e σ m hne h
    cases e with
    | normal => exact absurd rfl hne
    | ret => exact h
    | exit id =>
      by_cases e6 : id = 6
      · subst e6
        obtain ⟨kk0, kk1, kk2, kk3, kk4, kk5, kk6, kk7, kk8, kk9, hE⟩ := h
        have es : (upd (upd (upd (upd (upd (upd (upd (upd (upd (upd σ 0 (.slice x0 x0n x0c)) 7 (.slice x7 x7n x7c)) 9 (.pointer (some ⟨x9, 0, none⟩))) 10 (.int .i64 x10)) 57 (.slice x57 x57n x57c)) 58 (.int .i64 x58)) 59 (.int .i64 x59)) 75 (.slice x75 x75n x75c)) 76 (.int .i64 x76)) 11 (.int .i64 (vI (σ 11)))) = σ := by rw [upd_id kk0, upd_id kk1, upd_id kk2, upd_id kk3, upd_id kk4, upd_id kk5, upd_id kk6, upd_id kk7, upd_id kk8, upd_id (ok_int kk9)]
        exact cast (congrArg (fun s => (blockS 6 (thenS (fun σ m => vcS Try.prog w0 qs15 (sub c15 [1, 1, 1, 1, 1, 1, 1, 0, 1, 0, 0, 1, 1, 0, 0, 1, 1, 1, 1]) σ m (blockS 3 (thenS (fun σ m => vcS Try.prog w0 qs15 (sub c15 [1, 1, 1, 1, 1, 1, 1, 0, 1, 0, 0, 1, 1, 1]) σ m (lq15_1111111010 R x0 x0n x0c x7 x7n x7c x57 x57n x57c x58 I0 E0_2 n0)) (lq15_1111111010 R x0 x0n x0c x7 x7n x7c x57 x57n x57c x58 I0 E0_2 n0)))) (blockS 3 (thenS (fun σ m => vcS Try.prog w0 qs15 (sub c15 [1, 1, 1, 1, 1, 1, 1, 0, 1, 0, 0, 1, 1, 1]) σ m (lq15_1111111010 R x0 x0n x0c x7 x7n x7c x57 x57n x57c x58 I0 E0_2 n0)) (lq15_1111111010 R x0 x0n x0c x7 x7n x7c x57 x57n x57c x58 I0 E0_2 n0))))) (.exit 6) s m) es) (cast (by kernel_rfl) (h_e6 σ (vI (σ 11)) m hE))
      · replace h := (if_neg e6 : (if id = 6 then _ else _) = _).mp h
        exact False.elim h
    | _ => exact False.elim h
  · rintro n1 σ m ⟨kk0, kk1, kk2, kk3, kk4, kk5, kk6, kk7, kk8, kk9, kk10, hI⟩
    have es : (upd (upd (upd (upd (upd (upd (upd (upd (upd (upd (upd σ 0 (.slice x0 x0n x0c)) 7 (.slice x7 x7n x7c)) 9 (.pointer (some ⟨x9, 0, none⟩))) 10 (.int .i64 x10)) 11 (.int .i64 (vI (σ 11)))) 57 (.slice x57 x57n x57c)) 58 (.int .i64 x58)) 59 (.int .i64 x59)) 75 (.slice x75 x75n x75c)) 76 (.int .i64 x76)) 77 (.int .i64 (vI (σ 77)))) = σ := by rw [upd_id kk0, upd_id kk1, upd_id kk2, upd_id kk3, upd_id (ok_int kk9), upd_id kk4, upd_id kk5, upd_id kk6, upd_id kk7, upd_id kk8, upd_id (ok_int kk10)]
    exact cast (congrArg (fun s => vcS Try.prog w0 qs15 (sub c15 [1, 1, 1, 1, 1, 1, 1, 0, 1, 0, 0, 1, 1, 0, 0, 1, 1, 1, 0, 1, 0, 0]) s m (lq15_111111101001100111010 R x0 x0n x0c x7 x7n x7c x9 x10 x57 x57n x57c x58 x59 x75 x75n x75c x76 I1 E1_6 n1)) es) (cast (by kernel_rfl) (h_s n1 σ (vI (σ 11)) (vI (σ 77)) m hI))
end Go.Proofs.Ytkfemiloehkmhaa.V
