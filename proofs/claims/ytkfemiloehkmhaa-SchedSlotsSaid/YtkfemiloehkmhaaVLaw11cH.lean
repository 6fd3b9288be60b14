/- Ytkfemiloehkmhaa: a text of our own, by an AI agent: VLaw11cH -/
import Derived.Test.YtkfemiloehkmhaaCoreA
import Derived.Test.YtkfemiloehkmhaaTabH
namespace Go.Proofs.Ytkfemiloehkmhaa.V
open Go Go.Alog Go.Proofs.Ytkfemiloehkmhaa.T
set_option linter.unusedVariables false
set_option maxRecDepth 100000

/-! 13 delayslot/delayslotlaw11.SchedSlots -/
def qs13 : Nat → List (Nat × Nat) := fun i => match i with | _ => []
noncomputable def c13 : Code := bodyOf Try.f13
theorem cf13 (w0 : World) (m : AM) (x0 : Option Addr) (x0n x0c : Nat) (R : Value → AM → Prop) (h :
 vcS Try.prog w0 qs13 (sub c13 [1, 0, 1, 0]) (upd (upd (upd (upd (argS [.slice x0 x0n x0c]) 2 (.bool false)) 12 (.slice x0 x0n x0c)) 13 (.int .i64 ((x0n : Nat) : Int))) 14 (.int .i64 0)) m (blockS 0 (thenS (fun σ m => vcS Try.prog w0 qs13 (sub c13 [1, 1]) σ m (retQ Try.prog Try.f13 R)) (retQ Try.prog Try.f13 R)))) : CallsA Try.prog w0 13 #[.slice x0 x0n x0c] m R :=
  callsA_of (c := c13) (args := [.slice x0 x0n x0c]) (by kernel_rfl) Try.func13 (by kernel_rfl) qs13 (by kernel_rfl) (by kernel_rfl) (cast (by kernel_rfl) h)
def lq13_1010 (R : Value → AM → Prop) (x0 : Option Addr) (x0n x0c : Nat) (x12 : Option Addr) (x12n x12c : Nat) (x13 : Int) (I0 : Nat → Int → AM → Prop) (E0_0 : AM → Prop) (n0 : Nat) : Exit → Sg → AM → Prop
  | .normal, σ, m => σ 0 = .slice x0 x0n x0c ∧ σ 12 = .slice x12 x12n x12c ∧ σ 13 = .int .i64 x13 ∧ okI .i64 (σ 14) = true ∧ ∃ n' : Nat, n' < n0 ∧ I0 n' (vI (σ 14)) m
  | .exit id, σ, m => if id = 0 then σ 0 = .slice x0 x0n x0c ∧ σ 12 = .slice x12 x12n x12c ∧ σ 13 = .int .i64 x13 ∧ E0_0  m else False
  | .ret, σ, m => retQ Try.prog Try.f13 R .ret σ m
  | _, _, _ => False
theorem vl13_1010 (w0 : World) (m : AM) (σ : Sg) (R : Value → AM → Prop)  (x0 : Option Addr) (x0n x0c : Nat) (x12 : Option Addr) (x12n x12c : Nat) (x13 : Int) (x14 : Int) (I0 : Nat → Int → AM → Prop) (E0_0 : AM → Prop) (N : Nat) (h0 : σ 0 = .slice x0 x0n x0c) (h12 : σ 12 = .slice x12 x12n x12c) (h13 : σ 13 = .int .i64 x13) (h14 : σ 14 = .int .i64 x14)
 (h_0 : I0 N x14 m)
 (h_s : ∀ (n0 : Nat) (σ : Sg) (x14 : Int) (m : AM), I0 n0 x14 m → (
 IntKind.i64 = IntKind.i64 ∧ (bcase (decide ((x14 : Int) < x13)) (
 ((0 : Int) ≤ x14 ∧ x14 < ((x12n : Nat) : Int)) ∧ nilO x12 fun a1 =>
 ∃ i2 : Int, m.cell (a1.add ((x14 : Int).toNat * 5)) = some (.int .i64 i2) ∧ ∃ i3 : Int, m.cell ((a1.add ((x14 : Int).toNat * 5)).add 1) = some (.int .i64 i3) ∧ ∃ i4 : Int, m.cell ((a1.add ((x14 : Int).toNat * 5)).add 2) = some (.int .i64 i4) ∧ ∃ i5 : Int, m.cell ((a1.add ((x14 : Int).toNat * 5)).add 3) = some (.int .i64 i5) ∧ ∃ i6 : Int, m.cell ((a1.add ((x14 : Int).toNat * 5)).add 4) = some (.int .i64 i6) ∧ 
 ∀ b7 : Nat, w0.heap.size ≤ b7 → m b7 = none → let m8 := AM.upd m b7 (.cells #[.int .i64 0, .int .i64 0, .int .i64 0, .int .i64 0, .int .i64 0] 24);
 StC w0.heap.size m8 ⟨b7, 0, none⟩ (.int .i64 i2) fun m9 =>
 StC w0.heap.size m9 ⟨b7, 1, none⟩ (.int .i64 i3) fun m10 =>
 StC w0.heap.size m10 ⟨b7, 2, none⟩ (.int .i64 i4) fun m11 =>
 StC w0.heap.size m11 ⟨b7, 3, none⟩ (.int .i64 i5) fun m12 =>
 StC w0.heap.size m12 ⟨b7, 4, none⟩ (.int .i64 i6) fun m13 =>
 IntKind.i64 = IntKind.i64 ∧ (bcase (decide ((((x0n : Nat) : Int) : Int) > 40)) (
 (decide ((((x0n : Nat) : Int) : Int) > 40)) = true ∧ CallsA Try.prog w0 32 #[] m13 fun r15 m16 =>
 ∃ t14 : Bool, r15 = .bool t14 ∧ RetP R (.bool t14) m16) (
 IntKind.i64 = IntKind.i64 ∧ IntKind.i64 = IntKind.i64 ∧ (bcase (decide ((x14 : Int) < (IntKind.wrap .i64 (((x0n : Nat) : Int) - 1)))) (
 ∃ i17 : Int, m13.cell ⟨b7, 0, none⟩ = some (.int .i64 i17) ∧ ∃ i18 : Int, m13.cell ⟨b7, 1, none⟩ = some (.int .i64 i18) ∧ ∃ i19 : Int, m13.cell ⟨b7, 2, none⟩ = some (.int .i64 i19) ∧ ∃ i20 : Int, m13.cell ⟨b7, 3, none⟩ = some (.int .i64 i20) ∧ ∃ i21 : Int, m13.cell ⟨b7, 4, none⟩ = some (.int .i64 i21) ∧ 
 CallsA Try.prog w0 30 #[.agg #[.int .i64 i17, .int .i64 i18, .int .i64 i19, .int .i64 i20, .int .i64 i21]] m13 fun r23 m24 =>
 ∃ t22 : Bool, r23 = .bool t22 ∧ (bcase (bif decide ((((x0n : Nat) : Int) : Int) > 40) then true else bif decide ((x14 : Int) < (IntKind.wrap .i64 (((x0n : Nat) : Int) - 1))) then t22 else false) (
 CallsA Try.prog w0 32 #[] m24 fun r26 m27 =>
 ∃ t25 : Bool, r26 = .bool t25 ∧ RetP R (.bool t25) m27) (
 IntKind.i64 = IntKind.i64 ∧ (.slice x0 x0n x0c : Value) = .slice x0 x0n x0c ∧ (.slice x12 x12n x12c : Value) = .slice x12 x12n x12c ∧ (.int .i64 x13 : Value) = .int .i64 x13 ∧ true = true ∧ ∃ n' : Nat, n' < n0 ∧ I0 n' (IntKind.wrap .i64 (x14 + 1)) m24))) (
 (decide ((x14 : Int) < (IntKind.wrap .i64 (((x0n : Nat) : Int) - 1)))) = false ∧ (bcase (bif decide ((((x0n : Nat) : Int) : Int) > 40) then true else false) (
 CallsA Try.prog w0 32 #[] m13 fun r29 m30 =>
 ∃ t28 : Bool, r29 = .bool t28 ∧ RetP R (.bool t28) m30) (
 IntKind.i64 = IntKind.i64 ∧ (.slice x0 x0n x0c : Value) = .slice x0 x0n x0c ∧ (.slice x12 x12n x12c : Value) = .slice x12 x12n x12c ∧ (.int .i64 x13 : Value) = .int .i64 x13 ∧ true = true ∧ ∃ n' : Nat, n' < n0 ∧ I0 n' (IntKind.wrap .i64 (x14 + 1)) m13))))))) (
 (.slice x0 x0n x0c : Value) = .slice x0 x0n x0c ∧ (.slice x12 x12n x12c : Value) = .slice x12 x12n x12c ∧ (.int .i64 x13 : Value) = .int .i64 x13 ∧ E0_0  m))))
 (h_e0 : ∀ (σ : Sg)  (m : AM), E0_0  m → (
 CallsA Try.prog w0 37 #[.slice x0 x0n x0c] m fun r34 m35 =>
 ∃ (A31 : Option Addr) (n32 c33 : Nat), r34 = .slice A31 n32 c33 ∧ IntKind.i64 = IntKind.i64 ∧ (bcase ((((x0n : Nat) : Int) : Int) == 0) (
 IntKind.i64 = IntKind.i64 ∧ (bcase ((((n32 : Nat) : Int) : Int) == 0) (
 CallsA Try.prog w0 32 #[] m35 fun r37 m38 =>
 ∃ t36 : Bool, r37 = .bool t36 ∧ RetP R (.bool (bif (((n32 : Nat) : Int) : Int) == 0 then t36 else false)) m38) (
 ((((n32 : Nat) : Int) : Int) == 0) = false ∧ RetP R (.bool false) m35))) (
 IntKind.i64 = IntKind.i64 ∧ IntKind.i64 = IntKind.i64 ∧ IntKind.i64 = IntKind.i64 ∧ (bcase (decide ((((n32 : Nat) : Int) : Int) > (IntKind.wrap .i64 ((IntKind.wrap .i64 (2 * ((x0n : Nat) : Int))) + 1)))) (
 (decide ((((n32 : Nat) : Int) : Int) > (IntKind.wrap .i64 ((IntKind.wrap .i64 (2 * ((x0n : Nat) : Int))) + 1)))) = true ∧ RetP R (.bool false) m35) (
 IntKind.i64 = IntKind.i64 ∧ (bcase (bif decide ((((n32 : Nat) : Int) : Int) > (IntKind.wrap .i64 ((IntKind.wrap .i64 (2 * ((x0n : Nat) : Int))) + 1))) then true else decide ((((n32 : Nat) : Int) : Int) < ((x0n : Nat) : Int))) (
 RetP R (.bool false) m35) (
 ((0 : Int) ≤ ((x0n : Nat) : Int) ∧ (((x0n : Nat) : Int) : Int) ≤ ((x0n : Nat) : Int) ∧ (((x0n : Nat) : Int) : Int) ≤ 9223372036854775807 ∧ ((8 : Nat) : Int) * ((x0n : Nat) : Int) ≤ 281474976710656) ∧ ∀ b39 : Nat, w0.heap.size ≤ b39 → m35 b39 = none → let m40 := AM.upd m35 b39 (.cells (zeros [.int .i64 0] (((x0n : Nat) : Int) : Int).toNat).toArray 3);
 vcS Try.prog w0 qs13 (sub c13 [1, 1, 1, 1, 1, 1, 0, 1, 0]) (upd (upd (upd (upd (upd (upd (upd (upd (upd (upd (upd (upd (upd (upd (upd (upd (upd (upd (upd (upd (upd (upd (upd (upd (upd (upd (upd (upd (upd (upd σ 0 (.slice x0 x0n x0c)) 12 (.slice x12 x12n x12c)) 13 (.int .i64 x13)) 35 (.slice x0 x0n x0c)) 36 (.slice A31 n32 c33)) 5 (.slice A31 n32 c33)) 37 (.slice x0 x0n x0c)) 38 (.int .i64 ((x0n : Nat) : Int))) 39 (.bool ((((x0n : Nat) : Int) : Int) == 0))) 46 (.slice A31 n32 c33)) 47 (.int .i64 ((n32 : Nat) : Int))) 48 (.slice x0 x0n x0c)) 49 (.int .i64 ((x0n : Nat) : Int))) 50 (.int .i64 (IntKind.wrap .i64 (2 * ((x0n : Nat) : Int))))) 51 (.int .i64 (IntKind.wrap .i64 ((IntKind.wrap .i64 (2 * ((x0n : Nat) : Int))) + 1)))) 52 (.bool (decide ((((n32 : Nat) : Int) : Int) > (IntKind.wrap .i64 ((IntKind.wrap .i64 (2 * ((x0n : Nat) : Int))) + 1)))))) 53 (.bool (decide ((((n32 : Nat) : Int) : Int) > (IntKind.wrap .i64 ((IntKind.wrap .i64 (2 * ((x0n : Nat) : Int))) + 1)))))) 54 (.slice A31 n32 c33)) 55 (.int .i64 ((n32 : Nat) : Int))) 56 (.slice x0 x0n x0c)) 57 (.int .i64 ((x0n : Nat) : Int))) 58 (.bool (decide ((((n32 : Nat) : Int) : Int) < ((x0n : Nat) : Int))))) 59 (.bool (bif decide ((((n32 : Nat) : Int) : Int) > (IntKind.wrap .i64 ((IntKind.wrap .i64 (2 * ((x0n : Nat) : Int))) + 1))) then true else decide ((((n32 : Nat) : Int) : Int) < ((x0n : Nat) : Int))))) 60 (.slice x0 x0n x0c)) 61 (.int .i64 ((x0n : Nat) : Int))) 62 (.slice (some ⟨b39, 0, none⟩) ((((x0n : Nat) : Int) : Int).toNat) ((((x0n : Nat) : Int) : Int).toNat))) 6 (.slice (some ⟨b39, 0, none⟩) ((((x0n : Nat) : Int) : Int).toNat) ((((x0n : Nat) : Int) : Int).toNat))) 63 (.slice A31 n32 c33)) 64 (.int .i64 ((n32 : Nat) : Int))) 65 (.int .i64 0)) m40 (blockS 2 (thenS (fun σ m => vcS Try.prog w0 qs13 (sub c13 [1, 1, 1, 1, 1, 1, 1]) σ m (retQ Try.prog Try.f13 R)) (retQ Try.prog Try.f13 R))))))))))) :
 vcS Try.prog w0 qs13 (sub c13 [1, 0, 1, 0]) σ m (blockS 0 (thenS (fun σ m => vcS Try.prog w0 qs13 (sub c13 [1, 1]) σ m (retQ Try.prog Try.f13 R)) (retQ Try.prog Try.f13 R))) := by
  rw [show sub c13 [1, 0, 1, 0] = .loop (sub c13 [1, 0, 1, 0, 0]) from by kernel_rfl]
  refine loopQ (fun n0 σ m => σ 0 = .slice x0 x0n x0c ∧ σ 12 = .slice x12 x12n x12c ∧ σ 13 = .int .i64 x13 ∧ okI .i64 (σ 14) = true ∧ I0 n0 (vI (σ 14)) m) N (fun n0 => (lq13_1010 R x0 x0n x0c x12 x12n x12c x13 I0 E0_0 n0)) ⟨h0, h12, h13, (by rw [h14]; rfl), (by rw [h14]; exact h_0)⟩ ?_ ?_ ?_
  · rintro n0 σ m ⟨kk0, kk1, kk2, kk3, n', hlt, hI⟩; exact ⟨n', hlt, kk0, kk1, kk2, kk3, hI⟩
  · intro n0 e σ m hne h
    cases e with
    | normal => exact absurd rfl hne
    | ret => exact h
    | exit id =>
      by_cases e0 : id = 0
      · subst e0
        obtain ⟨kk0, kk1, kk2, hE⟩ := h
        have es : (upd (upd (upd σ 0 (.slice x0 x0n x0c)) 12 (.slice x12 x12n x12c)) 13 (.int .i64 x13)) = σ := by rw [upd_id kk0, upd_id kk1, upd_id kk2]
        exact cast (congrArg (fun s => (blockS 0 (thenS (fun σ m => vcS Try.prog w0 qs13 (sub c13 [1, 1]) σ m (retQ Try.prog Try.f13 R)) (retQ Try.prog Try.f13 R))) (.exit 0) s m) es) (cast (by kernel_rfl) (h_e0 σ  m hE))
      · replace h := (if_neg e0 : (if id = 0 then _ else _) = _).mp h
        exact False.elim h
    | _ => exact False.elim h
  · rintro n0 σ m ⟨kk0, kk1, kk2, kk3, hI⟩
    have es : (upd (upd (upd (upd σ 0 (.slice x0 x0n x0c)) 12 (.slice x12 x12n x12c)) 13 (.int .i64 x13)) 14 (.int .i64 (vI (σ 14)))) = σ := by rw [upd_id kk0, upd_id kk1, upd_id kk2, upd_id (ok_int kk3)]
    exact cast (congrArg (fun s => vcS Try.prog w0 qs13 (sub c13 [1, 0, 1, 0, 0]) s m (lq13_1010 R x0 x0n x0c x12 x12n x12c x13 I0 E0_0 n0)) es) (cast (by kernel_rfl) (h_s n0 σ (vI (σ 14)) m hI))
def lq13_111111010 (R : Value → AM → Prop) (x0 : Option Addr) (x0n x0c : Nat) (x5 : Option Addr) (x5n x5c : Nat) (x6 : Option Addr) (x6n x6c : Nat) (x63 : Option Addr) (x63n x63c : Nat) (x64 : Int) (I0 : Nat → Int → AM → Prop) (E0_2 : AM → Prop) (n0 : Nat) : Exit → Sg → AM → Prop
  | .normal, σ, m => σ 0 = .slice x0 x0n x0c ∧ σ 5 = .slice x5 x5n x5c ∧ σ 6 = .slice x6 x6n x6c ∧ σ 63 = .slice x63 x63n x63c ∧ σ 64 = .int .i64 x64 ∧ okI .i64 (σ 65) = true ∧ ∃ n' : Nat, n' < n0 ∧ I0 n' (vI (σ 65)) m
  | .exit id, σ, m => if id = 2 then σ 0 = .slice x0 x0n x0c ∧ σ 5 = .slice x5 x5n x5c ∧ σ 6 = .slice x6 x6n x6c ∧ σ 63 = .slice x63 x63n x63c ∧ σ 64 = .int .i64 x64 ∧ E0_2  m else False
  | .ret, σ, m => retQ Try.prog Try.f13 R .ret σ m
  | _, _, _ => False
theorem vl13_111111010 (w0 : World) (m : AM) (σ : Sg) (R : Value → AM → Prop)  (x0 : Option Addr) (x0n x0c : Nat) (x5 : Option Addr) (x5n x5c : Nat) (x6 : Option Addr) (x6n x6c : Nat) (x63 : Option Addr) (x63n x63c : Nat) (x64 : Int) (x65 : Int) (I0 : Nat → Int → AM → Prop) (E0_2 : AM → Prop) (N : Nat) (h0 : σ 0 = .slice x0 x0n x0c) (h5 : σ 5 = .slice x5 x5n x5c) (h6 : σ 6 = .slice x6 x6n x6c) (h63 : σ 63 = .slice x63 x63n x63c) (h64 : σ 64 = .int .i64 x64) (h65 : σ 65 = .int .i64 x65)
 (h_0 : I0 N x65 m)
 (h_s : ∀ (n0 : Nat) (σ : Sg) (x65 : Int) (m : AM), I0 n0 x65 m → (
 IntKind.i64 = IntKind.i64 ∧ (bcase (decide ((x65 : Int) < x64)) (
 ((0 : Int) ≤ x65 ∧ x65 < ((x63n : Nat) : Int)) ∧ nilO x63 fun a41 =>
 ∃ i42 : Int, m.cell (a41.add ((x65 : Int).toNat * 1)) = some (.int .i64 i42) ∧ 
 IntKind.i64 = IntKind.i64 ∧ (bcase (decide ((i42 : Int) < (-1))) (
 (decide ((i42 : Int) < (-1))) = true ∧ RetP R (.bool false) m) (
 IntKind.i64 = IntKind.i64 ∧ (bcase (bif decide ((i42 : Int) < (-1)) then true else decide ((i42 : Int) ≥ ((x0n : Nat) : Int))) (
 RetP R (.bool false) m) (
 IntKind.i64 = IntKind.i64 ∧ (bcase (decide ((i42 : Int) ≥ 0)) (
 ((0 : Int) ≤ i42 ∧ i42 < ((x6n : Nat) : Int)) ∧ nilO x6 fun a43 =>
 ∃ i44 : Int, m.cell (a43.add ((i42 : Int).toNat * 1)) = some (.int .i64 i44) ∧ 
 IntKind.i64 = IntKind.i64 ∧ ((0 : Int) ≤ i42 ∧ i42 < ((x6n : Nat) : Int)) ∧ nilO x6 fun a45 =>
 StC w0.heap.size m (a45.add ((i42 : Int).toNat * 1)) (.int .i64 (IntKind.wrap .i64 (i44 + 1))) fun m46 =>
 IntKind.i64 = IntKind.i64 ∧ (.slice x0 x0n x0c : Value) = .slice x0 x0n x0c ∧ (.slice x5 x5n x5c : Value) = .slice x5 x5n x5c ∧ (.slice x6 x6n x6c : Value) = .slice x6 x6n x6c ∧ (.slice x63 x63n x63c : Value) = .slice x63 x63n x63c ∧ (.int .i64 x64 : Value) = .int .i64 x64 ∧ true = true ∧ ∃ n' : Nat, n' < n0 ∧ I0 n' (IntKind.wrap .i64 (x65 + 1)) m46) (
 IntKind.i64 = IntKind.i64 ∧ (.slice x0 x0n x0c : Value) = .slice x0 x0n x0c ∧ (.slice x5 x5n x5c : Value) = .slice x5 x5n x5c ∧ (.slice x6 x6n x6c : Value) = .slice x6 x6n x6c ∧ (.slice x63 x63n x63c : Value) = .slice x63 x63n x63c ∧ (.int .i64 x64 : Value) = .int .i64 x64 ∧ true = true ∧ ∃ n' : Nat, n' < n0 ∧ I0 n' (IntKind.wrap .i64 (x65 + 1)) m))))))) (
 (.slice x0 x0n x0c : Value) = .slice x0 x0n x0c ∧ (.slice x5 x5n x5c : Value) = .slice x5 x5n x5c ∧ (.slice x6 x6n x6c : Value) = .slice x6 x6n x6c ∧ (.slice x63 x63n x63c : Value) = .slice x63 x63n x63c ∧ (.int .i64 x64 : Value) = .int .i64 x64 ∧ E0_2  m))))
 (h_e2 : ∀ (σ : Sg)  (m : AM), E0_2  m → (
 vcS Try.prog w0 qs13 (sub c13 [1, 1, 1, 1, 1, 1, 1, 0, 1, 0]) (upd (upd (upd (upd (upd (upd (upd (upd σ 0 (.slice x0 x0n x0c)) 5 (.slice x5 x5n x5c)) 6 (.slice x6 x6n x6c)) 63 (.slice x63 x63n x63c)) 64 (.int .i64 x64)) 86 (.slice x6 x6n x6c)) 87 (.int .i64 ((x6n : Nat) : Int))) 88 (.int .i64 0)) m (blockS 4 (thenS (fun σ m => vcS Try.prog w0 qs13 (sub c13 [1, 1, 1, 1, 1, 1, 1, 1]) σ m (retQ Try.prog Try.f13 R)) (retQ Try.prog Try.f13 R))))) :
 vcS Try.prog w0 qs13 (sub c13 [1, 1, 1, 1, 1, 1, 0, 1, 0]) σ m (blockS 2 (thenS (fun σ m => vcS Try.prog w0 qs13 (sub c13 [1, 1, 1, 1, 1, 1, 1]) σ m (retQ Try.prog Try.f13 R)) (retQ Try.prog Try.f13 R))) := by
  rw [show sub c13 [1, 1, 1, 1, 1, 1, 0, 1, 0] = .loop (sub c13 [1, 1, 1, 1, 1, 1, 0, 1, 0, 0]) from by kernel_rfl]
  refine loopQ (fun n0 σ m => σ 0 = .slice x0 x0n x0c ∧ σ 5 = .slice x5 x5n x5c ∧ σ 6 = .slice x6 x6n x6c ∧ σ 63 = .slice x63 x63n x63c ∧ σ 64 = .int .i64 x64 ∧ okI .i64 (σ 65) = true ∧ I0 n0 (vI (σ 65)) m) N (fun n0 => (lq13_111111010 R x0 x0n x0c x5 x5n x5c x6 x6n x6c x63 x63n x63c x64 I0 E0_2 n0)) ⟨h0, h5, h6, h63, h64, (by rw [h65]; rfl), (by rw [h65]; exact h_0)⟩ ?_ ?_ ?_
  · rintro n0 σ m ⟨kk0, kk1, kk2, kk3, kk4, kk5, n', hlt, hI⟩; exact ⟨n', hlt, kk0, kk1, kk2, kk3, kk4, kk5, hI⟩
  · intro n0 e σ m hne h
    cases e with
    | normal => exact absurd rfl hne
    | ret => exact h
    | exit id =>
      by_cases e2 : id = 2
      · subst e2
        obtain ⟨kk0, kk1, kk2, kk3, kk4, hE⟩ := h
        have es : (upd (upd (upd (upd (upd σ 0 (.slice x0 x0n x0c)) 5 (.slice x5 x5n x5c)) 6 (.slice x6 x6n x6c)) 63 (.slice x63 x63n x63c)) 64 (.int .i64 x64)) = σ := by rw [upd_id kk0, upd_id kk1, upd_id kk2, upd_id kk3, upd_id kk4]
        exact cast (congrArg (fun s => (blockS 2 (thenS (fun σ m => vcS Try.prog w0 qs13 (sub c13 [1, 1, 1, 1, 1, 1, 1]) σ m (retQ Try.prog Try.f13 R)) (retQ Try.prog Try.f13 R))) (.exit 2) s m) es) (cast (by kernel_rfl) (h_e2 σ  m hE))
      · replace h := (if_neg e2 : (if id = 2 then _ else _) = _).mp h
        exact False.elim h
    | _ => exact False.elim h
  · rintro n0 σ m ⟨kk0, kk1, kk2, kk3, kk4, kk5, hI⟩
    have es : (upd (upd (upd (upd (upd (upd σ 0 (.slice x0 x0n x0c)) 5 (.slice x5 x5n x5c)) 6 (.slice x6 x6n x6c)) 63 (.slice x63 x63n x63c)) 64 (.int .i64 x64)) 65 (.int .i64 (vI (σ 65)))) = σ := by rw [upd_id kk0, upd_id kk1, upd_id kk2, upd_id kk3, upd_id kk4, upd_id (ok_int kk5)]
    exact cast (congrArg (fun s => vcS Try.prog w0 qs13 (sub c13 [1, 1, 1, 1, 1, 1, 0, 1, 0, 0]) s m (lq13_111111010 R x0 x0n x0c x5 x5n x5c x6 x6n x6c x63 x63n x63c x64 I0 E0_2 n0)) es) (cast (by kernel_rfl) (h_s n0 σ (vI (σ 65)) m hI))
def lq13_1111111010 (R : Value → AM → Prop) (x0 : Option Addr) (x0n x0c : Nat) (x5 : Option Addr) (x5n x5c : Nat) (x86 : Option Addr) (x86n x86c : Nat) (x87 : Int) (I0 : Nat → Int → AM → Prop) (E0_4 : AM → Prop) (n0 : Nat) : Exit → Sg → AM → Prop
  | .normal, σ, m => σ 0 = .slice x0 x0n x0c ∧ σ 5 = .slice x5 x5n x5c ∧ σ 86 = .slice x86 x86n x86c ∧ σ 87 = .int .i64 x87 ∧ okI .i64 (σ 88) = true ∧ ∃ n' : Nat, n' < n0 ∧ I0 n' (vI (σ 88)) m
  | .exit id, σ, m => if id = 4 then σ 0 = .slice x0 x0n x0c ∧ σ 5 = .slice x5 x5n x5c ∧ σ 86 = .slice x86 x86n x86c ∧ σ 87 = .int .i64 x87 ∧ E0_4  m else False
  | .ret, σ, m => retQ Try.prog Try.f13 R .ret σ m
  | _, _, _ => False
theorem vl13_1111111010 (w0 : World) (m : AM) (σ : Sg) (R : Value → AM → Prop)  (x0 : Option Addr) (x0n x0c : Nat) (x5 : Option Addr) (x5n x5c : Nat) (x86 : Option Addr) (x86n x86c : Nat) (x87 : Int) (x88 : Int) (I0 : Nat → Int → AM → Prop) (E0_4 : AM → Prop) (N : Nat) (h0 : σ 0 = .slice x0 x0n x0c) (h5 : σ 5 = .slice x5 x5n x5c) (h86 : σ 86 = .slice x86 x86n x86c) (h87 : σ 87 = .int .i64 x87) (h88 : σ 88 = .int .i64 x88)
 (h_0 : I0 N x88 m)
 (h_s : ∀ (n0 : Nat) (σ : Sg) (x88 : Int) (m : AM), I0 n0 x88 m → (
 IntKind.i64 = IntKind.i64 ∧ (bcase (decide ((x88 : Int) < x87)) (
 ((0 : Int) ≤ x88 ∧ x88 < ((x86n : Nat) : Int)) ∧ nilO x86 fun a47 =>
 ∃ i48 : Int, m.cell (a47.add ((x88 : Int).toNat * 1)) = some (.int .i64 i48) ∧ 
 IntKind.i64 = IntKind.i64 ∧ (bcase ((i48 : Int) != 1) (
 RetP R (.bool false) m) (
 IntKind.i64 = IntKind.i64 ∧ (.slice x0 x0n x0c : Value) = .slice x0 x0n x0c ∧ (.slice x5 x5n x5c : Value) = .slice x5 x5n x5c ∧ (.slice x86 x86n x86c : Value) = .slice x86 x86n x86c ∧ (.int .i64 x87 : Value) = .int .i64 x87 ∧ true = true ∧ ∃ n' : Nat, n' < n0 ∧ I0 n' (IntKind.wrap .i64 (x88 + 1)) m))) (
 (.slice x0 x0n x0c : Value) = .slice x0 x0n x0c ∧ (.slice x5 x5n x5c : Value) = .slice x5 x5n x5c ∧ (.slice x86 x86n x86c : Value) = .slice x86 x86n x86c ∧ (.int .i64 x87 : Value) = .int .i64 x87 ∧ E0_4  m))))
 (h_e4 : ∀ (σ : Sg)  (m : AM), E0_4  m → (
 IntKind.i64 = IntKind.i64 ∧ ((0 : Int) ≤ (IntKind.wrap .i64 (((x5n : Nat) : Int) - 1)) ∧ (IntKind.wrap .i64 (((x5n : Nat) : Int) - 1)) < ((x5n : Nat) : Int)) ∧ nilO x5 fun a49 =>
 ∃ i50 : Int, m.cell (a49.add ((IntKind.wrap .i64 (((x5n : Nat) : Int) - 1) : Int).toNat * 1)) = some (.int .i64 i50) ∧ 
 IntKind.i64 = IntKind.i64 ∧ (bcase (decide ((i50 : Int) ≥ 0)) (
 ((0 : Int) ≤ i50 ∧ i50 < ((x0n : Nat) : Int)) ∧ nilO x0 fun a51 =>
 ∃ i52 : Int, m.cell (a51.add ((i50 : Int).toNat * 5)) = some (.int .i64 i52) ∧ ∃ i53 : Int, m.cell ((a51.add ((i50 : Int).toNat * 5)).add 1) = some (.int .i64 i53) ∧ ∃ i54 : Int, m.cell ((a51.add ((i50 : Int).toNat * 5)).add 2) = some (.int .i64 i54) ∧ ∃ i55 : Int, m.cell ((a51.add ((i50 : Int).toNat * 5)).add 3) = some (.int .i64 i55) ∧ ∃ i56 : Int, m.cell ((a51.add ((i50 : Int).toNat * 5)).add 4) = some (.int .i64 i56) ∧ 
 CallsA Try.prog w0 40 #[.agg #[.int .i64 i52, .int .i64 i53, .int .i64 i54, .int .i64 i55, .int .i64 i56]] m fun r58 m59 =>
 ∃ t57 : Bool, r58 = .bool t57 ∧ (bcase (bif decide ((i50 : Int) ≥ 0) then t57 else false) (
 RetP R (.bool false) m59) (
 IntKind.i64 = IntKind.i64 ∧ ((0 : Int) ≤ (IntKind.wrap .i64 (((x0n : Nat) : Int) - 1)) ∧ (IntKind.wrap .i64 (((x0n : Nat) : Int) - 1)) < ((x0n : Nat) : Int)) ∧ nilO x0 fun a60 =>
 ∃ i61 : Int, m59.cell (a60.add ((IntKind.wrap .i64 (((x0n : Nat) : Int) - 1) : Int).toNat * 5)) = some (.int .i64 i61) ∧ ∃ i62 : Int, m59.cell ((a60.add ((IntKind.wrap .i64 (((x0n : Nat) : Int) - 1) : Int).toNat * 5)).add 1) = some (.int .i64 i62) ∧ ∃ i63 : Int, m59.cell ((a60.add ((IntKind.wrap .i64 (((x0n : Nat) : Int) - 1) : Int).toNat * 5)).add 2) = some (.int .i64 i63) ∧ ∃ i64 : Int, m59.cell ((a60.add ((IntKind.wrap .i64 (((x0n : Nat) : Int) - 1) : Int).toNat * 5)).add 3) = some (.int .i64 i64) ∧ ∃ i65 : Int, m59.cell ((a60.add ((IntKind.wrap .i64 (((x0n : Nat) : Int) - 1) : Int).toNat * 5)).add 4) = some (.int .i64 i65) ∧ 
 CallsA Try.prog w0 30 #[.agg #[.int .i64 i61, .int .i64 i62, .int .i64 i63, .int .i64 i64, .int .i64 i65]] m59 fun r67 m68 =>
 ∃ t66 : Bool, r67 = .bool t66 ∧ (bcase (!t66) (
 (!t66) = true ∧ CallsA Try.prog w0 32 #[] m68 fun r70 m71 =>
 ∃ t69 : Bool, r70 = .bool t69 ∧ RetP R (.bool (bif true then t69 else false)) m71) (
 IntKind.i64 = IntKind.i64 ∧ (bcase (decide ((((x5n : Nat) : Int) : Int) > 1)) (
 IntKind.i64 = IntKind.i64 ∧ ((0 : Int) ≤ (IntKind.wrap .i64 (((x5n : Nat) : Int) - 2)) ∧ (IntKind.wrap .i64 (((x5n : Nat) : Int) - 2)) < ((x5n : Nat) : Int)) ∧ nilO x5 fun a72 =>
 ∃ i73 : Int, m68.cell (a72.add ((IntKind.wrap .i64 (((x5n : Nat) : Int) - 2) : Int).toNat * 1)) = some (.int .i64 i73) ∧ 
 IntKind.i64 = IntKind.i64 ∧ IntKind.i64 = IntKind.i64 ∧ (bcase (bif !t66 then true else bif decide ((((x5n : Nat) : Int) : Int) > 1) then (i73 : Int) == (IntKind.wrap .i64 (((x0n : Nat) : Int) - 1)) else false) (
 CallsA Try.prog w0 32 #[] m68 fun r75 m76 =>
 ∃ t74 : Bool, r75 = .bool t74 ∧ RetP R (.bool (bif bif !t66 then true else bif decide ((((x5n : Nat) : Int) : Int) > 1) then (i73 : Int) == (IntKind.wrap .i64 (((x0n : Nat) : Int) - 1)) else false then t74 else false)) m76) (
 (bif !t66 then true else bif decide ((((x5n : Nat) : Int) : Int) > 1) then (i73 : Int) == (IntKind.wrap .i64 (((x0n : Nat) : Int) - 1)) else false) = false ∧ RetP R (.bool false) m68))) (
 (decide ((((x5n : Nat) : Int) : Int) > 1)) = false ∧ (bcase (bif !t66 then true else false) (
 CallsA Try.prog w0 32 #[] m68 fun r78 m79 =>
 ∃ t77 : Bool, r78 = .bool t77 ∧ RetP R (.bool (bif bif !t66 then true else false then t77 else false)) m79) (
 (bif !t66 then true else false) = false ∧ RetP R (.bool false) m68))))))))) (
 (decide ((i50 : Int) ≥ 0)) = false ∧ IntKind.i64 = IntKind.i64 ∧ ((0 : Int) ≤ (IntKind.wrap .i64 (((x0n : Nat) : Int) - 1)) ∧ (IntKind.wrap .i64 (((x0n : Nat) : Int) - 1)) < ((x0n : Nat) : Int)) ∧ nilO x0 fun a80 =>
 ∃ i81 : Int, m.cell (a80.add ((IntKind.wrap .i64 (((x0n : Nat) : Int) - 1) : Int).toNat * 5)) = some (.int .i64 i81) ∧ ∃ i82 : Int, m.cell ((a80.add ((IntKind.wrap .i64 (((x0n : Nat) : Int) - 1) : Int).toNat * 5)).add 1) = some (.int .i64 i82) ∧ ∃ i83 : Int, m.cell ((a80.add ((IntKind.wrap .i64 (((x0n : Nat) : Int) - 1) : Int).toNat * 5)).add 2) = some (.int .i64 i83) ∧ ∃ i84 : Int, m.cell ((a80.add ((IntKind.wrap .i64 (((x0n : Nat) : Int) - 1) : Int).toNat * 5)).add 3) = some (.int .i64 i84) ∧ ∃ i85 : Int, m.cell ((a80.add ((IntKind.wrap .i64 (((x0n : Nat) : Int) - 1) : Int).toNat * 5)).add 4) = some (.int .i64 i85) ∧ 
 CallsA Try.prog w0 30 #[.agg #[.int .i64 i81, .int .i64 i82, .int .i64 i83, .int .i64 i84, .int .i64 i85]] m fun r87 m88 =>
 ∃ t86 : Bool, r87 = .bool t86 ∧ (bcase (!t86) (
 (!t86) = true ∧ CallsA Try.prog w0 32 #[] m88 fun r90 m91 =>
 ∃ t89 : Bool, r90 = .bool t89 ∧ RetP R (.bool (bif true then t89 else false)) m91) (
 IntKind.i64 = IntKind.i64 ∧ (bcase (decide ((((x5n : Nat) : Int) : Int) > 1)) (
 IntKind.i64 = IntKind.i64 ∧ ((0 : Int) ≤ (IntKind.wrap .i64 (((x5n : Nat) : Int) - 2)) ∧ (IntKind.wrap .i64 (((x5n : Nat) : Int) - 2)) < ((x5n : Nat) : Int)) ∧ nilO x5 fun a92 =>
 ∃ i93 : Int, m88.cell (a92.add ((IntKind.wrap .i64 (((x5n : Nat) : Int) - 2) : Int).toNat * 1)) = some (.int .i64 i93) ∧ 
 IntKind.i64 = IntKind.i64 ∧ IntKind.i64 = IntKind.i64 ∧ (bcase (bif !t86 then true else bif decide ((((x5n : Nat) : Int) : Int) > 1) then (i93 : Int) == (IntKind.wrap .i64 (((x0n : Nat) : Int) - 1)) else false) (
 CallsA Try.prog w0 32 #[] m88 fun r95 m96 =>
 ∃ t94 : Bool, r95 = .bool t94 ∧ RetP R (.bool (bif bif !t86 then true else bif decide ((((x5n : Nat) : Int) : Int) > 1) then (i93 : Int) == (IntKind.wrap .i64 (((x0n : Nat) : Int) - 1)) else false then t94 else false)) m96) (
 (bif !t86 then true else bif decide ((((x5n : Nat) : Int) : Int) > 1) then (i93 : Int) == (IntKind.wrap .i64 (((x0n : Nat) : Int) - 1)) else false) = false ∧ RetP R (.bool false) m88))) (
 (decide ((((x5n : Nat) : Int) : Int) > 1)) = false ∧ (bcase (bif !t86 then true else false) (
 CallsA Try.prog w0 32 #[] m88 fun r98 m99 =>
 ∃ t97 : Bool, r98 = .bool t97 ∧ RetP R (.bool (bif bif !t86 then true else false then t97 else false)) m99) (
 (bif !t86 then true else false) = false ∧ RetP R (.bool false) m88)))))))))) :
 vcS Try.prog w0 qs13 (sub c13 [1, 1, 1, 1, 1, 1, 1, 0, 1, 0]) σ m (blockS 4 (thenS (fun σ m => vcS Try.prog w0 qs13 (sub c13 [1, 1, 1, 1, 1, 1, 1, 1]) σ m (retQ Try.prog Try.f13 R)) (retQ Try.prog Try.f13 R))) := by
  rw [show sub c13 [1, 1, 1, 1, 1, 1, 1, 0, 1, 0] = .loop (sub c13 [1, 1, 1, 1, 1, 1, 1, 0, 1, 0, 0]) from by kernel_rfl]
  refine loopQ (fun n0 σ m => σ 0 = .slice x0 x0n x0c ∧ σ 5 = .slice x5 x5n x5c ∧ σ 86 = .slice x86 x86n x86c ∧ σ 87 = .int .i64 x87 ∧ okI .i64 (σ 88) = true ∧ I0 n0 (vI (σ 88)) m) N (fun n0 => (lq13_1111111010 R x0 x0n x0c x5 x5n x5c x86 x86n x86c x87 I0 E0_4 n0)) ⟨h0, h5, h86, h87, (by rw [h88]; rfl), (by rw [h88]; exact h_0)⟩ ?_ ?_ ?_
  · rintro n0 σ m ⟨kk0, kk1, kk2, kk3, kk4, n', hlt, hI⟩; exact ⟨n', hlt, kk0, kk1, kk2, kk3, kk4, hI⟩
  · intro n0 e σ m hne h
    cases e with
    | normal => exact absurd rfl hne
    | ret => exact h
    | exit id =>
      by_cases e4 : id = 4
      · subst e4
        obtain ⟨kk0, kk1, kk2, kk3, hE⟩ := h
        have es : (upd (upd (upd (upd σ 0 (.slice x0 x0n x0c)) 5 (.slice x5 x5n x5c)) 86 (.slice x86 x86n x86c)) 87 (.int .i64 x87)) = σ := by rw [upd_id kk0, upd_id kk1, upd_id kk2, upd_id kk3]
        exact cast (congrArg (fun s => (blockS 4 (thenS (fun σ m => vcS Try.prog w0 qs13 (sub c13 [1, 1, 1, 1, 1, 1, 1, 1]) σ m (retQ Try.prog Try.f13 R)) (retQ Try.prog Try.f13 R))) (.exit 4) s m) es) (cast (by kernel_rfl) (h_e4 σ  m hE))
      · replace h := (if_neg e4 : (if id = 4 then _ else _) = _).mp h
        exact False.elim h
    | _ => exact False.elim h
  · rintro n0 σ m ⟨kk0, kk1, kk2, kk3, kk4, hI⟩
    have es : (upd (upd (upd (upd (upd σ 0 (.slice x0 x0n x0c)) 5 (.slice x5 x5n x5c)) 86 (.slice x86 x86n x86c)) 87 (.int .i64 x87)) 88 (.int .i64 (vI (σ 88)))) = σ := by rw [upd_id kk0, upd_id kk1, upd_id kk2, upd_id kk3, upd_id (ok_int kk4)]
    exact cast (congrArg (fun s => vcS Try.prog w0 qs13 (sub c13 [1, 1, 1, 1, 1, 1, 1, 0, 1, 0, 0]) s m (lq13_1111111010 R x0 x0n x0c x5 x5n x5c x86 x86n x86c x87 I0 E0_4 n0)) es) (cast (by kernel_rfl) (h_s n0 σ (vI (σ 88)) m hI))
end Go.Proofs.Ytkfemiloehkmhaa.V
