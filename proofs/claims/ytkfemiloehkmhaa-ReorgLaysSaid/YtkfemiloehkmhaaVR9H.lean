/- Ytkfemiloehkmhaa: a text of our own, by an AI agent: VR9H -/
import Derived.Test.YtkfemiloehkmhaaCoreA
import Derived.Test.YtkfemiloehkmhaaTabH
namespace Go.Proofs.Ytkfemiloehkmhaa.V
open Go Go.Alog Go.Proofs.Ytkfemiloehkmhaa.T
set_option linter.unusedVariables false
set_option maxRecDepth 100000

/-! 22 delayslot/delayslotref09.Target -/
def qs22 : Nat → List (Nat × Nat) := fun i => match i with | _ => []
noncomputable def c22 : Code := bodyOf Try.f22
theorem cf22 (w0 : World) (m : AM) (x0_0 : Int) (x0_1 : Int) (x0_2 : Int) (x0_3 : Int) (x0_4 : Int) (x1 : Int) (R : Value → AM → Prop) (h :
 ∀ b1 : Nat, w0.heap.size ≤ b1 → m b1 = none → let m2 := AM.upd m b1 (.cells #[.int .i64 x0_0, .int .i64 x0_1, .int .i64 x0_2, .int .i64 x0_3, .int .i64 x0_4] 24);
 ∃ i3 : Int, m2.cell ⟨b1, 0, none⟩ = some (.int .i64 i3) ∧ ∃ i4 : Int, m2.cell ⟨b1, 1, none⟩ = some (.int .i64 i4) ∧ ∃ i5 : Int, m2.cell ⟨b1, 2, none⟩ = some (.int .i64 i5) ∧ ∃ i6 : Int, m2.cell ⟨b1, 3, none⟩ = some (.int .i64 i6) ∧ ∃ i7 : Int, m2.cell ⟨b1, 4, none⟩ = some (.int .i64 i7) ∧ 
 CallsA Try.prog w0 31 #[.agg #[.int .i64 i3, .int .i64 i4, .int .i64 i5, .int .i64 i6, .int .i64 i7]] m2 fun r9 m10 =>
 ∃ t8 : Bool, r9 = .bool t8 ∧ (bcase (!t8) (
 (!t8) = true ∧ true = true ∧ RetP R (.tuple #[.int .i64 0, .bool false]) m10) (
 ∃ i11 : Int, m10.cell ⟨b1, 0, none⟩ = some (.int .i64 i11) ∧ 
 IntKind.i64 = IntKind.i64 ∧ (bcase (bif !t8 then true else decide ((i11 : Int) < 15)) (
 (bif !t8 then true else decide ((i11 : Int) < 15)) = true ∧ RetP R (.tuple #[.int .i64 0, .bool false]) m10) (
 ∃ i12 : Int, m10.cell ⟨b1, 0, none⟩ = some (.int .i64 i12) ∧ 
 IntKind.i64 = IntKind.i64 ∧ (bcase (bif bif !t8 then true else decide ((i11 : Int) < 15) then true else decide ((i12 : Int) > 18)) (
 RetP R (.tuple #[.int .i64 0, .bool false]) m10) (
 ∃ i13 : Int, m10.cell ⟨b1, 0, none⟩ = some (.int .i64 i13) ∧ 
 IntKind.i64 = IntKind.i64 ∧ (bcase (decide ((i13 : Int) < 17)) (
 IntKind.i64 = IntKind.i64 ∧ ∃ i14 : Int, m10.cell ⟨b1, 4, none⟩ = some (.int .i64 i14) ∧ 
 IntKind.i64 = IntKind.i64 ∧ RetP R (.tuple #[.int .i64 (IntKind.wrap .i64 ((IntKind.wrap .i64 (x1 + 1)) + i14)), .bool true]) m10) (
 ∃ i15 : Int, m10.cell ⟨b1, 4, none⟩ = some (.int .i64 i15) ∧ 
 RetP R (.tuple #[.int .i64 i15, .bool true]) m10))))))))) : CallsA Try.prog w0 22 #[.agg #[.int .i64 x0_0, .int .i64 x0_1, .int .i64 x0_2, .int .i64 x0_3, .int .i64 x0_4], .int .i64 x1] m R :=
  callsA_of (c := c22) (args := [.agg #[.int .i64 x0_0, .int .i64 x0_1, .int .i64 x0_2, .int .i64 x0_3, .int .i64 x0_4], .int .i64 x1]) (by kernel_rfl) Try.func22 (by kernel_rfl) qs22 (by kernel_rfl) (by kernel_rfl) (cast (by kernel_rfl) h)

/-! 24 delayslot/delayslotref09.Fit -/
def qs24 : Nat → List (Nat × Nat) := fun i => match i with | _ => []
noncomputable def c24 : Code := bodyOf Try.f24
theorem cf24 (w0 : World) (m : AM) (x0 : Option Addr) (x0n x0c : Nat) (R : Value → AM → Prop) (h :
 vcS Try.prog w0 qs24 (sub c24 [1, 0, 1, 0]) (upd (upd (argS [.slice x0 x0n x0c]) 2 (.bool false)) 3 (.int .i64 0)) m (blockS 0 (thenS (fun σ m => vcS Try.prog w0 qs24 (sub c24 [1, 1]) σ m (retQ Try.prog Try.f24 R)) (retQ Try.prog Try.f24 R)))) : CallsA Try.prog w0 24 #[.slice x0 x0n x0c] m R :=
  callsA_of (c := c24) (args := [.slice x0 x0n x0c]) (by kernel_rfl) Try.func24 (by kernel_rfl) qs24 (by kernel_rfl) (by kernel_rfl) (cast (by kernel_rfl) h)
def lq24_1010 (R : Value → AM → Prop) (x0 : Option Addr) (x0n x0c : Nat) (I0 : Nat → Int → AM → Prop) (E0_0 : AM → Prop) (n0 : Nat) : Exit → Sg → AM → Prop
  | .normal, σ, m => σ 0 = .slice x0 x0n x0c ∧ okI .i64 (σ 3) = true ∧ ∃ n' : Nat, n' < n0 ∧ I0 n' (vI (σ 3)) m
  | .exit id, σ, m => if id = 0 then σ 0 = .slice x0 x0n x0c ∧ E0_0  m else False
  | .ret, σ, m => retQ Try.prog Try.f24 R .ret σ m
  | _, _, _ => False
theorem vl24_1010 (w0 : World) (m : AM) (σ : Sg) (R : Value → AM → Prop)  (x0 : Option Addr) (x0n x0c : Nat) (x3 : Int) (I0 : Nat → Int → AM → Prop) (E0_0 : AM → Prop) (N : Nat) (h0 : σ 0 = .slice x0 x0n x0c) (h3 : σ 3 = .int .i64 x3)
 (h_0 : I0 N x3 m)
 (h_s : ∀ (n0 : Nat) (σ : Sg) (x3 : Int) (m : AM), I0 n0 x3 m → (
 IntKind.i64 = IntKind.i64 ∧ (bcase (decide ((x3 : Int) < ((x0n : Nat) : Int))) (
 ((0 : Int) ≤ x3 ∧ x3 < ((x0n : Nat) : Int)) ∧ nilO x0 fun a1 =>
 ∃ i2 : Int, m.cell (a1.add ((x3 : Int).toNat * 5)) = some (.int .i64 i2) ∧ ∃ i3 : Int, m.cell ((a1.add ((x3 : Int).toNat * 5)).add 1) = some (.int .i64 i3) ∧ ∃ i4 : Int, m.cell ((a1.add ((x3 : Int).toNat * 5)).add 2) = some (.int .i64 i4) ∧ ∃ i5 : Int, m.cell ((a1.add ((x3 : Int).toNat * 5)).add 3) = some (.int .i64 i5) ∧ ∃ i6 : Int, m.cell ((a1.add ((x3 : Int).toNat * 5)).add 4) = some (.int .i64 i6) ∧ 
 CallsA Try.prog w0 22 #[.agg #[.int .i64 i2, .int .i64 i3, .int .i64 i4, .int .i64 i5, .int .i64 i6], .int .i64 x3] m fun r9 m10 =>
 ∃ i7 : Int, ∃ t8 : Bool, r9 = .tuple #[.int .i64 i7, .bool t8] ∧ ((0 : Int) ≤ x3 ∧ x3 < ((x0n : Nat) : Int)) ∧ nilO x0 fun a13 =>
 ∃ i14 : Int, m10.cell (a13.add ((x3 : Int).toNat * 5)) = some (.int .i64 i14) ∧ ∃ i15 : Int, m10.cell ((a13.add ((x3 : Int).toNat * 5)).add 1) = some (.int .i64 i15) ∧ ∃ i16 : Int, m10.cell ((a13.add ((x3 : Int).toNat * 5)).add 2) = some (.int .i64 i16) ∧ ∃ i17 : Int, m10.cell ((a13.add ((x3 : Int).toNat * 5)).add 3) = some (.int .i64 i17) ∧ ∃ i18 : Int, m10.cell ((a13.add ((x3 : Int).toNat * 5)).add 4) = some (.int .i64 i18) ∧ 
 CallsA Try.prog w0 31 #[.agg #[.int .i64 i14, .int .i64 i15, .int .i64 i16, .int .i64 i17, .int .i64 i18]] m10 fun r20 m21 =>
 ∃ t19 : Bool, r20 = .bool t19 ∧ (bcase (!t19) (
 (!t19) = true ∧ RetP R (.bool false) m21) (
 (bcase t8 (
 IntKind.i64 = IntKind.i64 ∧ (bcase (decide ((i7 : Int) < 0)) (
 (decide ((i7 : Int) < 0)) = true ∧ (bcase (bif !t19 then true else bif t8 then true else false) (
 RetP R (.bool false) m21) (
 IntKind.i64 = IntKind.i64 ∧ (.slice x0 x0n x0c : Value) = .slice x0 x0n x0c ∧ true = true ∧ ∃ n' : Nat, n' < n0 ∧ I0 n' (IntKind.wrap .i64 (x3 + 1)) m21))) (
 IntKind.i64 = IntKind.i64 ∧ (bcase (bif !t19 then true else bif t8 then bif decide ((i7 : Int) < 0) then true else decide ((i7 : Int) > ((x0n : Nat) : Int)) else false) (
 RetP R (.bool false) m21) (
 IntKind.i64 = IntKind.i64 ∧ (.slice x0 x0n x0c : Value) = .slice x0 x0n x0c ∧ true = true ∧ ∃ n' : Nat, n' < n0 ∧ I0 n' (IntKind.wrap .i64 (x3 + 1)) m21))))) (
 t8 = false ∧ (bcase (bif !t19 then true else false) (
 RetP R (.bool false) m21) (
 IntKind.i64 = IntKind.i64 ∧ (.slice x0 x0n x0c : Value) = .slice x0 x0n x0c ∧ true = true ∧ ∃ n' : Nat, n' < n0 ∧ I0 n' (IntKind.wrap .i64 (x3 + 1)) m21))))))) (
 (.slice x0 x0n x0c : Value) = .slice x0 x0n x0c ∧ E0_0  m))))
 (h_e0 : ∀ (σ : Sg)  (m : AM), E0_0  m → (
 IntKind.i64 = IntKind.i64 ∧ RetP R (.bool (decide ((((x0n : Nat) : Int) : Int) < 4097))) m)) :
 vcS Try.prog w0 qs24 (sub c24 [1, 0, 1, 0]) σ m (blockS 0 (thenS (fun σ m => vcS Try.prog w0 qs24 (sub c24 [1, 1]) σ m (retQ Try.prog Try.f24 R)) (retQ Try.prog Try.f24 R))) := by
  rw [show sub c24 [1, 0, 1, 0] = .loop (sub c24 [1, 0, 1, 0, 0]) from by kernel_rfl]
  refine loopQ (fun n0 σ m => σ 0 = .slice x0 x0n x0c ∧ okI .i64 (σ 3) = true ∧ I0 n0 (vI (σ 3)) m) N (fun n0 => (lq24_1010 R x0 x0n x0c I0 E0_0 n0)) ⟨h0, (by rw [h3]; rfl), (by rw [h3]; exact h_0)⟩ ?_ ?_ ?_
  · rintro n0 σ m ⟨kk0, kk1, n', hlt, hI⟩; exact ⟨n', hlt, kk0, kk1, hI⟩
  · intro n0 e σ m hne h
    cases e with
    | normal => exact absurd rfl hne
    | ret => exact h
    | exit id =>
      by_cases e0 : id = 0
      · subst e0
        obtain ⟨kk0, hE⟩ := h
        have es : (upd σ 0 (.slice x0 x0n x0c)) = σ := by rw [upd_id kk0]
        exact cast (congrArg (fun s => (blockS 0 (thenS (fun σ m => vcS Try.prog w0 qs24 (sub c24 [1, 1]) σ m (retQ Try.prog Try.f24 R)) (retQ Try.prog Try.f24 R))) (.exit 0) s m) es) (cast (by kernel_rfl) (h_e0 σ  m hE))
      · replace h := (if_neg e0 : (if id = 0 then _ else _) = _).mp h
        exact False.elim h
    | _ => exact False.elim h
  · rintro n0 σ m ⟨kk0, kk1, hI⟩
    have es : (upd (upd σ 0 (.slice x0 x0n x0c)) 3 (.int .i64 (vI (σ 3)))) = σ := by rw [upd_id kk0, upd_id (ok_int kk1)]
    exact cast (congrArg (fun s => vcS Try.prog w0 qs24 (sub c24 [1, 0, 1, 0, 0]) s m (lq24_1010 R x0 x0n x0c I0 E0_0 n0)) es) (cast (by kernel_rfl) (h_s n0 σ (vI (σ 3)) m hI))

/-! 26 delayslot/delayslotref09.Strict -/
noncomputable def c26 : Code := bodyOf Try.f26
/-! 29 delayslot/delayslotref09.Head -/
def qs29 : Nat → List (Nat × Nat) := fun i => match i with | _ => []
noncomputable def c29 : Code := bodyOf Try.f29
theorem cf29 (w0 : World) (m : AM) (x0 : Option Addr) (x0n x0c : Nat) (x1 : Int) (R : Value → AM → Prop) (h :
 IntKind.i64 = IntKind.i64 ∧ (bcase ((x1 : Int) == 0) (
 ((x1 : Int) == 0) = true ∧ RetP R (.bool true) m) (
 IntKind.i64 = IntKind.i64 ∧ ((0 : Int) ≤ (IntKind.wrap .i64 (x1 - 1)) ∧ (IntKind.wrap .i64 (x1 - 1)) < ((x0n : Nat) : Int)) ∧ nilO x0 fun a1 =>
 ∃ i2 : Int, m.cell (a1.add ((IntKind.wrap .i64 (x1 - 1) : Int).toNat * 5)) = some (.int .i64 i2) ∧ ∃ i3 : Int, m.cell ((a1.add ((IntKind.wrap .i64 (x1 - 1) : Int).toNat * 5)).add 1) = some (.int .i64 i3) ∧ ∃ i4 : Int, m.cell ((a1.add ((IntKind.wrap .i64 (x1 - 1) : Int).toNat * 5)).add 2) = some (.int .i64 i4) ∧ ∃ i5 : Int, m.cell ((a1.add ((IntKind.wrap .i64 (x1 - 1) : Int).toNat * 5)).add 3) = some (.int .i64 i5) ∧ ∃ i6 : Int, m.cell ((a1.add ((IntKind.wrap .i64 (x1 - 1) : Int).toNat * 5)).add 4) = some (.int .i64 i6) ∧ 
 CallsA Try.prog w0 30 #[.agg #[.int .i64 i2, .int .i64 i3, .int .i64 i4, .int .i64 i5, .int .i64 i6]] m fun r8 m9 =>
 ∃ t7 : Bool, r8 = .bool t7 ∧ (bcase (bif (x1 : Int) == 0 then true else t7) (
 RetP R (.bool true) m9) (
 vcS Try.prog w0 qs29 (sub c29 [1, 1, 0, 1, 0]) (upd (upd (upd (upd (upd (upd (upd (upd (upd (upd (upd (upd (argS [.slice x0 x0n x0c, .int .i64 x1]) 4 (.bool false)) 8 (.int .i64 x1)) 9 (.bool ((x1 : Int) == 0))) 10 (.bool ((x1 : Int) == 0))) 11 (.slice x0 x0n x0c)) 12 (.int .i64 x1)) 13 (.int .i64 (IntKind.wrap .i64 (x1 - 1)))) 14 (.pointer (some (a1.add ((IntKind.wrap .i64 (x1 - 1) : Int).toNat * 5))))) 15 (.agg #[.int .i64 i2, .int .i64 i3, .int .i64 i4, .int .i64 i5, .int .i64 i6])) 16 (.bool t7)) 17 (.bool (bif (x1 : Int) == 0 then true else t7))) 5 (.int .i64 0)) m9 (blockS 0 (thenS (fun σ m => vcS Try.prog w0 qs29 (sub c29 [1, 1, 1]) σ m (retQ Try.prog Try.f29 R)) (retQ Try.prog Try.f29 R)))))))) : CallsA Try.prog w0 29 #[.slice x0 x0n x0c, .int .i64 x1] m R :=
  callsA_of (c := c29) (args := [.slice x0 x0n x0c, .int .i64 x1]) (by kernel_rfl) Try.func29 (by kernel_rfl) qs29 (by kernel_rfl) (by kernel_rfl) (cast (by kernel_rfl) h)
def lq29_11010 (R : Value → AM → Prop) (x0 : Option Addr) (x0n x0c : Nat) (x1 : Int) (I0 : Nat → Int → AM → Prop) (E0_0 : AM → Prop) (n0 : Nat) : Exit → Sg → AM → Prop
  | .normal, σ, m => σ 0 = .slice x0 x0n x0c ∧ σ 1 = .int .i64 x1 ∧ okI .i64 (σ 5) = true ∧ ∃ n' : Nat, n' < n0 ∧ I0 n' (vI (σ 5)) m
  | .exit id, σ, m => if id = 0 then σ 0 = .slice x0 x0n x0c ∧ σ 1 = .int .i64 x1 ∧ E0_0  m else False
  | .ret, σ, m => retQ Try.prog Try.f29 R .ret σ m
  | _, _, _ => False
theorem vl29_11010 (w0 : World) (m : AM) (σ : Sg) (R : Value → AM → Prop)  (x0 : Option Addr) (x0n x0c : Nat) (x1 : Int) (x5 : Int) (I0 : Nat → Int → AM → Prop) (E0_0 : AM → Prop) (N : Nat) (h0 : σ 0 = .slice x0 x0n x0c) (h1 : σ 1 = .int .i64 x1) (h5 : σ 5 = .int .i64 x5)
 (h_0 : I0 N x5 m)
 (h_s : ∀ (n0 : Nat) (σ : Sg) (x5 : Int) (m : AM), I0 n0 x5 m → (
 IntKind.i64 = IntKind.i64 ∧ (bcase (decide ((x5 : Int) < ((x0n : Nat) : Int))) (
 ((0 : Int) ≤ x5 ∧ x5 < ((x0n : Nat) : Int)) ∧ nilO x0 fun a10 =>
 ∃ i11 : Int, m.cell (a10.add ((x5 : Int).toNat * 5)) = some (.int .i64 i11) ∧ ∃ i12 : Int, m.cell ((a10.add ((x5 : Int).toNat * 5)).add 1) = some (.int .i64 i12) ∧ ∃ i13 : Int, m.cell ((a10.add ((x5 : Int).toNat * 5)).add 2) = some (.int .i64 i13) ∧ ∃ i14 : Int, m.cell ((a10.add ((x5 : Int).toNat * 5)).add 3) = some (.int .i64 i14) ∧ ∃ i15 : Int, m.cell ((a10.add ((x5 : Int).toNat * 5)).add 4) = some (.int .i64 i15) ∧ 
 CallsA Try.prog w0 22 #[.agg #[.int .i64 i11, .int .i64 i12, .int .i64 i13, .int .i64 i14, .int .i64 i15], .int .i64 x5] m fun r18 m19 =>
 ∃ i16 : Int, ∃ t17 : Bool, r18 = .tuple #[.int .i64 i16, .bool t17] ∧ (bcase t17 (
 IntKind.i64 = IntKind.i64 ∧ (bcase (bif t17 then (i16 : Int) == x1 else false) (
 RetP R (.bool true) m19) (
 IntKind.i64 = IntKind.i64 ∧ (.slice x0 x0n x0c : Value) = .slice x0 x0n x0c ∧ (.int .i64 x1 : Value) = .int .i64 x1 ∧ true = true ∧ ∃ n' : Nat, n' < n0 ∧ I0 n' (IntKind.wrap .i64 (x5 + 1)) m19))) (
 t17 = false ∧ IntKind.i64 = IntKind.i64 ∧ (.slice x0 x0n x0c : Value) = .slice x0 x0n x0c ∧ (.int .i64 x1 : Value) = .int .i64 x1 ∧ true = true ∧ ∃ n' : Nat, n' < n0 ∧ I0 n' (IntKind.wrap .i64 (x5 + 1)) m19))) (
 (.slice x0 x0n x0c : Value) = .slice x0 x0n x0c ∧ (.int .i64 x1 : Value) = .int .i64 x1 ∧ E0_0  m))))
 (h_e0 : ∀ (σ : Sg)  (m : AM), E0_0  m → (
 RetP R (.bool false) m)) :
 vcS Try.prog w0 qs29 (sub c29 [1, 1, 0, 1, 0]) σ m (blockS 0 (thenS (fun σ m => vcS Try.prog w0 qs29 (sub c29 [1, 1, 1]) σ m (retQ Try.prog Try.f29 R)) (retQ Try.prog Try.f29 R))) := by
  rw [show sub c29 [1, 1, 0, 1, 0] = .loop (sub c29 [1, 1, 0, 1, 0, 0]) from by kernel_rfl]
  refine loopQ (fun n0 σ m => σ 0 = .slice x0 x0n x0c ∧ σ 1 = .int .i64 x1 ∧ okI .i64 (σ 5) = true ∧ I0 n0 (vI (σ 5)) m) N (fun n0 => (lq29_11010 R x0 x0n x0c x1 I0 E0_0 n0)) ⟨h0, h1, (by rw [h5]; rfl), (by rw [h5]; exact h_0)⟩ ?_ ?_ ?_
  · rintro n0 σ m ⟨kk0, kk1, kk2, n', hlt, hI⟩; exact ⟨n', hlt, kk0, kk1, kk2, hI⟩
  · intro n0 e σ m hne h
    cases e with
    | normal => exact absurd rfl hne
    | ret => exact h
    | exit id =>
      by_cases e0 : id = 0
      · subst e0
        obtain ⟨kk0, kk1, hE⟩ := h
        have es : (upd (upd σ 0 (.slice x0 x0n x0c)) 1 (.int .i64 x1)) = σ := by rw [upd_id kk0, upd_id kk1]
        exact cast (congrArg (fun s => (blockS 0 (thenS (fun σ m => vcS Try.prog w0 qs29 (sub c29 [1, 1, 1]) σ m (retQ Try.prog Try.f29 R)) (retQ Try.prog Try.f29 R))) (.exit 0) s m) es) (cast (by kernel_rfl) (h_e0 σ  m hE))
      · replace h := (if_neg e0 : (if id = 0 then _ else _) = _).mp h
        exact False.elim h
    | _ => exact False.elim h
  · rintro n0 σ m ⟨kk0, kk1, kk2, hI⟩
    have es : (upd (upd (upd σ 0 (.slice x0 x0n x0c)) 1 (.int .i64 x1)) 5 (.int .i64 (vI (σ 5)))) = σ := by rw [upd_id kk0, upd_id kk1, upd_id (ok_int kk2)]
    exact cast (congrArg (fun s => vcS Try.prog w0 qs29 (sub c29 [1, 1, 0, 1, 0, 0]) s m (lq29_11010 R x0 x0n x0c x1 I0 E0_0 n0)) es) (cast (by kernel_rfl) (h_s n0 σ (vI (σ 5)) m hI))
end Go.Proofs.Ytkfemiloehkmhaa.V

