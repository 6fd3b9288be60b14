/- Ytkfemiloehkmhaa: a text of our own, by an AI agent: VSchH -/
import Derived.Test.YtkfemiloehkmhaaCoreA
import Derived.Test.YtkfemiloehkmhaaTabH
namespace Go.Proofs.Ytkfemiloehkmhaa.V
open Go Go.Alog Go.Proofs.Ytkfemiloehkmhaa.T
set_option linter.unusedVariables false
set_option maxRecDepth 100000

/-! 61 delayslot/sched.ready -/
def qs61 : Nat → List (Nat × Nat) := fun i => match i with | _ => []
noncomputable def c61 : Code := bodyOf Try.f61
theorem cf61 (w0 : World) (m : AM) (x0 : Option Addr) (x0n x0c : Nat) (x1 : Option Addr) (x1n x1c : Nat) (x2 : Int) (x3 : Int) (R : Value → AM → Prop) (h :
 ((0 : Int) ≤ x2 ∧ x2 < ((x1n : Nat) : Int)) ∧ nilO x1 fun a1 =>
 ∃ i2 : Int, m.cell (a1.add ((x2 : Int).toNat * 1)) = some (.int .i64 i2) ∧ 
 IntKind.i64 = IntKind.i64 ∧ (bcase (decide ((i2 : Int) ≥ 0)) (
 RetP R (.bool false) m) (
 vcS Try.prog w0 qs61 (sub c61 [1, 1, 0, 1, 0]) (upd (upd (upd (upd (upd (upd (upd (upd (argS [.slice x0 x0n x0c, .slice x1 x1n x1c, .int .i64 x2, .int .i64 x3]) 8 (.bool false)) 11 (.slice x1 x1n x1c)) 12 (.int .i64 x2)) 13 (.pointer (some (a1.add ((x2 : Int).toNat * 1))))) 14 (.int .i64 i2)) 15 (.bool (decide ((i2 : Int) ≥ 0)))) 16 (.int .i64 x2)) 17 (.int .i64 0)) m (blockS 0 (thenS (fun σ m => vcS Try.prog w0 qs61 (sub c61 [1, 1, 1]) σ m (retQ Try.prog Try.f61 R)) (retQ Try.prog Try.f61 R)))))) : CallsA Try.prog w0 61 #[.slice x0 x0n x0c, .slice x1 x1n x1c, .int .i64 x2, .int .i64 x3] m R :=
  callsA_of (c := c61) (args := [.slice x0 x0n x0c, .slice x1 x1n x1c, .int .i64 x2, .int .i64 x3]) (by kernel_rfl) Try.func61 (by kernel_rfl) qs61 (by kernel_rfl) (by kernel_rfl) (cast (by kernel_rfl) h)
def lq61_11010 (R : Value → AM → Prop) (x0 : Option Addr) (x0n x0c : Nat) (x1 : Option Addr) (x1n x1c : Nat) (x2 : Int) (x3 : Int) (x16 : Int) (I0 : Nat → Int → AM → Prop) (E0_0 : AM → Prop) (n0 : Nat) : Exit → Sg → AM → Prop
  | .normal, σ, m => σ 0 = .slice x0 x0n x0c ∧ σ 1 = .slice x1 x1n x1c ∧ σ 2 = .int .i64 x2 ∧ σ 3 = .int .i64 x3 ∧ σ 16 = .int .i64 x16 ∧ okI .i64 (σ 17) = true ∧ ∃ n' : Nat, n' < n0 ∧ I0 n' (vI (σ 17)) m
  | .exit id, σ, m => if id = 0 then σ 0 = .slice x0 x0n x0c ∧ σ 1 = .slice x1 x1n x1c ∧ σ 2 = .int .i64 x2 ∧ σ 3 = .int .i64 x3 ∧ σ 16 = .int .i64 x16 ∧ E0_0  m else False
  | .ret, σ, m => retQ Try.prog Try.f61 R .ret σ m
  | _, _, _ => False
theorem vl61_11010 (w0 : World) (m : AM) (σ : Sg) (R : Value → AM → Prop)  (x0 : Option Addr) (x0n x0c : Nat) (x1 : Option Addr) (x1n x1c : Nat) (x2 : Int) (x3 : Int) (x16 : Int) (x17 : Int) (I0 : Nat → Int → AM → Prop) (E0_0 : AM → Prop) (N : Nat) (h0 : σ 0 = .slice x0 x0n x0c) (h1 : σ 1 = .slice x1 x1n x1c) (h2 : σ 2 = .int .i64 x2) (h3 : σ 3 = .int .i64 x3) (h16 : σ 16 = .int .i64 x16) (h17 : σ 17 = .int .i64 x17)
 (h_0 : I0 N x17 m)
 (h_s : ∀ (n0 : Nat) (σ : Sg) (x17 : Int) (m : AM), I0 n0 x17 m → (
 IntKind.i64 = IntKind.i64 ∧ (bcase (decide ((x17 : Int) < x16)) (
 ((0 : Int) ≤ x17 ∧ x17 < ((x0n : Nat) : Int)) ∧ nilO x0 fun a3 =>
 ∃ i4 : Int, m.cell (a3.add ((x17 : Int).toNat * 5)) = some (.int .i64 i4) ∧ ∃ i5 : Int, m.cell ((a3.add ((x17 : Int).toNat * 5)).add 1) = some (.int .i64 i5) ∧ ∃ i6 : Int, m.cell ((a3.add ((x17 : Int).toNat * 5)).add 2) = some (.int .i64 i6) ∧ ∃ i7 : Int, m.cell ((a3.add ((x17 : Int).toNat * 5)).add 3) = some (.int .i64 i7) ∧ ∃ i8 : Int, m.cell ((a3.add ((x17 : Int).toNat * 5)).add 4) = some (.int .i64 i8) ∧ 
 ((0 : Int) ≤ x2 ∧ x2 < ((x0n : Nat) : Int)) ∧ nilO x0 fun a9 =>
 ∃ i10 : Int, m.cell (a9.add ((x2 : Int).toNat * 5)) = some (.int .i64 i10) ∧ ∃ i11 : Int, m.cell ((a9.add ((x2 : Int).toNat * 5)).add 1) = some (.int .i64 i11) ∧ ∃ i12 : Int, m.cell ((a9.add ((x2 : Int).toNat * 5)).add 2) = some (.int .i64 i12) ∧ ∃ i13 : Int, m.cell ((a9.add ((x2 : Int).toNat * 5)).add 3) = some (.int .i64 i13) ∧ ∃ i14 : Int, m.cell ((a9.add ((x2 : Int).toNat * 5)).add 4) = some (.int .i64 i14) ∧ 
 CallsA Try.prog w0 67 #[.agg #[.int .i64 i4, .int .i64 i5, .int .i64 i6, .int .i64 i7, .int .i64 i8], .agg #[.int .i64 i10, .int .i64 i11, .int .i64 i12, .int .i64 i13, .int .i64 i14]] m fun r16 m17 =>
 ∃ i15 : Int, r16 = .int .i64 i15 ∧ IntKind.i64 = IntKind.i64 ∧ (bcase (decide ((i15 : Int) > 0)) (
 ((0 : Int) ≤ x17 ∧ x17 < ((x1n : Nat) : Int)) ∧ nilO x1 fun a18 =>
 ∃ i19 : Int, m17.cell (a18.add ((x17 : Int).toNat * 1)) = some (.int .i64 i19) ∧ 
 IntKind.i64 = IntKind.i64 ∧ (bcase (decide ((i19 : Int) < 0)) (
 (decide ((i19 : Int) < 0)) = true ∧ (bcase (bif decide ((i15 : Int) > 0) then true else false) (
 RetP R (.bool false) m17) (
 IntKind.i64 = IntKind.i64 ∧ (.slice x0 x0n x0c : Value) = .slice x0 x0n x0c ∧ (.slice x1 x1n x1c : Value) = .slice x1 x1n x1c ∧ (.int .i64 x2 : Value) = .int .i64 x2 ∧ (.int .i64 x3 : Value) = .int .i64 x3 ∧ (.int .i64 x16 : Value) = .int .i64 x16 ∧ true = true ∧ ∃ n' : Nat, n' < n0 ∧ I0 n' (IntKind.wrap .i64 (x17 + 1)) m17))) (
 ((0 : Int) ≤ x17 ∧ x17 < ((x1n : Nat) : Int)) ∧ nilO x1 fun a20 =>
 ∃ i21 : Int, m17.cell (a20.add ((x17 : Int).toNat * 1)) = some (.int .i64 i21) ∧ 
 IntKind.i64 = IntKind.i64 ∧ IntKind.i64 = IntKind.i64 ∧ (bcase (bif decide ((i15 : Int) > 0) then bif decide ((i19 : Int) < 0) then true else decide (((IntKind.wrap .i64 (i21 + i15)) : Int) > x3) else false) (
 RetP R (.bool false) m17) (
 IntKind.i64 = IntKind.i64 ∧ (.slice x0 x0n x0c : Value) = .slice x0 x0n x0c ∧ (.slice x1 x1n x1c : Value) = .slice x1 x1n x1c ∧ (.int .i64 x2 : Value) = .int .i64 x2 ∧ (.int .i64 x3 : Value) = .int .i64 x3 ∧ (.int .i64 x16 : Value) = .int .i64 x16 ∧ true = true ∧ ∃ n' : Nat, n' < n0 ∧ I0 n' (IntKind.wrap .i64 (x17 + 1)) m17))))) (
 (decide ((i15 : Int) > 0)) = false ∧ IntKind.i64 = IntKind.i64 ∧ (.slice x0 x0n x0c : Value) = .slice x0 x0n x0c ∧ (.slice x1 x1n x1c : Value) = .slice x1 x1n x1c ∧ (.int .i64 x2 : Value) = .int .i64 x2 ∧ (.int .i64 x3 : Value) = .int .i64 x3 ∧ (.int .i64 x16 : Value) = .int .i64 x16 ∧ true = true ∧ ∃ n' : Nat, n' < n0 ∧ I0 n' (IntKind.wrap .i64 (x17 + 1)) m17))) (
 (.slice x0 x0n x0c : Value) = .slice x0 x0n x0c ∧ (.slice x1 x1n x1c : Value) = .slice x1 x1n x1c ∧ (.int .i64 x2 : Value) = .int .i64 x2 ∧ (.int .i64 x3 : Value) = .int .i64 x3 ∧ (.int .i64 x16 : Value) = .int .i64 x16 ∧ E0_0  m))))
 (h_e0 : ∀ (σ : Sg)  (m : AM), E0_0  m → (
 RetP R (.bool true) m)) :
 vcS Try.prog w0 qs61 (sub c61 [1, 1, 0, 1, 0]) σ m (blockS 0 (thenS (fun σ m => vcS Try.prog w0 qs61 (sub c61 [1, 1, 1]) σ m (retQ Try.prog Try.f61 R)) (retQ Try.prog Try.f61 R))) := by
  rw [show sub c61 [1, 1, 0, 1, 0] = .loop (sub c61 [1, 1, 0, 1, 0, 0]) from by kernel_rfl]
  refine loopQ (fun n0 σ m => σ 0 = .slice x0 x0n x0c ∧ σ 1 = .slice x1 x1n x1c ∧ σ 2 = .int .i64 x2 ∧ σ 3 = .int .i64 x3 ∧ σ 16 = .int .i64 x16 ∧ okI .i64 (σ 17) = true ∧ I0 n0 (vI (σ 17)) m) N (fun n0 => (lq61_11010 R x0 x0n x0c x1 x1n x1c x2 x3 x16 I0 E0_0 n0)) ⟨h0, h1, h2, h3, h16, (by rw [h17]; rfl), (by rw [h17]; exact h_0)⟩ ?_ ?_ ?_
  · rintro n0 σ m ⟨kk0, kk1, kk2, kk3, kk4, kk5, n', hlt, hI⟩; exact ⟨n', hlt, kk0, kk1, kk2, kk3, kk4, kk5, hI⟩
  · intro n0 e σ m hne h
    cases e with
    | normal => exact absurd rfl hne
    | ret => exact h
    | exit id =>
      by_cases e0 : id = 0
      · subst e0
        obtain ⟨kk0, kk1, kk2, kk3, kk4, hE⟩ := h
        have es : (upd (upd (upd (upd (upd σ 0 (.slice x0 x0n x0c)) 1 (.slice x1 x1n x1c)) 2 (.int .i64 x2)) 3 (.int .i64 x3)) 16 (.int .i64 x16)) = σ := by rw [upd_id kk0, upd_id kk1, upd_id kk2, upd_id kk3, upd_id kk4]
        exact cast (congrArg (fun s => (blockS 0 (thenS (fun σ m => vcS Try.prog w0 qs61 (sub c61 [1, 1, 1]) σ m (retQ Try.prog Try.f61 R)) (retQ Try.prog Try.f61 R))) (.exit 0) s m) es) (cast (by kernel_rfl) (h_e0 σ  m hE))
      · replace h := (if_neg e0 : (if id = 0 then _ else _) = _).mp h
        exact False.elim h
    | _ => exact False.elim h
  · rintro n0 σ m ⟨kk0, kk1, kk2, kk3, kk4, kk5, hI⟩
    have es : (upd (upd (upd (upd (upd (upd σ 0 (.slice x0 x0n x0c)) 1 (.slice x1 x1n x1c)) 2 (.int .i64 x2)) 3 (.int .i64 x3)) 16 (.int .i64 x16)) 17 (.int .i64 (vI (σ 17)))) = σ := by rw [upd_id kk0, upd_id kk1, upd_id kk2, upd_id kk3, upd_id kk4, upd_id (ok_int kk5)]
    exact cast (congrArg (fun s => vcS Try.prog w0 qs61 (sub c61 [1, 1, 0, 1, 0, 0]) s m (lq61_11010 R x0 x0n x0c x1 x1n x1c x2 x3 x16 I0 E0_0 n0)) es) (cast (by kernel_rfl) (h_s n0 σ (vI (σ 17)) m hI))

/-! 68 delayslot/sched.clear -/
def qs68 : Nat → List (Nat × Nat) := fun i => match i with | _ => []
noncomputable def c68 : Code := bodyOf Try.f68
theorem cf68 (w0 : World) (m : AM) (x0 : Option Addr) (x0n x0c : Nat) (x1 : Option Addr) (x1n x1c : Nat) (x2_0 : Int) (x2_1 : Int) (x2_2 : Int) (x2_3 : Int) (x2_4 : Int) (x3 : Int) (R : Value → AM → Prop) (h :
 ∀ b1 : Nat, w0.heap.size ≤ b1 → m b1 = none → let m2 := AM.upd m b1 (.cells #[.int .i64 x2_0, .int .i64 x2_1, .int .i64 x2_2, .int .i64 x2_3, .int .i64 x2_4] 24);
 vcS Try.prog w0 qs68 (sub c68 [1, 0, 1, 0]) (upd (upd (upd (upd (upd (argS [.slice x0 x0n x0c, .slice x1 x1n x1c, .agg #[.int .i64 x2_0, .int .i64 x2_1, .int .i64 x2_2, .int .i64 x2_3, .int .i64 x2_4], .int .i64 x3]) 6 (.pointer (some ⟨b1, 0, none⟩))) 8 (.bool false)) 11 (.slice x1 x1n x1c)) 12 (.int .i64 ((x1n : Nat) : Int))) 13 (.int .i64 0)) m2 (blockS 0 (thenS (fun σ m => vcS Try.prog w0 qs68 (sub c68 [1, 1]) σ m (retQ Try.prog Try.f68 R)) (retQ Try.prog Try.f68 R)))) : CallsA Try.prog w0 68 #[.slice x0 x0n x0c, .slice x1 x1n x1c, .agg #[.int .i64 x2_0, .int .i64 x2_1, .int .i64 x2_2, .int .i64 x2_3, .int .i64 x2_4], .int .i64 x3] m R :=
  callsA_of (c := c68) (args := [.slice x0 x0n x0c, .slice x1 x1n x1c, .agg #[.int .i64 x2_0, .int .i64 x2_1, .int .i64 x2_2, .int .i64 x2_3, .int .i64 x2_4], .int .i64 x3]) (by kernel_rfl) Try.func68 (by kernel_rfl) qs68 (by kernel_rfl) (by kernel_rfl) (cast (by kernel_rfl) h)
def lq68_1010 (R : Value → AM → Prop) (x0 : Option Addr) (x0n x0c : Nat) (x3 : Int) (x6 : Nat) (x11 : Option Addr) (x11n x11c : Nat) (x12 : Int) (I0 : Nat → Int → AM → Prop) (E0_0 : AM → Prop) (n0 : Nat) : Exit → Sg → AM → Prop
  | .normal, σ, m => σ 0 = .slice x0 x0n x0c ∧ σ 3 = .int .i64 x3 ∧ σ 6 = .pointer (some ⟨x6, 0, none⟩) ∧ σ 11 = .slice x11 x11n x11c ∧ σ 12 = .int .i64 x12 ∧ okI .i64 (σ 13) = true ∧ ∃ n' : Nat, n' < n0 ∧ I0 n' (vI (σ 13)) m
  | .exit id, σ, m => if id = 0 then σ 0 = .slice x0 x0n x0c ∧ σ 3 = .int .i64 x3 ∧ σ 6 = .pointer (some ⟨x6, 0, none⟩) ∧ σ 11 = .slice x11 x11n x11c ∧ σ 12 = .int .i64 x12 ∧ E0_0  m else False
  | .ret, σ, m => retQ Try.prog Try.f68 R .ret σ m
  | _, _, _ => False
theorem vl68_1010 (w0 : World) (m : AM) (σ : Sg) (R : Value → AM → Prop)  (x0 : Option Addr) (x0n x0c : Nat) (x3 : Int) (x6 : Nat) (x11 : Option Addr) (x11n x11c : Nat) (x12 : Int) (x13 : Int) (I0 : Nat → Int → AM → Prop) (E0_0 : AM → Prop) (N : Nat) (h0 : σ 0 = .slice x0 x0n x0c) (h3 : σ 3 = .int .i64 x3) (h6 : σ 6 = .pointer (some ⟨x6, 0, none⟩)) (h11 : σ 11 = .slice x11 x11n x11c) (h12 : σ 12 = .int .i64 x12) (h13 : σ 13 = .int .i64 x13)
 (h_0 : I0 N x13 m)
 (h_s : ∀ (n0 : Nat) (σ : Sg) (x13 : Int) (m : AM), I0 n0 x13 m → (
 IntKind.i64 = IntKind.i64 ∧ (bcase (decide ((x13 : Int) < x12)) (
 ((0 : Int) ≤ x13 ∧ x13 < ((x11n : Nat) : Int)) ∧ nilO x11 fun a3 =>
 ∃ i4 : Int, m.cell (a3.add ((x13 : Int).toNat * 1)) = some (.int .i64 i4) ∧ 
 IntKind.i64 = IntKind.i64 ∧ (bcase (decide ((i4 : Int) ≥ 0)) (
 ((0 : Int) ≤ i4 ∧ i4 < ((x0n : Nat) : Int)) ∧ nilO x0 fun a5 =>
 ∃ i6 : Int, m.cell (a5.add ((i4 : Int).toNat * 5)) = some (.int .i64 i6) ∧ ∃ i7 : Int, m.cell ((a5.add ((i4 : Int).toNat * 5)).add 1) = some (.int .i64 i7) ∧ ∃ i8 : Int, m.cell ((a5.add ((i4 : Int).toNat * 5)).add 2) = some (.int .i64 i8) ∧ ∃ i9 : Int, m.cell ((a5.add ((i4 : Int).toNat * 5)).add 3) = some (.int .i64 i9) ∧ ∃ i10 : Int, m.cell ((a5.add ((i4 : Int).toNat * 5)).add 4) = some (.int .i64 i10) ∧ 
 ∃ i11 : Int, m.cell ⟨x6, 0, none⟩ = some (.int .i64 i11) ∧ ∃ i12 : Int, m.cell ⟨x6, 1, none⟩ = some (.int .i64 i12) ∧ ∃ i13 : Int, m.cell ⟨x6, 2, none⟩ = some (.int .i64 i13) ∧ ∃ i14 : Int, m.cell ⟨x6, 3, none⟩ = some (.int .i64 i14) ∧ ∃ i15 : Int, m.cell ⟨x6, 4, none⟩ = some (.int .i64 i15) ∧ 
 CallsA Try.prog w0 67 #[.agg #[.int .i64 i6, .int .i64 i7, .int .i64 i8, .int .i64 i9, .int .i64 i10], .agg #[.int .i64 i11, .int .i64 i12, .int .i64 i13, .int .i64 i14, .int .i64 i15]] m fun r17 m18 =>
 ∃ i16 : Int, r17 = .int .i64 i16 ∧ IntKind.i64 = IntKind.i64 ∧ IntKind.i64 = IntKind.i64 ∧ (bcase (bif decide ((i4 : Int) ≥ 0) then decide (((IntKind.wrap .i64 (x13 + i16)) : Int) > x3) else false) (
 RetP R (.bool false) m18) (
 IntKind.i64 = IntKind.i64 ∧ (.slice x0 x0n x0c : Value) = .slice x0 x0n x0c ∧ (.int .i64 x3 : Value) = .int .i64 x3 ∧ (.pointer (some ⟨x6, 0, none⟩) : Value) = .pointer (some ⟨x6, 0, none⟩) ∧ (.slice x11 x11n x11c : Value) = .slice x11 x11n x11c ∧ (.int .i64 x12 : Value) = .int .i64 x12 ∧ true = true ∧ ∃ n' : Nat, n' < n0 ∧ I0 n' (IntKind.wrap .i64 (x13 + 1)) m18))) (
 (decide ((i4 : Int) ≥ 0)) = false ∧ IntKind.i64 = IntKind.i64 ∧ (.slice x0 x0n x0c : Value) = .slice x0 x0n x0c ∧ (.int .i64 x3 : Value) = .int .i64 x3 ∧ (.pointer (some ⟨x6, 0, none⟩) : Value) = .pointer (some ⟨x6, 0, none⟩) ∧ (.slice x11 x11n x11c : Value) = .slice x11 x11n x11c ∧ (.int .i64 x12 : Value) = .int .i64 x12 ∧ true = true ∧ ∃ n' : Nat, n' < n0 ∧ I0 n' (IntKind.wrap .i64 (x13 + 1)) m))) (
 (.slice x0 x0n x0c : Value) = .slice x0 x0n x0c ∧ (.int .i64 x3 : Value) = .int .i64 x3 ∧ (.pointer (some ⟨x6, 0, none⟩) : Value) = .pointer (some ⟨x6, 0, none⟩) ∧ (.slice x11 x11n x11c : Value) = .slice x11 x11n x11c ∧ (.int .i64 x12 : Value) = .int .i64 x12 ∧ E0_0  m))))
 (h_e0 : ∀ (σ : Sg)  (m : AM), E0_0  m → (
 RetP R (.bool true) m)) :
 vcS Try.prog w0 qs68 (sub c68 [1, 0, 1, 0]) σ m (blockS 0 (thenS (fun σ m => vcS Try.prog w0 qs68 (sub c68 [1, 1]) σ m (retQ Try.prog Try.f68 R)) (retQ Try.prog Try.f68 R))) := by
  rw [show sub c68 [1, 0, 1, 0] = .loop (sub c68 [1, 0, 1, 0, 0]) from by kernel_rfl]
  refine loopQ (fun n0 σ m => σ 0 = .slice x0 x0n x0c ∧ σ 3 = .int .i64 x3 ∧ σ 6 = .pointer (some ⟨x6, 0, none⟩) ∧ σ 11 = .slice x11 x11n x11c ∧ σ 12 = .int .i64 x12 ∧ okI .i64 (σ 13) = true ∧ I0 n0 (vI (σ 13)) m) N (fun n0 => (lq68_1010 R x0 x0n x0c x3 x6 x11 x11n x11c x12 I0 E0_0 n0)) ⟨h0, h3, h6, h11, h12, (by rw [h13]; rfl), (by rw [h13]; exact h_0)⟩ ?_ ?_ ?_
  · rintro n0 σ m ⟨kk0, kk1, kk2, kk3, kk4, kk5, n', hlt, hI⟩; exact ⟨n', hlt, kk0, kk1, kk2, kk3, kk4, kk5, hI⟩
  · intro n0 e σ m hne h
    cases e with
    | normal => exact absurd rfl hne
    | ret => exact h
    | exit id =>
      by_cases e0 : id = 0
      · subst e0
        obtain ⟨kk0, kk1, kk2, kk3, kk4, hE⟩ := h
        have es : (upd (upd (upd (upd (upd σ 0 (.slice x0 x0n x0c)) 3 (.int .i64 x3)) 6 (.pointer (some ⟨x6, 0, none⟩))) 11 (.slice x11 x11n x11c)) 12 (.int .i64 x12)) = σ := by rw [upd_id kk0, upd_id kk1, upd_id kk2, upd_id kk3, upd_id kk4]
        exact cast (congrArg (fun s => (blockS 0 (thenS (fun σ m => vcS Try.prog w0 qs68 (sub c68 [1, 1]) σ m (retQ Try.prog Try.f68 R)) (retQ Try.prog Try.f68 R))) (.exit 0) s m) es) (cast (by kernel_rfl) (h_e0 σ  m hE))
      · replace h := (if_neg e0 : (if id = 0 then _ else _) = _).mp h
        exact False.elim h
    | _ => exact False.elim h
  · rintro n0 σ m ⟨kk0, kk1, kk2, kk3, kk4, kk5, hI⟩
    have es : (upd (upd (upd (upd (upd (upd σ 0 (.slice x0 x0n x0c)) 3 (.int .i64 x3)) 6 (.pointer (some ⟨x6, 0, none⟩))) 11 (.slice x11 x11n x11c)) 12 (.int .i64 x12)) 13 (.int .i64 (vI (σ 13)))) = σ := by rw [upd_id kk0, upd_id kk1, upd_id kk2, upd_id kk3, upd_id kk4, upd_id (ok_int kk5)]
    exact cast (congrArg (fun s => vcS Try.prog w0 qs68 (sub c68 [1, 0, 1, 0, 0]) s m (lq68_1010 R x0 x0n x0c x3 x6 x11 x11n x11c x12 I0 E0_0 n0)) es) (cast (by kernel_rfl) (h_s n0 σ (vI (σ 13)) m hI))

/-! 36 delayslot/sched.Pick -/
def qs36 : Nat → List (Nat × Nat) := fun i => match i with | _ => []
noncomputable def c36 : Code := bodyOf Try.f36
theorem cf36 (w0 : World) (m : AM) (x0 : Option Addr) (x0n x0c : Nat) (x1 : Option Addr) (x1n x1c : Nat) (R : Value → AM → Prop) (h :
 vcS Try.prog w0 qs36 (sub c36 [1, 1, 0, 1, 0]) (upd (upd (upd (upd (upd (argS [.slice x0 x0n x0c, .slice x1 x1n x1c]) 4 (.slice none 0 0)) 5 (.slice none 0 0)) 9 (.slice x1 x1n x1c)) 10 (.int .i64 ((x1n : Nat) : Int))) 11 (.int .i64 0)) m (blockS 0 (thenS (fun σ m => vcS Try.prog w0 qs36 (sub c36 [1, 1, 1]) σ m (retQ Try.prog Try.f36 R)) (retQ Try.prog Try.f36 R)))) : CallsA Try.prog w0 36 #[.slice x0 x0n x0c, .slice x1 x1n x1c] m R :=
  callsA_of (c := c36) (args := [.slice x0 x0n x0c, .slice x1 x1n x1c]) (by kernel_rfl) Try.func36 (by kernel_rfl) qs36 (by kernel_rfl) (by kernel_rfl) (cast (by kernel_rfl) h)
def lq36_11010 (R : Value → AM → Prop) (x0 : Option Addr) (x0n x0c : Nat) (x9 : Option Addr) (x9n x9c : Nat) (x10 : Int) (I0 : Nat → Option Addr → Nat → Nat → Int → AM → Prop) (E0_0 : Option Addr → Nat → Nat → AM → Prop) (n0 : Nat) : Exit → Sg → AM → Prop
  | .normal, σ, m => σ 0 = .slice x0 x0n x0c ∧ σ 9 = .slice x9 x9n x9c ∧ σ 10 = .int .i64 x10 ∧ okS (σ 5) = true ∧ okI .i64 (σ 11) = true ∧ ∃ n' : Nat, n' < n0 ∧ I0 n' (vSA (σ 5)) (vSN (σ 5)) (vSC (σ 5)) (vI (σ 11)) m
  | .exit id, σ, m => if id = 0 then σ 0 = .slice x0 x0n x0c ∧ σ 9 = .slice x9 x9n x9c ∧ σ 10 = .int .i64 x10 ∧ okS (σ 5) = true ∧ E0_0 (vSA (σ 5)) (vSN (σ 5)) (vSC (σ 5)) m else False
  | .ret, σ, m => retQ Try.prog Try.f36 R .ret σ m
  | _, _, _ => False
theorem vl36_11010 (w0 : World) (m : AM) (σ : Sg) (R : Value → AM → Prop)  (x0 : Option Addr) (x0n x0c : Nat) (x9 : Option Addr) (x9n x9c : Nat) (x10 : Int) (x5 : Option Addr) (x5n x5c : Nat) (x11 : Int) (I0 : Nat → Option Addr → Nat → Nat → Int → AM → Prop) (E0_0 : Option Addr → Nat → Nat → AM → Prop) (N : Nat) (h0 : σ 0 = .slice x0 x0n x0c) (h5 : σ 5 = .slice x5 x5n x5c) (h9 : σ 9 = .slice x9 x9n x9c) (h10 : σ 10 = .int .i64 x10) (h11 : σ 11 = .int .i64 x11)
 (h_0 : I0 N x5 x5n x5c x11 m)
 (h_s : ∀ (n0 : Nat) (σ : Sg) (x5 : Option Addr) (x5n : Nat) (x5c : Nat) (x11 : Int) (m : AM), I0 n0 x5 x5n x5c x11 m → (
 IntKind.i64 = IntKind.i64 ∧ (bcase (decide ((x11 : Int) < x10)) (
 ((0 : Int) ≤ x11 ∧ x11 < ((x9n : Nat) : Int)) ∧ nilO x9 fun a1 =>
 ∃ i2 : Int, m.cell (a1.add ((x11 : Int).toNat * 1)) = some (.int .i64 i2) ∧ 
 true = true ∧ ∀ b3 : Nat, w0.heap.size ≤ b3 → m b3 = none → let m4 := AM.upd m b3 (.cells #[.int .i64 0, .int .i64 0, .int .i64 0, .int .i64 0, .int .i64 0] 24);
 StC w0.heap.size m4 ⟨b3, 0, none⟩ (.int .i64 0) fun m5 =>
 StC w0.heap.size m5 ⟨b3, 1, none⟩ (.int .i64 0) fun m6 =>
 StC w0.heap.size m6 ⟨b3, 2, none⟩ (.int .i64 0) fun m7 =>
 StC w0.heap.size m7 ⟨b3, 3, none⟩ (.int .i64 0) fun m8 =>
 StC w0.heap.size m8 ⟨b3, 4, none⟩ (.int .i64 0) fun m9 =>
 IntKind.i64 = IntKind.i64 ∧ (bcase (decide ((i2 : Int) ≥ 0)) (
 IntKind.i64 = IntKind.i64 ∧ (bcase (bif decide ((i2 : Int) ≥ 0) then decide ((i2 : Int) < ((x0n : Nat) : Int)) else false) (
 ((0 : Int) ≤ i2 ∧ i2 < ((x0n : Nat) : Int)) ∧ nilO x0 fun a10 =>
 ∃ i11 : Int, m9.cell (a10.add ((i2 : Int).toNat * 5)) = some (.int .i64 i11) ∧ ∃ i12 : Int, m9.cell ((a10.add ((i2 : Int).toNat * 5)).add 1) = some (.int .i64 i12) ∧ ∃ i13 : Int, m9.cell ((a10.add ((i2 : Int).toNat * 5)).add 2) = some (.int .i64 i13) ∧ ∃ i14 : Int, m9.cell ((a10.add ((i2 : Int).toNat * 5)).add 3) = some (.int .i64 i14) ∧ ∃ i15 : Int, m9.cell ((a10.add ((i2 : Int).toNat * 5)).add 4) = some (.int .i64 i15) ∧ 
 StC w0.heap.size m9 ⟨b3, 0, none⟩ (.int .i64 i11) fun m16 =>
 StC w0.heap.size m16 ⟨b3, 1, none⟩ (.int .i64 i12) fun m17 =>
 StC w0.heap.size m17 ⟨b3, 2, none⟩ (.int .i64 i13) fun m18 =>
 StC w0.heap.size m18 ⟨b3, 3, none⟩ (.int .i64 i14) fun m19 =>
 StC w0.heap.size m19 ⟨b3, 4, none⟩ (.int .i64 i15) fun m20 =>
 ∃ i21 : Int, m20.cell ⟨b3, 0, none⟩ = some (.int .i64 i21) ∧ ∃ i22 : Int, m20.cell ⟨b3, 1, none⟩ = some (.int .i64 i22) ∧ ∃ i23 : Int, m20.cell ⟨b3, 2, none⟩ = some (.int .i64 i23) ∧ ∃ i24 : Int, m20.cell ⟨b3, 3, none⟩ = some (.int .i64 i24) ∧ ∃ i25 : Int, m20.cell ⟨b3, 4, none⟩ = some (.int .i64 i25) ∧ 
 true = true ∧ ∀ b26 : Nat, w0.heap.size ≤ b26 → m20 b26 = none → let m27 := AM.upd m20 b26 (.cells #[.int .i64 i21, .int .i64 i22, .int .i64 i23, .int .i64 i24, .int .i64 i25] 24);
 awp Try.prog w0.heap.size (Builtin.append_ #[22, 22] 22 #[.slice x5 x5n x5c, .slice (some ⟨b26, 0, none⟩) 1 1]) m27 fun v28 m29 =>
 ∃ (A30 : Option Addr) (n31 c32 : Nat), v28 = .slice A30 n31 c32 ∧ IntKind.i64 = IntKind.i64 ∧ (.slice x0 x0n x0c : Value) = .slice x0 x0n x0c ∧ (.slice x9 x9n x9c : Value) = .slice x9 x9n x9c ∧ (.int .i64 x10 : Value) = .int .i64 x10 ∧ true = true ∧ true = true ∧ ∃ n' : Nat, n' < n0 ∧ I0 n' A30 n31 c32 (IntKind.wrap .i64 (x11 + 1)) m29) (
 ∃ i33 : Int, m9.cell ⟨b3, 0, none⟩ = some (.int .i64 i33) ∧ ∃ i34 : Int, m9.cell ⟨b3, 1, none⟩ = some (.int .i64 i34) ∧ ∃ i35 : Int, m9.cell ⟨b3, 2, none⟩ = some (.int .i64 i35) ∧ ∃ i36 : Int, m9.cell ⟨b3, 3, none⟩ = some (.int .i64 i36) ∧ ∃ i37 : Int, m9.cell ⟨b3, 4, none⟩ = some (.int .i64 i37) ∧ 
 true = true ∧ ∀ b38 : Nat, w0.heap.size ≤ b38 → m9 b38 = none → let m39 := AM.upd m9 b38 (.cells #[.int .i64 i33, .int .i64 i34, .int .i64 i35, .int .i64 i36, .int .i64 i37] 24);
 awp Try.prog w0.heap.size (Builtin.append_ #[22, 22] 22 #[.slice x5 x5n x5c, .slice (some ⟨b38, 0, none⟩) 1 1]) m39 fun v40 m41 =>
 ∃ (A42 : Option Addr) (n43 c44 : Nat), v40 = .slice A42 n43 c44 ∧ IntKind.i64 = IntKind.i64 ∧ (.slice x0 x0n x0c : Value) = .slice x0 x0n x0c ∧ (.slice x9 x9n x9c : Value) = .slice x9 x9n x9c ∧ (.int .i64 x10 : Value) = .int .i64 x10 ∧ true = true ∧ true = true ∧ ∃ n' : Nat, n' < n0 ∧ I0 n' A42 n43 c44 (IntKind.wrap .i64 (x11 + 1)) m41))) (
 (decide ((i2 : Int) ≥ 0)) = false ∧ ∃ i45 : Int, m9.cell ⟨b3, 0, none⟩ = some (.int .i64 i45) ∧ ∃ i46 : Int, m9.cell ⟨b3, 1, none⟩ = some (.int .i64 i46) ∧ ∃ i47 : Int, m9.cell ⟨b3, 2, none⟩ = some (.int .i64 i47) ∧ ∃ i48 : Int, m9.cell ⟨b3, 3, none⟩ = some (.int .i64 i48) ∧ ∃ i49 : Int, m9.cell ⟨b3, 4, none⟩ = some (.int .i64 i49) ∧ 
 true = true ∧ ∀ b50 : Nat, w0.heap.size ≤ b50 → m9 b50 = none → let m51 := AM.upd m9 b50 (.cells #[.int .i64 i45, .int .i64 i46, .int .i64 i47, .int .i64 i48, .int .i64 i49] 24);
 awp Try.prog w0.heap.size (Builtin.append_ #[22, 22] 22 #[.slice x5 x5n x5c, .slice (some ⟨b50, 0, none⟩) 1 1]) m51 fun v52 m53 =>
 ∃ (A54 : Option Addr) (n55 c56 : Nat), v52 = .slice A54 n55 c56 ∧ IntKind.i64 = IntKind.i64 ∧ (.slice x0 x0n x0c : Value) = .slice x0 x0n x0c ∧ (.slice x9 x9n x9c : Value) = .slice x9 x9n x9c ∧ (.int .i64 x10 : Value) = .int .i64 x10 ∧ true = true ∧ true = true ∧ ∃ n' : Nat, n' < n0 ∧ I0 n' A54 n55 c56 (IntKind.wrap .i64 (x11 + 1)) m53))) (
 (.slice x0 x0n x0c : Value) = .slice x0 x0n x0c ∧ (.slice x9 x9n x9c : Value) = .slice x9 x9n x9c ∧ (.int .i64 x10 : Value) = .int .i64 x10 ∧ true = true ∧ E0_0 x5 x5n x5c m))))
 (h_e0 : ∀ (σ : Sg) (x5 : Option Addr) (x5n : Nat) (x5c : Nat) (m : AM), E0_0 x5 x5n x5c m → (
 RetP R (.slice x5 x5n x5c) m)) :
 vcS Try.prog w0 qs36 (sub c36 [1, 1, 0, 1, 0]) σ m (blockS 0 (thenS (fun σ m => vcS Try.prog w0 qs36 (sub c36 [1, 1, 1]) σ m (retQ Try.prog Try.f36 R)) (retQ Try.prog Try.f36 R))) := by
  rw [show sub c36 [1, 1, 0, 1, 0] = .loop (sub c36 [1, 1, 0, 1, 0, 0]) from by kernel_rfl]
  refine loopQ (fun n0 σ m => σ 0 = .slice x0 x0n x0c ∧ σ 9 = .slice x9 x9n x9c ∧ σ 10 = .int .i64 x10 ∧ okS (σ 5) = true ∧ okI .i64 (σ 11) = true ∧ I0 n0 (vSA (σ 5)) (vSN (σ 5)) (vSC (σ 5)) (vI (σ 11)) m) N (fun n0 => (lq36_11010 R x0 x0n x0c x9 x9n x9c x10 I0 E0_0 n0)) ⟨h0, h9, h10, (by rw [h5]; rfl), (by rw [h11]; rfl), (by rw [h5, h11]; exact h_0)⟩ ?_ ?_ ?_
  · rintro n0 σ m ⟨kk0, kk1, kk2, kk3, kk4, n', hlt, hI⟩; exact ⟨n', hlt, kk0, kk1, kk2, kk3, kk4, hI⟩
  · intro n0 e σ m hne h
    cases e with
    | normal => exact absurd rfl hne
    | ret => exact h
    | exit id =>
      by_cases e0 : id = 0
      · subst e0
        obtain ⟨kk0, kk1, kk2, kk3, hE⟩ := h
        have es : (upd (upd (upd (upd σ 0 (.slice x0 x0n x0c)) 9 (.slice x9 x9n x9c)) 10 (.int .i64 x10)) 5 (.slice (vSA (σ 5)) (vSN (σ 5)) (vSC (σ 5)))) = σ := by rw [upd_id kk0, upd_id kk1, upd_id kk2, upd_id (ok_slice kk3)]
        exact cast (congrArg (fun s => (blockS 0 (thenS (fun σ m => vcS Try.prog w0 qs36 (sub c36 [1, 1, 1]) σ m (retQ Try.prog Try.f36 R)) (retQ Try.prog Try.f36 R))) (.exit 0) s m) es) (cast (by kernel_rfl) (h_e0 σ (vSA (σ 5)) (vSN (σ 5)) (vSC (σ 5)) m hE))
      · replace h := (if_neg e0 : (if id = 0 then _ else _) = _).mp h
        exact False.elim h
    | _ => exact False.elim h
  · rintro n0 σ m ⟨kk0, kk1, kk2, kk3, kk4, hI⟩
    have es : (upd (upd (upd (upd (upd σ 0 (.slice x0 x0n x0c)) 5 (.slice (vSA (σ 5)) (vSN (σ 5)) (vSC (σ 5)))) 9 (.slice x9 x9n x9c)) 10 (.int .i64 x10)) 11 (.int .i64 (vI (σ 11)))) = σ := by rw [upd_id kk0, upd_id (ok_slice kk3), upd_id kk1, upd_id kk2, upd_id (ok_int kk4)]
    exact cast (congrArg (fun s => vcS Try.prog w0 qs36 (sub c36 [1, 1, 0, 1, 0, 0]) s m (lq36_11010 R x0 x0n x0c x9 x9n x9c x10 I0 E0_0 n0)) es) (cast (by kernel_rfl) (h_s n0 σ (vSA (σ 5)) (vSN (σ 5)) (vSC (σ 5)) (vI (σ 11)) m hI))

/-! 63 delayslot/sched.Order$1 -/
def qs63 : Nat → List (Nat × Nat) := fun i => match i with | _ => []
noncomputable def c63 : Code := bodyOf Try.f63
theorem cf63 (w0 : World) (m : AM) (x0 : Int) (x1 : Int) (pc : Nat) (R : Value → AM → Prop) (h :
 ∃ (A1 : Option Addr) (n2 c3 : Nat), m.cell ⟨pc, 0, none⟩ = some (.slice A1 n2 c3) ∧ 
 ((0 : Int) ≤ x0 ∧ x0 < ((n2 : Nat) : Int)) ∧ nilO A1 fun a4 =>
 ∃ i5 : Int, m.cell (a4.add ((x0 : Int).toNat * 1)) = some (.int .i64 i5) ∧ 
 ∃ (A6 : Option Addr) (n7 c8 : Nat), m.cell ⟨pc, 0, none⟩ = some (.slice A6 n7 c8) ∧ 
 ((0 : Int) ≤ x1 ∧ x1 < ((n7 : Nat) : Int)) ∧ nilO A6 fun a9 =>
 ∃ i10 : Int, m.cell (a9.add ((x1 : Int).toNat * 1)) = some (.int .i64 i10) ∧ 
 IntKind.i64 = IntKind.i64 ∧ RetP R (.bool (decide ((i5 : Int) > i10))) m) : CallsA Try.prog w0 63 #[.int .i64 x0, .int .i64 x1, .pointer (some ⟨pc, 0, none⟩)] m R :=
  callsA_of (c := c63) (args := [.int .i64 x0, .int .i64 x1, .pointer (some ⟨pc, 0, none⟩)]) (by kernel_rfl) Try.func63 (by kernel_rfl) qs63 (by kernel_rfl) (by kernel_rfl) (cast (by kernel_rfl) h)

/-! 34 delayslot/sched.Order -/
def qs34 : Nat → List (Nat × Nat) := fun i => match i with | _ => []
noncomputable def c34 : Code := bodyOf Try.f34
theorem cf34 (w0 : World) (m : AM) (x0 : Option Addr) (x0n x0c : Nat) (R : Value → AM → Prop) (h :
 CallsA Try.prog w0 59 #[.slice x0 x0n x0c] m fun r4 m5 =>
 ∃ (A1 : Option Addr) (n2 c3 : Nat), r4 = .slice A1 n2 c3 ∧ ∀ b6 : Nat, w0.heap.size ≤ b6 → m5 b6 = none → let m7 := AM.upd m5 b6 (.cells #[.slice none 0 0] 30);
 StC w0.heap.size m7 ⟨b6, 0, none⟩ (.slice A1 n2 c3) fun m8 =>
 true = true ∧ ∀ b9 : Nat, w0.heap.size ≤ b9 → m8 b9 = none → let m10 := AM.upd m8 b9 (.cells #[.int .i64 (-1)] 3);
 CallsA Try.prog w0 60 #[.slice (some ⟨b9, 0, none⟩) 1 1, .int .i64 ((x0n : Nat) : Int)] m10 fun r14 m15 =>
 ∃ (A11 : Option Addr) (n12 c13 : Nat), r14 = .slice A11 n12 c13 ∧ vcS Try.prog w0 qs34 (sub c34 [1, 1, 1, 1, 0, 1, 0]) (upd (upd (upd (upd (upd (upd (upd (upd (upd (upd (upd (upd (upd (argS [.slice x0 x0n x0c]) 2 (.slice none 0 0)) 11 (.slice x0 x0n x0c)) 12 (.slice A1 n2 c3)) 3 (.pointer (some ⟨b6, 0, none⟩))) 13 (.slice (some ⟨b9, 0, none⟩) 1 1)) 14 (.slice x0 x0n x0c)) 15 (.int .i64 ((x0n : Nat) : Int))) 16 (.slice A11 n12 c13)) 4 (.slice A11 n12 c13)) 5 (.slice none 0 0)) 17 (.slice x0 x0n x0c)) 18 (.int .i64 ((x0n : Nat) : Int))) 6 (.int .i64 ((x0n : Nat) : Int))) m15 (blockS 0 (thenS (fun σ m => vcS Try.prog w0 qs34 (sub c34 [1, 1, 1, 1, 1]) σ m (retQ Try.prog Try.f34 R)) (retQ Try.prog Try.f34 R)))) : CallsA Try.prog w0 34 #[.slice x0 x0n x0c] m R :=
  callsA_of (c := c34) (args := [.slice x0 x0n x0c]) (by kernel_rfl) Try.func34 (by kernel_rfl) qs34 (by kernel_rfl) (by kernel_rfl) (cast (by kernel_rfl) h)
def lq34_1111010 (R : Value → AM → Prop) (x0 : Option Addr) (x0n x0c : Nat) (x3 : Nat) (x4 : Option Addr) (x4n x4c : Nat) (I0 : Nat → Option Addr → Nat → Nat → Int → AM → Prop) (E0_0 : Option Addr → Nat → Nat → AM → Prop) (n0 : Nat) : Exit → Sg → AM → Prop
  | .normal, σ, m => σ 0 = .slice x0 x0n x0c ∧ σ 3 = .pointer (some ⟨x3, 0, none⟩) ∧ σ 4 = .slice x4 x4n x4c ∧ okS (σ 5) = true ∧ okI .i64 (σ 6) = true ∧ ∃ n' : Nat, n' < n0 ∧ I0 n' (vSA (σ 5)) (vSN (σ 5)) (vSC (σ 5)) (vI (σ 6)) m
  | .exit id, σ, m => if id = 0 then σ 0 = .slice x0 x0n x0c ∧ σ 3 = .pointer (some ⟨x3, 0, none⟩) ∧ σ 4 = .slice x4 x4n x4c ∧ okS (σ 5) = true ∧ E0_0 (vSA (σ 5)) (vSN (σ 5)) (vSC (σ 5)) m else False
  | .ret, σ, m => retQ Try.prog Try.f34 R .ret σ m
  | _, _, _ => False
theorem vl34_1111010 (w0 : World) (m : AM) (σ : Sg) (R : Value → AM → Prop)  (x0 : Option Addr) (x0n x0c : Nat) (x3 : Nat) (x4 : Option Addr) (x4n x4c : Nat) (x5 : Option Addr) (x5n x5c : Nat) (x6 : Int) (I0 : Nat → Option Addr → Nat → Nat → Int → AM → Prop) (E0_0 : Option Addr → Nat → Nat → AM → Prop) (N : Nat) (h0 : σ 0 = .slice x0 x0n x0c) (h3 : σ 3 = .pointer (some ⟨x3, 0, none⟩)) (h4 : σ 4 = .slice x4 x4n x4c) (h5 : σ 5 = .slice x5 x5n x5c) (h6 : σ 6 = .int .i64 x6)
 (h_0 : I0 N x5 x5n x5c x6 m)
 (h_s : ∀ (n0 : Nat) (σ : Sg) (x5 : Option Addr) (x5n : Nat) (x5c : Nat) (x6 : Int) (m : AM), I0 n0 x5 x5n x5c x6 m → (
 IntKind.i64 = IntKind.i64 ∧ (bcase (decide ((x6 : Int) > 0)) (
 ∀ b16 : Nat, w0.heap.size ≤ b16 → m b16 = none → let m17 := AM.upd m b16 (.cells #[.map none, .slice none 0 0] 58);
 vcS Try.prog w0 qs34 (sub c34 [1, 1, 1, 1, 0, 1, 0, 0, 1, 0, 1, 0, 1, 0]) (upd (upd (upd (upd (upd (upd (upd (upd (upd (upd (upd σ 0 (.slice x0 x0n x0c)) 3 (.pointer (some ⟨x3, 0, none⟩))) 4 (.slice x4 x4n x4c)) 5 (.slice x5 x5n x5c)) 6 (.int .i64 x6)) 19 (.int .i64 x6)) 20 (.bool (decide ((x6 : Int) > 0)))) 7 (.pointer (some ⟨b16, 0, none⟩))) 21 (.slice x0 x0n x0c)) 22 (.int .i64 ((x0n : Nat) : Int))) 23 (.int .i64 0)) m17 (blockS 2 (thenS (fun σ m => vcS Try.prog w0 qs34 (sub c34 [1, 1, 1, 1, 0, 1, 0, 0, 1, 0, 1, 1]) σ m (blockS 1 (lq34_1111010 R x0 x0n x0c x3 x4 x4n x4c I0 E0_0 n0))) (blockS 1 (lq34_1111010 R x0 x0n x0c x3 x4 x4n x4c I0 E0_0 n0))))) (
 (.slice x0 x0n x0c : Value) = .slice x0 x0n x0c ∧ (.pointer (some ⟨x3, 0, none⟩) : Value) = .pointer (some ⟨x3, 0, none⟩) ∧ (.slice x4 x4n x4c : Value) = .slice x4 x4n x4c ∧ true = true ∧ E0_0 x5 x5n x5c m))))
 (h_e0 : ∀ (σ : Sg) (x5 : Option Addr) (x5n : Nat) (x5c : Nat) (m : AM), E0_0 x5 x5n x5c m → (
 RetP R (.slice x5 x5n x5c) m)) :
 vcS Try.prog w0 qs34 (sub c34 [1, 1, 1, 1, 0, 1, 0]) σ m (blockS 0 (thenS (fun σ m => vcS Try.prog w0 qs34 (sub c34 [1, 1, 1, 1, 1]) σ m (retQ Try.prog Try.f34 R)) (retQ Try.prog Try.f34 R))) := by
  rw [show sub c34 [1, 1, 1, 1, 0, 1, 0] = .loop (sub c34 [1, 1, 1, 1, 0, 1, 0, 0]) from by kernel_rfl]
  refine loopQ (fun n0 σ m => σ 0 = .slice x0 x0n x0c ∧ σ 3 = .pointer (some ⟨x3, 0, none⟩) ∧ σ 4 = .slice x4 x4n x4c ∧ okS (σ 5) = true ∧ okI .i64 (σ 6) = true ∧ I0 n0 (vSA (σ 5)) (vSN (σ 5)) (vSC (σ 5)) (vI (σ 6)) m) N (fun n0 => (lq34_1111010 R x0 x0n x0c x3 x4 x4n x4c I0 E0_0 n0)) ⟨h0, h3, h4, (by rw [h5]; rfl), (by rw [h6]; rfl), (by rw [h5, h6]; exact h_0)⟩ ?_ ?_ ?_
  · rintro n0 σ m ⟨kk0, kk1, kk2, kk3, kk4, n', hlt, hI⟩; exact ⟨n', hlt, kk0, kk1, kk2, kk3, kk4, hI⟩
  · intro n0 e σ m hne h
    cases e with
    | normal => exact absurd rfl hne
    | ret => exact h
    | exit id =>
      by_cases e0 : id = 0
      · subst e0
        obtain ⟨kk0, kk1, kk2, kk3, hE⟩ := h
        have es : (upd (upd (upd (upd σ 0 (.slice x0 x0n x0c)) 3 (.pointer (some ⟨x3, 0, none⟩))) 4 (.slice x4 x4n x4c)) 5 (.slice (vSA (σ 5)) (vSN (σ 5)) (vSC (σ 5)))) = σ := by rw [upd_id kk0, upd_id kk1, upd_id kk2, upd_id (ok_slice kk3)]
        exact cast (congrArg (fun s => (blockS 0 (thenS (fun σ m => vcS Try.prog w0 qs34 (sub c34 [1, 1, 1, 1, 1]) σ m (retQ Try.prog Try.f34 R)) (retQ Try.prog Try.f34 R))) (.exit 0) s m) es) (cast (by kernel_rfl) (h_e0 σ (vSA (σ 5)) (vSN (σ 5)) (vSC (σ 5)) m hE))
      · replace h := (if_neg e0 : (if id = 0 then _ else _) = _).mp h
        exact False.elim h
    | _ => exact False.elim h
  · rintro n0 σ m ⟨kk0, kk1, kk2, kk3, kk4, hI⟩
    have es : (upd (upd (upd (upd (upd σ 0 (.slice x0 x0n x0c)) 3 (.pointer (some ⟨x3, 0, none⟩))) 4 (.slice x4 x4n x4c)) 5 (.slice (vSA (σ 5)) (vSN (σ 5)) (vSC (σ 5)))) 6 (.int .i64 (vI (σ 6)))) = σ := by rw [upd_id kk0, upd_id kk1, upd_id kk2, upd_id (ok_slice kk3), upd_id (ok_int kk4)]
    exact cast (congrArg (fun s => vcS Try.prog w0 qs34 (sub c34 [1, 1, 1, 1, 0, 1, 0, 0]) s m (lq34_1111010 R x0 x0n x0c x3 x4 x4n x4c I0 E0_0 n0)) es) (cast (by kernel_rfl) (h_s n0 σ (vSA (σ 5)) (vSN (σ 5)) (vSC (σ 5)) (vI (σ 6)) m hI))
def lq34_11110100101010 (R : Value → AM → Prop) (x0 : Option Addr) (x0n x0c : Nat) (x3 : Nat) (x4 : Option Addr) (x4n x4c : Nat) (x5 : Option Addr) (x5n x5c : Nat) (x6 : Int) (x7 : Nat) (x22 : Int) (I1 : Nat → Int → AM → Prop) (E1_2 : AM → Prop) (n1 : Nat) : Exit → Sg → AM → Prop
  | .normal, σ, m => σ 0 = .slice x0 x0n x0c ∧ σ 3 = .pointer (some ⟨x3, 0, none⟩) ∧ σ 4 = .slice x4 x4n x4c ∧ σ 5 = .slice x5 x5n x5c ∧ σ 6 = .int .i64 x6 ∧ σ 7 = .pointer (some ⟨x7, 0, none⟩) ∧ σ 22 = .int .i64 x22 ∧ okI .i64 (σ 23) = true ∧ ∃ n' : Nat, n' < n1 ∧ I1 n' (vI (σ 23)) m
  | .exit id, σ, m => if id = 2 then σ 0 = .slice x0 x0n x0c ∧ σ 3 = .pointer (some ⟨x3, 0, none⟩) ∧ σ 4 = .slice x4 x4n x4c ∧ σ 5 = .slice x5 x5n x5c ∧ σ 6 = .int .i64 x6 ∧ σ 7 = .pointer (some ⟨x7, 0, none⟩) ∧ σ 22 = .int .i64 x22 ∧ E1_2  m else False
  | .ret, σ, m => retQ Try.prog Try.f34 R .ret σ m
  | _, _, _ => False
theorem vl34_11110100101010 (w0 : World) (m : AM) (σ : Sg) (R : Value → AM → Prop) (n0 : Nat) (I0 : Nat → Option Addr → Nat → Nat → Int → AM → Prop) (E0_0 : Option Addr → Nat → Nat → AM → Prop) (x0 : Option Addr) (x0n x0c : Nat) (x3 : Nat) (x4 : Option Addr) (x4n x4c : Nat) (x5 : Option Addr) (x5n x5c : Nat) (x6 : Int) (x7 : Nat) (x22 : Int) (x23 : Int) (I1 : Nat → Int → AM → Prop) (E1_2 : AM → Prop) (N : Nat) (h0 : σ 0 = .slice x0 x0n x0c) (h3 : σ 3 = .pointer (some ⟨x3, 0, none⟩)) (h4 : σ 4 = .slice x4 x4n x4c) (h5 : σ 5 = .slice x5 x5n x5c) (h6 : σ 6 = .int .i64 x6) (h7 : σ 7 = .pointer (some ⟨x7, 0, none⟩)) (h22 : σ 22 = .int .i64 x22) (h23 : σ 23 = .int .i64 x23)
 (h_0 : I1 N x23 m)
 (h_s : ∀ (n1 : Nat) (σ : Sg) (x23 : Int) (m : AM), I1 n1 x23 m → (
 IntKind.i64 = IntKind.i64 ∧ (bcase (decide ((x23 : Int) < x22)) (
 CallsA Try.prog w0 61 #[.slice x0 x0n x0c, .slice x4 x4n x4c, .int .i64 x23, .int .i64 ((x5n : Nat) : Int)] m fun r19 m20 =>
 ∃ t18 : Bool, r19 = .bool t18 ∧ (bcase t18 (
 CallsA Try.prog w0 51 #[.pointer (some ⟨x7, 0, none⟩), .int .i64 x23] m20 fun r22 m23 =>
 ∃ t21 : Bool, r22 = .bool t21 ∧ IntKind.i64 = IntKind.i64 ∧ (.slice x0 x0n x0c : Value) = .slice x0 x0n x0c ∧ (.pointer (some ⟨x3, 0, none⟩) : Value) = .pointer (some ⟨x3, 0, none⟩) ∧ (.slice x4 x4n x4c : Value) = .slice x4 x4n x4c ∧ (.slice x5 x5n x5c : Value) = .slice x5 x5n x5c ∧ (.int .i64 x6 : Value) = .int .i64 x6 ∧ (.pointer (some ⟨x7, 0, none⟩) : Value) = .pointer (some ⟨x7, 0, none⟩) ∧ (.int .i64 x22 : Value) = .int .i64 x22 ∧ true = true ∧ ∃ n' : Nat, n' < n1 ∧ I1 n' (IntKind.wrap .i64 (x23 + 1)) m23) (
 IntKind.i64 = IntKind.i64 ∧ (.slice x0 x0n x0c : Value) = .slice x0 x0n x0c ∧ (.pointer (some ⟨x3, 0, none⟩) : Value) = .pointer (some ⟨x3, 0, none⟩) ∧ (.slice x4 x4n x4c : Value) = .slice x4 x4n x4c ∧ (.slice x5 x5n x5c : Value) = .slice x5 x5n x5c ∧ (.int .i64 x6 : Value) = .int .i64 x6 ∧ (.pointer (some ⟨x7, 0, none⟩) : Value) = .pointer (some ⟨x7, 0, none⟩) ∧ (.int .i64 x22 : Value) = .int .i64 x22 ∧ true = true ∧ ∃ n' : Nat, n' < n1 ∧ I1 n' (IntKind.wrap .i64 (x23 + 1)) m20))) (
 (.slice x0 x0n x0c : Value) = .slice x0 x0n x0c ∧ (.pointer (some ⟨x3, 0, none⟩) : Value) = .pointer (some ⟨x3, 0, none⟩) ∧ (.slice x4 x4n x4c : Value) = .slice x4 x4n x4c ∧ (.slice x5 x5n x5c : Value) = .slice x5 x5n x5c ∧ (.int .i64 x6 : Value) = .int .i64 x6 ∧ (.pointer (some ⟨x7, 0, none⟩) : Value) = .pointer (some ⟨x7, 0, none⟩) ∧ (.int .i64 x22 : Value) = .int .i64 x22 ∧ E1_2  m))))
 (h_e2 : ∀ (σ : Sg)  (m : AM), E1_2  m → (
 CallsA Try.prog w0 55 #[.pointer (some ⟨x7, 0, none⟩)] m fun r25 m26 =>
 ∃ v24 : Value, r25 = v24 ∧ CallsA Try.prog w0 62 #[v24, .func (.func 63) #[] #[.pointer (some ⟨x3, 0, none⟩)]] m26 fun r29 m30 =>
 ∃ i27 : Int, ∃ t28 : Bool, r29 = .tuple #[.int .i64 i27, .bool t28] ∧ (bcase (!t28) (
 true = true ∧ ∀ b33 : Nat, w0.heap.size ≤ b33 → m30 b33 = none → let m34 := AM.upd m30 b33 (.cells #[.int .i64 (-1)] 3);
 awp Try.prog w0.heap.size (Builtin.append_ #[30, 30] 30 #[.slice x5 x5n x5c, .slice (some ⟨b33, 0, none⟩) 1 1]) m34 fun v35 m36 =>
 ∃ (A37 : Option Addr) (n38 c39 : Nat), v35 = .slice A37 n38 c39 ∧ (.slice x0 x0n x0c : Value) = .slice x0 x0n x0c ∧ (.pointer (some ⟨x3, 0, none⟩) : Value) = .pointer (some ⟨x3, 0, none⟩) ∧ (.slice x4 x4n x4c : Value) = .slice x4 x4n x4c ∧ true = true ∧ true = true ∧ ∃ n' : Nat, n' < n0 ∧ I0 n' A37 n38 c39 x6 m36) (
 ((0 : Int) ≤ i27 ∧ i27 < ((x4n : Nat) : Int)) ∧ nilO x4 fun a40 =>
 StC w0.heap.size m30 (a40.add ((i27 : Int).toNat * 1)) (.int .i64 ((x5n : Nat) : Int)) fun m41 =>
 true = true ∧ ∀ b42 : Nat, w0.heap.size ≤ b42 → m41 b42 = none → let m43 := AM.upd m41 b42 (.cells #[.int .i64 i27] 3);
 awp Try.prog w0.heap.size (Builtin.append_ #[30, 30] 30 #[.slice x5 x5n x5c, .slice (some ⟨b42, 0, none⟩) 1 1]) m43 fun v44 m45 =>
 ∃ (A46 : Option Addr) (n47 c48 : Nat), v44 = .slice A46 n47 c48 ∧ IntKind.i64 = IntKind.i64 ∧ (.slice x0 x0n x0c : Value) = .slice x0 x0n x0c ∧ (.pointer (some ⟨x3, 0, none⟩) : Value) = .pointer (some ⟨x3, 0, none⟩) ∧ (.slice x4 x4n x4c : Value) = .slice x4 x4n x4c ∧ true = true ∧ true = true ∧ ∃ n' : Nat, n' < n0 ∧ I0 n' A46 n47 c48 (IntKind.wrap .i64 (x6 - 1)) m45)))) :
 vcS Try.prog w0 qs34 (sub c34 [1, 1, 1, 1, 0, 1, 0, 0, 1, 0, 1, 0, 1, 0]) σ m (blockS 2 (thenS (fun σ m => vcS Try.prog w0 qs34 (sub c34 [1, 1, 1, 1, 0, 1, 0, 0, 1, 0, 1, 1]) σ m (blockS 1 (lq34_1111010 R x0 x0n x0c x3 x4 x4n x4c I0 E0_0 n0))) (blockS 1 (lq34_1111010 R x0 x0n x0c x3 x4 x4n x4c I0 E0_0 n0)))) := by
  rw [show sub c34 [1, 1, 1, 1, 0, 1, 0, 0, 1, 0, 1, 0, 1, 0] = .loop (sub c34 [1, 1, 1, 1, 0, 1, 0, 0, 1, 0, 1, 0, 1, 0, 0]) from by kernel_rfl]
  refine loopQ (fun n1 σ m => σ 0 = .slice x0 x0n x0c ∧ σ 3 = .pointer (some ⟨x3, 0, none⟩) ∧ σ 4 = .slice x4 x4n x4c ∧ σ 5 = .slice x5 x5n x5c ∧ σ 6 = .int .i64 x6 ∧ σ 7 = .pointer (some ⟨x7, 0, none⟩) ∧ σ 22 = .int .i64 x22 ∧ okI .i64 (σ 23) = true ∧ I1 n1 (vI (σ 23)) m) N (fun n1 => (lq34_11110100101010 R x0 x0n x0c x3 x4 x4n x4c x5 x5n x5c x6 x7 x22 I1 E1_2 n1)) ⟨h0, h3, h4, h5, h6, h7, h22, (by rw [h23]; rfl), (by rw [h23]; exact h_0)⟩ ?_ ?_ ?_
  · rintro n1 σ m ⟨kk0, kk1, kk2, kk3, kk4, kk5, kk6, kk7, n', hlt, hI⟩; exact ⟨n', hlt, kk0, kk1, kk2, kk3, kk4, kk5, kk6, kk7, hI⟩
  · intro n1 e σ m hne h
    cases e with
    | normal => exact absurd rfl hne
    | ret => exact h
    | exit id =>
      by_cases e2 : id = 2
      · subst e2
        obtain ⟨kk0, kk1, kk2, kk3, kk4, kk5, kk6, hE⟩ := h
        have es : (upd (upd (upd (upd (upd (upd (upd σ 0 (.slice x0 x0n x0c)) 3 (.pointer (some ⟨x3, 0, none⟩))) 4 (.slice x4 x4n x4c)) 5 (.slice x5 x5n x5c)) 6 (.int .i64 x6)) 7 (.pointer (some ⟨x7, 0, none⟩))) 22 (.int .i64 x22)) = σ := by rw [upd_id kk0, upd_id kk1, upd_id kk2, upd_id kk3, upd_id kk4, upd_id kk5, upd_id kk6]
        exact cast (congrArg (fun s => (blockS 2 (thenS (fun σ m => vcS Try.prog w0 qs34 (sub c34 [1, 1, 1, 1, 0, 1, 0, 0, 1, 0, 1, 1]) σ m (blockS 1 (lq34_1111010 R x0 x0n x0c x3 x4 x4n x4c I0 E0_0 n0))) (blockS 1 (lq34_1111010 R x0 x0n x0c x3 x4 x4n x4c I0 E0_0 n0)))) (.exit 2) s m) es) (cast (by kernel_rfl) (h_e2 σ  m hE))
      · replace h := (if_neg e2 : (if id = 2 then _ else _) = _).mp h
        exact False.elim h
    | _ => exact False.elim h
  · rintro n1 σ m ⟨kk0, kk1, kk2, kk3, kk4, kk5, kk6, kk7, hI⟩
    have es : (upd (upd (upd (upd (upd (upd (upd (upd σ 0 (.slice x0 x0n x0c)) 3 (.pointer (some ⟨x3, 0, none⟩))) 4 (.slice x4 x4n x4c)) 5 (.slice x5 x5n x5c)) 6 (.int .i64 x6)) 7 (.pointer (some ⟨x7, 0, none⟩))) 22 (.int .i64 x22)) 23 (.int .i64 (vI (σ 23)))) = σ := by rw [upd_id kk0, upd_id kk1, upd_id kk2, upd_id kk3, upd_id kk4, upd_id kk5, upd_id kk6, upd_id (ok_int kk7)]
    exact cast (congrArg (fun s => vcS Try.prog w0 qs34 (sub c34 [1, 1, 1, 1, 0, 1, 0, 0, 1, 0, 1, 0, 1, 0, 0]) s m (lq34_11110100101010 R x0 x0n x0c x3 x4 x4n x4c x5 x5n x5c x6 x7 x22 I1 E1_2 n1)) es) (cast (by kernel_rfl) (h_s n1 σ (vI (σ 23)) m hI))

/-! 37 delayslot/sched.Lay -/
def qs37 : Nat → List (Nat × Nat) := fun i => match i with | 1000016 => [(0, 0)] | _ => []
noncomputable def c37 : Code := bodyOf Try.f37
theorem cf37 (w0 : World) (m : AM) (x0 : Option Addr) (x0n x0c : Nat) (R : Value → AM → Prop) (h :
 IntKind.i64 = IntKind.i64 ∧ (bcase ((((x0n : Nat) : Int) : Int) == 0) (
 RetP R (.slice none 0 0) m) (
 IntKind.i64 = IntKind.i64 ∧ ((0 : Int) ≤ (IntKind.wrap .i64 (((x0n : Nat) : Int) - 1)) ∧ (IntKind.wrap .i64 (((x0n : Nat) : Int) - 1)) < ((x0n : Nat) : Int)) ∧ nilO x0 fun a1 =>
 ∃ i2 : Int, m.cell (a1.add ((IntKind.wrap .i64 (((x0n : Nat) : Int) - 1) : Int).toNat * 5)) = some (.int .i64 i2) ∧ ∃ i3 : Int, m.cell ((a1.add ((IntKind.wrap .i64 (((x0n : Nat) : Int) - 1) : Int).toNat * 5)).add 1) = some (.int .i64 i3) ∧ ∃ i4 : Int, m.cell ((a1.add ((IntKind.wrap .i64 (((x0n : Nat) : Int) - 1) : Int).toNat * 5)).add 2) = some (.int .i64 i4) ∧ ∃ i5 : Int, m.cell ((a1.add ((IntKind.wrap .i64 (((x0n : Nat) : Int) - 1) : Int).toNat * 5)).add 3) = some (.int .i64 i5) ∧ ∃ i6 : Int, m.cell ((a1.add ((IntKind.wrap .i64 (((x0n : Nat) : Int) - 1) : Int).toNat * 5)).add 4) = some (.int .i64 i6) ∧ 
 ∀ b7 : Nat, w0.heap.size ≤ b7 → m b7 = none → let m8 := AM.upd m b7 (.cells #[.int .i64 0, .int .i64 0, .int .i64 0, .int .i64 0, .int .i64 0] 24);
 StC w0.heap.size m8 ⟨b7, 0, none⟩ (.int .i64 i2) fun m9 =>
 StC w0.heap.size m9 ⟨b7, 1, none⟩ (.int .i64 i3) fun m10 =>
 StC w0.heap.size m10 ⟨b7, 2, none⟩ (.int .i64 i4) fun m11 =>
 StC w0.heap.size m11 ⟨b7, 3, none⟩ (.int .i64 i5) fun m12 =>
 StC w0.heap.size m12 ⟨b7, 4, none⟩ (.int .i64 i6) fun m13 =>
 ∃ i14 : Int, m13.cell ⟨b7, 0, none⟩ = some (.int .i64 i14) ∧ ∃ i15 : Int, m13.cell ⟨b7, 1, none⟩ = some (.int .i64 i15) ∧ ∃ i16 : Int, m13.cell ⟨b7, 2, none⟩ = some (.int .i64 i16) ∧ ∃ i17 : Int, m13.cell ⟨b7, 3, none⟩ = some (.int .i64 i17) ∧ ∃ i18 : Int, m13.cell ⟨b7, 4, none⟩ = some (.int .i64 i18) ∧ 
 CallsA Try.prog w0 52 #[.agg #[.int .i64 i14, .int .i64 i15, .int .i64 i16, .int .i64 i17, .int .i64 i18]] m13 fun r20 m21 =>
 ∃ t19 : Bool, r20 = .bool t19 ∧ (bcase (!t19) (
 CallsA Try.prog w0 34 #[.slice x0 x0n x0c] m21 fun r25 m26 =>
 ∃ (A22 : Option Addr) (n23 c24 : Nat), r25 = .slice A22 n23 c24 ∧ IntKind.i64 = IntKind.i64 ∧ ((0 : Int) ≤ (IntKind.wrap .i64 (((n23 : Nat) : Int) - 1)) ∧ (IntKind.wrap .i64 (((n23 : Nat) : Int) - 1)) < ((n23 : Nat) : Int)) ∧ nilO A22 fun a27 =>
 ∃ i28 : Int, m26.cell (a27.add ((IntKind.wrap .i64 (((n23 : Nat) : Int) - 1) : Int).toNat * 1)) = some (.int .i64 i28) ∧ 
 IntKind.i64 = IntKind.i64 ∧ (bcase (decide ((i28 : Int) ≥ 0)) (
 ((0 : Int) ≤ i28 ∧ i28 < ((x0n : Nat) : Int)) ∧ nilO x0 fun a29 =>
 ∃ i30 : Int, m26.cell (a29.add ((i28 : Int).toNat * 5)) = some (.int .i64 i30) ∧ ∃ i31 : Int, m26.cell ((a29.add ((i28 : Int).toNat * 5)).add 1) = some (.int .i64 i31) ∧ ∃ i32 : Int, m26.cell ((a29.add ((i28 : Int).toNat * 5)).add 2) = some (.int .i64 i32) ∧ ∃ i33 : Int, m26.cell ((a29.add ((i28 : Int).toNat * 5)).add 3) = some (.int .i64 i33) ∧ ∃ i34 : Int, m26.cell ((a29.add ((i28 : Int).toNat * 5)).add 4) = some (.int .i64 i34) ∧ 
 CallsA Try.prog w0 66 #[.agg #[.int .i64 i30, .int .i64 i31, .int .i64 i32, .int .i64 i33, .int .i64 i34]] m26 fun r36 m37 =>
 ∃ t35 : Bool, r36 = .bool t35 ∧ (bcase (bif decide ((i28 : Int) ≥ 0) then t35 else false) (
 true = true ∧ ∀ b38 : Nat, w0.heap.size ≤ b38 → m37 b38 = none → let m39 := AM.upd m37 b38 (.cells #[.int .i64 (-1)] 3);
 awp Try.prog w0.heap.size (Builtin.append_ #[30, 30] 30 #[.slice A22 n23 c24, .slice (some ⟨b38, 0, none⟩) 1 1]) m39 fun v40 m41 =>
 ∃ (A42 : Option Addr) (n43 c44 : Nat), v40 = .slice A42 n43 c44 ∧ RetP R (.slice A42 n43 c44) m41) (
 RetP R (.slice A22 n23 c24) m37))) (
 (decide ((i28 : Int) ≥ 0)) = false ∧ RetP R (.slice A22 n23 c24) m26))) (
 (0 : Int) ≤ (IntKind.wrap .i64 (((x0n : Nat) : Int) - 1)) ∧ ((IntKind.wrap .i64 (((x0n : Nat) : Int) - 1) : Int).toNat) ≤ x0c ∧ 0 ≤ ((IntKind.wrap .i64 (((x0n : Nat) : Int) - 1) : Int).toNat) ∧
 CallsA Try.prog w0 34 #[.slice (if x0c = 0 then x0 else Option.map (fun x => Addr.add x (0 * 5)) x0) (((IntKind.wrap .i64 (((x0n : Nat) : Int) - 1) : Int).toNat) - 0) (x0c - 0)] m21 fun r48 m49 =>
 ∃ (A45 : Option Addr) (n46 c47 : Nat), r48 = .slice A45 n46 c47 ∧ IntKind.i64 = IntKind.i64 ∧ IntKind.i64 = IntKind.i64 ∧ (bcase (decide (((IntKind.wrap .i64 (((n46 : Nat) : Int) - 1)) : Int) ≥ 0)) (
 ((0 : Int) ≤ (IntKind.wrap .i64 (((n46 : Nat) : Int) - 1)) ∧ (IntKind.wrap .i64 (((n46 : Nat) : Int) - 1)) < ((n46 : Nat) : Int)) ∧ nilO A45 fun a50 =>
 ∃ i51 : Int, m49.cell (a50.add ((IntKind.wrap .i64 (((n46 : Nat) : Int) - 1) : Int).toNat * 1)) = some (.int .i64 i51) ∧ 
 ((0 : Int) ≤ i51 ∧ i51 < ((x0n : Nat) : Int)) ∧ nilO x0 fun a52 =>
 ∃ i53 : Int, m49.cell (a52.add ((i51 : Int).toNat * 5)) = some (.int .i64 i53) ∧ ∃ i54 : Int, m49.cell ((a52.add ((i51 : Int).toNat * 5)).add 1) = some (.int .i64 i54) ∧ ∃ i55 : Int, m49.cell ((a52.add ((i51 : Int).toNat * 5)).add 2) = some (.int .i64 i55) ∧ ∃ i56 : Int, m49.cell ((a52.add ((i51 : Int).toNat * 5)).add 3) = some (.int .i64 i56) ∧ ∃ i57 : Int, m49.cell ((a52.add ((i51 : Int).toNat * 5)).add 4) = some (.int .i64 i57) ∧ 
 ∀ b58 : Nat, w0.heap.size ≤ b58 → m49 b58 = none → let m59 := AM.upd m49 b58 (.cells #[.int .i64 0, .int .i64 0, .int .i64 0, .int .i64 0, .int .i64 0] 24);
 StC w0.heap.size m59 ⟨b58, 0, none⟩ (.int .i64 i53) fun m60 =>
 StC w0.heap.size m60 ⟨b58, 1, none⟩ (.int .i64 i54) fun m61 =>
 StC w0.heap.size m61 ⟨b58, 2, none⟩ (.int .i64 i55) fun m62 =>
 StC w0.heap.size m62 ⟨b58, 3, none⟩ (.int .i64 i56) fun m63 =>
 StC w0.heap.size m63 ⟨b58, 4, none⟩ (.int .i64 i57) fun m64 =>
 ∃ i65 : Int, m64.cell ⟨b58, 0, none⟩ = some (.int .i64 i65) ∧ ∃ i66 : Int, m64.cell ⟨b58, 1, none⟩ = some (.int .i64 i66) ∧ ∃ i67 : Int, m64.cell ⟨b58, 2, none⟩ = some (.int .i64 i67) ∧ ∃ i68 : Int, m64.cell ⟨b58, 3, none⟩ = some (.int .i64 i68) ∧ ∃ i69 : Int, m64.cell ⟨b58, 4, none⟩ = some (.int .i64 i69) ∧ 
 CallsA Try.prog w0 66 #[.agg #[.int .i64 i65, .int .i64 i66, .int .i64 i67, .int .i64 i68, .int .i64 i69]] m64 fun r71 m72 =>
 ∃ t70 : Bool, r71 = .bool t70 ∧ (bcase (!t70) (
 ∃ i73 : Int, m72.cell ⟨b58, 0, none⟩ = some (.int .i64 i73) ∧ ∃ i74 : Int, m72.cell ⟨b58, 1, none⟩ = some (.int .i64 i74) ∧ ∃ i75 : Int, m72.cell ⟨b58, 2, none⟩ = some (.int .i64 i75) ∧ ∃ i76 : Int, m72.cell ⟨b58, 3, none⟩ = some (.int .i64 i76) ∧ ∃ i77 : Int, m72.cell ⟨b58, 4, none⟩ = some (.int .i64 i77) ∧ 
 ∃ i78 : Int, m72.cell ⟨b7, 0, none⟩ = some (.int .i64 i78) ∧ ∃ i79 : Int, m72.cell ⟨b7, 1, none⟩ = some (.int .i64 i79) ∧ ∃ i80 : Int, m72.cell ⟨b7, 2, none⟩ = some (.int .i64 i80) ∧ ∃ i81 : Int, m72.cell ⟨b7, 3, none⟩ = some (.int .i64 i81) ∧ ∃ i82 : Int, m72.cell ⟨b7, 4, none⟩ = some (.int .i64 i82) ∧ 
 CallsA Try.prog w0 67 #[.agg #[.int .i64 i73, .int .i64 i74, .int .i64 i75, .int .i64 i76, .int .i64 i77], .agg #[.int .i64 i78, .int .i64 i79, .int .i64 i80, .int .i64 i81, .int .i64 i82]] m72 fun r84 m85 =>
 ∃ i83 : Int, r84 = .int .i64 i83 ∧ IntKind.i64 = IntKind.i64 ∧ (bcase (bif !t70 then (i83 : Int) == 0 else false) (
 (0 : Int) ≤ (IntKind.wrap .i64 (((n46 : Nat) : Int) - 1)) ∧ ((IntKind.wrap .i64 (((n46 : Nat) : Int) - 1) : Int).toNat) ≤ c47 ∧ 0 ≤ ((IntKind.wrap .i64 (((n46 : Nat) : Int) - 1) : Int).toNat) ∧
 ∃ i86 : Int, m85.cell ⟨b7, 0, none⟩ = some (.int .i64 i86) ∧ ∃ i87 : Int, m85.cell ⟨b7, 1, none⟩ = some (.int .i64 i87) ∧ ∃ i88 : Int, m85.cell ⟨b7, 2, none⟩ = some (.int .i64 i88) ∧ ∃ i89 : Int, m85.cell ⟨b7, 3, none⟩ = some (.int .i64 i89) ∧ ∃ i90 : Int, m85.cell ⟨b7, 4, none⟩ = some (.int .i64 i90) ∧ 
 CallsA Try.prog w0 68 #[.slice x0 x0n x0c, .slice (if c47 = 0 then A45 else Option.map (fun x => Addr.add x (0 * 1)) A45) (((IntKind.wrap .i64 (((n46 : Nat) : Int) - 1) : Int).toNat) - 0) (c47 - 0), .agg #[.int .i64 i86, .int .i64 i87, .int .i64 i88, .int .i64 i89, .int .i64 i90], .int .i64 (IntKind.wrap .i64 (((n46 : Nat) : Int) - 1))] m85 fun r92 m93 =>
 ∃ t91 : Bool, r92 = .bool t91 ∧ vcS Try.prog w0 qs37 (sub c37 [1, 1, 1, 1, 1, 1, 0, 1, 1, 0, 1, 1]) (upd (upd (upd (upd (upd (upd (upd (upd (upd (upd (upd (upd (upd (upd (upd (upd (upd (upd (upd (upd (upd (upd (upd (upd (upd (upd (upd (upd (upd (upd (upd (upd (upd (upd (upd (upd (upd (upd (upd (upd (upd (upd (upd (upd (upd (upd (upd (upd (upd (upd (upd (upd (upd (argS [.slice x0 x0n x0c]) 2 (.slice none 0 0)) 10 (.slice x0 x0n x0c)) 11 (.int .i64 ((x0n : Nat) : Int))) 12 (.bool ((((x0n : Nat) : Int) : Int) == 0))) 13 (.slice x0 x0n x0c)) 14 (.int .i64 ((x0n : Nat) : Int))) 15 (.int .i64 (IntKind.wrap .i64 (((x0n : Nat) : Int) - 1)))) 3 (.int .i64 (IntKind.wrap .i64 (((x0n : Nat) : Int) - 1)))) 16 (.slice x0 x0n x0c)) 17 (.int .i64 (IntKind.wrap .i64 (((x0n : Nat) : Int) - 1)))) 18 (.pointer (some (a1.add ((IntKind.wrap .i64 (((x0n : Nat) : Int) - 1) : Int).toNat * 5))))) 19 (.agg #[.int .i64 i2, .int .i64 i3, .int .i64 i4, .int .i64 i5, .int .i64 i6])) 4 (.pointer (some ⟨b7, 0, none⟩))) 20 (.agg #[.int .i64 i14, .int .i64 i15, .int .i64 i16, .int .i64 i17, .int .i64 i18])) 21 (.bool t19)) 22 (.bool (!t19))) 44 (.slice x0 x0n x0c)) 45 (.int .i64 (IntKind.wrap .i64 (((x0n : Nat) : Int) - 1)))) 46 (.slice (if x0c = 0 then x0 else Option.map (fun x => Addr.add x (0 * 5)) x0) (((IntKind.wrap .i64 (((x0n : Nat) : Int) - 1) : Int).toNat) - 0) (x0c - 0))) 47 (.slice A45 n46 c47)) 7 (.slice A45 n46 c47)) 48 (.slice A45 n46 c47)) 49 (.int .i64 ((n46 : Nat) : Int))) 50 (.int .i64 (IntKind.wrap .i64 (((n46 : Nat) : Int) - 1)))) 8 (.int .i64 (IntKind.wrap .i64 (((n46 : Nat) : Int) - 1)))) 51 (.int .i64 (IntKind.wrap .i64 (((n46 : Nat) : Int) - 1)))) 52 (.bool (decide (((IntKind.wrap .i64 (((n46 : Nat) : Int) - 1)) : Int) ≥ 0)))) 53 (.slice x0 x0n x0c)) 54 (.slice A45 n46 c47)) 55 (.int .i64 (IntKind.wrap .i64 (((n46 : Nat) : Int) - 1)))) 56 (.pointer (some (a50.add ((IntKind.wrap .i64 (((n46 : Nat) : Int) - 1) : Int).toNat * 1))))) 57 (.int .i64 i51)) 58 (.pointer (some (a52.add ((i51 : Int).toNat * 5))))) 59 (.agg #[.int .i64 i53, .int .i64 i54, .int .i64 i55, .int .i64 i56, .int .i64 i57])) 9 (.pointer (some ⟨b58, 0, none⟩))) 60 (.agg #[.int .i64 i65, .int .i64 i66, .int .i64 i67, .int .i64 i68, .int .i64 i69])) 61 (.bool t70)) 62 (.bool (!t70))) 63 (.bool (!t70))) 64 (.agg #[.int .i64 i73, .int .i64 i74, .int .i64 i75, .int .i64 i76, .int .i64 i77])) 65 (.agg #[.int .i64 i78, .int .i64 i79, .int .i64 i80, .int .i64 i81, .int .i64 i82])) 66 (.int .i64 i83)) 67 (.bool ((i83 : Int) == 0))) 68 (.bool (bif !t70 then (i83 : Int) == 0 else false))) 69 (.bool (bif !t70 then (i83 : Int) == 0 else false))) 70 (.slice x0 x0n x0c)) 71 (.slice A45 n46 c47)) 72 (.int .i64 (IntKind.wrap .i64 (((n46 : Nat) : Int) - 1)))) 73 (.slice (if c47 = 0 then A45 else Option.map (fun x => Addr.add x (0 * 1)) A45) (((IntKind.wrap .i64 (((n46 : Nat) : Int) - 1) : Int).toNat) - 0) (c47 - 0))) 74 (.agg #[.int .i64 i86, .int .i64 i87, .int .i64 i88, .int .i64 i89, .int .i64 i90])) 75 (.int .i64 (IntKind.wrap .i64 (((n46 : Nat) : Int) - 1)))) 76 (.bool t91)) 77 (.bool (bif bif !t70 then (i83 : Int) == 0 else false then t91 else false))) m93 (thenS (fun σ m => vcS Try.prog w0 qs37 (sub c37 [1, 1, 1, 1, 1, 1, 1]) σ m (retQ Try.prog Try.f37 R)) (retQ Try.prog Try.f37 R))) (
 (bif !t70 then (i83 : Int) == 0 else false) = false ∧ vcS Try.prog w0 qs37 (sub c37 [1, 1, 1, 1, 1, 1, 0, 1, 1, 0, 1, 1]) (upd (upd (upd (upd (upd (upd (upd (upd (upd (upd (upd (upd (upd (upd (upd (upd (upd (upd (upd (upd (upd (upd (upd (upd (upd (upd (upd (upd (upd (upd (upd (upd (upd (upd (upd (upd (upd (upd (upd (upd (upd (upd (upd (upd (upd (upd (upd (upd (upd (upd (upd (upd (upd (argS [.slice x0 x0n x0c]) 2 (.slice none 0 0)) 10 (.slice x0 x0n x0c)) 11 (.int .i64 ((x0n : Nat) : Int))) 12 (.bool ((((x0n : Nat) : Int) : Int) == 0))) 13 (.slice x0 x0n x0c)) 14 (.int .i64 ((x0n : Nat) : Int))) 15 (.int .i64 (IntKind.wrap .i64 (((x0n : Nat) : Int) - 1)))) 3 (.int .i64 (IntKind.wrap .i64 (((x0n : Nat) : Int) - 1)))) 16 (.slice x0 x0n x0c)) 17 (.int .i64 (IntKind.wrap .i64 (((x0n : Nat) : Int) - 1)))) 18 (.pointer (some (a1.add ((IntKind.wrap .i64 (((x0n : Nat) : Int) - 1) : Int).toNat * 5))))) 19 (.agg #[.int .i64 i2, .int .i64 i3, .int .i64 i4, .int .i64 i5, .int .i64 i6])) 4 (.pointer (some ⟨b7, 0, none⟩))) 20 (.agg #[.int .i64 i14, .int .i64 i15, .int .i64 i16, .int .i64 i17, .int .i64 i18])) 21 (.bool t19)) 22 (.bool (!t19))) 44 (.slice x0 x0n x0c)) 45 (.int .i64 (IntKind.wrap .i64 (((x0n : Nat) : Int) - 1)))) 46 (.slice (if x0c = 0 then x0 else Option.map (fun x => Addr.add x (0 * 5)) x0) (((IntKind.wrap .i64 (((x0n : Nat) : Int) - 1) : Int).toNat) - 0) (x0c - 0))) 47 (.slice A45 n46 c47)) 7 (.slice A45 n46 c47)) 48 (.slice A45 n46 c47)) 49 (.int .i64 ((n46 : Nat) : Int))) 50 (.int .i64 (IntKind.wrap .i64 (((n46 : Nat) : Int) - 1)))) 8 (.int .i64 (IntKind.wrap .i64 (((n46 : Nat) : Int) - 1)))) 51 (.int .i64 (IntKind.wrap .i64 (((n46 : Nat) : Int) - 1)))) 52 (.bool (decide (((IntKind.wrap .i64 (((n46 : Nat) : Int) - 1)) : Int) ≥ 0)))) 53 (.slice x0 x0n x0c)) 54 (.slice A45 n46 c47)) 55 (.int .i64 (IntKind.wrap .i64 (((n46 : Nat) : Int) - 1)))) 56 (.pointer (some (a50.add ((IntKind.wrap .i64 (((n46 : Nat) : Int) - 1) : Int).toNat * 1))))) 57 (.int .i64 i51)) 58 (.pointer (some (a52.add ((i51 : Int).toNat * 5))))) 59 (.agg #[.int .i64 i53, .int .i64 i54, .int .i64 i55, .int .i64 i56, .int .i64 i57])) 9 (.pointer (some ⟨b58, 0, none⟩))) 60 (.agg #[.int .i64 i65, .int .i64 i66, .int .i64 i67, .int .i64 i68, .int .i64 i69])) 61 (.bool t70)) 62 (.bool (!t70))) 63 (.bool (!t70))) 64 (.agg #[.int .i64 i73, .int .i64 i74, .int .i64 i75, .int .i64 i76, .int .i64 i77])) 65 (.agg #[.int .i64 i78, .int .i64 i79, .int .i64 i80, .int .i64 i81, .int .i64 i82])) 66 (.int .i64 i83)) 67 (.bool ((i83 : Int) == 0))) 68 (.bool (bif !t70 then (i83 : Int) == 0 else false))) 69 (.bool (bif !t70 then (i83 : Int) == 0 else false))) 70 (undef)) 71 (undef)) 72 (undef)) 73 (undef)) 74 (undef)) 75 (undef)) 76 (undef)) 77 (.bool false)) m85 (thenS (fun σ m => vcS Try.prog w0 qs37 (sub c37 [1, 1, 1, 1, 1, 1, 1]) σ m (retQ Try.prog Try.f37 R)) (retQ Try.prog Try.f37 R))))) (
 (!t70) = false ∧ false = false ∧ vcS Try.prog w0 qs37 (sub c37 [1, 1, 1, 1, 1, 1, 0, 1, 1, 0, 1, 1]) (upd (upd (upd (upd (upd (upd (upd (upd (upd (upd (upd (upd (upd (upd (upd (upd (upd (upd (upd (upd (upd (upd (upd (upd (upd (upd (upd (upd (upd (upd (upd (upd (upd (upd (upd (upd (upd (upd (upd (upd (upd (upd (upd (upd (upd (upd (upd (upd (upd (upd (upd (upd (upd (argS [.slice x0 x0n x0c]) 2 (.slice none 0 0)) 10 (.slice x0 x0n x0c)) 11 (.int .i64 ((x0n : Nat) : Int))) 12 (.bool ((((x0n : Nat) : Int) : Int) == 0))) 13 (.slice x0 x0n x0c)) 14 (.int .i64 ((x0n : Nat) : Int))) 15 (.int .i64 (IntKind.wrap .i64 (((x0n : Nat) : Int) - 1)))) 3 (.int .i64 (IntKind.wrap .i64 (((x0n : Nat) : Int) - 1)))) 16 (.slice x0 x0n x0c)) 17 (.int .i64 (IntKind.wrap .i64 (((x0n : Nat) : Int) - 1)))) 18 (.pointer (some (a1.add ((IntKind.wrap .i64 (((x0n : Nat) : Int) - 1) : Int).toNat * 5))))) 19 (.agg #[.int .i64 i2, .int .i64 i3, .int .i64 i4, .int .i64 i5, .int .i64 i6])) 4 (.pointer (some ⟨b7, 0, none⟩))) 20 (.agg #[.int .i64 i14, .int .i64 i15, .int .i64 i16, .int .i64 i17, .int .i64 i18])) 21 (.bool t19)) 22 (.bool (!t19))) 44 (.slice x0 x0n x0c)) 45 (.int .i64 (IntKind.wrap .i64 (((x0n : Nat) : Int) - 1)))) 46 (.slice (if x0c = 0 then x0 else Option.map (fun x => Addr.add x (0 * 5)) x0) (((IntKind.wrap .i64 (((x0n : Nat) : Int) - 1) : Int).toNat) - 0) (x0c - 0))) 47 (.slice A45 n46 c47)) 7 (.slice A45 n46 c47)) 48 (.slice A45 n46 c47)) 49 (.int .i64 ((n46 : Nat) : Int))) 50 (.int .i64 (IntKind.wrap .i64 (((n46 : Nat) : Int) - 1)))) 8 (.int .i64 (IntKind.wrap .i64 (((n46 : Nat) : Int) - 1)))) 51 (.int .i64 (IntKind.wrap .i64 (((n46 : Nat) : Int) - 1)))) 52 (.bool (decide (((IntKind.wrap .i64 (((n46 : Nat) : Int) - 1)) : Int) ≥ 0)))) 53 (.slice x0 x0n x0c)) 54 (.slice A45 n46 c47)) 55 (.int .i64 (IntKind.wrap .i64 (((n46 : Nat) : Int) - 1)))) 56 (.pointer (some (a50.add ((IntKind.wrap .i64 (((n46 : Nat) : Int) - 1) : Int).toNat * 1))))) 57 (.int .i64 i51)) 58 (.pointer (some (a52.add ((i51 : Int).toNat * 5))))) 59 (.agg #[.int .i64 i53, .int .i64 i54, .int .i64 i55, .int .i64 i56, .int .i64 i57])) 9 (.pointer (some ⟨b58, 0, none⟩))) 60 (.agg #[.int .i64 i65, .int .i64 i66, .int .i64 i67, .int .i64 i68, .int .i64 i69])) 61 (.bool t70)) 62 (.bool (!t70))) 63 (.bool (!t70))) 64 (undef)) 65 (undef)) 66 (undef)) 67 (undef)) 68 (.bool false)) 69 (.bool false)) 70 (undef)) 71 (undef)) 72 (undef)) 73 (undef)) 74 (undef)) 75 (undef)) 76 (undef)) 77 (.bool false)) m72 (thenS (fun σ m => vcS Try.prog w0 qs37 (sub c37 [1, 1, 1, 1, 1, 1, 1]) σ m (retQ Try.prog Try.f37 R)) (retQ Try.prog Try.f37 R))))) (
 vcS Try.prog w0 qs37 (sub c37 [1, 1, 1, 1, 1, 1, 1]) (upd (upd (upd (upd (upd (upd (upd (upd (upd (upd (upd (upd (upd (upd (upd (upd (upd (upd (upd (upd (upd (upd (upd (upd (upd (upd (upd (argS [.slice x0 x0n x0c]) 2 (.slice none 0 0)) 10 (.slice x0 x0n x0c)) 11 (.int .i64 ((x0n : Nat) : Int))) 12 (.bool ((((x0n : Nat) : Int) : Int) == 0))) 13 (.slice x0 x0n x0c)) 14 (.int .i64 ((x0n : Nat) : Int))) 15 (.int .i64 (IntKind.wrap .i64 (((x0n : Nat) : Int) - 1)))) 3 (.int .i64 (IntKind.wrap .i64 (((x0n : Nat) : Int) - 1)))) 16 (.slice x0 x0n x0c)) 17 (.int .i64 (IntKind.wrap .i64 (((x0n : Nat) : Int) - 1)))) 18 (.pointer (some (a1.add ((IntKind.wrap .i64 (((x0n : Nat) : Int) - 1) : Int).toNat * 5))))) 19 (.agg #[.int .i64 i2, .int .i64 i3, .int .i64 i4, .int .i64 i5, .int .i64 i6])) 4 (.pointer (some ⟨b7, 0, none⟩))) 20 (.agg #[.int .i64 i14, .int .i64 i15, .int .i64 i16, .int .i64 i17, .int .i64 i18])) 21 (.bool t19)) 22 (.bool (!t19))) 44 (.slice x0 x0n x0c)) 45 (.int .i64 (IntKind.wrap .i64 (((x0n : Nat) : Int) - 1)))) 46 (.slice (if x0c = 0 then x0 else Option.map (fun x => Addr.add x (0 * 5)) x0) (((IntKind.wrap .i64 (((x0n : Nat) : Int) - 1) : Int).toNat) - 0) (x0c - 0))) 47 (.slice A45 n46 c47)) 7 (.slice A45 n46 c47)) 48 (.slice A45 n46 c47)) 49 (.int .i64 ((n46 : Nat) : Int))) 50 (.int .i64 (IntKind.wrap .i64 (((n46 : Nat) : Int) - 1)))) 8 (.int .i64 (IntKind.wrap .i64 (((n46 : Nat) : Int) - 1)))) 51 (.int .i64 (IntKind.wrap .i64 (((n46 : Nat) : Int) - 1)))) 52 (.bool (decide (((IntKind.wrap .i64 (((n46 : Nat) : Int) - 1)) : Int) ≥ 0)))) m49 (retQ Try.prog Try.f37 R)))))))) : CallsA Try.prog w0 37 #[.slice x0 x0n x0c] m R :=
  callsA_of (c := c37) (args := [.slice x0 x0n x0c]) (by kernel_rfl) Try.func37 (by kernel_rfl) qs37 (by kernel_rfl) (by kernel_rfl) (cast (by kernel_rfl) h)
theorem vk37_111111011011 (w0 : World) (m : AM) (σ : Sg) (R : Value → AM → Prop)  (x0 : Option Addr) (x0n x0c : Nat) (x3 : Int) (x4 : Nat) (x7 : Option Addr) (x7n x7c : Nat) (x8 : Int) (x77 : Bool) (h0 : σ 0 = .slice x0 x0n x0c) (h3 : σ 3 = .int .i64 x3) (h4 : σ 4 = .pointer (some ⟨x4, 0, none⟩)) (h7 : σ 7 = .slice x7 x7n x7c) (h8 : σ 8 = .int .i64 x8) (h77 : σ 77 = .bool x77) (h :
 (bcase x77 (
 vcS Try.prog w0 qs37 (sub c37 [1, 1, 1, 1, 1, 1, 0, 1, 1, 0, 1, 1, 0, 0]) (upd (upd (upd (upd (upd (upd σ 0 (.slice x0 x0n x0c)) 3 (.int .i64 x3)) 4 (.pointer (some ⟨x4, 0, none⟩))) 7 (.slice x7 x7n x7c)) 8 (.int .i64 x8)) 77 (.bool x77)) m (thenS (fun σ m => vcS Try.prog w0 qs37 (sub c37 [1, 1, 1, 1, 1, 1, 0, 1, 1, 0, 1, 1, 0, 1]) σ m (thenS (fun σ m => vcS Try.prog w0 qs37 (sub c37 [1, 1, 1, 1, 1, 1, 1]) σ m (retQ Try.prog Try.f37 R)) (retQ Try.prog Try.f37 R))) (thenS (fun σ m => vcS Try.prog w0 qs37 (sub c37 [1, 1, 1, 1, 1, 1, 1]) σ m (retQ Try.prog Try.f37 R)) (retQ Try.prog Try.f37 R)))) (
 vcS Try.prog w0 qs37 (sub c37 [1, 1, 1, 1, 1, 1, 1]) (upd (upd (upd (upd (upd (upd σ 0 (.slice x0 x0n x0c)) 3 (.int .i64 x3)) 4 (.pointer (some ⟨x4, 0, none⟩))) 7 (.slice x7 x7n x7c)) 8 (.int .i64 x8)) 77 (.bool x77)) m (retQ Try.prog Try.f37 R)))) :
 vcS Try.prog w0 qs37 (sub c37 [1, 1, 1, 1, 1, 1, 0, 1, 1, 0, 1, 1]) σ m (thenS (fun σ m => vcS Try.prog w0 qs37 (sub c37 [1, 1, 1, 1, 1, 1, 1]) σ m (retQ Try.prog Try.f37 R)) (retQ Try.prog Try.f37 R)) := by
  have es0 : (upd (upd (upd (upd (upd (upd σ 0 (.slice x0 x0n x0c)) 3 (.int .i64 x3)) 4 (.pointer (some ⟨x4, 0, none⟩))) 7 (.slice x7 x7n x7c)) 8 (.int .i64 x8)) 77 (.bool x77)) = σ := by rw [upd_id h0, upd_id h3, upd_id h4, upd_id h7, upd_id h8, upd_id h77]
  exact cast (congrArg (fun s => vcS Try.prog w0 qs37 (sub c37 [1, 1, 1, 1, 1, 1, 0, 1, 1, 0, 1, 1]) s m (thenS (fun σ m => vcS Try.prog w0 qs37 (sub c37 [1, 1, 1, 1, 1, 1, 1]) σ m (retQ Try.prog Try.f37 R)) (retQ Try.prog Try.f37 R))) es0) (cast (by kernel_rfl) h)
theorem vk37_1111111 (w0 : World) (m : AM) (σ : Sg) (R : Value → AM → Prop)  (x0 : Option Addr) (x0n x0c : Nat) (x3 : Int) (x4 : Nat) (x7 : Option Addr) (x7n x7c : Nat) (h0 : σ 0 = .slice x0 x0n x0c) (h3 : σ 3 = .int .i64 x3) (h4 : σ 4 = .pointer (some ⟨x4, 0, none⟩)) (h7 : σ 7 = .slice x7 x7n x7c) (h :
 vcS Try.prog w0 qs37 (sub c37 [1, 1, 1, 1, 1, 1, 1, 0, 0]) (upd (upd (upd (upd σ 0 (.slice x0 x0n x0c)) 3 (.int .i64 x3)) 4 (.pointer (some ⟨x4, 0, none⟩))) 7 (.slice x7 x7n x7c)) m (blockS 0 (thenS (fun σ m => vcS Try.prog w0 qs37 (sub c37 [1, 1, 1, 1, 1, 1, 1, 1]) σ m (retQ Try.prog Try.f37 R)) (retQ Try.prog Try.f37 R)))) :
 vcS Try.prog w0 qs37 (sub c37 [1, 1, 1, 1, 1, 1, 1]) σ m (retQ Try.prog Try.f37 R) := by
  have es0 : (upd (upd (upd (upd σ 0 (.slice x0 x0n x0c)) 3 (.int .i64 x3)) 4 (.pointer (some ⟨x4, 0, none⟩))) 7 (.slice x7 x7n x7c)) = σ := by rw [upd_id h0, upd_id h3, upd_id h4, upd_id h7]
  exact cast (congrArg (fun s => vcS Try.prog w0 qs37 (sub c37 [1, 1, 1, 1, 1, 1, 1]) s m (retQ Try.prog Try.f37 R)) es0) (cast (by kernel_rfl) h)
def lq37_111111100 (R : Value → AM → Prop) (x0 : Option Addr) (x0n x0c : Nat) (x3 : Int) (x4 : Nat) (I0 : Nat → Option Addr → Nat → Nat → AM → Prop) (E0_0 : Option Addr → Nat → Nat → AM → Prop) (n0 : Nat) : Exit → Sg → AM → Prop
  | .normal, σ, m => σ 0 = .slice x0 x0n x0c ∧ σ 3 = .int .i64 x3 ∧ σ 4 = .pointer (some ⟨x4, 0, none⟩) ∧ okS (σ 7) = true ∧ ∃ n' : Nat, n' < n0 ∧ I0 n' (vSA (σ 7)) (vSN (σ 7)) (vSC (σ 7)) m
  | .exit id, σ, m => if id = 0 then σ 0 = .slice x0 x0n x0c ∧ σ 3 = .int .i64 x3 ∧ σ 4 = .pointer (some ⟨x4, 0, none⟩) ∧ okS (σ 7) = true ∧ E0_0 (vSA (σ 7)) (vSN (σ 7)) (vSC (σ 7)) m else False
  | .ret, σ, m => retQ Try.prog Try.f37 R .ret σ m
  | _, _, _ => False
theorem vl37_111111100 (w0 : World) (m : AM) (σ : Sg) (R : Value → AM → Prop)  (x0 : Option Addr) (x0n x0c : Nat) (x3 : Int) (x4 : Nat) (x7 : Option Addr) (x7n x7c : Nat) (I0 : Nat → Option Addr → Nat → Nat → AM → Prop) (E0_0 : Option Addr → Nat → Nat → AM → Prop) (N : Nat) (h0 : σ 0 = .slice x0 x0n x0c) (h3 : σ 3 = .int .i64 x3) (h4 : σ 4 = .pointer (some ⟨x4, 0, none⟩)) (h7 : σ 7 = .slice x7 x7n x7c)
 (h_0 : I0 N x7 x7n x7c m)
 (h_s : ∀ (n0 : Nat) (σ : Sg) (x7 : Option Addr) (x7n : Nat) (x7c : Nat) (m : AM), I0 n0 x7 x7n x7c m → (
 ∃ i94 : Int, m.cell ⟨x4, 0, none⟩ = some (.int .i64 i94) ∧ ∃ i95 : Int, m.cell ⟨x4, 1, none⟩ = some (.int .i64 i95) ∧ ∃ i96 : Int, m.cell ⟨x4, 2, none⟩ = some (.int .i64 i96) ∧ ∃ i97 : Int, m.cell ⟨x4, 3, none⟩ = some (.int .i64 i97) ∧ ∃ i98 : Int, m.cell ⟨x4, 4, none⟩ = some (.int .i64 i98) ∧ 
 CallsA Try.prog w0 68 #[.slice x0 x0n x0c, .slice x7 x7n x7c, .agg #[.int .i64 i94, .int .i64 i95, .int .i64 i96, .int .i64 i97, .int .i64 i98], .int .i64 ((x7n : Nat) : Int)] m fun r100 m101 =>
 ∃ t99 : Bool, r100 = .bool t99 ∧ (bcase (!t99) (
 true = true ∧ ∀ b102 : Nat, w0.heap.size ≤ b102 → m101 b102 = none → let m103 := AM.upd m101 b102 (.cells #[.int .i64 (-1)] 3);
 awp Try.prog w0.heap.size (Builtin.append_ #[30, 30] 30 #[.slice x7 x7n x7c, .slice (some ⟨b102, 0, none⟩) 1 1]) m103 fun v104 m105 =>
 ∃ (A106 : Option Addr) (n107 c108 : Nat), v104 = .slice A106 n107 c108 ∧ (.slice x0 x0n x0c : Value) = .slice x0 x0n x0c ∧ (.int .i64 x3 : Value) = .int .i64 x3 ∧ (.pointer (some ⟨x4, 0, none⟩) : Value) = .pointer (some ⟨x4, 0, none⟩) ∧ true = true ∧ ∃ n' : Nat, n' < n0 ∧ I0 n' A106 n107 c108 m105) (
 (.slice x0 x0n x0c : Value) = .slice x0 x0n x0c ∧ (.int .i64 x3 : Value) = .int .i64 x3 ∧ (.pointer (some ⟨x4, 0, none⟩) : Value) = .pointer (some ⟨x4, 0, none⟩) ∧ true = true ∧ E0_0 x7 x7n x7c m101))))
 (h_e0 : ∀ (σ : Sg) (x7 : Option Addr) (x7n : Nat) (x7c : Nat) (m : AM), E0_0 x7 x7n x7c m → (
 true = true ∧ ∀ b109 : Nat, w0.heap.size ≤ b109 → m b109 = none → let m110 := AM.upd m b109 (.cells #[.int .i64 x3, .int .i64 (-1)] 3);
 awp Try.prog w0.heap.size (Builtin.append_ #[30, 30] 30 #[.slice x7 x7n x7c, .slice (some ⟨b109, 0, none⟩) 2 2]) m110 fun v111 m112 =>
 ∃ (A113 : Option Addr) (n114 c115 : Nat), v111 = .slice A113 n114 c115 ∧ RetP R (.slice A113 n114 c115) m112)) :
 vcS Try.prog w0 qs37 (sub c37 [1, 1, 1, 1, 1, 1, 1, 0, 0]) σ m (blockS 0 (thenS (fun σ m => vcS Try.prog w0 qs37 (sub c37 [1, 1, 1, 1, 1, 1, 1, 1]) σ m (retQ Try.prog Try.f37 R)) (retQ Try.prog Try.f37 R))) := by
  rw [show sub c37 [1, 1, 1, 1, 1, 1, 1, 0, 0] = .loop (sub c37 [1, 1, 1, 1, 1, 1, 1, 0, 0, 0]) from by kernel_rfl]
  refine loopQ (fun n0 σ m => σ 0 = .slice x0 x0n x0c ∧ σ 3 = .int .i64 x3 ∧ σ 4 = .pointer (some ⟨x4, 0, none⟩) ∧ okS (σ 7) = true ∧ I0 n0 (vSA (σ 7)) (vSN (σ 7)) (vSC (σ 7)) m) N (fun n0 => (lq37_111111100 R x0 x0n x0c x3 x4 I0 E0_0 n0)) ⟨h0, h3, h4, (by rw [h7]; rfl), (by rw [h7]; exact h_0)⟩ ?_ ?_ ?_
  · rintro n0 σ m ⟨kk0, kk1, kk2, kk3, n', hlt, hI⟩; exact ⟨n', hlt, kk0, kk1, kk2, kk3, hI⟩
  · intro n0 e σ m hne h
    cases e with
    | normal => exact absurd rfl hne
    | ret => exact h
    | exit id =>
      by_cases e0 : id = 0
      · subst e0
        obtain ⟨kk0, kk1, kk2, kk3, hE⟩ := h
        have es : (upd (upd (upd (upd σ 0 (.slice x0 x0n x0c)) 3 (.int .i64 x3)) 4 (.pointer (some ⟨x4, 0, none⟩))) 7 (.slice (vSA (σ 7)) (vSN (σ 7)) (vSC (σ 7)))) = σ := by rw [upd_id kk0, upd_id kk1, upd_id kk2, upd_id (ok_slice kk3)]
        exact cast (congrArg (fun s => (blockS 0 (thenS (fun σ m => vcS Try.prog w0 qs37 (sub c37 [1, 1, 1, 1, 1, 1, 1, 1]) σ m (retQ Try.prog Try.f37 R)) (retQ Try.prog Try.f37 R))) (.exit 0) s m) es) (cast (by kernel_rfl) (h_e0 σ (vSA (σ 7)) (vSN (σ 7)) (vSC (σ 7)) m hE))
      · replace h := (if_neg e0 : (if id = 0 then _ else _) = _).mp h
        exact False.elim h
    | _ => exact False.elim h
  · rintro n0 σ m ⟨kk0, kk1, kk2, kk3, hI⟩
    have es : (upd (upd (upd (upd σ 0 (.slice x0 x0n x0c)) 3 (.int .i64 x3)) 4 (.pointer (some ⟨x4, 0, none⟩))) 7 (.slice (vSA (σ 7)) (vSN (σ 7)) (vSC (σ 7)))) = σ := by rw [upd_id kk0, upd_id kk1, upd_id kk2, upd_id (ok_slice kk3)]
    exact cast (congrArg (fun s => vcS Try.prog w0 qs37 (sub c37 [1, 1, 1, 1, 1, 1, 1, 0, 0, 0]) s m (lq37_111111100 R x0 x0n x0c x3 x4 I0 E0_0 n0)) es) (cast (by kernel_rfl) (h_s n0 σ (vSA (σ 7)) (vSN (σ 7)) (vSC (σ 7)) m hI))
theorem vr37_11111101101100 (w0 : World) (m : AM) (σ : Sg) (R : Value → AM → Prop)  (x3 : Int) (x7 : Option Addr) (x7n x7c : Nat) (x8 : Int) (K : Option Addr → Nat → Nat → AM → Prop) (h3 : σ 3 = .int .i64 x3) (h7 : σ 7 = .slice x7 x7n x7c) (h8 : σ 8 = .int .i64 x8)
 (h_t : 
 (0 : Int) ≤ x8 ∧ ((x8 : Int).toNat) ≤ x7c ∧ 0 ≤ ((x8 : Int).toNat) ∧
 ((0 : Int) ≤ x8 ∧ x8 < ((x7n : Nat) : Int)) ∧ nilO x7 fun a116 =>
 (CallsA Try.prog w0 69 #[.slice (if x7c = 0 then x7 else Option.map (fun x => Addr.add x (0 * 1)) x7) (((x8 : Int).toNat) - 0) (x7c - 0)] m fun r120 m121 =>
 ∃ (A117 : Option Addr) (n118 c119 : Nat), r120 = .slice A117 n118 c119 ∧ ∃ i122 : Int, m121.cell (a116.add ((x8 : Int).toNat * 1)) = some (.int .i64 i122) ∧ 
 true = true ∧ ∀ b123 : Nat, w0.heap.size ≤ b123 → m121 b123 = none → let m124 := AM.upd m121 b123 (.cells #[.int .i64 x3, .int .i64 i122] 3);
 awp Try.prog w0.heap.size (Builtin.append_ #[30, 30] 30 #[.slice A117 n118 c119, .slice (some ⟨b123, 0, none⟩) 2 2]) m124 fun v125 m126 =>
 ∃ (A127 : Option Addr) (n128 c129 : Nat), v125 = .slice A127 n128 c129 ∧ true = true ∧ true = true ∧ K A127 n128 c129 m126) ∧
 (∃ i130 : Int, m.cell (a116.add ((x8 : Int).toNat * 1)) = some (.int .i64 i130) ∧ 
 (CallsA Try.prog w0 69 #[.slice (if x7c = 0 then x7 else Option.map (fun x => Addr.add x (0 * 1)) x7) (((x8 : Int).toNat) - 0) (x7c - 0)] m fun r134 m135 =>
 ∃ (A131 : Option Addr) (n132 c133 : Nat), r134 = .slice A131 n132 c133 ∧ true = true ∧ ∀ b136 : Nat, w0.heap.size ≤ b136 → m135 b136 = none → let m137 := AM.upd m135 b136 (.cells #[.int .i64 x3, .int .i64 i130] 3);
 awp Try.prog w0.heap.size (Builtin.append_ #[30, 30] 30 #[.slice A131 n132 c133, .slice (some ⟨b136, 0, none⟩) 2 2]) m137 fun v138 m139 =>
 ∃ (A140 : Option Addr) (n141 c142 : Nat), v138 = .slice A140 n141 c142 ∧ true = true ∧ true = true ∧ K A140 n141 c142 m139) ∧
 (true = true ∧ ∀ b143 : Nat, w0.heap.size ≤ b143 → m b143 = none → let m144 := AM.upd m b143 (.cells #[.int .i64 x3, .int .i64 i130] 3);
 CallsA Try.prog w0 69 #[.slice (if x7c = 0 then x7 else Option.map (fun x => Addr.add x (0 * 1)) x7) (((x8 : Int).toNat) - 0) (x7c - 0)] m144 fun r148 m149 =>
 ∃ (A145 : Option Addr) (n146 c147 : Nat), r148 = .slice A145 n146 c147 ∧ awp Try.prog w0.heap.size (Builtin.append_ #[30, 30] 30 #[.slice A145 n146 c147, .slice (some ⟨b143, 0, none⟩) 2 2]) m149 fun v150 m151 =>
 ∃ (A152 : Option Addr) (n153 c154 : Nat), v150 = .slice A152 n153 c154 ∧ true = true ∧ true = true ∧ K A152 n153 c154 m151)))
 (h_k : ∀ (σ : Sg) (y2 : Option Addr) (y2n : Nat) (y2c : Nat) (m : AM), K y2 y2n y2c m → (
 RetP R (.slice y2 y2n y2c) m)) :
 vcS Try.prog w0 qs37 (sub c37 [1, 1, 1, 1, 1, 1, 0, 1, 1, 0, 1, 1, 0, 0]) σ m (thenS (fun σ m => vcS Try.prog w0 qs37 (sub c37 [1, 1, 1, 1, 1, 1, 0, 1, 1, 0, 1, 1, 0, 1]) σ m (thenS (fun σ m => vcS Try.prog w0 qs37 (sub c37 [1, 1, 1, 1, 1, 1, 1]) σ m (retQ Try.prog Try.f37 R)) (retQ Try.prog Try.f37 R))) (thenS (fun σ m => vcS Try.prog w0 qs37 (sub c37 [1, 1, 1, 1, 1, 1, 1]) σ m (retQ Try.prog Try.f37 R)) (retQ Try.prog Try.f37 R))) := by
  have es0 : (upd (upd (upd σ 3 (.int .i64 x3)) 7 (.slice x7 x7n x7c)) 8 (.int .i64 x8)) = σ := by rw [upd_id h3, upd_id h7, upd_id h8]
  refine vcS_cut (Q0 := (fun σ m => okS (σ 2) = true ∧ K (vSA (σ 2)) (vSN (σ 2)) (vSC (σ 2)) m)) (by kernel_rfl) (cast (congrArg (fun s => trC Try.prog w0 qs37 (sub c37 [1, 1, 1, 1, 1, 1, 0, 1, 1, 0, 1, 1, 0, 0]) s m (fun σ m => okS (σ 2) = true ∧ K (vSA (σ 2)) (vSN (σ 2)) (vSC (σ 2)) m)) es0) (cast (by kernel_rfl) h_t)) ?_
  rintro σ m ⟨kk0, hK⟩
  have es : (upd σ 2 (.slice (vSA (σ 2)) (vSN (σ 2)) (vSC (σ 2)))) = σ := by rw [upd_id (ok_slice kk0)]
  exact cast (congrArg (fun s => (thenS (fun σ m => vcS Try.prog w0 qs37 (sub c37 [1, 1, 1, 1, 1, 1, 0, 1, 1, 0, 1, 1, 0, 1]) σ m (thenS (fun σ m => vcS Try.prog w0 qs37 (sub c37 [1, 1, 1, 1, 1, 1, 1]) σ m (retQ Try.prog Try.f37 R)) (retQ Try.prog Try.f37 R))) (thenS (fun σ m => vcS Try.prog w0 qs37 (sub c37 [1, 1, 1, 1, 1, 1, 1]) σ m (retQ Try.prog Try.f37 R)) (retQ Try.prog Try.f37 R))) .normal s m) es) (cast (by kernel_rfl) (h_k σ (vSA (σ 2)) (vSN (σ 2)) (vSC (σ 2)) m hK))

/-! 69 slices.Clone[[]int,int] -/
def qs69 : Nat → List (Nat × Nat) := fun i => match i with | _ => []
noncomputable def c69 : Code := bodyOf Try.f69
theorem cf69 (w0 : World) (m : AM) (x0 : Option Addr) (x0n x0c : Nat) (R : Value → AM → Prop) (h :
 (bcase (Option.isNone x0) (
 RetP R (.slice none 0 0) m) (
 true = true ∧ ∀ b1 : Nat, w0.heap.size ≤ b1 → m b1 = none → let m2 := AM.upd m b1 (.cells #[] 3);
 awp Try.prog w0.heap.size (Builtin.append_ #[30, 30] 30 #[.slice (some ⟨b1, 0, none⟩) 0 0, .slice x0 x0n x0c]) m2 fun v3 m4 =>
 ∃ (A5 : Option Addr) (n6 c7 : Nat), v3 = .slice A5 n6 c7 ∧ RetP R (.slice A5 n6 c7) m4))) : CallsA Try.prog w0 69 #[.slice x0 x0n x0c] m R :=
  callsA_of (c := c69) (args := [.slice x0 x0n x0c]) (by kernel_rfl) Try.func69 (by kernel_rfl) qs69 (by kernel_rfl) (by kernel_rfl) (cast (by kernel_rfl) h)

/-! 89 math/bits.Mul -/
def qs89 : Nat → List (Nat × Nat) := fun i => match i with | _ => []
noncomputable def c89 : Code := bodyOf Try.f89
theorem cf89 (w0 : World) (m : AM) (x0 : Int) (x1 : Int) (R : Value → AM → Prop) (h :
 CallsA Try.prog w0 111 #[.int .u64 x0, .int .u64 x1] m fun r3 m4 =>
 ∃ i1 : Int, ∃ i2 : Int, r3 = .tuple #[.int .u64 i1, .int .u64 i2] ∧ RetP R (.tuple #[.int .u64 i1, .int .u64 i2]) m4) : CallsA Try.prog w0 89 #[.int .u64 x0, .int .u64 x1] m R :=
  callsA_of (c := c89) (args := [.int .u64 x0, .int .u64 x1]) (by kernel_rfl) Try.func89 (by kernel_rfl) qs89 (by kernel_rfl) (by kernel_rfl) (cast (by kernel_rfl) h)
end Go.Proofs.Ytkfemiloehkmhaa.V

