/- Ytkfemiloehkmhaa: a text of our own, by an AI agent: VEff3H -/
import Derived.Test.YtkfemiloehkmhaaCoreA
import Derived.Test.YtkfemiloehkmhaaTabH
namespace Go.Proofs.Ytkfemiloehkmhaa.V
open Go Go.Alog Go.Proofs.Ytkfemiloehkmhaa.T
set_option linter.unusedVariables false
set_option maxRecDepth 100000

/-! 97 delayslot/effect.Reads$1 -/
def qs97 : Nat → List (Nat × Nat) := fun i => match i with | _ => []
noncomputable def c97 : Code := bodyOf Try.f97
theorem cf97 (w0 : World) (m : AM) (x0 : Int) (R : Value → AM → Prop) (h :
 IntKind.i64 = IntKind.i64 ∧ RetP R (.bool ((x0 : Int) == 0)) m) : CallsA Try.prog w0 97 #[.int .i64 x0] m R :=
  callsA_of (c := c97) (args := [.int .i64 x0]) (by kernel_rfl) Try.func97 (by kernel_rfl) qs97 (by kernel_rfl) (by kernel_rfl) (cast (by kernel_rfl) h)

/-! 92 delayslot/effect.Acts -/
def qs92 : Nat → List (Nat × Nat) := fun i => match i with | _ => []
noncomputable def c92 : Code := bodyOf Try.f92
theorem cf92 (w0 : World) (m : AM) (x0_0 : Int) (x0_1 : Int) (x0_2 : Int) (x0_3 : Int) (x0_4 : Int) (R : Value → AM → Prop) (h :
 ∀ b1 : Nat, w0.heap.size ≤ b1 → m b1 = none → let m2 := AM.upd m b1 (.cells #[.int .i64 x0_0, .int .i64 x0_1, .int .i64 x0_2, .int .i64 x0_3, .int .i64 x0_4] 24);
 ∃ i3 : Int, m2.cell ⟨b1, 0, none⟩ = some (.int .i64 i3) ∧ 
 IntKind.i64 = IntKind.i64 ∧ (bcase ((i3 : Int) == 4) (
 (bcase ((i3 : Int) == 4) (
 ∃ i4 : Int, m2.cell ⟨b1, 0, none⟩ = some (.int .i64 i4) ∧ ∃ i5 : Int, m2.cell ⟨b1, 1, none⟩ = some (.int .i64 i5) ∧ ∃ i6 : Int, m2.cell ⟨b1, 2, none⟩ = some (.int .i64 i6) ∧ ∃ i7 : Int, m2.cell ⟨b1, 3, none⟩ = some (.int .i64 i7) ∧ ∃ i8 : Int, m2.cell ⟨b1, 4, none⟩ = some (.int .i64 i8) ∧ 
 CallsA Try.prog w0 45 #[.agg #[.int .i64 i4, .int .i64 i5, .int .i64 i6, .int .i64 i7, .int .i64 i8]] m2 fun r10 m11 =>
 ∃ t9 : Bool, r10 = .bool t9 ∧ RetP R (.bool t9) m11) (
 RetP R (.bool false) m2))) (
 IntKind.i64 = IntKind.i64 ∧ (bcase ((i3 : Int) == 5) (
 (bcase ((i3 : Int) == 5) (
 ∃ i12 : Int, m2.cell ⟨b1, 0, none⟩ = some (.int .i64 i12) ∧ ∃ i13 : Int, m2.cell ⟨b1, 1, none⟩ = some (.int .i64 i13) ∧ ∃ i14 : Int, m2.cell ⟨b1, 2, none⟩ = some (.int .i64 i14) ∧ ∃ i15 : Int, m2.cell ⟨b1, 3, none⟩ = some (.int .i64 i15) ∧ ∃ i16 : Int, m2.cell ⟨b1, 4, none⟩ = some (.int .i64 i16) ∧ 
 CallsA Try.prog w0 45 #[.agg #[.int .i64 i12, .int .i64 i13, .int .i64 i14, .int .i64 i15, .int .i64 i16]] m2 fun r18 m19 =>
 ∃ t17 : Bool, r18 = .bool t17 ∧ RetP R (.bool t17) m19) (
 RetP R (.bool false) m2))) (
 IntKind.i64 = IntKind.i64 ∧ (bcase ((i3 : Int) == 12) (
 (bcase ((i3 : Int) == 12) (
 ∃ i20 : Int, m2.cell ⟨b1, 0, none⟩ = some (.int .i64 i20) ∧ ∃ i21 : Int, m2.cell ⟨b1, 1, none⟩ = some (.int .i64 i21) ∧ ∃ i22 : Int, m2.cell ⟨b1, 2, none⟩ = some (.int .i64 i22) ∧ ∃ i23 : Int, m2.cell ⟨b1, 3, none⟩ = some (.int .i64 i23) ∧ ∃ i24 : Int, m2.cell ⟨b1, 4, none⟩ = some (.int .i64 i24) ∧ 
 CallsA Try.prog w0 45 #[.agg #[.int .i64 i20, .int .i64 i21, .int .i64 i22, .int .i64 i23, .int .i64 i24]] m2 fun r26 m27 =>
 ∃ t25 : Bool, r26 = .bool t25 ∧ RetP R (.bool t25) m27) (
 RetP R (.bool false) m2))) (
 IntKind.i64 = IntKind.i64 ∧ (bcase ((i3 : Int) == 13) (
 (bcase ((i3 : Int) == 13) (
 ∃ i28 : Int, m2.cell ⟨b1, 0, none⟩ = some (.int .i64 i28) ∧ ∃ i29 : Int, m2.cell ⟨b1, 1, none⟩ = some (.int .i64 i29) ∧ ∃ i30 : Int, m2.cell ⟨b1, 2, none⟩ = some (.int .i64 i30) ∧ ∃ i31 : Int, m2.cell ⟨b1, 3, none⟩ = some (.int .i64 i31) ∧ ∃ i32 : Int, m2.cell ⟨b1, 4, none⟩ = some (.int .i64 i32) ∧ 
 CallsA Try.prog w0 45 #[.agg #[.int .i64 i28, .int .i64 i29, .int .i64 i30, .int .i64 i31, .int .i64 i32]] m2 fun r34 m35 =>
 ∃ t33 : Bool, r34 = .bool t33 ∧ RetP R (.bool t33) m35) (
 RetP R (.bool false) m2))) (
 IntKind.i64 = IntKind.i64 ∧ (bcase ((i3 : Int) == 14) (
 (bcase ((i3 : Int) == 14) (
 ∃ i36 : Int, m2.cell ⟨b1, 0, none⟩ = some (.int .i64 i36) ∧ ∃ i37 : Int, m2.cell ⟨b1, 1, none⟩ = some (.int .i64 i37) ∧ ∃ i38 : Int, m2.cell ⟨b1, 2, none⟩ = some (.int .i64 i38) ∧ ∃ i39 : Int, m2.cell ⟨b1, 3, none⟩ = some (.int .i64 i39) ∧ ∃ i40 : Int, m2.cell ⟨b1, 4, none⟩ = some (.int .i64 i40) ∧ 
 CallsA Try.prog w0 45 #[.agg #[.int .i64 i36, .int .i64 i37, .int .i64 i38, .int .i64 i39, .int .i64 i40]] m2 fun r42 m43 =>
 ∃ t41 : Bool, r42 = .bool t41 ∧ RetP R (.bool t41) m43) (
 RetP R (.bool false) m2))) (
 IntKind.i64 = IntKind.i64 ∧ (bcase ((i3 : Int) == 20) (
 ∃ i44 : Int, m2.cell ⟨b1, 0, none⟩ = some (.int .i64 i44) ∧ ∃ i45 : Int, m2.cell ⟨b1, 1, none⟩ = some (.int .i64 i45) ∧ ∃ i46 : Int, m2.cell ⟨b1, 2, none⟩ = some (.int .i64 i46) ∧ ∃ i47 : Int, m2.cell ⟨b1, 3, none⟩ = some (.int .i64 i47) ∧ ∃ i48 : Int, m2.cell ⟨b1, 4, none⟩ = some (.int .i64 i48) ∧ 
 CallsA Try.prog w0 45 #[.agg #[.int .i64 i44, .int .i64 i45, .int .i64 i46, .int .i64 i47, .int .i64 i48]] m2 fun r50 m51 =>
 ∃ t49 : Bool, r50 = .bool t49 ∧ RetP R (.bool t49) m51) (
 RetP R (.bool false) m2))))))))))))) : CallsA Try.prog w0 92 #[.agg #[.int .i64 x0_0, .int .i64 x0_1, .int .i64 x0_2, .int .i64 x0_3, .int .i64 x0_4]] m R :=
  callsA_of (c := c92) (args := [.agg #[.int .i64 x0_0, .int .i64 x0_1, .int .i64 x0_2, .int .i64 x0_3, .int .i64 x0_4]]) (by kernel_rfl) Try.func92 (by kernel_rfl) qs92 (by kernel_rfl) (by kernel_rfl) (cast (by kernel_rfl) h)

/-! 52 delayslot/effect.Goes -/
def qs52 : Nat → List (Nat × Nat) := fun i => match i with | _ => []
noncomputable def c52 : Code := bodyOf Try.f52
theorem cf52 (w0 : World) (m : AM) (x0_0 : Int) (x0_1 : Int) (x0_2 : Int) (x0_3 : Int) (x0_4 : Int) (R : Value → AM → Prop) (h :
 ∀ b1 : Nat, w0.heap.size ≤ b1 → m b1 = none → let m2 := AM.upd m b1 (.cells #[.int .i64 x0_0, .int .i64 x0_1, .int .i64 x0_2, .int .i64 x0_3, .int .i64 x0_4] 24);
 ∃ i3 : Int, m2.cell ⟨b1, 0, none⟩ = some (.int .i64 i3) ∧ 
 IntKind.i64 = IntKind.i64 ∧ (bcase ((i3 : Int) == 15) (
 (bcase ((i3 : Int) == 15) (
 ∃ i4 : Int, m2.cell ⟨b1, 0, none⟩ = some (.int .i64 i4) ∧ ∃ i5 : Int, m2.cell ⟨b1, 1, none⟩ = some (.int .i64 i5) ∧ ∃ i6 : Int, m2.cell ⟨b1, 2, none⟩ = some (.int .i64 i6) ∧ ∃ i7 : Int, m2.cell ⟨b1, 3, none⟩ = some (.int .i64 i7) ∧ ∃ i8 : Int, m2.cell ⟨b1, 4, none⟩ = some (.int .i64 i8) ∧ 
 CallsA Try.prog w0 45 #[.agg #[.int .i64 i4, .int .i64 i5, .int .i64 i6, .int .i64 i7, .int .i64 i8]] m2 fun r10 m11 =>
 ∃ t9 : Bool, r10 = .bool t9 ∧ RetP R (.bool t9) m11) (
 RetP R (.bool false) m2))) (
 IntKind.i64 = IntKind.i64 ∧ (bcase ((i3 : Int) == 16) (
 (bcase ((i3 : Int) == 16) (
 ∃ i12 : Int, m2.cell ⟨b1, 0, none⟩ = some (.int .i64 i12) ∧ ∃ i13 : Int, m2.cell ⟨b1, 1, none⟩ = some (.int .i64 i13) ∧ ∃ i14 : Int, m2.cell ⟨b1, 2, none⟩ = some (.int .i64 i14) ∧ ∃ i15 : Int, m2.cell ⟨b1, 3, none⟩ = some (.int .i64 i15) ∧ ∃ i16 : Int, m2.cell ⟨b1, 4, none⟩ = some (.int .i64 i16) ∧ 
 CallsA Try.prog w0 45 #[.agg #[.int .i64 i12, .int .i64 i13, .int .i64 i14, .int .i64 i15, .int .i64 i16]] m2 fun r18 m19 =>
 ∃ t17 : Bool, r18 = .bool t17 ∧ RetP R (.bool t17) m19) (
 RetP R (.bool false) m2))) (
 IntKind.i64 = IntKind.i64 ∧ (bcase ((i3 : Int) == 17) (
 (bcase ((i3 : Int) == 17) (
 ∃ i20 : Int, m2.cell ⟨b1, 0, none⟩ = some (.int .i64 i20) ∧ ∃ i21 : Int, m2.cell ⟨b1, 1, none⟩ = some (.int .i64 i21) ∧ ∃ i22 : Int, m2.cell ⟨b1, 2, none⟩ = some (.int .i64 i22) ∧ ∃ i23 : Int, m2.cell ⟨b1, 3, none⟩ = some (.int .i64 i23) ∧ ∃ i24 : Int, m2.cell ⟨b1, 4, none⟩ = some (.int .i64 i24) ∧ 
 CallsA Try.prog w0 45 #[.agg #[.int .i64 i20, .int .i64 i21, .int .i64 i22, .int .i64 i23, .int .i64 i24]] m2 fun r26 m27 =>
 ∃ t25 : Bool, r26 = .bool t25 ∧ RetP R (.bool t25) m27) (
 RetP R (.bool false) m2))) (
 IntKind.i64 = IntKind.i64 ∧ (bcase ((i3 : Int) == 18) (
 (bcase ((i3 : Int) == 18) (
 ∃ i28 : Int, m2.cell ⟨b1, 0, none⟩ = some (.int .i64 i28) ∧ ∃ i29 : Int, m2.cell ⟨b1, 1, none⟩ = some (.int .i64 i29) ∧ ∃ i30 : Int, m2.cell ⟨b1, 2, none⟩ = some (.int .i64 i30) ∧ ∃ i31 : Int, m2.cell ⟨b1, 3, none⟩ = some (.int .i64 i31) ∧ ∃ i32 : Int, m2.cell ⟨b1, 4, none⟩ = some (.int .i64 i32) ∧ 
 CallsA Try.prog w0 45 #[.agg #[.int .i64 i28, .int .i64 i29, .int .i64 i30, .int .i64 i31, .int .i64 i32]] m2 fun r34 m35 =>
 ∃ t33 : Bool, r34 = .bool t33 ∧ RetP R (.bool t33) m35) (
 RetP R (.bool false) m2))) (
 IntKind.i64 = IntKind.i64 ∧ (bcase ((i3 : Int) == 19) (
 ∃ i36 : Int, m2.cell ⟨b1, 0, none⟩ = some (.int .i64 i36) ∧ ∃ i37 : Int, m2.cell ⟨b1, 1, none⟩ = some (.int .i64 i37) ∧ ∃ i38 : Int, m2.cell ⟨b1, 2, none⟩ = some (.int .i64 i38) ∧ ∃ i39 : Int, m2.cell ⟨b1, 3, none⟩ = some (.int .i64 i39) ∧ ∃ i40 : Int, m2.cell ⟨b1, 4, none⟩ = some (.int .i64 i40) ∧ 
 CallsA Try.prog w0 45 #[.agg #[.int .i64 i36, .int .i64 i37, .int .i64 i38, .int .i64 i39, .int .i64 i40]] m2 fun r42 m43 =>
 ∃ t41 : Bool, r42 = .bool t41 ∧ RetP R (.bool t41) m43) (
 RetP R (.bool false) m2))))))))))) : CallsA Try.prog w0 52 #[.agg #[.int .i64 x0_0, .int .i64 x0_1, .int .i64 x0_2, .int .i64 x0_3, .int .i64 x0_4]] m R :=
  callsA_of (c := c52) (args := [.agg #[.int .i64 x0_0, .int .i64 x0_1, .int .i64 x0_2, .int .i64 x0_3, .int .i64 x0_4]]) (by kernel_rfl) Try.func52 (by kernel_rfl) qs52 (by kernel_rfl) (by kernel_rfl) (cast (by kernel_rfl) h)

/-! 48 delayslot/effect.Touches -/
noncomputable def c48 : Code := bodyOf Try.f48
/-! 81 slices.Contains[[]int,int] -/
def qs81 : Nat → List (Nat × Nat) := fun i => match i with | _ => []
noncomputable def c81 : Code := bodyOf Try.f81
theorem cf81 (w0 : World) (m : AM) (x0 : Option Addr) (x0n x0c : Nat) (x1 : Int) (R : Value → AM → Prop) (h :
 CallsA Try.prog w0 96 #[.slice x0 x0n x0c, .int .i64 x1] m fun r2 m3 =>
 ∃ i1 : Int, r2 = .int .i64 i1 ∧ IntKind.i64 = IntKind.i64 ∧ RetP R (.bool (decide ((i1 : Int) ≥ 0))) m3) : CallsA Try.prog w0 81 #[.slice x0 x0n x0c, .int .i64 x1] m R :=
  callsA_of (c := c81) (args := [.slice x0 x0n x0c, .int .i64 x1]) (by kernel_rfl) Try.func81 (by kernel_rfl) qs81 (by kernel_rfl) (by kernel_rfl) (cast (by kernel_rfl) h)

/-! 96 slices.Index[[]int,int] -/
def qs96 : Nat → List (Nat × Nat) := fun i => match i with | _ => []
noncomputable def c96 : Code := bodyOf Try.f96
theorem cf96 (w0 : World) (m : AM) (x0 : Option Addr) (x0n x0c : Nat) (x1 : Int) (R : Value → AM → Prop) (h :
 vcS Try.prog w0 qs96 (sub c96 [1, 0, 1, 0]) (upd (upd (upd (upd (argS [.slice x0 x0n x0c, .int .i64 x1]) 4 (.int .i64 0)) 6 (.slice x0 x0n x0c)) 7 (.int .i64 ((x0n : Nat) : Int))) 8 (.int .i64 0)) m (blockS 0 (thenS (fun σ m => vcS Try.prog w0 qs96 (sub c96 [1, 1]) σ m (retQ Try.prog Try.f96 R)) (retQ Try.prog Try.f96 R)))) : CallsA Try.prog w0 96 #[.slice x0 x0n x0c, .int .i64 x1] m R :=
  callsA_of (c := c96) (args := [.slice x0 x0n x0c, .int .i64 x1]) (by kernel_rfl) Try.func96 (by kernel_rfl) qs96 (by kernel_rfl) (by kernel_rfl) (cast (by kernel_rfl) h)
def lq96_1010 (R : Value → AM → Prop) (x0 : Option Addr) (x0n x0c : Nat) (x1 : Int) (x7 : Int) (I0 : Nat → Int → AM → Prop) (E0_0 : AM → Prop) (n0 : Nat) : Exit → Sg → AM → Prop
  | .normal, σ, m => σ 0 = .slice x0 x0n x0c ∧ σ 1 = .int .i64 x1 ∧ σ 7 = .int .i64 x7 ∧ okI .i64 (σ 8) = true ∧ ∃ n' : Nat, n' < n0 ∧ I0 n' (vI (σ 8)) m
  | .exit id, σ, m => if id = 0 then σ 0 = .slice x0 x0n x0c ∧ σ 1 = .int .i64 x1 ∧ σ 7 = .int .i64 x7 ∧ E0_0  m else False
  | .ret, σ, m => retQ Try.prog Try.f96 R .ret σ m
  | _, _, _ => False
theorem vl96_1010 (w0 : World) (m : AM) (σ : Sg) (R : Value → AM → Prop)  (x0 : Option Addr) (x0n x0c : Nat) (x1 : Int) (x7 : Int) (x8 : Int) (I0 : Nat → Int → AM → Prop) (E0_0 : AM → Prop) (N : Nat) (h0 : σ 0 = .slice x0 x0n x0c) (h1 : σ 1 = .int .i64 x1) (h7 : σ 7 = .int .i64 x7) (h8 : σ 8 = .int .i64 x8)
 (h_0 : I0 N x8 m)
 (h_s : ∀ (n0 : Nat) (σ : Sg) (x8 : Int) (m : AM), I0 n0 x8 m → (
 IntKind.i64 = IntKind.i64 ∧ (bcase (decide ((x8 : Int) < x7)) (
 ((0 : Int) ≤ x8 ∧ x8 < ((x0n : Nat) : Int)) ∧ nilO x0 fun a1 =>
 ∃ i2 : Int, m.cell (a1.add ((x8 : Int).toNat * 1)) = some (.int .i64 i2) ∧ 
 IntKind.i64 = IntKind.i64 ∧ (bcase ((x1 : Int) == i2) (
 RetP R (.int .i64 x8) m) (
 IntKind.i64 = IntKind.i64 ∧ (.slice x0 x0n x0c : Value) = .slice x0 x0n x0c ∧ (.int .i64 x1 : Value) = .int .i64 x1 ∧ (.int .i64 x7 : Value) = .int .i64 x7 ∧ true = true ∧ ∃ n' : Nat, n' < n0 ∧ I0 n' (IntKind.wrap .i64 (x8 + 1)) m))) (
 (.slice x0 x0n x0c : Value) = .slice x0 x0n x0c ∧ (.int .i64 x1 : Value) = .int .i64 x1 ∧ (.int .i64 x7 : Value) = .int .i64 x7 ∧ E0_0  m))))
 (h_e0 : ∀ (σ : Sg)  (m : AM), E0_0  m → (
 RetP R (.int .i64 (-1)) m)) :
 vcS Try.prog w0 qs96 (sub c96 [1, 0, 1, 0]) σ m (blockS 0 (thenS (fun σ m => vcS Try.prog w0 qs96 (sub c96 [1, 1]) σ m (retQ Try.prog Try.f96 R)) (retQ Try.prog Try.f96 R))) := by
  rw [show sub c96 [1, 0, 1, 0] = .loop (sub c96 [1, 0, 1, 0, 0]) from by kernel_rfl]
  refine loopQ (fun n0 σ m => σ 0 = .slice x0 x0n x0c ∧ σ 1 = .int .i64 x1 ∧ σ 7 = .int .i64 x7 ∧ okI .i64 (σ 8) = true ∧ I0 n0 (vI (σ 8)) m) N (fun n0 => (lq96_1010 R x0 x0n x0c x1 x7 I0 E0_0 n0)) ⟨h0, h1, h7, (by rw [h8]; rfl), (by rw [h8]; exact h_0)⟩ ?_ ?_ ?_
  · rintro n0 σ m ⟨kk0, kk1, kk2, kk3, n', hlt, hI⟩; exact ⟨n', hlt, kk0, kk1, kk2, kk3, hI⟩
  · intro n0 e σ m hne h
    cases e with
    | normal => exact absurd rfl hne
    | ret => exact h
    | exit id =>
      by_cases e0 : id = 0
      · subst e0
        obtain ⟨kk0, kk1, kk2, hE⟩ := h
        have es : (upd (upd (upd σ 0 (.slice x0 x0n x0c)) 1 (.int .i64 x1)) 7 (.int .i64 x7)) = σ := by rw [upd_id kk0, upd_id kk1, upd_id kk2]
        exact cast (congrArg (fun s => (blockS 0 (thenS (fun σ m => vcS Try.prog w0 qs96 (sub c96 [1, 1]) σ m (retQ Try.prog Try.f96 R)) (retQ Try.prog Try.f96 R))) (.exit 0) s m) es) (cast (by kernel_rfl) (h_e0 σ  m hE))
      · replace h := (if_neg e0 : (if id = 0 then _ else _) = _).mp h
        exact False.elim h
    | _ => exact False.elim h
  · rintro n0 σ m ⟨kk0, kk1, kk2, kk3, hI⟩
    have es : (upd (upd (upd (upd σ 0 (.slice x0 x0n x0c)) 1 (.int .i64 x1)) 7 (.int .i64 x7)) 8 (.int .i64 (vI (σ 8)))) = σ := by rw [upd_id kk0, upd_id kk1, upd_id kk2, upd_id (ok_int kk3)]
    exact cast (congrArg (fun s => vcS Try.prog w0 qs96 (sub c96 [1, 0, 1, 0, 0]) s m (lq96_1010 R x0 x0n x0c x1 x7 I0 E0_0 n0)) es) (cast (by kernel_rfl) (h_s n0 σ (vI (σ 8)) m hI))

/-! 84 slices.IndexFunc[[]int,int] -/
def qs84 : Nat → List (Nat × Nat) := fun i => match i with | _ => []
noncomputable def c84 : Code := bodyOf Try.f84
theorem cf84 (w0 : World) (m : AM) (x0 : Option Addr) (x0n x0c : Nat)  (R : Value → AM → Prop) (h :
 vcS Try.prog w0 qs84 (sub c84 [1, 0, 1, 0]) (upd (upd (upd (upd (argS [.slice x0 x0n x0c, .func (.func 97) #[] #[]]) 4 (.int .i64 0)) 6 (.slice x0 x0n x0c)) 7 (.int .i64 ((x0n : Nat) : Int))) 8 (.int .i64 0)) m (blockS 0 (thenS (fun σ m => vcS Try.prog w0 qs84 (sub c84 [1, 1]) σ m (retQ Try.prog Try.f84 R)) (retQ Try.prog Try.f84 R)))) : CallsA Try.prog w0 84 #[.slice x0 x0n x0c, .func (.func 97) #[] #[]] m R :=
  callsA_of (c := c84) (args := [.slice x0 x0n x0c, .func (.func 97) #[] #[]]) (by kernel_rfl) Try.func84 (by kernel_rfl) qs84 (by kernel_rfl) (by kernel_rfl) (cast (by kernel_rfl) h)
def lq84_1010 (R : Value → AM → Prop) (x0 : Option Addr) (x0n x0c : Nat) (x7 : Int) (I0 : Nat → Int → AM → Prop) (E0_0 : AM → Prop) (n0 : Nat) : Exit → Sg → AM → Prop
  | .normal, σ, m => σ 0 = .slice x0 x0n x0c ∧ σ 1 = .func (.func 97) #[] #[] ∧ σ 7 = .int .i64 x7 ∧ okI .i64 (σ 8) = true ∧ ∃ n' : Nat, n' < n0 ∧ I0 n' (vI (σ 8)) m
  | .exit id, σ, m => if id = 0 then σ 0 = .slice x0 x0n x0c ∧ σ 1 = .func (.func 97) #[] #[] ∧ σ 7 = .int .i64 x7 ∧ E0_0  m else False
  | .ret, σ, m => retQ Try.prog Try.f84 R .ret σ m
  | _, _, _ => False
theorem vl84_1010 (w0 : World) (m : AM) (σ : Sg) (R : Value → AM → Prop)  (x0 : Option Addr) (x0n x0c : Nat) (x7 : Int) (x8 : Int) (I0 : Nat → Int → AM → Prop) (E0_0 : AM → Prop) (N : Nat) (h0 : σ 0 = .slice x0 x0n x0c) (h1 : σ 1 = .func (.func 97) #[] #[]) (h7 : σ 7 = .int .i64 x7) (h8 : σ 8 = .int .i64 x8)
 (h_0 : I0 N x8 m)
 (h_s : ∀ (n0 : Nat) (σ : Sg) (x8 : Int) (m : AM), I0 n0 x8 m → (
 IntKind.i64 = IntKind.i64 ∧ (bcase (decide ((x8 : Int) < x7)) (
 ((0 : Int) ≤ x8 ∧ x8 < ((x0n : Nat) : Int)) ∧ nilO x0 fun a1 =>
 ∃ i2 : Int, m.cell (a1.add ((x8 : Int).toNat * 1)) = some (.int .i64 i2) ∧ 
 CallsA Try.prog w0 97 #[.int .i64 i2] m fun r4 m5 =>
 ∃ t3 : Bool, r4 = .bool t3 ∧ (bcase t3 (
 RetP R (.int .i64 x8) m5) (
 IntKind.i64 = IntKind.i64 ∧ (.slice x0 x0n x0c : Value) = .slice x0 x0n x0c ∧ (.func (.func 97) #[] #[] : Value) = .func (.func 97) #[] #[] ∧ (.int .i64 x7 : Value) = .int .i64 x7 ∧ true = true ∧ ∃ n' : Nat, n' < n0 ∧ I0 n' (IntKind.wrap .i64 (x8 + 1)) m5))) (
 (.slice x0 x0n x0c : Value) = .slice x0 x0n x0c ∧ (.func (.func 97) #[] #[] : Value) = .func (.func 97) #[] #[] ∧ (.int .i64 x7 : Value) = .int .i64 x7 ∧ E0_0  m))))
 (h_e0 : ∀ (σ : Sg)  (m : AM), E0_0  m → (
 RetP R (.int .i64 (-1)) m)) :
 vcS Try.prog w0 qs84 (sub c84 [1, 0, 1, 0]) σ m (blockS 0 (thenS (fun σ m => vcS Try.prog w0 qs84 (sub c84 [1, 1]) σ m (retQ Try.prog Try.f84 R)) (retQ Try.prog Try.f84 R))) := by
  rw [show sub c84 [1, 0, 1, 0] = .loop (sub c84 [1, 0, 1, 0, 0]) from by kernel_rfl]
  refine loopQ (fun n0 σ m => σ 0 = .slice x0 x0n x0c ∧ σ 1 = .func (.func 97) #[] #[] ∧ σ 7 = .int .i64 x7 ∧ okI .i64 (σ 8) = true ∧ I0 n0 (vI (σ 8)) m) N (fun n0 => (lq84_1010 R x0 x0n x0c x7 I0 E0_0 n0)) ⟨h0, h1, h7, (by rw [h8]; rfl), (by rw [h8]; exact h_0)⟩ ?_ ?_ ?_
  · rintro n0 σ m ⟨kk0, kk1, kk2, kk3, n', hlt, hI⟩; exact ⟨n', hlt, kk0, kk1, kk2, kk3, hI⟩
  · intro n0 e σ m hne h
    cases e with
    | normal => exact absurd rfl hne
    | ret => exact h
    | exit id =>
      by_cases e0 : id = 0
      · subst e0
        obtain ⟨kk0, kk1, kk2, hE⟩ := h
        have es : (upd (upd (upd σ 0 (.slice x0 x0n x0c)) 1 (.func (.func 97) #[] #[])) 7 (.int .i64 x7)) = σ := by rw [upd_id kk0, upd_id kk1, upd_id kk2]
        exact cast (congrArg (fun s => (blockS 0 (thenS (fun σ m => vcS Try.prog w0 qs84 (sub c84 [1, 1]) σ m (retQ Try.prog Try.f84 R)) (retQ Try.prog Try.f84 R))) (.exit 0) s m) es) (cast (by kernel_rfl) (h_e0 σ  m hE))
      · replace h := (if_neg e0 : (if id = 0 then _ else _) = _).mp h
        exact False.elim h
    | _ => exact False.elim h
  · rintro n0 σ m ⟨kk0, kk1, kk2, kk3, hI⟩
    have es : (upd (upd (upd (upd σ 0 (.slice x0 x0n x0c)) 1 (.func (.func 97) #[] #[])) 7 (.int .i64 x7)) 8 (.int .i64 (vI (σ 8)))) = σ := by rw [upd_id kk0, upd_id kk1, upd_id kk2, upd_id (ok_int kk3)]
    exact cast (congrArg (fun s => vcS Try.prog w0 qs84 (sub c84 [1, 0, 1, 0, 0]) s m (lq84_1010 R x0 x0n x0c x7 I0 E0_0 n0)) es) (cast (by kernel_rfl) (h_s n0 σ (vI (σ 8)) m hI))

/-! 53 slices.DeleteFunc[[]int,int] -/
def qs53 : Nat → List (Nat × Nat) := fun i => match i with | _ => []
noncomputable def c53 : Code := bodyOf Try.f53
theorem cf53 (w0 : World) (m : AM) (x0 : Option Addr) (x0n x0c : Nat)  (R : Value → AM → Prop) (h :
 CallsA Try.prog w0 84 #[.slice x0 x0n x0c, .func (.func 97) #[] #[]] m fun r2 m3 =>
 ∃ i1 : Int, r2 = .int .i64 i1 ∧ IntKind.i64 = IntKind.i64 ∧ (bcase ((i1 : Int) == (-1)) (
 RetP R (.slice x0 x0n x0c) m3) (
 IntKind.i64 = IntKind.i64 ∧ vcS Try.prog w0 qs53 (sub c53 [1, 1, 1, 0, 1, 0]) (upd (upd (upd (upd (upd (upd (upd (upd (upd (upd (argS [.slice x0 x0n x0c, .func (.func 97) #[] #[]]) 4 (.slice none 0 0)) 8 (.slice x0 x0n x0c)) 9 (.func (.func 97) #[] #[])) 10 (.int .i64 i1)) 5 (.int .i64 i1)) 11 (.int .i64 i1)) 12 (.bool ((i1 : Int) == (-1)))) 14 (.int .i64 i1)) 15 (.int .i64 (IntKind.wrap .i64 (i1 + 1)))) 6 (.int .i64 (IntKind.wrap .i64 (i1 + 1)))) m3 (blockS 0 (thenS (fun σ m => vcS Try.prog w0 qs53 (sub c53 [1, 1, 1, 1]) σ m (retQ Try.prog Try.f53 R)) (retQ Try.prog Try.f53 R)))))) : CallsA Try.prog w0 53 #[.slice x0 x0n x0c, .func (.func 97) #[] #[]] m R :=
  callsA_of (c := c53) (args := [.slice x0 x0n x0c, .func (.func 97) #[] #[]]) (by kernel_rfl) Try.func53 (by kernel_rfl) qs53 (by kernel_rfl) (by kernel_rfl) (cast (by kernel_rfl) h)
def lq53_111010 (R : Value → AM → Prop) (x0 : Option Addr) (x0n x0c : Nat) (I0 : Nat → Int → Int → AM → Prop) (E0_0 : Int → AM → Prop) (n0 : Nat) : Exit → Sg → AM → Prop
  | .normal, σ, m => σ 0 = .slice x0 x0n x0c ∧ σ 1 = .func (.func 97) #[] #[] ∧ okI .i64 (σ 5) = true ∧ okI .i64 (σ 6) = true ∧ ∃ n' : Nat, n' < n0 ∧ I0 n' (vI (σ 5)) (vI (σ 6)) m
  | .exit id, σ, m => if id = 0 then σ 0 = .slice x0 x0n x0c ∧ σ 1 = .func (.func 97) #[] #[] ∧ okI .i64 (σ 5) = true ∧ E0_0 (vI (σ 5)) m else False
  | .ret, σ, m => retQ Try.prog Try.f53 R .ret σ m
  | _, _, _ => False
theorem vl53_111010 (w0 : World) (m : AM) (σ : Sg) (R : Value → AM → Prop)  (x0 : Option Addr) (x0n x0c : Nat) (x5 : Int) (x6 : Int) (I0 : Nat → Int → Int → AM → Prop) (E0_0 : Int → AM → Prop) (N : Nat) (h0 : σ 0 = .slice x0 x0n x0c) (h1 : σ 1 = .func (.func 97) #[] #[]) (h5 : σ 5 = .int .i64 x5) (h6 : σ 6 = .int .i64 x6)
 (h_0 : I0 N x5 x6 m)
 (h_s : ∀ (n0 : Nat) (σ : Sg) (x5 : Int) (x6 : Int) (m : AM), I0 n0 x5 x6 m → (
 IntKind.i64 = IntKind.i64 ∧ (bcase (decide ((x6 : Int) < ((x0n : Nat) : Int))) (
 ((0 : Int) ≤ x6 ∧ x6 < ((x0n : Nat) : Int)) ∧ nilO x0 fun a4 =>
 ∃ i5 : Int, m.cell (a4.add ((x6 : Int).toNat * 1)) = some (.int .i64 i5) ∧ 
 CallsA Try.prog w0 97 #[.int .i64 i5] m fun r7 m8 =>
 ∃ t6 : Bool, r7 = .bool t6 ∧ (bcase (!t6) (
 ((0 : Int) ≤ x5 ∧ x5 < ((x0n : Nat) : Int)) ∧ nilO x0 fun a9 =>
 StC w0.heap.size m8 (a9.add ((x5 : Int).toNat * 1)) (.int .i64 i5) fun m10 =>
 IntKind.i64 = IntKind.i64 ∧ IntKind.i64 = IntKind.i64 ∧ (.slice x0 x0n x0c : Value) = .slice x0 x0n x0c ∧ (.func (.func 97) #[] #[] : Value) = .func (.func 97) #[] #[] ∧ true = true ∧ true = true ∧ ∃ n' : Nat, n' < n0 ∧ I0 n' (IntKind.wrap .i64 (x5 + 1)) (IntKind.wrap .i64 (x6 + 1)) m10) (
 IntKind.i64 = IntKind.i64 ∧ (.slice x0 x0n x0c : Value) = .slice x0 x0n x0c ∧ (.func (.func 97) #[] #[] : Value) = .func (.func 97) #[] #[] ∧ true = true ∧ true = true ∧ ∃ n' : Nat, n' < n0 ∧ I0 n' x5 (IntKind.wrap .i64 (x6 + 1)) m8))) (
 (.slice x0 x0n x0c : Value) = .slice x0 x0n x0c ∧ (.func (.func 97) #[] #[] : Value) = .func (.func 97) #[] #[] ∧ true = true ∧ E0_0 x5 m))))
 (h_e0 : ∀ (σ : Sg) (x5 : Int) (m : AM), E0_0 x5 m → (
 (0 : Int) ≤ x5 ∧ x0n ≤ x0c ∧ ((x5 : Int).toNat) ≤ x0n ∧
 awp Try.prog w0.heap.size (Builtin.clear_ #[30] 0 #[.slice (if x0c = ((x5 : Int).toNat) then x0 else Option.map (fun x => Addr.add x ((x5 : Int).toNat * 1)) x0) (x0n - ((x5 : Int).toNat)) (x0c - ((x5 : Int).toNat))]) m fun v11 m12 =>
 v11 = .tuple #[] ∧ (0 : Int) ≤ x5 ∧ ((x5 : Int).toNat) ≤ x0c ∧ 0 ≤ ((x5 : Int).toNat) ∧
 RetP R (.slice (if x0c = 0 then x0 else Option.map (fun x => Addr.add x (0 * 1)) x0) (((x5 : Int).toNat) - 0) (x0c - 0)) m12)) :
 vcS Try.prog w0 qs53 (sub c53 [1, 1, 1, 0, 1, 0]) σ m (blockS 0 (thenS (fun σ m => vcS Try.prog w0 qs53 (sub c53 [1, 1, 1, 1]) σ m (retQ Try.prog Try.f53 R)) (retQ Try.prog Try.f53 R))) := by
  rw [show sub c53 [1, 1, 1, 0, 1, 0] = .loop (sub c53 [1, 1, 1, 0, 1, 0, 0]) from by kernel_rfl]
  refine loopQ (fun n0 σ m => σ 0 = .slice x0 x0n x0c ∧ σ 1 = .func (.func 97) #[] #[] ∧ okI .i64 (σ 5) = true ∧ okI .i64 (σ 6) = true ∧ I0 n0 (vI (σ 5)) (vI (σ 6)) m) N (fun n0 => (lq53_111010 R x0 x0n x0c I0 E0_0 n0)) ⟨h0, h1, (by rw [h5]; rfl), (by rw [h6]; rfl), (by rw [h5, h6]; exact h_0)⟩ ?_ ?_ ?_
  · rintro n0 σ m ⟨kk0, kk1, kk2, kk3, n', hlt, hI⟩; exact ⟨n', hlt, kk0, kk1, kk2, kk3, hI⟩
  · intro n0 e σ m hne h
    cases e with
    | normal => exact absurd rfl hne
    | ret => exact h
    | exit id =>
      by_cases e0 : id = 0
      · subst e0
        obtain ⟨kk0, kk1, kk2, hE⟩ := h
        have es : (upd (upd (upd σ 0 (.slice x0 x0n x0c)) 1 (.func (.func 97) #[] #[])) 5 (.int .i64 (vI (σ 5)))) = σ := by rw [upd_id kk0, upd_id kk1, upd_id (ok_int kk2)]
        exact cast (congrArg (fun s => (blockS 0 (thenS (fun σ m => vcS Try.prog w0 qs53 (sub c53 [1, 1, 1, 1]) σ m (retQ Try.prog Try.f53 R)) (retQ Try.prog Try.f53 R))) (.exit 0) s m) es) (cast (by kernel_rfl) (h_e0 σ (vI (σ 5)) m hE))
      · replace h := (if_neg e0 : (if id = 0 then _ else _) = _).mp h
        exact False.elim h
    | _ => exact False.elim h
  · rintro n0 σ m ⟨kk0, kk1, kk2, kk3, hI⟩
    have es : (upd (upd (upd (upd σ 0 (.slice x0 x0n x0c)) 1 (.func (.func 97) #[] #[])) 5 (.int .i64 (vI (σ 5)))) 6 (.int .i64 (vI (σ 6)))) = σ := by rw [upd_id kk0, upd_id kk1, upd_id (ok_int kk2), upd_id (ok_int kk3)]
    exact cast (congrArg (fun s => vcS Try.prog w0 qs53 (sub c53 [1, 1, 1, 0, 1, 0, 0]) s m (lq53_111010 R x0 x0n x0c I0 E0_0 n0)) es) (cast (by kernel_rfl) (h_s n0 σ (vI (σ 5)) (vI (σ 6)) m hI))

/-! 98 slices.Compact[[]int,int] -/
def qs98 : Nat → List (Nat × Nat) := fun i => match i with | _ => []
noncomputable def c98 : Code := bodyOf Try.f98
theorem cf98 (w0 : World) (m : AM) (x0 : Option Addr) (x0n x0c : Nat) (R : Value → AM → Prop) (h :
 IntKind.i64 = IntKind.i64 ∧ (bcase (decide ((((x0n : Nat) : Int) : Int) < 2)) (
 RetP R (.slice x0 x0n x0c) m) (
 vcS Try.prog w0 qs98 (sub c98 [1, 1, 0, 1, 0]) (upd (upd (upd (upd (upd (argS [.slice x0 x0n x0c]) 2 (.slice none 0 0)) 6 (.slice x0 x0n x0c)) 7 (.int .i64 ((x0n : Nat) : Int))) 8 (.bool (decide ((((x0n : Nat) : Int) : Int) < 2)))) 3 (.int .i64 1)) m (blockS 0 (thenS (fun σ m => vcS Try.prog w0 qs98 (sub c98 [1, 1, 1]) σ m (retQ Try.prog Try.f98 R)) (retQ Try.prog Try.f98 R)))))) : CallsA Try.prog w0 98 #[.slice x0 x0n x0c] m R :=
  callsA_of (c := c98) (args := [.slice x0 x0n x0c]) (by kernel_rfl) Try.func98 (by kernel_rfl) qs98 (by kernel_rfl) (by kernel_rfl) (cast (by kernel_rfl) h)
def lq98_11010 (R : Value → AM → Prop) (x0 : Option Addr) (x0n x0c : Nat) (I0 : Nat → Int → AM → Prop) (E0_0 : AM → Prop) (n0 : Nat) : Exit → Sg → AM → Prop
  | .normal, σ, m => σ 0 = .slice x0 x0n x0c ∧ okI .i64 (σ 3) = true ∧ ∃ n' : Nat, n' < n0 ∧ I0 n' (vI (σ 3)) m
  | .exit id, σ, m => if id = 0 then σ 0 = .slice x0 x0n x0c ∧ E0_0  m else False
  | .ret, σ, m => retQ Try.prog Try.f98 R .ret σ m
  | _, _, _ => False
theorem vl98_11010 (w0 : World) (m : AM) (σ : Sg) (R : Value → AM → Prop)  (x0 : Option Addr) (x0n x0c : Nat) (x3 : Int) (I0 : Nat → Int → AM → Prop) (E0_0 : AM → Prop) (N : Nat) (h0 : σ 0 = .slice x0 x0n x0c) (h3 : σ 3 = .int .i64 x3)
 (h_0 : I0 N x3 m)
 (h_s : ∀ (n0 : Nat) (σ : Sg) (x3 : Int) (m : AM), I0 n0 x3 m → (
 IntKind.i64 = IntKind.i64 ∧ (bcase (decide ((x3 : Int) < ((x0n : Nat) : Int))) (
 ((0 : Int) ≤ x3 ∧ x3 < ((x0n : Nat) : Int)) ∧ nilO x0 fun a1 =>
 ∃ i2 : Int, m.cell (a1.add ((x3 : Int).toNat * 1)) = some (.int .i64 i2) ∧ 
 IntKind.i64 = IntKind.i64 ∧ ((0 : Int) ≤ (IntKind.wrap .i64 (x3 - 1)) ∧ (IntKind.wrap .i64 (x3 - 1)) < ((x0n : Nat) : Int)) ∧ nilO x0 fun a3 =>
 ∃ i4 : Int, m.cell (a3.add ((IntKind.wrap .i64 (x3 - 1) : Int).toNat * 1)) = some (.int .i64 i4) ∧ 
 IntKind.i64 = IntKind.i64 ∧ (bcase ((i2 : Int) == i4) (
 (0 : Int) ≤ x3 ∧ x0n ≤ x0c ∧ ((x3 : Int).toNat) ≤ x0n ∧
 vcS Try.prog w0 qs98 (sub c98 [1, 1, 0, 1, 0, 0, 1, 0, 0, 1, 0, 1, 0, 1, 0]) (upd (upd (upd (upd (upd (upd (upd (upd (upd (upd (upd (upd (upd (upd (upd (upd (upd (upd (upd (upd (upd σ 0 (.slice x0 x0n x0c)) 3 (.int .i64 x3)) 10 (.int .i64 x3)) 11 (.slice x0 x0n x0c)) 12 (.int .i64 ((x0n : Nat) : Int))) 13 (.bool (decide ((x3 : Int) < ((x0n : Nat) : Int))))) 16 (.slice x0 x0n x0c)) 17 (.int .i64 x3)) 18 (.pointer (some (a1.add ((x3 : Int).toNat * 1))))) 19 (.int .i64 i2)) 20 (.slice x0 x0n x0c)) 21 (.int .i64 x3)) 22 (.int .i64 (IntKind.wrap .i64 (x3 - 1)))) 23 (.pointer (some (a3.add ((IntKind.wrap .i64 (x3 - 1) : Int).toNat * 1))))) 24 (.int .i64 i4)) 25 (.bool ((i2 : Int) == i4))) 26 (.slice x0 x0n x0c)) 27 (.int .i64 x3)) 28 (.slice (if x0c = ((x3 : Int).toNat) then x0 else Option.map (fun x => Addr.add x ((x3 : Int).toNat * 1)) x0) (x0n - ((x3 : Int).toNat)) (x0c - ((x3 : Int).toNat)))) 4 (.slice (if x0c = ((x3 : Int).toNat) then x0 else Option.map (fun x => Addr.add x ((x3 : Int).toNat * 1)) x0) (x0n - ((x3 : Int).toNat)) (x0c - ((x3 : Int).toNat)))) 5 (.int .i64 1)) m (blockS 2 (thenS (fun σ m => vcS Try.prog w0 qs98 (sub c98 [1, 1, 0, 1, 0, 0, 1, 0, 0, 1, 0, 1, 1]) σ m (blockS 1 (thenS (fun σ m => vcS Try.prog w0 qs98 (sub c98 [1, 1, 0, 1, 0, 0, 1, 1]) σ m (lq98_11010 R x0 x0n x0c I0 E0_0 n0)) (lq98_11010 R x0 x0n x0c I0 E0_0 n0)))) (blockS 1 (thenS (fun σ m => vcS Try.prog w0 qs98 (sub c98 [1, 1, 0, 1, 0, 0, 1, 1]) σ m (lq98_11010 R x0 x0n x0c I0 E0_0 n0)) (lq98_11010 R x0 x0n x0c I0 E0_0 n0)))))) (
 IntKind.i64 = IntKind.i64 ∧ (.slice x0 x0n x0c : Value) = .slice x0 x0n x0c ∧ true = true ∧ ∃ n' : Nat, n' < n0 ∧ I0 n' (IntKind.wrap .i64 (x3 + 1)) m))) (
 (.slice x0 x0n x0c : Value) = .slice x0 x0n x0c ∧ E0_0  m))))
 (h_e0 : ∀ (σ : Sg)  (m : AM), E0_0  m → (
 RetP R (.slice x0 x0n x0c) m)) :
 vcS Try.prog w0 qs98 (sub c98 [1, 1, 0, 1, 0]) σ m (blockS 0 (thenS (fun σ m => vcS Try.prog w0 qs98 (sub c98 [1, 1, 1]) σ m (retQ Try.prog Try.f98 R)) (retQ Try.prog Try.f98 R))) := by
  rw [show sub c98 [1, 1, 0, 1, 0] = .loop (sub c98 [1, 1, 0, 1, 0, 0]) from by kernel_rfl]
  refine loopQ (fun n0 σ m => σ 0 = .slice x0 x0n x0c ∧ okI .i64 (σ 3) = true ∧ I0 n0 (vI (σ 3)) m) N (fun n0 => (lq98_11010 R x0 x0n x0c I0 E0_0 n0)) ⟨h0, (by rw [h3]; rfl), (by rw [h3]; exact h_0)⟩ ?_ ?_ ?_
  · rintro n0 σ m ⟨kk0, kk1, n', hlt, hI⟩; exact ⟨n', hlt, kk0, kk1, hI⟩
  · intro n0 e σ m hne h
    cases e with
    | normal => exact absurd rfl hne
    | ret => exact h
    | exit id =>
      by_cases e0 : id = 0
      · subst e0
        obtain ⟨kk0, hE⟩ := h
        have es : (upd σ 0 (.slice x0 x0n x0c)) = σ := by rw [upd_id kk0]
        exact cast (congrArg (fun s => (blockS 0 (thenS (fun σ m => vcS Try.prog w0 qs98 (sub c98 [1, 1, 1]) σ m (retQ Try.prog Try.f98 R)) (retQ Try.prog Try.f98 R))) (.exit 0) s m) es) (cast (by kernel_rfl) (h_e0 σ  m hE))
      · replace h := (if_neg e0 : (if id = 0 then _ else _) = _).mp h
        exact False.elim h
    | _ => exact False.elim h
  · rintro n0 σ m ⟨kk0, kk1, hI⟩
    have es : (upd (upd σ 0 (.slice x0 x0n x0c)) 3 (.int .i64 (vI (σ 3)))) = σ := by rw [upd_id kk0, upd_id (ok_int kk1)]
    exact cast (congrArg (fun s => vcS Try.prog w0 qs98 (sub c98 [1, 1, 0, 1, 0, 0]) s m (lq98_11010 R x0 x0n x0c I0 E0_0 n0)) es) (cast (by kernel_rfl) (h_s n0 σ (vI (σ 3)) m hI))
def lq98_110100100101010 (R : Value → AM → Prop) (x0 : Option Addr) (x0n x0c : Nat) (x4 : Option Addr) (x4n x4c : Nat) (I1 : Nat → Int → Int → AM → Prop) (E1_2 : Int → AM → Prop) (n1 : Nat) : Exit → Sg → AM → Prop
  | .normal, σ, m => σ 0 = .slice x0 x0n x0c ∧ σ 4 = .slice x4 x4n x4c ∧ okI .i64 (σ 3) = true ∧ okI .i64 (σ 5) = true ∧ ∃ n' : Nat, n' < n1 ∧ I1 n' (vI (σ 3)) (vI (σ 5)) m
  | .exit id, σ, m => if id = 2 then σ 0 = .slice x0 x0n x0c ∧ σ 4 = .slice x4 x4n x4c ∧ okI .i64 (σ 3) = true ∧ E1_2 (vI (σ 3)) m else False
  | .ret, σ, m => retQ Try.prog Try.f98 R .ret σ m
  | _, _, _ => False
theorem vl98_110100100101010 (w0 : World) (m : AM) (σ : Sg) (R : Value → AM → Prop) (n0 : Nat) (I0 : Nat → Int → AM → Prop) (E0_0 : AM → Prop) (x0 : Option Addr) (x0n x0c : Nat) (x4 : Option Addr) (x4n x4c : Nat) (x3 : Int) (x5 : Int) (I1 : Nat → Int → Int → AM → Prop) (E1_2 : Int → AM → Prop) (N : Nat) (h0 : σ 0 = .slice x0 x0n x0c) (h3 : σ 3 = .int .i64 x3) (h4 : σ 4 = .slice x4 x4n x4c) (h5 : σ 5 = .int .i64 x5)
 (h_0 : I1 N x3 x5 m)
 (h_s : ∀ (n1 : Nat) (σ : Sg) (x3 : Int) (x5 : Int) (m : AM), I1 n1 x3 x5 m → (
 IntKind.i64 = IntKind.i64 ∧ (bcase (decide ((x5 : Int) < ((x4n : Nat) : Int))) (
 ((0 : Int) ≤ x5 ∧ x5 < ((x4n : Nat) : Int)) ∧ nilO x4 fun a5 =>
 ∃ i6 : Int, m.cell (a5.add ((x5 : Int).toNat * 1)) = some (.int .i64 i6) ∧ 
 IntKind.i64 = IntKind.i64 ∧ ((0 : Int) ≤ (IntKind.wrap .i64 (x5 - 1)) ∧ (IntKind.wrap .i64 (x5 - 1)) < ((x4n : Nat) : Int)) ∧ nilO x4 fun a7 =>
 ∃ i8 : Int, m.cell (a7.add ((IntKind.wrap .i64 (x5 - 1) : Int).toNat * 1)) = some (.int .i64 i8) ∧ 
 IntKind.i64 = IntKind.i64 ∧ (bcase ((i6 : Int) != i8) (
 ((0 : Int) ≤ x5 ∧ x5 < ((x4n : Nat) : Int)) ∧ nilO x4 fun a9 =>
 ∃ i10 : Int, m.cell (a9.add ((x5 : Int).toNat * 1)) = some (.int .i64 i10) ∧ 
 ((0 : Int) ≤ x3 ∧ x3 < ((x0n : Nat) : Int)) ∧ nilO x0 fun a11 =>
 StC w0.heap.size m (a11.add ((x3 : Int).toNat * 1)) (.int .i64 i10) fun m12 =>
 IntKind.i64 = IntKind.i64 ∧ IntKind.i64 = IntKind.i64 ∧ (.slice x0 x0n x0c : Value) = .slice x0 x0n x0c ∧ (.slice x4 x4n x4c : Value) = .slice x4 x4n x4c ∧ true = true ∧ true = true ∧ ∃ n' : Nat, n' < n1 ∧ I1 n' (IntKind.wrap .i64 (x3 + 1)) (IntKind.wrap .i64 (x5 + 1)) m12) (
 IntKind.i64 = IntKind.i64 ∧ (.slice x0 x0n x0c : Value) = .slice x0 x0n x0c ∧ (.slice x4 x4n x4c : Value) = .slice x4 x4n x4c ∧ true = true ∧ true = true ∧ ∃ n' : Nat, n' < n1 ∧ I1 n' x3 (IntKind.wrap .i64 (x5 + 1)) m))) (
 (.slice x0 x0n x0c : Value) = .slice x0 x0n x0c ∧ (.slice x4 x4n x4c : Value) = .slice x4 x4n x4c ∧ true = true ∧ E1_2 x3 m))))
 (h_e2 : ∀ (σ : Sg) (x3 : Int) (m : AM), E1_2 x3 m → (
 (0 : Int) ≤ x3 ∧ x0n ≤ x0c ∧ ((x3 : Int).toNat) ≤ x0n ∧
 awp Try.prog w0.heap.size (Builtin.clear_ #[30] 0 #[.slice (if x0c = ((x3 : Int).toNat) then x0 else Option.map (fun x => Addr.add x ((x3 : Int).toNat * 1)) x0) (x0n - ((x3 : Int).toNat)) (x0c - ((x3 : Int).toNat))]) m fun v13 m14 =>
 v13 = .tuple #[] ∧ (0 : Int) ≤ x3 ∧ ((x3 : Int).toNat) ≤ x0c ∧ 0 ≤ ((x3 : Int).toNat) ∧
 RetP R (.slice (if x0c = 0 then x0 else Option.map (fun x => Addr.add x (0 * 1)) x0) (((x3 : Int).toNat) - 0) (x0c - 0)) m14)) :
 vcS Try.prog w0 qs98 (sub c98 [1, 1, 0, 1, 0, 0, 1, 0, 0, 1, 0, 1, 0, 1, 0]) σ m (blockS 2 (thenS (fun σ m => vcS Try.prog w0 qs98 (sub c98 [1, 1, 0, 1, 0, 0, 1, 0, 0, 1, 0, 1, 1]) σ m (blockS 1 (thenS (fun σ m => vcS Try.prog w0 qs98 (sub c98 [1, 1, 0, 1, 0, 0, 1, 1]) σ m (lq98_11010 R x0 x0n x0c I0 E0_0 n0)) (lq98_11010 R x0 x0n x0c I0 E0_0 n0)))) (blockS 1 (thenS (fun σ m => vcS Try.prog w0 qs98 (sub c98 [1, 1, 0, 1, 0, 0, 1, 1]) σ m (lq98_11010 R x0 x0n x0c I0 E0_0 n0)) (lq98_11010 R x0 x0n x0c I0 E0_0 n0))))) := by
  rw [show sub c98 [1, 1, 0, 1, 0, 0, 1, 0, 0, 1, 0, 1, 0, 1, 0] = .loop (sub c98 [1, 1, 0, 1, 0, 0, 1, 0, 0, 1, 0, 1, 0, 1, 0, 0]) from by kernel_rfl]
  refine loopQ (fun n1 σ m => σ 0 = .slice x0 x0n x0c ∧ σ 4 = .slice x4 x4n x4c ∧ okI .i64 (σ 3) = true ∧ okI .i64 (σ 5) = true ∧ I1 n1 (vI (σ 3)) (vI (σ 5)) m) N (fun n1 => (lq98_110100100101010 R x0 x0n x0c x4 x4n x4c I1 E1_2 n1)) ⟨h0, h4, (by rw [h3]; rfl), (by rw [h5]; rfl), (by rw [h3, h5]; exact h_0)⟩ ?_ ?_ ?_
  · rintro n1 σ m ⟨kk0, kk1, kk2, kk3, n', hlt, hI⟩; exact ⟨n', hlt, kk0, kk1, kk2, kk3, hI⟩
  · intro n1 e σ m hne h
    cases e with
    | normal => exact absurd rfl hne
    | ret => exact h
    | exit id =>
      by_cases e2 : id = 2
      · subst e2
        obtain ⟨kk0, kk1, kk2, hE⟩ := h
        have es : (upd (upd (upd σ 0 (.slice x0 x0n x0c)) 4 (.slice x4 x4n x4c)) 3 (.int .i64 (vI (σ 3)))) = σ := by rw [upd_id kk0, upd_id kk1, upd_id (ok_int kk2)]
        exact cast (congrArg (fun s => (blockS 2 (thenS (fun σ m => vcS Try.prog w0 qs98 (sub c98 [1, 1, 0, 1, 0, 0, 1, 0, 0, 1, 0, 1, 1]) σ m (blockS 1 (thenS (fun σ m => vcS Try.prog w0 qs98 (sub c98 [1, 1, 0, 1, 0, 0, 1, 1]) σ m (lq98_11010 R x0 x0n x0c I0 E0_0 n0)) (lq98_11010 R x0 x0n x0c I0 E0_0 n0)))) (blockS 1 (thenS (fun σ m => vcS Try.prog w0 qs98 (sub c98 [1, 1, 0, 1, 0, 0, 1, 1]) σ m (lq98_11010 R x0 x0n x0c I0 E0_0 n0)) (lq98_11010 R x0 x0n x0c I0 E0_0 n0))))) (.exit 2) s m) es) (cast (by kernel_rfl) (h_e2 σ (vI (σ 3)) m hE))
      · replace h := (if_neg e2 : (if id = 2 then _ else _) = _).mp h
        exact False.elim h
    | _ => exact False.elim h
  · rintro n1 σ m ⟨kk0, kk1, kk2, kk3, hI⟩
    have es : (upd (upd (upd (upd σ 0 (.slice x0 x0n x0c)) 3 (.int .i64 (vI (σ 3)))) 4 (.slice x4 x4n x4c)) 5 (.int .i64 (vI (σ 5)))) = σ := by rw [upd_id kk0, upd_id (ok_int kk2), upd_id kk1, upd_id (ok_int kk3)]
    exact cast (congrArg (fun s => vcS Try.prog w0 qs98 (sub c98 [1, 1, 0, 1, 0, 0, 1, 0, 0, 1, 0, 1, 0, 1, 0, 0]) s m (lq98_110100100101010 R x0 x0n x0c x4 x4n x4c I1 E1_2 n1)) es) (cast (by kernel_rfl) (h_s n1 σ (vI (σ 3)) (vI (σ 5)) m hI))

/-! 57 slices.Sort[[]int,int] -/
def qs57 : Nat → List (Nat × Nat) := fun i => match i with | _ => []
noncomputable def c57 : Code := bodyOf Try.f57
theorem cf57 (w0 : World) (m : AM) (x0 : Option Addr) (x0n x0c : Nat) (R : Value → AM → Prop) (h :
 CallsA Try.prog w0 88 #[.int .u64 (IntKind.wrap .u64 ((x0n : Nat) : Int))] m fun r2 m3 =>
 ∃ i1 : Int, r2 = .int .i64 i1 ∧ CallsA Try.prog w0 87 #[.slice x0 x0n x0c, .int .i64 0, .int .i64 ((x0n : Nat) : Int), .int .i64 i1] m3 fun r4 m5 =>
 r4 = .tuple #[] ∧ RetP R (.tuple #[]) m5) : CallsA Try.prog w0 57 #[.slice x0 x0n x0c] m R :=
  callsA_of (c := c57) (args := [.slice x0 x0n x0c]) (by kernel_rfl) Try.func57 (by kernel_rfl) qs57 (by kernel_rfl) (by kernel_rfl) (cast (by kernel_rfl) h)

/-! 99 slices.insertionSortOrdered[int] -/
def qs99 : Nat → List (Nat × Nat) := fun i => match i with | _ => []
noncomputable def c99 : Code := bodyOf Try.f99
theorem cf99 (w0 : World) (m : AM) (x0 : Option Addr) (x0n x0c : Nat) (x1 : Int) (x2 : Int) (R : Value → AM → Prop) (h :
 IntKind.i64 = IntKind.i64 ∧ vcS Try.prog w0 qs99 (sub c99 [1, 0]) (upd (upd (upd (argS [.slice x0 x0n x0c, .int .i64 x1, .int .i64 x2]) 8 (.int .i64 x1)) 9 (.int .i64 (IntKind.wrap .i64 (x1 + 1)))) 6 (.int .i64 (IntKind.wrap .i64 (x1 + 1)))) m (blockS 0 (retQ Try.prog Try.f99 R))) : CallsA Try.prog w0 99 #[.slice x0 x0n x0c, .int .i64 x1, .int .i64 x2] m R :=
  callsA_of (c := c99) (args := [.slice x0 x0n x0c, .int .i64 x1, .int .i64 x2]) (by kernel_rfl) Try.func99 (by kernel_rfl) qs99 (by kernel_rfl) (by kernel_rfl) (cast (by kernel_rfl) h)
def lq99_10 (R : Value → AM → Prop) (x0 : Option Addr) (x0n x0c : Nat) (x1 : Int) (x2 : Int) (I0 : Nat → Int → AM → Prop) (E0_0 : AM → Prop) (n0 : Nat) : Exit → Sg → AM → Prop
  | .normal, σ, m => σ 0 = .slice x0 x0n x0c ∧ σ 1 = .int .i64 x1 ∧ σ 2 = .int .i64 x2 ∧ okI .i64 (σ 6) = true ∧ ∃ n' : Nat, n' < n0 ∧ I0 n' (vI (σ 6)) m
  | .exit id, σ, m => if id = 0 then σ 0 = .slice x0 x0n x0c ∧ σ 1 = .int .i64 x1 ∧ σ 2 = .int .i64 x2 ∧ E0_0  m else False
  | .ret, σ, m => retQ Try.prog Try.f99 R .ret σ m
  | _, _, _ => False
theorem vl99_10 (w0 : World) (m : AM) (σ : Sg) (R : Value → AM → Prop)  (x0 : Option Addr) (x0n x0c : Nat) (x1 : Int) (x2 : Int) (x6 : Int) (I0 : Nat → Int → AM → Prop) (E0_0 : AM → Prop) (N : Nat) (h0 : σ 0 = .slice x0 x0n x0c) (h1 : σ 1 = .int .i64 x1) (h2 : σ 2 = .int .i64 x2) (h6 : σ 6 = .int .i64 x6)
 (h_0 : I0 N x6 m)
 (h_s : ∀ (n0 : Nat) (σ : Sg) (x6 : Int) (m : AM), I0 n0 x6 m → (
 IntKind.i64 = IntKind.i64 ∧ (bcase (decide ((x6 : Int) < x2)) (
 vcS Try.prog w0 qs99 (sub c99 [1, 0, 0, 1, 0, 0, 1, 0]) (upd (upd (upd (upd (upd (upd (upd (upd (upd σ 0 (.slice x0 x0n x0c)) 1 (.int .i64 x1)) 2 (.int .i64 x2)) 6 (.int .i64 x6)) 10 (.int .i64 x6)) 11 (.int .i64 x2)) 12 (.bool (decide ((x6 : Int) < x2)))) 15 (.int .i64 x6)) 7 (.int .i64 x6)) m (blockS 2 (blockS 1 (thenS (fun σ m => vcS Try.prog w0 qs99 (sub c99 [1, 0, 0, 1, 1]) σ m (lq99_10 R x0 x0n x0c x1 x2 I0 E0_0 n0)) (lq99_10 R x0 x0n x0c x1 x2 I0 E0_0 n0))))) (
 (.slice x0 x0n x0c : Value) = .slice x0 x0n x0c ∧ (.int .i64 x1 : Value) = .int .i64 x1 ∧ (.int .i64 x2 : Value) = .int .i64 x2 ∧ E0_0  m))))
 (h_e0 : ∀ (σ : Sg)  (m : AM), E0_0  m → (
 RetP R (.tuple #[]) m)) :
 vcS Try.prog w0 qs99 (sub c99 [1, 0]) σ m (blockS 0 (retQ Try.prog Try.f99 R)) := by
  rw [show sub c99 [1, 0] = .loop (sub c99 [1, 0, 0]) from by kernel_rfl]
  refine loopQ (fun n0 σ m => σ 0 = .slice x0 x0n x0c ∧ σ 1 = .int .i64 x1 ∧ σ 2 = .int .i64 x2 ∧ okI .i64 (σ 6) = true ∧ I0 n0 (vI (σ 6)) m) N (fun n0 => (lq99_10 R x0 x0n x0c x1 x2 I0 E0_0 n0)) ⟨h0, h1, h2, (by rw [h6]; rfl), (by rw [h6]; exact h_0)⟩ ?_ ?_ ?_
  · rintro n0 σ m ⟨kk0, kk1, kk2, kk3, n', hlt, hI⟩; exact ⟨n', hlt, kk0, kk1, kk2, kk3, hI⟩
  · intro n0 e σ m hne h
    cases e with
    | normal => exact absurd rfl hne
    | ret => exact h
    | exit id =>
      by_cases e0 : id = 0
      · subst e0
        obtain ⟨kk0, kk1, kk2, hE⟩ := h
        have es : (upd (upd (upd σ 0 (.slice x0 x0n x0c)) 1 (.int .i64 x1)) 2 (.int .i64 x2)) = σ := by rw [upd_id kk0, upd_id kk1, upd_id kk2]
        exact cast (congrArg (fun s => (blockS 0 (retQ Try.prog Try.f99 R)) (.exit 0) s m) es) (cast (by kernel_rfl) (h_e0 σ  m hE))
      · replace h := (if_neg e0 : (if id = 0 then _ else _) = _).mp h
        exact False.elim h
    | _ => exact False.elim h
  · rintro n0 σ m ⟨kk0, kk1, kk2, kk3, hI⟩
    have es : (upd (upd (upd (upd σ 0 (.slice x0 x0n x0c)) 1 (.int .i64 x1)) 2 (.int .i64 x2)) 6 (.int .i64 (vI (σ 6)))) = σ := by rw [upd_id kk0, upd_id kk1, upd_id kk2, upd_id (ok_int kk3)]
    exact cast (congrArg (fun s => vcS Try.prog w0 qs99 (sub c99 [1, 0, 0]) s m (lq99_10 R x0 x0n x0c x1 x2 I0 E0_0 n0)) es) (cast (by kernel_rfl) (h_s n0 σ (vI (σ 6)) m hI))
def lq99_10010010 (R : Value → AM → Prop) (x0 : Option Addr) (x0n x0c : Nat) (x1 : Int) (x2 : Int) (x6 : Int) (I1 : Nat → Int → AM → Prop) (E1_2 : AM → Prop) (n1 : Nat) : Exit → Sg → AM → Prop
  | .normal, σ, m => σ 0 = .slice x0 x0n x0c ∧ σ 1 = .int .i64 x1 ∧ σ 2 = .int .i64 x2 ∧ σ 6 = .int .i64 x6 ∧ okI .i64 (σ 7) = true ∧ ∃ n' : Nat, n' < n1 ∧ I1 n' (vI (σ 7)) m
  | .exit id, σ, m => if id = 2 then σ 0 = .slice x0 x0n x0c ∧ σ 1 = .int .i64 x1 ∧ σ 2 = .int .i64 x2 ∧ σ 6 = .int .i64 x6 ∧ E1_2  m else False
  | .ret, σ, m => retQ Try.prog Try.f99 R .ret σ m
  | _, _, _ => False
theorem vl99_10010010 (w0 : World) (m : AM) (σ : Sg) (R : Value → AM → Prop) (n0 : Nat) (I0 : Nat → Int → AM → Prop) (E0_0 : AM → Prop) (x0 : Option Addr) (x0n x0c : Nat) (x1 : Int) (x2 : Int) (x6 : Int) (x7 : Int) (I1 : Nat → Int → AM → Prop) (E1_2 : AM → Prop) (N : Nat) (h0 : σ 0 = .slice x0 x0n x0c) (h1 : σ 1 = .int .i64 x1) (h2 : σ 2 = .int .i64 x2) (h6 : σ 6 = .int .i64 x6) (h7 : σ 7 = .int .i64 x7)
 (h_0 : I1 N x7 m)
 (h_s : ∀ (n1 : Nat) (σ : Sg) (x7 : Int) (m : AM), I1 n1 x7 m → (
 IntKind.i64 = IntKind.i64 ∧ (bcase (decide ((x7 : Int) > x1)) (
 ((0 : Int) ≤ x7 ∧ x7 < ((x0n : Nat) : Int)) ∧ nilO x0 fun a1 =>
 ∃ i2 : Int, m.cell (a1.add ((x7 : Int).toNat * 1)) = some (.int .i64 i2) ∧ 
 IntKind.i64 = IntKind.i64 ∧ ((0 : Int) ≤ (IntKind.wrap .i64 (x7 - 1)) ∧ (IntKind.wrap .i64 (x7 - 1)) < ((x0n : Nat) : Int)) ∧ nilO x0 fun a3 =>
 ∃ i4 : Int, m.cell (a3.add ((IntKind.wrap .i64 (x7 - 1) : Int).toNat * 1)) = some (.int .i64 i4) ∧ 
 CallsA Try.prog w0 105 #[.int .i64 i2, .int .i64 i4] m fun r6 m7 =>
 ∃ t5 : Bool, r6 = .bool t5 ∧ (bcase (bif decide ((x7 : Int) > x1) then t5 else false) (
 IntKind.i64 = IntKind.i64 ∧ IntKind.i64 = IntKind.i64 ∧ ((0 : Int) ≤ (IntKind.wrap .i64 (x7 - 1)) ∧ (IntKind.wrap .i64 (x7 - 1)) < ((x0n : Nat) : Int)) ∧ nilO x0 fun a8 =>
 ∃ i9 : Int, m7.cell (a8.add ((IntKind.wrap .i64 (x7 - 1) : Int).toNat * 1)) = some (.int .i64 i9) ∧ 
 ((0 : Int) ≤ x7 ∧ x7 < ((x0n : Nat) : Int)) ∧ nilO x0 fun a10 =>
 ∃ i11 : Int, m7.cell (a10.add ((x7 : Int).toNat * 1)) = some (.int .i64 i11) ∧ 
 ((0 : Int) ≤ x7 ∧ x7 < ((x0n : Nat) : Int)) ∧ nilO x0 fun a12 =>
 StC w0.heap.size m7 (a12.add ((x7 : Int).toNat * 1)) (.int .i64 i9) fun m13 =>
 ((0 : Int) ≤ (IntKind.wrap .i64 (x7 - 1)) ∧ (IntKind.wrap .i64 (x7 - 1)) < ((x0n : Nat) : Int)) ∧ nilO x0 fun a14 =>
 StC w0.heap.size m13 (a14.add ((IntKind.wrap .i64 (x7 - 1) : Int).toNat * 1)) (.int .i64 i11) fun m15 =>
 IntKind.i64 = IntKind.i64 ∧ (.slice x0 x0n x0c : Value) = .slice x0 x0n x0c ∧ (.int .i64 x1 : Value) = .int .i64 x1 ∧ (.int .i64 x2 : Value) = .int .i64 x2 ∧ (.int .i64 x6 : Value) = .int .i64 x6 ∧ true = true ∧ ∃ n' : Nat, n' < n1 ∧ I1 n' (IntKind.wrap .i64 (x7 - 1)) m15) (
 (.slice x0 x0n x0c : Value) = .slice x0 x0n x0c ∧ (.int .i64 x1 : Value) = .int .i64 x1 ∧ (.int .i64 x2 : Value) = .int .i64 x2 ∧ (.int .i64 x6 : Value) = .int .i64 x6 ∧ E1_2  m7))) (
 (decide ((x7 : Int) > x1)) = false ∧ (.slice x0 x0n x0c : Value) = .slice x0 x0n x0c ∧ (.int .i64 x1 : Value) = .int .i64 x1 ∧ (.int .i64 x2 : Value) = .int .i64 x2 ∧ (.int .i64 x6 : Value) = .int .i64 x6 ∧ E1_2  m))))
 (h_e2 : ∀ (σ : Sg)  (m : AM), E1_2  m → (
 IntKind.i64 = IntKind.i64 ∧ (.slice x0 x0n x0c : Value) = .slice x0 x0n x0c ∧ (.int .i64 x1 : Value) = .int .i64 x1 ∧ (.int .i64 x2 : Value) = .int .i64 x2 ∧ true = true ∧ ∃ n' : Nat, n' < n0 ∧ I0 n' (IntKind.wrap .i64 (x6 + 1)) m)) :
 vcS Try.prog w0 qs99 (sub c99 [1, 0, 0, 1, 0, 0, 1, 0]) σ m (blockS 2 (blockS 1 (thenS (fun σ m => vcS Try.prog w0 qs99 (sub c99 [1, 0, 0, 1, 1]) σ m (lq99_10 R x0 x0n x0c x1 x2 I0 E0_0 n0)) (lq99_10 R x0 x0n x0c x1 x2 I0 E0_0 n0)))) := by
  rw [show sub c99 [1, 0, 0, 1, 0, 0, 1, 0] = .loop (sub c99 [1, 0, 0, 1, 0, 0, 1, 0, 0]) from by kernel_rfl]
  refine loopQ (fun n1 σ m => σ 0 = .slice x0 x0n x0c ∧ σ 1 = .int .i64 x1 ∧ σ 2 = .int .i64 x2 ∧ σ 6 = .int .i64 x6 ∧ okI .i64 (σ 7) = true ∧ I1 n1 (vI (σ 7)) m) N (fun n1 => (lq99_10010010 R x0 x0n x0c x1 x2 x6 I1 E1_2 n1)) ⟨h0, h1, h2, h6, (by rw [h7]; rfl), (by rw [h7]; exact h_0)⟩ ?_ ?_ ?_
  · rintro n1 σ m ⟨kk0, kk1, kk2, kk3, kk4, n', hlt, hI⟩; exact ⟨n', hlt, kk0, kk1, kk2, kk3, kk4, hI⟩
  · intro n1 e σ m hne h
    cases e with
    | normal => exact absurd rfl hne
    | ret => exact h
    | exit id =>
      by_cases e2 : id = 2
      · subst e2
        obtain ⟨kk0, kk1, kk2, kk3, hE⟩ := h
        have es : (upd (upd (upd (upd σ 0 (.slice x0 x0n x0c)) 1 (.int .i64 x1)) 2 (.int .i64 x2)) 6 (.int .i64 x6)) = σ := by rw [upd_id kk0, upd_id kk1, upd_id kk2, upd_id kk3]
        exact cast (congrArg (fun s => (blockS 2 (blockS 1 (thenS (fun σ m => vcS Try.prog w0 qs99 (sub c99 [1, 0, 0, 1, 1]) σ m (lq99_10 R x0 x0n x0c x1 x2 I0 E0_0 n0)) (lq99_10 R x0 x0n x0c x1 x2 I0 E0_0 n0)))) (.exit 2) s m) es) (cast (by kernel_rfl) (h_e2 σ  m hE))
      · replace h := (if_neg e2 : (if id = 2 then _ else _) = _).mp h
        exact False.elim h
    | _ => exact False.elim h
  · rintro n1 σ m ⟨kk0, kk1, kk2, kk3, kk4, hI⟩
    have es : (upd (upd (upd (upd (upd σ 0 (.slice x0 x0n x0c)) 1 (.int .i64 x1)) 2 (.int .i64 x2)) 6 (.int .i64 x6)) 7 (.int .i64 (vI (σ 7)))) = σ := by rw [upd_id kk0, upd_id kk1, upd_id kk2, upd_id kk3, upd_id (ok_int kk4)]
    exact cast (congrArg (fun s => vcS Try.prog w0 qs99 (sub c99 [1, 0, 0, 1, 0, 0, 1, 0, 0]) s m (lq99_10010010 R x0 x0n x0c x1 x2 x6 I1 E1_2 n1)) es) (cast (by kernel_rfl) (h_s n1 σ (vI (σ 7)) m hI))

/-! 105 cmp.Less[int] -/
def qs105 : Nat → List (Nat × Nat) := fun i => match i with | _ => []
noncomputable def c105 : Code := bodyOf Try.f105
theorem cf105 (w0 : World) (m : AM) (x0 : Int) (x1 : Int) (R : Value → AM → Prop) (h :
 CallsA Try.prog w0 118 #[.int .i64 x0] m fun r2 m3 =>
 ∃ t1 : Bool, r2 = .bool t1 ∧ (bcase t1 (
 CallsA Try.prog w0 118 #[.int .i64 x1] m3 fun r5 m6 =>
 ∃ t4 : Bool, r5 = .bool t4 ∧ (bcase (bif t1 then !t4 else false) (
 (bif t1 then !t4 else false) = true ∧ RetP R (.bool true) m6) (
 IntKind.i64 = IntKind.i64 ∧ RetP R (.bool (bif bif t1 then !t4 else false then true else decide ((x0 : Int) < x1))) m6))) (
 t1 = false ∧ IntKind.i64 = IntKind.i64 ∧ RetP R (.bool (bif false then true else decide ((x0 : Int) < x1))) m3))) : CallsA Try.prog w0 105 #[.int .i64 x0, .int .i64 x1] m R :=
  callsA_of (c := c105) (args := [.int .i64 x0, .int .i64 x1]) (by kernel_rfl) Try.func105 (by kernel_rfl) qs105 (by kernel_rfl) (by kernel_rfl) (cast (by kernel_rfl) h)

/-! 118 cmp.isNaN[int] -/
def qs118 : Nat → List (Nat × Nat) := fun i => match i with | _ => []
noncomputable def c118 : Code := bodyOf Try.f118
theorem cf118 (w0 : World) (m : AM) (x0 : Int) (R : Value → AM → Prop) (h :
 IntKind.i64 = IntKind.i64 ∧ RetP R (.bool ((x0 : Int) != x0)) m) : CallsA Try.prog w0 118 #[.int .i64 x0] m R :=
  callsA_of (c := c118) (args := [.int .i64 x0]) (by kernel_rfl) Try.func118 (by kernel_rfl) qs118 (by kernel_rfl) (by kernel_rfl) (cast (by kernel_rfl) h)

/-! 82 delayslot/effect.Reads -/
def qs82 : Nat → List (Nat × Nat) := fun i => match i with | _ => []
noncomputable def c82 : Code := bodyOf Try.f82
theorem cf82 (w0 : World) (m : AM) (x0_0 : Int) (x0_1 : Int) (x0_2 : Int) (x0_3 : Int) (x0_4 : Int) (R : Value → AM → Prop) (h :
 ∀ b1 : Nat, w0.heap.size ≤ b1 → m b1 = none → let m2 := AM.upd m b1 (.cells #[.int .i64 x0_0, .int .i64 x0_1, .int .i64 x0_2, .int .i64 x0_3, .int .i64 x0_4] 24);
 ∃ i3 : Int, m2.cell ⟨b1, 0, none⟩ = some (.int .i64 i3) ∧ ∃ i4 : Int, m2.cell ⟨b1, 1, none⟩ = some (.int .i64 i4) ∧ ∃ i5 : Int, m2.cell ⟨b1, 2, none⟩ = some (.int .i64 i5) ∧ ∃ i6 : Int, m2.cell ⟨b1, 3, none⟩ = some (.int .i64 i6) ∧ ∃ i7 : Int, m2.cell ⟨b1, 4, none⟩ = some (.int .i64 i7) ∧ 
 CallsA Try.prog w0 45 #[.agg #[.int .i64 i3, .int .i64 i4, .int .i64 i5, .int .i64 i6, .int .i64 i7]] m2 fun r9 m10 =>
 ∃ t8 : Bool, r9 = .bool t8 ∧ (bcase (!t8) (
 RetP R (.slice none 0 0) m10) (
 ∃ i11 : Int, m10.cell ⟨b1, 0, none⟩ = some (.int .i64 i11) ∧ ∃ i12 : Int, m10.cell ⟨b1, 1, none⟩ = some (.int .i64 i12) ∧ ∃ i13 : Int, m10.cell ⟨b1, 2, none⟩ = some (.int .i64 i13) ∧ ∃ i14 : Int, m10.cell ⟨b1, 3, none⟩ = some (.int .i64 i14) ∧ ∃ i15 : Int, m10.cell ⟨b1, 4, none⟩ = some (.int .i64 i15) ∧ 
 CallsA Try.prog w0 95 #[.agg #[.int .i64 i11, .int .i64 i12, .int .i64 i13, .int .i64 i14, .int .i64 i15]] m10 fun r20 m21 =>
 ∃ (A16 : Option Addr) (n17 c18 : Nat), ∃ i19 : Int, r20 = .tuple #[.slice A16 n17 c18, .int .i64 i19] ∧ CallsA Try.prog w0 53 #[.slice A16 n17 c18, .func (.func 97) #[] #[]] m21 fun r27 m28 =>
 ∃ (A24 : Option Addr) (n25 c26 : Nat), r27 = .slice A24 n25 c26 ∧ CallsA Try.prog w0 57 #[.slice A24 n25 c26] m28 fun r29 m30 =>
 r29 = .tuple #[] ∧ CallsA Try.prog w0 98 #[.slice A24 n25 c26] m30 fun r34 m35 =>
 ∃ (A31 : Option Addr) (n32 c33 : Nat), r34 = .slice A31 n32 c33 ∧ RetP R (.slice A31 n32 c33) m35))) : CallsA Try.prog w0 82 #[.agg #[.int .i64 x0_0, .int .i64 x0_1, .int .i64 x0_2, .int .i64 x0_3, .int .i64 x0_4]] m R :=
  callsA_of (c := c82) (args := [.agg #[.int .i64 x0_0, .int .i64 x0_1, .int .i64 x0_2, .int .i64 x0_3, .int .i64 x0_4]]) (by kernel_rfl) Try.func82 (by kernel_rfl) qs82 (by kernel_rfl) (by kernel_rfl) (cast (by kernel_rfl) h)
end Go.Proofs.Ytkfemiloehkmhaa.V

