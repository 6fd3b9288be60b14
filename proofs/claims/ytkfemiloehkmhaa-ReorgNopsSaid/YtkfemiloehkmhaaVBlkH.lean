/- Ytkfemiloehkmhaa: a text of our own, by an AI agent: VBlkH -/
import Derived.Test.YtkfemiloehkmhaaCoreA
import Derived.Test.YtkfemiloehkmhaaTabH
namespace Go.Proofs.Ytkfemiloehkmhaa.V
open Go Go.Alog Go.Proofs.Ytkfemiloehkmhaa.T
set_option linter.unusedVariables false
set_option maxRecDepth 100000

/-! 21 delayslot/block.Target -/
def qs21 : Nat → List (Nat × Nat) := fun i => match i with | _ => []
noncomputable def c21 : Code := bodyOf Try.f21
theorem cf21 (w0 : World) (m : AM) (x0_0 : Int) (x0_1 : Int) (x0_2 : Int) (x0_3 : Int) (x0_4 : Int) (x1 : Int) (R : Value → AM → Prop) (h :
 ∀ b1 : Nat, w0.heap.size ≤ b1 → m b1 = none → let m2 := AM.upd m b1 (.cells #[.int .i64 x0_0, .int .i64 x0_1, .int .i64 x0_2, .int .i64 x0_3, .int .i64 x0_4] 24);
 ∃ i3 : Int, m2.cell ⟨b1, 0, none⟩ = some (.int .i64 i3) ∧ ∃ i4 : Int, m2.cell ⟨b1, 1, none⟩ = some (.int .i64 i4) ∧ ∃ i5 : Int, m2.cell ⟨b1, 2, none⟩ = some (.int .i64 i5) ∧ ∃ i6 : Int, m2.cell ⟨b1, 3, none⟩ = some (.int .i64 i6) ∧ ∃ i7 : Int, m2.cell ⟨b1, 4, none⟩ = some (.int .i64 i7) ∧ 
 CallsA Try.prog w0 45 #[.agg #[.int .i64 i3, .int .i64 i4, .int .i64 i5, .int .i64 i6, .int .i64 i7]] m2 fun r9 m10 =>
 ∃ t8 : Bool, r9 = .bool t8 ∧ (bcase (!t8) (
 RetP R (.tuple #[.int .i64 0, .bool false]) m10) (
 ∃ i11 : Int, m10.cell ⟨b1, 0, none⟩ = some (.int .i64 i11) ∧ 
 IntKind.i64 = IntKind.i64 ∧ (bcase ((i11 : Int) == 15) (
 (bcase ((i11 : Int) == 15) (
 IntKind.i64 = IntKind.i64 ∧ ∃ i12 : Int, m10.cell ⟨b1, 4, none⟩ = some (.int .i64 i12) ∧ 
 IntKind.i64 = IntKind.i64 ∧ RetP R (.tuple #[.int .i64 (IntKind.wrap .i64 ((IntKind.wrap .i64 (x1 + 1)) + i12)), .bool true]) m10) (
 IntKind.i64 = IntKind.i64 ∧ (bcase ((i11 : Int) == 17) (
 (bcase ((i11 : Int) == 17) (
 ∃ i13 : Int, m10.cell ⟨b1, 4, none⟩ = some (.int .i64 i13) ∧ 
 RetP R (.tuple #[.int .i64 i13, .bool true]) m10) (
 RetP R (.tuple #[.int .i64 0, .bool false]) m10))) (
 IntKind.i64 = IntKind.i64 ∧ (bcase ((i11 : Int) == 18) (
 ∃ i14 : Int, m10.cell ⟨b1, 4, none⟩ = some (.int .i64 i14) ∧ 
 RetP R (.tuple #[.int .i64 i14, .bool true]) m10) (
 RetP R (.tuple #[.int .i64 0, .bool false]) m10))))))) (
 IntKind.i64 = IntKind.i64 ∧ (bcase ((i11 : Int) == 16) (
 IntKind.i64 = IntKind.i64 ∧ ∃ i15 : Int, m10.cell ⟨b1, 4, none⟩ = some (.int .i64 i15) ∧ 
 IntKind.i64 = IntKind.i64 ∧ RetP R (.tuple #[.int .i64 (IntKind.wrap .i64 ((IntKind.wrap .i64 (x1 + 1)) + i15)), .bool true]) m10) (
 IntKind.i64 = IntKind.i64 ∧ (bcase ((i11 : Int) == 17) (
 (bcase ((i11 : Int) == 17) (
 ∃ i16 : Int, m10.cell ⟨b1, 4, none⟩ = some (.int .i64 i16) ∧ 
 RetP R (.tuple #[.int .i64 i16, .bool true]) m10) (
 RetP R (.tuple #[.int .i64 0, .bool false]) m10))) (
 IntKind.i64 = IntKind.i64 ∧ (bcase ((i11 : Int) == 18) (
 ∃ i17 : Int, m10.cell ⟨b1, 4, none⟩ = some (.int .i64 i17) ∧ 
 RetP R (.tuple #[.int .i64 i17, .bool true]) m10) (
 RetP R (.tuple #[.int .i64 0, .bool false]) m10))))))))))) : CallsA Try.prog w0 21 #[.agg #[.int .i64 x0_0, .int .i64 x0_1, .int .i64 x0_2, .int .i64 x0_3, .int .i64 x0_4], .int .i64 x1] m R :=
  callsA_of (c := c21) (args := [.agg #[.int .i64 x0_0, .int .i64 x0_1, .int .i64 x0_2, .int .i64 x0_3, .int .i64 x0_4], .int .i64 x1]) (by kernel_rfl) Try.func21 (by kernel_rfl) qs21 (by kernel_rfl) (by kernel_rfl) (cast (by kernel_rfl) h)

/-! 23 delayslot/block.Fit -/
def qs23 : Nat → List (Nat × Nat) := fun i => match i with | _ => []
noncomputable def c23 : Code := bodyOf Try.f23
theorem cf23 (w0 : World) (m : AM) (x0 : Option Addr) (x0n x0c : Nat) (R : Value → AM → Prop) (h :
 IntKind.i64 = IntKind.i64 ∧ (bcase (decide ((((x0n : Nat) : Int) : Int) > 4096)) (
 RetP R (.bool false) m) (
 vcS Try.prog w0 qs23 (sub c23 [1, 1, 0, 1, 0]) (upd (upd (upd (upd (upd (upd (upd (argS [.slice x0 x0n x0c]) 2 (.bool false)) 7 (.slice x0 x0n x0c)) 8 (.int .i64 ((x0n : Nat) : Int))) 9 (.bool (decide ((((x0n : Nat) : Int) : Int) > 4096)))) 10 (.slice x0 x0n x0c)) 11 (.int .i64 ((x0n : Nat) : Int))) 12 (.int .i64 0)) m (blockS 0 (thenS (fun σ m => vcS Try.prog w0 qs23 (sub c23 [1, 1, 1]) σ m (retQ Try.prog Try.f23 R)) (retQ Try.prog Try.f23 R)))))) : CallsA Try.prog w0 23 #[.slice x0 x0n x0c] m R :=
  callsA_of (c := c23) (args := [.slice x0 x0n x0c]) (by kernel_rfl) Try.func23 (by kernel_rfl) qs23 (by kernel_rfl) (by kernel_rfl) (cast (by kernel_rfl) h)
def lq23_11010 (R : Value → AM → Prop) (x0 : Option Addr) (x0n x0c : Nat) (x10 : Option Addr) (x10n x10c : Nat) (x11 : Int) (I0 : Nat → Int → AM → Prop) (E0_0 : AM → Prop) (n0 : Nat) : Exit → Sg → AM → Prop
  | .normal, σ, m => σ 0 = .slice x0 x0n x0c ∧ σ 10 = .slice x10 x10n x10c ∧ σ 11 = .int .i64 x11 ∧ okI .i64 (σ 12) = true ∧ ∃ n' : Nat, n' < n0 ∧ I0 n' (vI (σ 12)) m
  | .exit id, σ, m => if id = 0 then σ 0 = .slice x0 x0n x0c ∧ σ 10 = .slice x10 x10n x10c ∧ σ 11 = .int .i64 x11 ∧ E0_0  m else False
  | .ret, σ, m => retQ Try.prog Try.f23 R .ret σ m
  | _, _, _ => False
theorem vl23_11010 (w0 : World) (m : AM) (σ : Sg) (R : Value → AM → Prop)  (x0 : Option Addr) (x0n x0c : Nat) (x10 : Option Addr) (x10n x10c : Nat) (x11 : Int) (x12 : Int) (I0 : Nat → Int → AM → Prop) (E0_0 : AM → Prop) (N : Nat) (h0 : σ 0 = .slice x0 x0n x0c) (h10 : σ 10 = .slice x10 x10n x10c) (h11 : σ 11 = .int .i64 x11) (h12 : σ 12 = .int .i64 x12)
 (h_0 : I0 N x12 m)
 (h_s : ∀ (n0 : Nat) (σ : Sg) (x12 : Int) (m : AM), I0 n0 x12 m → (
 IntKind.i64 = IntKind.i64 ∧ (bcase (decide ((x12 : Int) < x11)) (
 ((0 : Int) ≤ x12 ∧ x12 < ((x10n : Nat) : Int)) ∧ nilO x10 fun a1 =>
 ∃ i2 : Int, m.cell (a1.add ((x12 : Int).toNat * 5)) = some (.int .i64 i2) ∧ ∃ i3 : Int, m.cell ((a1.add ((x12 : Int).toNat * 5)).add 1) = some (.int .i64 i3) ∧ ∃ i4 : Int, m.cell ((a1.add ((x12 : Int).toNat * 5)).add 2) = some (.int .i64 i4) ∧ ∃ i5 : Int, m.cell ((a1.add ((x12 : Int).toNat * 5)).add 3) = some (.int .i64 i5) ∧ ∃ i6 : Int, m.cell ((a1.add ((x12 : Int).toNat * 5)).add 4) = some (.int .i64 i6) ∧ 
 ∀ b7 : Nat, w0.heap.size ≤ b7 → m b7 = none → let m8 := AM.upd m b7 (.cells #[.int .i64 0, .int .i64 0, .int .i64 0, .int .i64 0, .int .i64 0] 24);
 StC w0.heap.size m8 ⟨b7, 0, none⟩ (.int .i64 i2) fun m9 =>
 StC w0.heap.size m9 ⟨b7, 1, none⟩ (.int .i64 i3) fun m10 =>
 StC w0.heap.size m10 ⟨b7, 2, none⟩ (.int .i64 i4) fun m11 =>
 StC w0.heap.size m11 ⟨b7, 3, none⟩ (.int .i64 i5) fun m12 =>
 StC w0.heap.size m12 ⟨b7, 4, none⟩ (.int .i64 i6) fun m13 =>
 ∃ i14 : Int, m13.cell ⟨b7, 0, none⟩ = some (.int .i64 i14) ∧ ∃ i15 : Int, m13.cell ⟨b7, 1, none⟩ = some (.int .i64 i15) ∧ ∃ i16 : Int, m13.cell ⟨b7, 2, none⟩ = some (.int .i64 i16) ∧ ∃ i17 : Int, m13.cell ⟨b7, 3, none⟩ = some (.int .i64 i17) ∧ ∃ i18 : Int, m13.cell ⟨b7, 4, none⟩ = some (.int .i64 i18) ∧ 
 CallsA Try.prog w0 21 #[.agg #[.int .i64 i14, .int .i64 i15, .int .i64 i16, .int .i64 i17, .int .i64 i18], .int .i64 x12] m13 fun r21 m22 =>
 ∃ i19 : Int, ∃ t20 : Bool, r21 = .tuple #[.int .i64 i19, .bool t20] ∧ ∃ i25 : Int, m22.cell ⟨b7, 0, none⟩ = some (.int .i64 i25) ∧ ∃ i26 : Int, m22.cell ⟨b7, 1, none⟩ = some (.int .i64 i26) ∧ ∃ i27 : Int, m22.cell ⟨b7, 2, none⟩ = some (.int .i64 i27) ∧ ∃ i28 : Int, m22.cell ⟨b7, 3, none⟩ = some (.int .i64 i28) ∧ ∃ i29 : Int, m22.cell ⟨b7, 4, none⟩ = some (.int .i64 i29) ∧ 
 CallsA Try.prog w0 45 #[.agg #[.int .i64 i25, .int .i64 i26, .int .i64 i27, .int .i64 i28, .int .i64 i29]] m22 fun r31 m32 =>
 ∃ t30 : Bool, r31 = .bool t30 ∧ (bcase (!t30) (
 (!t30) = true ∧ RetP R (.bool false) m32) (
 (bcase t20 (
 IntKind.i64 = IntKind.i64 ∧ (bcase (decide ((i19 : Int) < 0)) (
 (decide ((i19 : Int) < 0)) = true ∧ (bcase (bif !t30 then true else bif t20 then true else false) (
 RetP R (.bool false) m32) (
 IntKind.i64 = IntKind.i64 ∧ (.slice x0 x0n x0c : Value) = .slice x0 x0n x0c ∧ (.slice x10 x10n x10c : Value) = .slice x10 x10n x10c ∧ (.int .i64 x11 : Value) = .int .i64 x11 ∧ true = true ∧ ∃ n' : Nat, n' < n0 ∧ I0 n' (IntKind.wrap .i64 (x12 + 1)) m32))) (
 IntKind.i64 = IntKind.i64 ∧ (bcase (bif !t30 then true else bif t20 then bif decide ((i19 : Int) < 0) then true else decide ((i19 : Int) > ((x0n : Nat) : Int)) else false) (
 RetP R (.bool false) m32) (
 IntKind.i64 = IntKind.i64 ∧ (.slice x0 x0n x0c : Value) = .slice x0 x0n x0c ∧ (.slice x10 x10n x10c : Value) = .slice x10 x10n x10c ∧ (.int .i64 x11 : Value) = .int .i64 x11 ∧ true = true ∧ ∃ n' : Nat, n' < n0 ∧ I0 n' (IntKind.wrap .i64 (x12 + 1)) m32))))) (
 t20 = false ∧ (bcase (bif !t30 then true else false) (
 RetP R (.bool false) m32) (
 IntKind.i64 = IntKind.i64 ∧ (.slice x0 x0n x0c : Value) = .slice x0 x0n x0c ∧ (.slice x10 x10n x10c : Value) = .slice x10 x10n x10c ∧ (.int .i64 x11 : Value) = .int .i64 x11 ∧ true = true ∧ ∃ n' : Nat, n' < n0 ∧ I0 n' (IntKind.wrap .i64 (x12 + 1)) m32))))))) (
 (.slice x0 x0n x0c : Value) = .slice x0 x0n x0c ∧ (.slice x10 x10n x10c : Value) = .slice x10 x10n x10c ∧ (.int .i64 x11 : Value) = .int .i64 x11 ∧ E0_0  m))))
 (h_e0 : ∀ (σ : Sg)  (m : AM), E0_0  m → (
 RetP R (.bool true) m)) :
 vcS Try.prog w0 qs23 (sub c23 [1, 1, 0, 1, 0]) σ m (blockS 0 (thenS (fun σ m => vcS Try.prog w0 qs23 (sub c23 [1, 1, 1]) σ m (retQ Try.prog Try.f23 R)) (retQ Try.prog Try.f23 R))) := by
  rw [show sub c23 [1, 1, 0, 1, 0] = .loop (sub c23 [1, 1, 0, 1, 0, 0]) from by kernel_rfl]
  refine loopQ (fun n0 σ m => σ 0 = .slice x0 x0n x0c ∧ σ 10 = .slice x10 x10n x10c ∧ σ 11 = .int .i64 x11 ∧ okI .i64 (σ 12) = true ∧ I0 n0 (vI (σ 12)) m) N (fun n0 => (lq23_11010 R x0 x0n x0c x10 x10n x10c x11 I0 E0_0 n0)) ⟨h0, h10, h11, (by rw [h12]; rfl), (by rw [h12]; exact h_0)⟩ ?_ ?_ ?_
  · rintro n0 σ m ⟨kk0, kk1, kk2, kk3, n', hlt, hI⟩; exact ⟨n', hlt, kk0, kk1, kk2, kk3, hI⟩
  · intro n0 e σ m hne h
    cases e with
    | normal => exact absurd rfl hne
    | ret => exact h
    | exit id =>
      by_cases e0 : id = 0
      · subst e0
        obtain ⟨kk0, kk1, kk2, hE⟩ := h
        have es : (upd (upd (upd σ 0 (.slice x0 x0n x0c)) 10 (.slice x10 x10n x10c)) 11 (.int .i64 x11)) = σ := by rw [upd_id kk0, upd_id kk1, upd_id kk2]
        exact cast (congrArg (fun s => (blockS 0 (thenS (fun σ m => vcS Try.prog w0 qs23 (sub c23 [1, 1, 1]) σ m (retQ Try.prog Try.f23 R)) (retQ Try.prog Try.f23 R))) (.exit 0) s m) es) (cast (by kernel_rfl) (h_e0 σ  m hE))
      · replace h := (if_neg e0 : (if id = 0 then _ else _) = _).mp h
        exact False.elim h
    | _ => exact False.elim h
  · rintro n0 σ m ⟨kk0, kk1, kk2, kk3, hI⟩
    have es : (upd (upd (upd (upd σ 0 (.slice x0 x0n x0c)) 10 (.slice x10 x10n x10c)) 11 (.int .i64 x11)) 12 (.int .i64 (vI (σ 12)))) = σ := by rw [upd_id kk0, upd_id kk1, upd_id kk2, upd_id (ok_int kk3)]
    exact cast (congrArg (fun s => vcS Try.prog w0 qs23 (sub c23 [1, 1, 0, 1, 0, 0]) s m (lq23_11010 R x0 x0n x0c x10 x10n x10c x11 I0 E0_0 n0)) es) (cast (by kernel_rfl) (h_s n0 σ (vI (σ 12)) m hI))

/-! 56 delayslot/block.Heads$1 -/
def qs56 : Nat → List (Nat × Nat) := fun i => match i with | _ => []
noncomputable def c56 : Code := bodyOf Try.f56
theorem cf56 (w0 : World) (m : AM) (x0 : Int) (pc : Nat) (R : Value → AM → Prop) (h :
 ∃ (A1 : Option Addr) (n2 c3 : Nat), m.cell ⟨pc, 0, none⟩ = some (.slice A1 n2 c3) ∧ 
 IntKind.i64 = IntKind.i64 ∧ RetP R (.bool ((x0 : Int) == ((n2 : Nat) : Int))) m) : CallsA Try.prog w0 56 #[.int .i64 x0, .pointer (some ⟨pc, 0, none⟩)] m R :=
  callsA_of (c := c56) (args := [.int .i64 x0, .pointer (some ⟨pc, 0, none⟩)]) (by kernel_rfl) Try.func56 (by kernel_rfl) qs56 (by kernel_rfl) (by kernel_rfl) (cast (by kernel_rfl) h)

/-! 53 slices.DeleteFunc[[]int,int] -/
def hqs53 : Nat → List (Nat × Nat) := fun i => match i with | _ => []
noncomputable def hc53 : Code := bodyOf Try.f53
theorem hcf53 (w0 : World) (m : AM) (x0 : Option Addr) (x0n x0c : Nat) (pc : Nat) (R : Value → AM → Prop) (h :
 CallsA Try.prog w0 84 #[.slice x0 x0n x0c, .func (.func 56) #[] #[.pointer (some ⟨pc, 0, none⟩)]] m fun r2 m3 =>
 ∃ i1 : Int, r2 = .int .i64 i1 ∧ IntKind.i64 = IntKind.i64 ∧ (bcase ((i1 : Int) == (-1)) (
 RetP R (.slice x0 x0n x0c) m3) (
 IntKind.i64 = IntKind.i64 ∧ vcS Try.prog w0 hqs53 (sub hc53 [1, 1, 1, 0, 1, 0]) (upd (upd (upd (upd (upd (upd (upd (upd (upd (upd (argS [.slice x0 x0n x0c, .func (.func 56) #[] #[.pointer (some ⟨pc, 0, none⟩)]]) 4 (.slice none 0 0)) 8 (.slice x0 x0n x0c)) 9 (.func (.func 56) #[] #[.pointer (some ⟨pc, 0, none⟩)])) 10 (.int .i64 i1)) 5 (.int .i64 i1)) 11 (.int .i64 i1)) 12 (.bool ((i1 : Int) == (-1)))) 14 (.int .i64 i1)) 15 (.int .i64 (IntKind.wrap .i64 (i1 + 1)))) 6 (.int .i64 (IntKind.wrap .i64 (i1 + 1)))) m3 (blockS 0 (thenS (fun σ m => vcS Try.prog w0 hqs53 (sub hc53 [1, 1, 1, 1]) σ m (retQ Try.prog Try.f53 R)) (retQ Try.prog Try.f53 R)))))) : CallsA Try.prog w0 53 #[.slice x0 x0n x0c, .func (.func 56) #[] #[.pointer (some ⟨pc, 0, none⟩)]] m R :=
  callsA_of (c := hc53) (args := [.slice x0 x0n x0c, .func (.func 56) #[] #[.pointer (some ⟨pc, 0, none⟩)]]) (by kernel_rfl) Try.func53 (by kernel_rfl) hqs53 (by kernel_rfl) (by kernel_rfl) (cast (by kernel_rfl) h)
def hlq53_111010 (R : Value → AM → Prop) (x0 : Option Addr) (x0n x0c : Nat) (x1_0 : Nat) (I0 : Nat → Int → Int → AM → Prop) (E0_0 : Int → AM → Prop) (n0 : Nat) : Exit → Sg → AM → Prop
  | .normal, σ, m => σ 0 = .slice x0 x0n x0c ∧ σ 1 = .func (.func 56) #[] #[.pointer (some ⟨x1_0, 0, none⟩)] ∧ okI .i64 (σ 5) = true ∧ okI .i64 (σ 6) = true ∧ ∃ n' : Nat, n' < n0 ∧ I0 n' (vI (σ 5)) (vI (σ 6)) m
  | .exit id, σ, m => if id = 0 then σ 0 = .slice x0 x0n x0c ∧ σ 1 = .func (.func 56) #[] #[.pointer (some ⟨x1_0, 0, none⟩)] ∧ okI .i64 (σ 5) = true ∧ E0_0 (vI (σ 5)) m else False
  | .ret, σ, m => retQ Try.prog Try.f53 R .ret σ m
  | _, _, _ => False
theorem hvl53_111010 (w0 : World) (m : AM) (σ : Sg) (R : Value → AM → Prop)  (x0 : Option Addr) (x0n x0c : Nat) (x1_0 : Nat) (x5 : Int) (x6 : Int) (I0 : Nat → Int → Int → AM → Prop) (E0_0 : Int → AM → Prop) (N : Nat) (h0 : σ 0 = .slice x0 x0n x0c) (h1 : σ 1 = .func (.func 56) #[] #[.pointer (some ⟨x1_0, 0, none⟩)]) (h5 : σ 5 = .int .i64 x5) (h6 : σ 6 = .int .i64 x6)
 (h_0 : I0 N x5 x6 m)
 (h_s : ∀ (n0 : Nat) (σ : Sg) (x5 : Int) (x6 : Int) (m : AM), I0 n0 x5 x6 m → (
 IntKind.i64 = IntKind.i64 ∧ (bcase (decide ((x6 : Int) < ((x0n : Nat) : Int))) (
 ((0 : Int) ≤ x6 ∧ x6 < ((x0n : Nat) : Int)) ∧ nilO x0 fun a4 =>
 ∃ i5 : Int, m.cell (a4.add ((x6 : Int).toNat * 1)) = some (.int .i64 i5) ∧ 
 CallsA Try.prog w0 56 #[.int .i64 i5, .pointer (some ⟨x1_0, 0, none⟩)] m fun r7 m8 =>
 ∃ t6 : Bool, r7 = .bool t6 ∧ (bcase (!t6) (
 ((0 : Int) ≤ x5 ∧ x5 < ((x0n : Nat) : Int)) ∧ nilO x0 fun a9 =>
 StC w0.heap.size m8 (a9.add ((x5 : Int).toNat * 1)) (.int .i64 i5) fun m10 =>
 IntKind.i64 = IntKind.i64 ∧ IntKind.i64 = IntKind.i64 ∧ (.slice x0 x0n x0c : Value) = .slice x0 x0n x0c ∧ (.func (.func 56) #[] #[.pointer (some ⟨x1_0, 0, none⟩)] : Value) = .func (.func 56) #[] #[.pointer (some ⟨x1_0, 0, none⟩)] ∧ true = true ∧ true = true ∧ ∃ n' : Nat, n' < n0 ∧ I0 n' (IntKind.wrap .i64 (x5 + 1)) (IntKind.wrap .i64 (x6 + 1)) m10) (
 IntKind.i64 = IntKind.i64 ∧ (.slice x0 x0n x0c : Value) = .slice x0 x0n x0c ∧ (.func (.func 56) #[] #[.pointer (some ⟨x1_0, 0, none⟩)] : Value) = .func (.func 56) #[] #[.pointer (some ⟨x1_0, 0, none⟩)] ∧ true = true ∧ true = true ∧ ∃ n' : Nat, n' < n0 ∧ I0 n' x5 (IntKind.wrap .i64 (x6 + 1)) m8))) (
 (.slice x0 x0n x0c : Value) = .slice x0 x0n x0c ∧ (.func (.func 56) #[] #[.pointer (some ⟨x1_0, 0, none⟩)] : Value) = .func (.func 56) #[] #[.pointer (some ⟨x1_0, 0, none⟩)] ∧ true = true ∧ E0_0 x5 m))))
 (h_e0 : ∀ (σ : Sg) (x5 : Int) (m : AM), E0_0 x5 m → (
 (0 : Int) ≤ x5 ∧ x0n ≤ x0c ∧ ((x5 : Int).toNat) ≤ x0n ∧
 awp Try.prog w0.heap.size (Builtin.clear_ #[30] 0 #[.slice (if x0c = ((x5 : Int).toNat) then x0 else Option.map (fun x => Addr.add x ((x5 : Int).toNat * 1)) x0) (x0n - ((x5 : Int).toNat)) (x0c - ((x5 : Int).toNat))]) m fun v11 m12 =>
 v11 = .tuple #[] ∧ (0 : Int) ≤ x5 ∧ ((x5 : Int).toNat) ≤ x0c ∧ 0 ≤ ((x5 : Int).toNat) ∧
 RetP R (.slice (if x0c = 0 then x0 else Option.map (fun x => Addr.add x (0 * 1)) x0) (((x5 : Int).toNat) - 0) (x0c - 0)) m12)) :
 vcS Try.prog w0 hqs53 (sub hc53 [1, 1, 1, 0, 1, 0]) σ m (blockS 0 (thenS (fun σ m => vcS Try.prog w0 hqs53 (sub hc53 [1, 1, 1, 1]) σ m (retQ Try.prog Try.f53 R)) (retQ Try.prog Try.f53 R))) := by
  rw [show sub hc53 [1, 1, 1, 0, 1, 0] = .loop (sub hc53 [1, 1, 1, 0, 1, 0, 0]) from by kernel_rfl]
  refine loopQ (fun n0 σ m => σ 0 = .slice x0 x0n x0c ∧ σ 1 = .func (.func 56) #[] #[.pointer (some ⟨x1_0, 0, none⟩)] ∧ okI .i64 (σ 5) = true ∧ okI .i64 (σ 6) = true ∧ I0 n0 (vI (σ 5)) (vI (σ 6)) m) N (fun n0 => (hlq53_111010 R x0 x0n x0c x1_0 I0 E0_0 n0)) ⟨h0, h1, (by rw [h5]; rfl), (by rw [h6]; rfl), (by rw [h5, h6]; exact h_0)⟩ ?_ ?_ ?_
  · rintro n0 σ m ⟨kk0, kk1, kk2, kk3, n', hlt, hI⟩; exact ⟨n', hlt, kk0, kk1, kk2, kk3, hI⟩
  · intro n0 e σ m hne h
    cases e with
    | normal => exact absurd rfl hne
    | ret => exact h
    | exit id =>
      by_cases e0 : id = 0
      · subst e0
        obtain ⟨kk0, kk1, kk2, hE⟩ := h
        have es : (upd (upd (upd σ 0 (.slice x0 x0n x0c)) 1 (.func (.func 56) #[] #[.pointer (some ⟨x1_0, 0, none⟩)])) 5 (.int .i64 (vI (σ 5)))) = σ := by rw [upd_id kk0, upd_id kk1, upd_id (ok_int kk2)]
        exact cast (congrArg (fun s => (blockS 0 (thenS (fun σ m => vcS Try.prog w0 hqs53 (sub hc53 [1, 1, 1, 1]) σ m (retQ Try.prog Try.f53 R)) (retQ Try.prog Try.f53 R))) (.exit 0) s m) es) (cast (by kernel_rfl) (h_e0 σ (vI (σ 5)) m hE))
      · replace h := (if_neg e0 : (if id = 0 then _ else _) = _).mp h
        exact False.elim h
    | _ => exact False.elim h
  · rintro n0 σ m ⟨kk0, kk1, kk2, kk3, hI⟩
    have es : (upd (upd (upd (upd σ 0 (.slice x0 x0n x0c)) 1 (.func (.func 56) #[] #[.pointer (some ⟨x1_0, 0, none⟩)])) 5 (.int .i64 (vI (σ 5)))) 6 (.int .i64 (vI (σ 6)))) = σ := by rw [upd_id kk0, upd_id kk1, upd_id (ok_int kk2), upd_id (ok_int kk3)]
    exact cast (congrArg (fun s => vcS Try.prog w0 hqs53 (sub hc53 [1, 1, 1, 0, 1, 0, 0]) s m (hlq53_111010 R x0 x0n x0c x1_0 I0 E0_0 n0)) es) (cast (by kernel_rfl) (h_s n0 σ (vI (σ 5)) (vI (σ 6)) m hI))

/-! 84 slices.IndexFunc[[]int,int] -/
def hqs84 : Nat → List (Nat × Nat) := fun i => match i with | _ => []
noncomputable def hc84 : Code := bodyOf Try.f84
theorem hcf84 (w0 : World) (m : AM) (x0 : Option Addr) (x0n x0c : Nat) (pc : Nat) (R : Value → AM → Prop) (h :
 vcS Try.prog w0 hqs84 (sub hc84 [1, 0, 1, 0]) (upd (upd (upd (upd (argS [.slice x0 x0n x0c, .func (.func 56) #[] #[.pointer (some ⟨pc, 0, none⟩)]]) 4 (.int .i64 0)) 6 (.slice x0 x0n x0c)) 7 (.int .i64 ((x0n : Nat) : Int))) 8 (.int .i64 0)) m (blockS 0 (thenS (fun σ m => vcS Try.prog w0 hqs84 (sub hc84 [1, 1]) σ m (retQ Try.prog Try.f84 R)) (retQ Try.prog Try.f84 R)))) : CallsA Try.prog w0 84 #[.slice x0 x0n x0c, .func (.func 56) #[] #[.pointer (some ⟨pc, 0, none⟩)]] m R :=
  callsA_of (c := hc84) (args := [.slice x0 x0n x0c, .func (.func 56) #[] #[.pointer (some ⟨pc, 0, none⟩)]]) (by kernel_rfl) Try.func84 (by kernel_rfl) hqs84 (by kernel_rfl) (by kernel_rfl) (cast (by kernel_rfl) h)
def hlq84_1010 (R : Value → AM → Prop) (x0 : Option Addr) (x0n x0c : Nat) (x1_0 : Nat) (x7 : Int) (I0 : Nat → Int → AM → Prop) (E0_0 : AM → Prop) (n0 : Nat) : Exit → Sg → AM → Prop
  | .normal, σ, m => σ 0 = .slice x0 x0n x0c ∧ σ 1 = .func (.func 56) #[] #[.pointer (some ⟨x1_0, 0, none⟩)] ∧ σ 7 = .int .i64 x7 ∧ okI .i64 (σ 8) = true ∧ ∃ n' : Nat, n' < n0 ∧ I0 n' (vI (σ 8)) m
  | .exit id, σ, m => if id = 0 then σ 0 = .slice x0 x0n x0c ∧ σ 1 = .func (.func 56) #[] #[.pointer (some ⟨x1_0, 0, none⟩)] ∧ σ 7 = .int .i64 x7 ∧ E0_0  m else False
  | .ret, σ, m => retQ Try.prog Try.f84 R .ret σ m
  | _, _, _ => False
theorem hvl84_1010 (w0 : World) (m : AM) (σ : Sg) (R : Value → AM → Prop)  (x0 : Option Addr) (x0n x0c : Nat) (x1_0 : Nat) (x7 : Int) (x8 : Int) (I0 : Nat → Int → AM → Prop) (E0_0 : AM → Prop) (N : Nat) (h0 : σ 0 = .slice x0 x0n x0c) (h1 : σ 1 = .func (.func 56) #[] #[.pointer (some ⟨x1_0, 0, none⟩)]) (h7 : σ 7 = .int .i64 x7) (h8 : σ 8 = .int .i64 x8)
 (h_0 : I0 N x8 m)
 (h_s : ∀ (n0 : Nat) (σ : Sg) (x8 : Int) (m : AM), I0 n0 x8 m → (
 IntKind.i64 = IntKind.i64 ∧ (bcase (decide ((x8 : Int) < x7)) (
 ((0 : Int) ≤ x8 ∧ x8 < ((x0n : Nat) : Int)) ∧ nilO x0 fun a1 =>
 ∃ i2 : Int, m.cell (a1.add ((x8 : Int).toNat * 1)) = some (.int .i64 i2) ∧ 
 CallsA Try.prog w0 56 #[.int .i64 i2, .pointer (some ⟨x1_0, 0, none⟩)] m fun r4 m5 =>
 ∃ t3 : Bool, r4 = .bool t3 ∧ (bcase t3 (
 RetP R (.int .i64 x8) m5) (
 IntKind.i64 = IntKind.i64 ∧ (.slice x0 x0n x0c : Value) = .slice x0 x0n x0c ∧ (.func (.func 56) #[] #[.pointer (some ⟨x1_0, 0, none⟩)] : Value) = .func (.func 56) #[] #[.pointer (some ⟨x1_0, 0, none⟩)] ∧ (.int .i64 x7 : Value) = .int .i64 x7 ∧ true = true ∧ ∃ n' : Nat, n' < n0 ∧ I0 n' (IntKind.wrap .i64 (x8 + 1)) m5))) (
 (.slice x0 x0n x0c : Value) = .slice x0 x0n x0c ∧ (.func (.func 56) #[] #[.pointer (some ⟨x1_0, 0, none⟩)] : Value) = .func (.func 56) #[] #[.pointer (some ⟨x1_0, 0, none⟩)] ∧ (.int .i64 x7 : Value) = .int .i64 x7 ∧ E0_0  m))))
 (h_e0 : ∀ (σ : Sg)  (m : AM), E0_0  m → (
 RetP R (.int .i64 (-1)) m)) :
 vcS Try.prog w0 hqs84 (sub hc84 [1, 0, 1, 0]) σ m (blockS 0 (thenS (fun σ m => vcS Try.prog w0 hqs84 (sub hc84 [1, 1]) σ m (retQ Try.prog Try.f84 R)) (retQ Try.prog Try.f84 R))) := by
  rw [show sub hc84 [1, 0, 1, 0] = .loop (sub hc84 [1, 0, 1, 0, 0]) from by kernel_rfl]
  refine loopQ (fun n0 σ m => σ 0 = .slice x0 x0n x0c ∧ σ 1 = .func (.func 56) #[] #[.pointer (some ⟨x1_0, 0, none⟩)] ∧ σ 7 = .int .i64 x7 ∧ okI .i64 (σ 8) = true ∧ I0 n0 (vI (σ 8)) m) N (fun n0 => (hlq84_1010 R x0 x0n x0c x1_0 x7 I0 E0_0 n0)) ⟨h0, h1, h7, (by rw [h8]; rfl), (by rw [h8]; exact h_0)⟩ ?_ ?_ ?_
  · rintro n0 σ m ⟨kk0, kk1, kk2, kk3, n', hlt, hI⟩; exact ⟨n', hlt, kk0, kk1, kk2, kk3, hI⟩
  · intro n0 e σ m hne h
    cases e with
    | normal => exact absurd rfl hne
    | ret => exact h
    | exit id =>
      by_cases e0 : id = 0
      · subst e0
        obtain ⟨kk0, kk1, kk2, hE⟩ := h
        have es : (upd (upd (upd σ 0 (.slice x0 x0n x0c)) 1 (.func (.func 56) #[] #[.pointer (some ⟨x1_0, 0, none⟩)])) 7 (.int .i64 x7)) = σ := by rw [upd_id kk0, upd_id kk1, upd_id kk2]
        exact cast (congrArg (fun s => (blockS 0 (thenS (fun σ m => vcS Try.prog w0 hqs84 (sub hc84 [1, 1]) σ m (retQ Try.prog Try.f84 R)) (retQ Try.prog Try.f84 R))) (.exit 0) s m) es) (cast (by kernel_rfl) (h_e0 σ  m hE))
      · replace h := (if_neg e0 : (if id = 0 then _ else _) = _).mp h
        exact False.elim h
    | _ => exact False.elim h
  · rintro n0 σ m ⟨kk0, kk1, kk2, kk3, hI⟩
    have es : (upd (upd (upd (upd σ 0 (.slice x0 x0n x0c)) 1 (.func (.func 56) #[] #[.pointer (some ⟨x1_0, 0, none⟩)])) 7 (.int .i64 x7)) 8 (.int .i64 (vI (σ 8)))) = σ := by rw [upd_id kk0, upd_id kk1, upd_id kk2, upd_id (ok_int kk3)]
    exact cast (congrArg (fun s => vcS Try.prog w0 hqs84 (sub hc84 [1, 0, 1, 0, 0]) s m (hlq84_1010 R x0 x0n x0c x1_0 x7 I0 E0_0 n0)) es) (cast (by kernel_rfl) (h_s n0 σ (vI (σ 8)) m hI))

/-! 27 delayslot/block.Heads -/
def qs27 : Nat → List (Nat × Nat) := fun i => match i with | _ => []
noncomputable def c27 : Code := bodyOf Try.f27
theorem cf27 (w0 : World) (m : AM) (x0 : Option Addr) (x0n x0c : Nat) (R : Value → AM → Prop) (h :
 ∀ b1 : Nat, w0.heap.size ≤ b1 → m b1 = none → let m2 := AM.upd m b1 (.cells #[.slice x0 x0n x0c] 22);
 ∃ (A3 : Option Addr) (n4 c5 : Nat), m2.cell ⟨b1, 0, none⟩ = some (.slice A3 n4 c5) ∧ 
 CallsA Try.prog w0 23 #[.slice A3 n4 c5] m2 fun r7 m8 =>
 ∃ t6 : Bool, r7 = .bool t6 ∧ (bcase (!t6) (
 (!t6) = true ∧ RetP R (.slice none 0 0) m8) (
 ∃ (A9 : Option Addr) (n10 c11 : Nat), m8.cell ⟨b1, 0, none⟩ = some (.slice A9 n10 c11) ∧ 
 IntKind.i64 = IntKind.i64 ∧ (bcase (bif !t6 then true else (((n10 : Nat) : Int) : Int) == 0) (
 RetP R (.slice none 0 0) m8) (
 ∀ b12 : Nat, w0.heap.size ≤ b12 → m8 b12 = none → let m13 := AM.upd m8 b12 (.cells #[.map none, .slice none 0 0] 58);
 CallsA Try.prog w0 51 #[.pointer (some ⟨b12, 0, none⟩), .int .i64 0] m13 fun r15 m16 =>
 ∃ t14 : Bool, r15 = .bool t14 ∧ ∃ (A17 : Option Addr) (n18 c19 : Nat), m16.cell ⟨b1, 0, none⟩ = some (.slice A17 n18 c19) ∧ 
 vcS Try.prog w0 qs27 (sub c27 [1, 1, 1, 1, 0, 1, 0]) (upd (upd (upd (upd (upd (upd (upd (upd (upd (upd (upd (upd (upd (upd (upd (argS [.slice x0 x0n x0c]) 1 (.pointer (some ⟨b1, 0, none⟩))) 2 (.slice none 0 0)) 9 (.slice A3 n4 c5)) 10 (.bool t6)) 11 (.bool (!t6))) 12 (.bool (!t6))) 13 (.slice A9 n10 c11)) 14 (.int .i64 ((n10 : Nat) : Int))) 15 (.bool ((((n10 : Nat) : Int) : Int) == 0))) 16 (.bool (bif !t6 then true else (((n10 : Nat) : Int) : Int) == 0))) 3 (.pointer (some ⟨b12, 0, none⟩))) 17 (.bool t14)) 18 (.slice A17 n18 c19)) 19 (.int .i64 ((n18 : Nat) : Int))) 20 (.int .i64 0)) m16 (blockS 0 (thenS (fun σ m => vcS Try.prog w0 qs27 (sub c27 [1, 1, 1, 1, 1]) σ m (retQ Try.prog Try.f27 R)) (retQ Try.prog Try.f27 R)))))))) : CallsA Try.prog w0 27 #[.slice x0 x0n x0c] m R :=
  callsA_of (c := c27) (args := [.slice x0 x0n x0c]) (by kernel_rfl) Try.func27 (by kernel_rfl) qs27 (by kernel_rfl) (by kernel_rfl) (cast (by kernel_rfl) h)
def lq27_1111010 (R : Value → AM → Prop) (x1 : Nat) (x3 : Nat) (x18 : Option Addr) (x18n x18c : Nat) (x19 : Int) (I0 : Nat → Int → AM → Prop) (E0_0 : AM → Prop) (n0 : Nat) : Exit → Sg → AM → Prop
  | .normal, σ, m => σ 1 = .pointer (some ⟨x1, 0, none⟩) ∧ σ 3 = .pointer (some ⟨x3, 0, none⟩) ∧ σ 18 = .slice x18 x18n x18c ∧ σ 19 = .int .i64 x19 ∧ okI .i64 (σ 20) = true ∧ ∃ n' : Nat, n' < n0 ∧ I0 n' (vI (σ 20)) m
  | .exit id, σ, m => if id = 0 then σ 1 = .pointer (some ⟨x1, 0, none⟩) ∧ σ 3 = .pointer (some ⟨x3, 0, none⟩) ∧ σ 18 = .slice x18 x18n x18c ∧ σ 19 = .int .i64 x19 ∧ E0_0  m else False
  | .ret, σ, m => retQ Try.prog Try.f27 R .ret σ m
  | _, _, _ => False
theorem vl27_1111010 (w0 : World) (m : AM) (σ : Sg) (R : Value → AM → Prop)  (x1 : Nat) (x3 : Nat) (x18 : Option Addr) (x18n x18c : Nat) (x19 : Int) (x20 : Int) (I0 : Nat → Int → AM → Prop) (E0_0 : AM → Prop) (N : Nat) (h1 : σ 1 = .pointer (some ⟨x1, 0, none⟩)) (h3 : σ 3 = .pointer (some ⟨x3, 0, none⟩)) (h18 : σ 18 = .slice x18 x18n x18c) (h19 : σ 19 = .int .i64 x19) (h20 : σ 20 = .int .i64 x20)
 (h_0 : I0 N x20 m)
 (h_s : ∀ (n0 : Nat) (σ : Sg) (x20 : Int) (m : AM), I0 n0 x20 m → (
 IntKind.i64 = IntKind.i64 ∧ (bcase (decide ((x20 : Int) < x19)) (
 ((0 : Int) ≤ x20 ∧ x20 < ((x18n : Nat) : Int)) ∧ nilO x18 fun a20 =>
 ∃ i21 : Int, m.cell (a20.add ((x20 : Int).toNat * 5)) = some (.int .i64 i21) ∧ ∃ i22 : Int, m.cell ((a20.add ((x20 : Int).toNat * 5)).add 1) = some (.int .i64 i22) ∧ ∃ i23 : Int, m.cell ((a20.add ((x20 : Int).toNat * 5)).add 2) = some (.int .i64 i23) ∧ ∃ i24 : Int, m.cell ((a20.add ((x20 : Int).toNat * 5)).add 3) = some (.int .i64 i24) ∧ ∃ i25 : Int, m.cell ((a20.add ((x20 : Int).toNat * 5)).add 4) = some (.int .i64 i25) ∧ 
 ∀ b26 : Nat, w0.heap.size ≤ b26 → m b26 = none → let m27 := AM.upd m b26 (.cells #[.int .i64 0, .int .i64 0, .int .i64 0, .int .i64 0, .int .i64 0] 24);
 StC w0.heap.size m27 ⟨b26, 0, none⟩ (.int .i64 i21) fun m28 =>
 StC w0.heap.size m28 ⟨b26, 1, none⟩ (.int .i64 i22) fun m29 =>
 StC w0.heap.size m29 ⟨b26, 2, none⟩ (.int .i64 i23) fun m30 =>
 StC w0.heap.size m30 ⟨b26, 3, none⟩ (.int .i64 i24) fun m31 =>
 StC w0.heap.size m31 ⟨b26, 4, none⟩ (.int .i64 i25) fun m32 =>
 ∃ i33 : Int, m32.cell ⟨b26, 0, none⟩ = some (.int .i64 i33) ∧ ∃ i34 : Int, m32.cell ⟨b26, 1, none⟩ = some (.int .i64 i34) ∧ ∃ i35 : Int, m32.cell ⟨b26, 2, none⟩ = some (.int .i64 i35) ∧ ∃ i36 : Int, m32.cell ⟨b26, 3, none⟩ = some (.int .i64 i36) ∧ ∃ i37 : Int, m32.cell ⟨b26, 4, none⟩ = some (.int .i64 i37) ∧ 
 CallsA Try.prog w0 21 #[.agg #[.int .i64 i33, .int .i64 i34, .int .i64 i35, .int .i64 i36, .int .i64 i37], .int .i64 x20] m32 fun r40 m41 =>
 ∃ i38 : Int, ∃ t39 : Bool, r40 = .tuple #[.int .i64 i38, .bool t39] ∧ (bcase t39 (
 CallsA Try.prog w0 51 #[.pointer (some ⟨x3, 0, none⟩), .int .i64 i38] m41 fun r45 m46 =>
 ∃ t44 : Bool, r45 = .bool t44 ∧ ∃ i47 : Int, m46.cell ⟨b26, 0, none⟩ = some (.int .i64 i47) ∧ ∃ i48 : Int, m46.cell ⟨b26, 1, none⟩ = some (.int .i64 i48) ∧ ∃ i49 : Int, m46.cell ⟨b26, 2, none⟩ = some (.int .i64 i49) ∧ ∃ i50 : Int, m46.cell ⟨b26, 3, none⟩ = some (.int .i64 i50) ∧ ∃ i51 : Int, m46.cell ⟨b26, 4, none⟩ = some (.int .i64 i51) ∧ 
 CallsA Try.prog w0 52 #[.agg #[.int .i64 i47, .int .i64 i48, .int .i64 i49, .int .i64 i50, .int .i64 i51]] m46 fun r53 m54 =>
 ∃ t52 : Bool, r53 = .bool t52 ∧ (bcase t52 (
 IntKind.i64 = IntKind.i64 ∧ CallsA Try.prog w0 51 #[.pointer (some ⟨x3, 0, none⟩), .int .i64 (IntKind.wrap .i64 (x20 + 1))] m54 fun r56 m57 =>
 ∃ t55 : Bool, r56 = .bool t55 ∧ IntKind.i64 = IntKind.i64 ∧ (.pointer (some ⟨x1, 0, none⟩) : Value) = .pointer (some ⟨x1, 0, none⟩) ∧ (.pointer (some ⟨x3, 0, none⟩) : Value) = .pointer (some ⟨x3, 0, none⟩) ∧ (.slice x18 x18n x18c : Value) = .slice x18 x18n x18c ∧ (.int .i64 x19 : Value) = .int .i64 x19 ∧ true = true ∧ ∃ n' : Nat, n' < n0 ∧ I0 n' (IntKind.wrap .i64 (x20 + 1)) m57) (
 IntKind.i64 = IntKind.i64 ∧ (.pointer (some ⟨x1, 0, none⟩) : Value) = .pointer (some ⟨x1, 0, none⟩) ∧ (.pointer (some ⟨x3, 0, none⟩) : Value) = .pointer (some ⟨x3, 0, none⟩) ∧ (.slice x18 x18n x18c : Value) = .slice x18 x18n x18c ∧ (.int .i64 x19 : Value) = .int .i64 x19 ∧ true = true ∧ ∃ n' : Nat, n' < n0 ∧ I0 n' (IntKind.wrap .i64 (x20 + 1)) m54))) (
 ∃ i58 : Int, m41.cell ⟨b26, 0, none⟩ = some (.int .i64 i58) ∧ ∃ i59 : Int, m41.cell ⟨b26, 1, none⟩ = some (.int .i64 i59) ∧ ∃ i60 : Int, m41.cell ⟨b26, 2, none⟩ = some (.int .i64 i60) ∧ ∃ i61 : Int, m41.cell ⟨b26, 3, none⟩ = some (.int .i64 i61) ∧ ∃ i62 : Int, m41.cell ⟨b26, 4, none⟩ = some (.int .i64 i62) ∧ 
 CallsA Try.prog w0 52 #[.agg #[.int .i64 i58, .int .i64 i59, .int .i64 i60, .int .i64 i61, .int .i64 i62]] m41 fun r64 m65 =>
 ∃ t63 : Bool, r64 = .bool t63 ∧ (bcase t63 (
 IntKind.i64 = IntKind.i64 ∧ CallsA Try.prog w0 51 #[.pointer (some ⟨x3, 0, none⟩), .int .i64 (IntKind.wrap .i64 (x20 + 1))] m65 fun r67 m68 =>
 ∃ t66 : Bool, r67 = .bool t66 ∧ IntKind.i64 = IntKind.i64 ∧ (.pointer (some ⟨x1, 0, none⟩) : Value) = .pointer (some ⟨x1, 0, none⟩) ∧ (.pointer (some ⟨x3, 0, none⟩) : Value) = .pointer (some ⟨x3, 0, none⟩) ∧ (.slice x18 x18n x18c : Value) = .slice x18 x18n x18c ∧ (.int .i64 x19 : Value) = .int .i64 x19 ∧ true = true ∧ ∃ n' : Nat, n' < n0 ∧ I0 n' (IntKind.wrap .i64 (x20 + 1)) m68) (
 IntKind.i64 = IntKind.i64 ∧ (.pointer (some ⟨x1, 0, none⟩) : Value) = .pointer (some ⟨x1, 0, none⟩) ∧ (.pointer (some ⟨x3, 0, none⟩) : Value) = .pointer (some ⟨x3, 0, none⟩) ∧ (.slice x18 x18n x18c : Value) = .slice x18 x18n x18c ∧ (.int .i64 x19 : Value) = .int .i64 x19 ∧ true = true ∧ ∃ n' : Nat, n' < n0 ∧ I0 n' (IntKind.wrap .i64 (x20 + 1)) m65))))) (
 (.pointer (some ⟨x1, 0, none⟩) : Value) = .pointer (some ⟨x1, 0, none⟩) ∧ (.pointer (some ⟨x3, 0, none⟩) : Value) = .pointer (some ⟨x3, 0, none⟩) ∧ (.slice x18 x18n x18c : Value) = .slice x18 x18n x18c ∧ (.int .i64 x19 : Value) = .int .i64 x19 ∧ E0_0  m))))
 (h_e0 : ∀ (σ : Sg)  (m : AM), E0_0  m → (
 CallsA Try.prog w0 55 #[.pointer (some ⟨x3, 0, none⟩)] m fun r70 m71 =>
 ∃ v69 : Value, r70 = v69 ∧ CallsA Try.prog w0 54 #[v69] m71 fun r75 m76 =>
 ∃ (A72 : Option Addr) (n73 c74 : Nat), r75 = .slice A72 n73 c74 ∧ CallsA Try.prog w0 53 #[.slice A72 n73 c74, .func (.func 56) #[] #[.pointer (some ⟨x1, 0, none⟩)]] m76 fun r80 m81 =>
 ∃ (A77 : Option Addr) (n78 c79 : Nat), r80 = .slice A77 n78 c79 ∧ CallsA Try.prog w0 57 #[.slice A77 n78 c79] m81 fun r82 m83 =>
 r82 = .tuple #[] ∧ RetP R (.slice A77 n78 c79) m83)) :
 vcS Try.prog w0 qs27 (sub c27 [1, 1, 1, 1, 0, 1, 0]) σ m (blockS 0 (thenS (fun σ m => vcS Try.prog w0 qs27 (sub c27 [1, 1, 1, 1, 1]) σ m (retQ Try.prog Try.f27 R)) (retQ Try.prog Try.f27 R))) := by
  rw [show sub c27 [1, 1, 1, 1, 0, 1, 0] = .loop (sub c27 [1, 1, 1, 1, 0, 1, 0, 0]) from by kernel_rfl]
  refine loopQ (fun n0 σ m => σ 1 = .pointer (some ⟨x1, 0, none⟩) ∧ σ 3 = .pointer (some ⟨x3, 0, none⟩) ∧ σ 18 = .slice x18 x18n x18c ∧ σ 19 = .int .i64 x19 ∧ okI .i64 (σ 20) = true ∧ I0 n0 (vI (σ 20)) m) N (fun n0 => (lq27_1111010 R x1 x3 x18 x18n x18c x19 I0 E0_0 n0)) ⟨h1, h3, h18, h19, (by rw [h20]; rfl), (by rw [h20]; exact h_0)⟩ ?_ ?_ ?_
  · rintro n0 σ m ⟨kk0, kk1, kk2, kk3, kk4, n', hlt, hI⟩; exact ⟨n', hlt, kk0, kk1, kk2, kk3, kk4, hI⟩
  · intro n0 e σ m hne h
    cases e with
    | normal => exact absurd rfl hne
    | ret => exact h
    | exit id =>
      by_cases e0 : id = 0
      · subst e0
        obtain ⟨kk0, kk1, kk2, kk3, hE⟩ := h
        have es : (upd (upd (upd (upd σ 1 (.pointer (some ⟨x1, 0, none⟩))) 3 (.pointer (some ⟨x3, 0, none⟩))) 18 (.slice x18 x18n x18c)) 19 (.int .i64 x19)) = σ := by rw [upd_id kk0, upd_id kk1, upd_id kk2, upd_id kk3]
        exact cast (congrArg (fun s => (blockS 0 (thenS (fun σ m => vcS Try.prog w0 qs27 (sub c27 [1, 1, 1, 1, 1]) σ m (retQ Try.prog Try.f27 R)) (retQ Try.prog Try.f27 R))) (.exit 0) s m) es) (cast (by kernel_rfl) (h_e0 σ  m hE))
      · replace h := (if_neg e0 : (if id = 0 then _ else _) = _).mp h
        exact False.elim h
    | _ => exact False.elim h
  · rintro n0 σ m ⟨kk0, kk1, kk2, kk3, kk4, hI⟩
    have es : (upd (upd (upd (upd (upd σ 1 (.pointer (some ⟨x1, 0, none⟩))) 3 (.pointer (some ⟨x3, 0, none⟩))) 18 (.slice x18 x18n x18c)) 19 (.int .i64 x19)) 20 (.int .i64 (vI (σ 20)))) = σ := by rw [upd_id kk0, upd_id kk1, upd_id kk2, upd_id kk3, upd_id (ok_int kk4)]
    exact cast (congrArg (fun s => vcS Try.prog w0 qs27 (sub c27 [1, 1, 1, 1, 0, 1, 0, 0]) s m (lq27_1111010 R x1 x3 x18 x18n x18c x19 I0 E0_0 n0)) es) (cast (by kernel_rfl) (h_s n0 σ (vI (σ 20)) m hI))

/-! 28 delayslot/block.Blocks -/
def qs28 : Nat → List (Nat × Nat) := fun i => match i with | _ => []
noncomputable def c28 : Code := bodyOf Try.f28
theorem cf28 (w0 : World) (m : AM) (x0 : Option Addr) (x0n x0c : Nat) (R : Value → AM → Prop) (h :
 CallsA Try.prog w0 27 #[.slice x0 x0n x0c] m fun r4 m5 =>
 ∃ (A1 : Option Addr) (n2 c3 : Nat), r4 = .slice A1 n2 c3 ∧ vcS Try.prog w0 qs28 (sub c28 [1, 1, 1, 0, 1, 0]) (upd (upd (upd (upd (upd (upd (upd (upd (argS [.slice x0 x0n x0c]) 2 (.slice none 0 0)) 3 (.slice none 0 0)) 8 (.slice x0 x0n x0c)) 9 (.slice A1 n2 c3)) 4 (.slice A1 n2 c3)) 10 (.slice A1 n2 c3)) 11 (.int .i64 ((n2 : Nat) : Int))) 12 (.int .i64 0)) m5 (blockS 0 (thenS (fun σ m => vcS Try.prog w0 qs28 (sub c28 [1, 1, 1, 1]) σ m (retQ Try.prog Try.f28 R)) (retQ Try.prog Try.f28 R)))) : CallsA Try.prog w0 28 #[.slice x0 x0n x0c] m R :=
  callsA_of (c := c28) (args := [.slice x0 x0n x0c]) (by kernel_rfl) Try.func28 (by kernel_rfl) qs28 (by kernel_rfl) (by kernel_rfl) (cast (by kernel_rfl) h)
def lq28_111010 (R : Value → AM → Prop) (x0 : Option Addr) (x0n x0c : Nat) (x4 : Option Addr) (x4n x4c : Nat) (x10 : Option Addr) (x10n x10c : Nat) (x11 : Int) (I0 : Nat → Option Addr → Nat → Nat → Int → AM → Prop) (E0_0 : Option Addr → Nat → Nat → AM → Prop) (n0 : Nat) : Exit → Sg → AM → Prop
  | .normal, σ, m => σ 0 = .slice x0 x0n x0c ∧ σ 4 = .slice x4 x4n x4c ∧ σ 10 = .slice x10 x10n x10c ∧ σ 11 = .int .i64 x11 ∧ okS (σ 3) = true ∧ okI .i64 (σ 12) = true ∧ ∃ n' : Nat, n' < n0 ∧ I0 n' (vSA (σ 3)) (vSN (σ 3)) (vSC (σ 3)) (vI (σ 12)) m
  | .exit id, σ, m => if id = 0 then σ 0 = .slice x0 x0n x0c ∧ σ 4 = .slice x4 x4n x4c ∧ σ 10 = .slice x10 x10n x10c ∧ σ 11 = .int .i64 x11 ∧ okS (σ 3) = true ∧ E0_0 (vSA (σ 3)) (vSN (σ 3)) (vSC (σ 3)) m else False
  | .ret, σ, m => retQ Try.prog Try.f28 R .ret σ m
  | _, _, _ => False
theorem vl28_111010 (w0 : World) (m : AM) (σ : Sg) (R : Value → AM → Prop)  (x0 : Option Addr) (x0n x0c : Nat) (x4 : Option Addr) (x4n x4c : Nat) (x10 : Option Addr) (x10n x10c : Nat) (x11 : Int) (x3 : Option Addr) (x3n x3c : Nat) (x12 : Int) (I0 : Nat → Option Addr → Nat → Nat → Int → AM → Prop) (E0_0 : Option Addr → Nat → Nat → AM → Prop) (N : Nat) (h0 : σ 0 = .slice x0 x0n x0c) (h3 : σ 3 = .slice x3 x3n x3c) (h4 : σ 4 = .slice x4 x4n x4c) (h10 : σ 10 = .slice x10 x10n x10c) (h11 : σ 11 = .int .i64 x11) (h12 : σ 12 = .int .i64 x12)
 (h_0 : I0 N x3 x3n x3c x12 m)
 (h_s : ∀ (n0 : Nat) (σ : Sg) (x3 : Option Addr) (x3n : Nat) (x3c : Nat) (x12 : Int) (m : AM), I0 n0 x3 x3n x3c x12 m → (
 IntKind.i64 = IntKind.i64 ∧ (bcase (decide ((x12 : Int) < x11)) (
 ((0 : Int) ≤ x12 ∧ x12 < ((x10n : Nat) : Int)) ∧ nilO x10 fun a6 =>
 ∃ i7 : Int, m.cell (a6.add ((x12 : Int).toNat * 1)) = some (.int .i64 i7) ∧ 
 IntKind.i64 = IntKind.i64 ∧ IntKind.i64 = IntKind.i64 ∧ (bcase (decide (((IntKind.wrap .i64 (x12 + 1)) : Int) < ((x4n : Nat) : Int))) (
 IntKind.i64 = IntKind.i64 ∧ ((0 : Int) ≤ (IntKind.wrap .i64 (x12 + 1)) ∧ (IntKind.wrap .i64 (x12 + 1)) < ((x4n : Nat) : Int)) ∧ nilO x4 fun a8 =>
 ∃ i9 : Int, m.cell (a8.add ((IntKind.wrap .i64 (x12 + 1) : Int).toNat * 1)) = some (.int .i64 i9) ∧ 
 true = true ∧ true = true ∧ ∀ b10 : Nat, w0.heap.size ≤ b10 → m b10 = none → let m11 := AM.upd m b10 (.cells #[.int .i64 i7, .int .i64 i9] 36);
 awp Try.prog w0.heap.size (Builtin.append_ #[32, 32] 32 #[.slice x3 x3n x3c, .slice (some ⟨b10, 0, none⟩) 1 1]) m11 fun v12 m13 =>
 ∃ (A14 : Option Addr) (n15 c16 : Nat), v12 = .slice A14 n15 c16 ∧ IntKind.i64 = IntKind.i64 ∧ (.slice x0 x0n x0c : Value) = .slice x0 x0n x0c ∧ (.slice x4 x4n x4c : Value) = .slice x4 x4n x4c ∧ (.slice x10 x10n x10c : Value) = .slice x10 x10n x10c ∧ (.int .i64 x11 : Value) = .int .i64 x11 ∧ true = true ∧ true = true ∧ ∃ n' : Nat, n' < n0 ∧ I0 n' A14 n15 c16 (IntKind.wrap .i64 (x12 + 1)) m13) (
 true = true ∧ true = true ∧ ∀ b17 : Nat, w0.heap.size ≤ b17 → m b17 = none → let m18 := AM.upd m b17 (.cells #[.int .i64 i7, .int .i64 ((x0n : Nat) : Int)] 36);
 awp Try.prog w0.heap.size (Builtin.append_ #[32, 32] 32 #[.slice x3 x3n x3c, .slice (some ⟨b17, 0, none⟩) 1 1]) m18 fun v19 m20 =>
 ∃ (A21 : Option Addr) (n22 c23 : Nat), v19 = .slice A21 n22 c23 ∧ IntKind.i64 = IntKind.i64 ∧ (.slice x0 x0n x0c : Value) = .slice x0 x0n x0c ∧ (.slice x4 x4n x4c : Value) = .slice x4 x4n x4c ∧ (.slice x10 x10n x10c : Value) = .slice x10 x10n x10c ∧ (.int .i64 x11 : Value) = .int .i64 x11 ∧ true = true ∧ true = true ∧ ∃ n' : Nat, n' < n0 ∧ I0 n' A21 n22 c23 (IntKind.wrap .i64 (x12 + 1)) m20))) (
 (.slice x0 x0n x0c : Value) = .slice x0 x0n x0c ∧ (.slice x4 x4n x4c : Value) = .slice x4 x4n x4c ∧ (.slice x10 x10n x10c : Value) = .slice x10 x10n x10c ∧ (.int .i64 x11 : Value) = .int .i64 x11 ∧ true = true ∧ E0_0 x3 x3n x3c m))))
 (h_e0 : ∀ (σ : Sg) (x3 : Option Addr) (x3n : Nat) (x3c : Nat) (m : AM), E0_0 x3 x3n x3c m → (
 RetP R (.slice x3 x3n x3c) m)) :
 vcS Try.prog w0 qs28 (sub c28 [1, 1, 1, 0, 1, 0]) σ m (blockS 0 (thenS (fun σ m => vcS Try.prog w0 qs28 (sub c28 [1, 1, 1, 1]) σ m (retQ Try.prog Try.f28 R)) (retQ Try.prog Try.f28 R))) := by
  rw [show sub c28 [1, 1, 1, 0, 1, 0] = .loop (sub c28 [1, 1, 1, 0, 1, 0, 0]) from by kernel_rfl]
  refine loopQ (fun n0 σ m => σ 0 = .slice x0 x0n x0c ∧ σ 4 = .slice x4 x4n x4c ∧ σ 10 = .slice x10 x10n x10c ∧ σ 11 = .int .i64 x11 ∧ okS (σ 3) = true ∧ okI .i64 (σ 12) = true ∧ I0 n0 (vSA (σ 3)) (vSN (σ 3)) (vSC (σ 3)) (vI (σ 12)) m) N (fun n0 => (lq28_111010 R x0 x0n x0c x4 x4n x4c x10 x10n x10c x11 I0 E0_0 n0)) ⟨h0, h4, h10, h11, (by rw [h3]; rfl), (by rw [h12]; rfl), (by rw [h3, h12]; exact h_0)⟩ ?_ ?_ ?_
  · rintro n0 σ m ⟨kk0, kk1, kk2, kk3, kk4, kk5, n', hlt, hI⟩; exact ⟨n', hlt, kk0, kk1, kk2, kk3, kk4, kk5, hI⟩
  · intro n0 e σ m hne h
    cases e with
    | normal => exact absurd rfl hne
    | ret => exact h
    | exit id =>
      by_cases e0 : id = 0
      · subst e0
        obtain ⟨kk0, kk1, kk2, kk3, kk4, hE⟩ := h
        have es : (upd (upd (upd (upd (upd σ 0 (.slice x0 x0n x0c)) 4 (.slice x4 x4n x4c)) 10 (.slice x10 x10n x10c)) 11 (.int .i64 x11)) 3 (.slice (vSA (σ 3)) (vSN (σ 3)) (vSC (σ 3)))) = σ := by rw [upd_id kk0, upd_id kk1, upd_id kk2, upd_id kk3, upd_id (ok_slice kk4)]
        exact cast (congrArg (fun s => (blockS 0 (thenS (fun σ m => vcS Try.prog w0 qs28 (sub c28 [1, 1, 1, 1]) σ m (retQ Try.prog Try.f28 R)) (retQ Try.prog Try.f28 R))) (.exit 0) s m) es) (cast (by kernel_rfl) (h_e0 σ (vSA (σ 3)) (vSN (σ 3)) (vSC (σ 3)) m hE))
      · replace h := (if_neg e0 : (if id = 0 then _ else _) = _).mp h
        exact False.elim h
    | _ => exact False.elim h
  · rintro n0 σ m ⟨kk0, kk1, kk2, kk3, kk4, kk5, hI⟩
    have es : (upd (upd (upd (upd (upd (upd σ 0 (.slice x0 x0n x0c)) 3 (.slice (vSA (σ 3)) (vSN (σ 3)) (vSC (σ 3)))) 4 (.slice x4 x4n x4c)) 10 (.slice x10 x10n x10c)) 11 (.int .i64 x11)) 12 (.int .i64 (vI (σ 12)))) = σ := by rw [upd_id kk0, upd_id (ok_slice kk4), upd_id kk1, upd_id kk2, upd_id kk3, upd_id (ok_int kk5)]
    exact cast (congrArg (fun s => vcS Try.prog w0 qs28 (sub c28 [1, 1, 1, 0, 1, 0, 0]) s m (lq28_111010 R x0 x0n x0c x4 x4n x4c x10 x10n x10c x11 I0 E0_0 n0)) es) (cast (by kernel_rfl) (h_s n0 σ (vSA (σ 3)) (vSN (σ 3)) (vSC (σ 3)) (vI (σ 12)) m hI))

/-! 47 delayslot/block.Strict$1 -/
noncomputable def c47 : Code := bodyOf Try.f47
/-! 79 slices.IndexFunc[[]delayslot/api.Instr,delayslot/api.Instr] -/
noncomputable def c79 : Code := bodyOf Try.f79
/-! 46 slices.ContainsFunc[[]delayslot/api.Instr,delayslot/api.Instr] -/
/-! 25 delayslot/block.Strict -/
noncomputable def c25 : Code := bodyOf Try.f25
end Go.Proofs.Ytkfemiloehkmhaa.V

