/- Ytadcbnldahcelaa: a text of our own, by an AI agent: VCellsC -/
import Derived.Test.YtadcbnldahcelaaCore5
import Derived.Test.YtadcbnldahcelaaTabC
namespace Go.Proofs.Ytadcbnldahcelaa.V
open Go Go.Alog Go.Proofs.Ytadcbnldahcelaa.T
set_option linter.unusedVariables false
set_option maxRecDepth 100000

/-! 33 delayslot/cells.New -/
def qs33 : Nat → List (Nat × Nat) := fun i => match i with | _ => []
noncomputable def c33 : Code := bodyOf Try.f33
theorem cf33 (w0 : World) (m : AM) (x0 : Int) (R : Value → AM → Prop) (h :
 IntKind.i64 = IntKind.i64 ∧ (bcase (decide ((x0 : Int) < 0)) (
 (decide ((x0 : Int) < 0)) = true ∧ RetP R (.pointer none) m) (
 IntKind.i64 = IntKind.i64 ∧ (bcase (bif decide ((x0 : Int) < 0) then true else decide ((x0 : Int) > 32000)) (
 RetP R (.pointer none) m) (
 ((0 : Int) ≤ x0 ∧ (x0 : Int) ≤ x0 ∧ (x0 : Int) ≤ 9223372036854775807 ∧ ((8 : Nat) : Int) * x0 ≤ 281474976710656) ∧ ∀ b1 : Nat, w0.heap.size ≤ b1 → m b1 = none → let m2 := AM.upd m b1 (.cells (zeros [.int .i64 0] (x0 : Int).toNat).toArray 3);
 true = true ∧ ∀ b3 : Nat, w0.heap.size ≤ b3 → m2 b3 = none → let m4 := AM.upd m2 b3 (.cells #[.slice (some ⟨b1, 0, none⟩) ((x0 : Int).toNat) ((x0 : Int).toNat)] 81);
 RetP R (.pointer (some ⟨b3, 0, none⟩)) m4))))) : CallsA Try.prog w0 33 #[.int .i64 x0] m R :=
  callsA_of (c := c33) (args := [.int .i64 x0]) (by kernel_rfl) Try.func33 (by kernel_rfl) qs33 (by kernel_rfl) (by kernel_rfl) (cast (by kernel_rfl) h)

/-! 74 (*delayslot/cells.Memory).there -/
def qs74 : Nat → List (Nat × Nat) := fun i => match i with | _ => []
noncomputable def c74 : Code := bodyOf Try.f74
theorem cf74 (w0 : World) (m : AM) (x0 : Nat) (x1 : Int) (R : Value → AM → Prop) (h :
 (bcase (!(Option.isNone (some (⟨x0, 0, none⟩ : Addr)))) (
 IntKind.i64 = IntKind.i64 ∧ (bcase (bif !(Option.isNone (some (⟨x0, 0, none⟩ : Addr))) then decide ((x1 : Int) ≥ 0) else false) (
 ∃ (A1 : Option Addr) (n2 c3 : Nat), m.cell ⟨x0, 0, none⟩ = some (.slice A1 n2 c3) ∧ 
 IntKind.i64 = IntKind.i64 ∧ RetP R (.bool (bif bif !(Option.isNone (some (⟨x0, 0, none⟩ : Addr))) then decide ((x1 : Int) ≥ 0) else false then decide ((x1 : Int) < ((n2 : Nat) : Int)) else false)) m) (
 (bif !(Option.isNone (some (⟨x0, 0, none⟩ : Addr))) then decide ((x1 : Int) ≥ 0) else false) = false ∧ RetP R (.bool false) m))) (
 (!(Option.isNone (some (⟨x0, 0, none⟩ : Addr)))) = false ∧ false = false ∧ RetP R (.bool false) m))) : CallsA Try.prog w0 74 #[.pointer (some ⟨x0, 0, none⟩), .int .i64 x1] m R :=
  callsA_of (c := c74) (args := [.pointer (some ⟨x0, 0, none⟩), .int .i64 x1]) (by kernel_rfl) Try.func74 (by kernel_rfl) qs74 (by kernel_rfl) (by kernel_rfl) (cast (by kernel_rfl) h)

/-! 65 (*delayslot/cells.Memory).Load -/
def qs65 : Nat → List (Nat × Nat) := fun i => match i with | _ => []
noncomputable def c65 : Code := bodyOf Try.f65
theorem cf65 (w0 : World) (m : AM) (x0 : Nat) (x1 : Int) (R : Value → AM → Prop) (h :
 CallsA Try.prog w0 74 #[.pointer (some ⟨x0, 0, none⟩), .int .i64 x1] m fun r2 m3 =>
 ∃ t1 : Bool, r2 = .bool t1 ∧ (bcase (!t1) (
 RetP R (.tuple #[.int .i64 0, .bool false]) m3) (
 ∃ (A4 : Option Addr) (n5 c6 : Nat), m3.cell ⟨x0, 0, none⟩ = some (.slice A4 n5 c6) ∧ 
 ((0 : Int) ≤ x1 ∧ x1 < ((n5 : Nat) : Int)) ∧ nilO A4 fun a7 =>
 ∃ i8 : Int, m3.cell (a7.add ((x1 : Int).toNat * 1)) = some (.int .i64 i8) ∧ 
 RetP R (.tuple #[.int .i64 i8, .bool true]) m3))) : CallsA Try.prog w0 65 #[.pointer (some ⟨x0, 0, none⟩), .int .i64 x1] m R :=
  callsA_of (c := c65) (args := [.pointer (some ⟨x0, 0, none⟩), .int .i64 x1]) (by kernel_rfl) Try.func65 (by kernel_rfl) qs65 (by kernel_rfl) (by kernel_rfl) (cast (by kernel_rfl) h)

/-! 67 (*delayslot/cells.Memory).Store -/
def qs67 : Nat → List (Nat × Nat) := fun i => match i with | 1000003 => [(0, 0)] | _ => []
noncomputable def c67 : Code := bodyOf Try.f67
theorem cf67 (w0 : World) (m : AM) (x0 : Nat) (x1 : Int) (x2 : Int) (R : Value → AM → Prop) (h :
 CallsA Try.prog w0 74 #[.pointer (some ⟨x0, 0, none⟩), .int .i64 x1] m fun r2 m3 =>
 ∃ t1 : Bool, r2 = .bool t1 ∧ (bcase (!t1) (
 RetP R (.bool false) m3) (
 vcS Try.prog w0 qs67 (sub c67 [1, 1, 0]) (upd (upd (upd (upd (upd (argS [.pointer (some ⟨x0, 0, none⟩), .int .i64 x1, .int .i64 x2]) 6 (.bool false)) 7 (.pointer (some ⟨x0, 0, none⟩))) 8 (.int .i64 x1)) 9 (.bool t1)) 10 (.bool (!t1))) m3 (thenS (fun σ m => vcS Try.prog w0 qs67 (sub c67 [1, 1, 1]) σ m (retQ Try.prog Try.f67 R)) (retQ Try.prog Try.f67 R))))) : CallsA Try.prog w0 67 #[.pointer (some ⟨x0, 0, none⟩), .int .i64 x1, .int .i64 x2] m R :=
  callsA_of (c := c67) (args := [.pointer (some ⟨x0, 0, none⟩), .int .i64 x1, .int .i64 x2]) (by kernel_rfl) Try.func67 (by kernel_rfl) qs67 (by kernel_rfl) (by kernel_rfl) (cast (by kernel_rfl) h)
theorem vr67_110 (w0 : World) (m : AM) (σ : Sg) (R : Value → AM → Prop)  (x0 : Nat) (x1 : Int) (x2 : Int) (K : AM → Prop) (h0 : σ 0 = .pointer (some ⟨x0, 0, none⟩)) (h1 : σ 1 = .int .i64 x1) (h2 : σ 2 = .int .i64 x2)
 (h_t : 
 (∃ (A4 : Option Addr) (n5 c6 : Nat), m.cell ⟨x0, 0, none⟩ = some (.slice A4 n5 c6) ∧ 
 CallsA Try.prog w0 40 #[.int .i64 x2] m fun r8 m9 =>
 ∃ i7 : Int, r8 = .int .i64 i7 ∧ ((0 : Int) ≤ x1 ∧ x1 < ((n5 : Nat) : Int)) ∧ nilO A4 fun a10 =>
 StC w0.heap.size m9 (a10.add ((x1 : Int).toNat * 1)) (.int .i64 i7) fun m11 =>
 true = true ∧ K  m11) ∧
 (CallsA Try.prog w0 40 #[.int .i64 x2] m fun r13 m14 =>
 ∃ i12 : Int, r13 = .int .i64 i12 ∧ ∃ (A15 : Option Addr) (n16 c17 : Nat), m14.cell ⟨x0, 0, none⟩ = some (.slice A15 n16 c17) ∧ 
 ((0 : Int) ≤ x1 ∧ x1 < ((n16 : Nat) : Int)) ∧ nilO A15 fun a18 =>
 StC w0.heap.size m14 (a18.add ((x1 : Int).toNat * 1)) (.int .i64 i12) fun m19 =>
 true = true ∧ K  m19))
 (h_k : ∀ (σ : Sg)  (m : AM), K  m → (
 RetP R (.bool true) m)) :
 vcS Try.prog w0 qs67 (sub c67 [1, 1, 0]) σ m (thenS (fun σ m => vcS Try.prog w0 qs67 (sub c67 [1, 1, 1]) σ m (retQ Try.prog Try.f67 R)) (retQ Try.prog Try.f67 R)) := by
  have es0 : (upd (upd (upd σ 0 (.pointer (some ⟨x0, 0, none⟩))) 1 (.int .i64 x1)) 2 (.int .i64 x2)) = σ := by rw [upd_id h0, upd_id h1, upd_id h2]
  refine vcS_cut (Q0 := (fun σ m => K  m)) (by kernel_rfl) (cast (congrArg (fun s => trC Try.prog w0 qs67 (sub c67 [1, 1, 0]) s m (fun σ m => K  m)) es0) (cast (by kernel_rfl) h_t)) ?_
  intro σ m hK
  have es : σ = σ := by rfl
  exact cast (congrArg (fun s => (thenS (fun σ m => vcS Try.prog w0 qs67 (sub c67 [1, 1, 1]) σ m (retQ Try.prog Try.f67 R)) (retQ Try.prog Try.f67 R)) .normal s m) es) (cast (by kernel_rfl) (h_k σ  m hK))

/-! 52 (*delayslot/cells.Memory).Words -/
def qs52 : Nat → List (Nat × Nat) := fun i => match i with | _ => []
noncomputable def c52 : Code := bodyOf Try.f52
theorem cf52 (w0 : World) (m : AM) (x0 : Nat) (R : Value → AM → Prop) (h :
 (bcase (Option.isNone (some (⟨x0, 0, none⟩ : Addr))) (
 RetP R (.slice none 0 0) m) (
 ∃ (A1 : Option Addr) (n2 c3 : Nat), m.cell ⟨x0, 0, none⟩ = some (.slice A1 n2 c3) ∧ 
 CallsA Try.prog w0 34 #[.slice A1 n2 c3] m fun r7 m8 =>
 ∃ (A4 : Option Addr) (n5 c6 : Nat), r7 = .slice A4 n5 c6 ∧ RetP R (.slice A4 n5 c6) m8))) : CallsA Try.prog w0 52 #[.pointer (some ⟨x0, 0, none⟩)] m R :=
  callsA_of (c := c52) (args := [.pointer (some ⟨x0, 0, none⟩)]) (by kernel_rfl) Try.func52 (by kernel_rfl) qs52 (by kernel_rfl) (by kernel_rfl) (cast (by kernel_rfl) h)

/-! 36 (*delayslot/cells.Memory).Used -/
def qs36 : Nat → List (Nat × Nat) := fun i => match i with | _ => []
noncomputable def c36 : Code := bodyOf Try.f36
theorem cf36 (w0 : World) (m : AM) (x0 : Nat) (R : Value → AM → Prop) (h :
 CallsA Try.prog w0 52 #[.pointer (some ⟨x0, 0, none⟩)] m fun r4 m5 =>
 ∃ (A1 : Option Addr) (n2 c3 : Nat), r4 = .slice A1 n2 c3 ∧ vcS Try.prog w0 qs36 (sub c36 [1, 1, 0, 0]) (upd (upd (upd (upd (argS [.pointer (some ⟨x0, 0, none⟩)]) 2 (.slice none 0 0)) 4 (.pointer (some ⟨x0, 0, none⟩))) 5 (.slice A1 n2 c3)) 3 (.slice A1 n2 c3)) m5 (blockS 0 (thenS (fun σ m => vcS Try.prog w0 qs36 (sub c36 [1, 1, 1]) σ m (retQ Try.prog Try.f36 R)) (retQ Try.prog Try.f36 R)))) : CallsA Try.prog w0 36 #[.pointer (some ⟨x0, 0, none⟩)] m R :=
  callsA_of (c := c36) (args := [.pointer (some ⟨x0, 0, none⟩)]) (by kernel_rfl) Try.func36 (by kernel_rfl) qs36 (by kernel_rfl) (by kernel_rfl) (cast (by kernel_rfl) h)
def lq36_1100 (R : Value → AM → Prop)  (I0 : Nat → Option Addr → Nat → Nat → AM → Prop) (E0_0 : Option Addr → Nat → Nat → AM → Prop) (n0 : Nat) : Exit → Sg → AM → Prop
  | .normal, σ, m => okS (σ 3) = true ∧ ∃ n' : Nat, n' < n0 ∧ I0 n' (vSA (σ 3)) (vSN (σ 3)) (vSC (σ 3)) m
  | .exit id, σ, m => if id = 0 then okS (σ 3) = true ∧ E0_0 (vSA (σ 3)) (vSN (σ 3)) (vSC (σ 3)) m else False
  | .ret, σ, m => retQ Try.prog Try.f36 R .ret σ m
  | _, _, _ => False
theorem vl36_1100 (w0 : World) (m : AM) (σ : Sg) (R : Value → AM → Prop)   (x3 : Option Addr) (x3n x3c : Nat) (I0 : Nat → Option Addr → Nat → Nat → AM → Prop) (E0_0 : Option Addr → Nat → Nat → AM → Prop) (N : Nat) (h3 : σ 3 = .slice x3 x3n x3c)
 (h_0 : I0 N x3 x3n x3c m)
 (h_s : ∀ (n0 : Nat) (σ : Sg) (x3 : Option Addr) (x3n : Nat) (x3c : Nat) (m : AM), I0 n0 x3 x3n x3c m → (
 IntKind.i64 = IntKind.i64 ∧ (bcase (decide ((((x3n : Nat) : Int) : Int) > 0)) (
 IntKind.i64 = IntKind.i64 ∧ ((0 : Int) ≤ (IntKind.wrap .i64 (((x3n : Nat) : Int) - 1)) ∧ (IntKind.wrap .i64 (((x3n : Nat) : Int) - 1)) < ((x3n : Nat) : Int)) ∧ nilO x3 fun a6 =>
 ∃ i7 : Int, m.cell (a6.add ((IntKind.wrap .i64 (((x3n : Nat) : Int) - 1) : Int).toNat * 1)) = some (.int .i64 i7) ∧ 
 IntKind.i64 = IntKind.i64 ∧ (bcase (bif decide ((((x3n : Nat) : Int) : Int) > 0) then (i7 : Int) == 0 else false) (
 IntKind.i64 = IntKind.i64 ∧ (0 : Int) ≤ (IntKind.wrap .i64 (((x3n : Nat) : Int) - 1)) ∧ ((IntKind.wrap .i64 (((x3n : Nat) : Int) - 1) : Int).toNat) ≤ x3c ∧ 0 ≤ ((IntKind.wrap .i64 (((x3n : Nat) : Int) - 1) : Int).toNat) ∧
 true = true ∧ ∃ n' : Nat, n' < n0 ∧ I0 n' (if x3c = 0 then x3 else Option.map (fun x => Addr.add x (0 * 1)) x3) (((IntKind.wrap .i64 (((x3n : Nat) : Int) - 1) : Int).toNat) - 0) (x3c - 0) m) (
 true = true ∧ E0_0 x3 x3n x3c m))) (
 (decide ((((x3n : Nat) : Int) : Int) > 0)) = false ∧ true = true ∧ E0_0 x3 x3n x3c m))))
 (h_e0 : ∀ (σ : Sg) (x3 : Option Addr) (x3n : Nat) (x3c : Nat) (m : AM), E0_0 x3 x3n x3c m → (
 RetP R (.slice x3 x3n x3c) m)) :
 vcS Try.prog w0 qs36 (sub c36 [1, 1, 0, 0]) σ m (blockS 0 (thenS (fun σ m => vcS Try.prog w0 qs36 (sub c36 [1, 1, 1]) σ m (retQ Try.prog Try.f36 R)) (retQ Try.prog Try.f36 R))) := by
  rw [show sub c36 [1, 1, 0, 0] = .loop (sub c36 [1, 1, 0, 0, 0]) from by kernel_rfl]
  refine loopQ (fun n0 σ m => okS (σ 3) = true ∧ I0 n0 (vSA (σ 3)) (vSN (σ 3)) (vSC (σ 3)) m) N (fun n0 => (lq36_1100 R  I0 E0_0 n0)) ⟨(by rw [h3]; rfl), (by rw [h3]; exact h_0)⟩ ?_ ?_ ?_
  · rintro n0 σ m ⟨kk0, n', hlt, hI⟩; exact ⟨n', hlt, kk0, hI⟩
  · intro n0 e σ m hne h
    cases e with
    | normal => exact absurd rfl hne
    | ret => exact h
    | exit id =>
      by_cases e0 : id = 0
      · subst e0
        obtain ⟨kk0, hE⟩ := h
        have es : (upd σ 3 (.slice (vSA (σ 3)) (vSN (σ 3)) (vSC (σ 3)))) = σ := by rw [upd_id (ok_slice kk0)]
        exact cast (congrArg (fun s => (blockS 0 (thenS (fun σ m => vcS Try.prog w0 qs36 (sub c36 [1, 1, 1]) σ m (retQ Try.prog Try.f36 R)) (retQ Try.prog Try.f36 R))) (.exit 0) s m) es) (cast (by kernel_rfl) (h_e0 σ (vSA (σ 3)) (vSN (σ 3)) (vSC (σ 3)) m hE))
      · replace h := (if_neg e0 : (if id = 0 then _ else _) = _).mp h
        exact False.elim h
    | _ => exact False.elim h
  · rintro n0 σ m ⟨kk0, hI⟩
    have es : (upd σ 3 (.slice (vSA (σ 3)) (vSN (σ 3)) (vSC (σ 3)))) = σ := by rw [upd_id (ok_slice kk0)]
    exact cast (congrArg (fun s => vcS Try.prog w0 qs36 (sub c36 [1, 1, 0, 0, 0]) s m (lq36_1100 R  I0 E0_0 n0)) es) (cast (by kernel_rfl) (h_s n0 σ (vSA (σ 3)) (vSN (σ 3)) (vSC (σ 3)) m hI))

/-! 34 slices.Clone[[]int,int] -/
def qs34 : Nat → List (Nat × Nat) := fun i => match i with | _ => []
noncomputable def c34 : Code := bodyOf Try.f34
theorem cf34 (w0 : World) (m : AM) (x0 : Option Addr) (x0n x0c : Nat) (R : Value → AM → Prop) (h :
 (bcase (Option.isNone x0) (
 RetP R (.slice none 0 0) m) (
 true = true ∧ ∀ b1 : Nat, w0.heap.size ≤ b1 → m b1 = none → let m2 := AM.upd m b1 (.cells #[] 3);
 awp Try.prog w0.heap.size (Builtin.append_ #[23, 23] 23 #[.slice (some ⟨b1, 0, none⟩) 0 0, .slice x0 x0n x0c]) m2 fun v3 m4 =>
 ∃ (A5 : Option Addr) (n6 c7 : Nat), v3 = .slice A5 n6 c7 ∧ RetP R (.slice A5 n6 c7) m4))) : CallsA Try.prog w0 34 #[.slice x0 x0n x0c] m R :=
  callsA_of (c := c34) (args := [.slice x0 x0n x0c]) (by kernel_rfl) Try.func34 (by kernel_rfl) qs34 (by kernel_rfl) (by kernel_rfl) (cast (by kernel_rfl) h)
end Go.Proofs.Ytadcbnldahcelaa.V
