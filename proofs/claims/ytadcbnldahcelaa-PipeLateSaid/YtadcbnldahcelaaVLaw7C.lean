/- Ytadcbnldahcelaa: a text of our own, by an AI agent: VLaw7C -/
import Derived.Test.YtadcbnldahcelaaCore5
import Derived.Test.YtadcbnldahcelaaTabC
namespace Go.Proofs.Ytadcbnldahcelaa.V
open Go Go.Alog Go.Proofs.Ytadcbnldahcelaa.T
set_option linter.unusedVariables false
set_option maxRecDepth 100000

/-! 21 delayslot/delayslotlaw07.awake -/
def qs21 : Nat → List (Nat × Nat) := fun i => match i with | _ => []
noncomputable def c21 : Code := bodyOf Try.f21
theorem cf21 (w0 : World) (m : AM)  (R : Value → AM → Prop) (h :
 true = true ∧ true = true ∧ true = true ∧ true = true ∧ ∀ b1 : Nat, w0.heap.size ≤ b1 → m b1 = none → let m2 := AM.upd m b1 (.cells #[.int .i64 10, .int .i64 4, .int .i64 0, .int .i64 0, .int .i64 7, .int .i64 20, .int .i64 0, .int .i64 0, .int .i64 0, .int .i64 2, .int .i64 20, .int .i64 0, .int .i64 0, .int .i64 0, .int .i64 0] 34);
 CallsA Try.prog w0 23 #[.slice (some ⟨b1, 0, none⟩) 3 3, .int .i64 0, .slice none 0 0, .int .i64 9] m2 fun r11 m12 =>
 ∃ i3 : Int, ∃ i4 : Int, ∃ (A5 : Option Addr) (n6 c7 : Nat), ∃ (A8 : Option Addr) (n9 c10 : Nat), r11 = .agg #[.int .i64 i3, .int .i64 i4, .slice A5 n6 c7, .slice A8 n9 c10] ∧ ∀ b13 : Nat, w0.heap.size ≤ b13 → m12 b13 = none → let m14 := AM.upd m12 b13 (.cells #[.int .i64 0, .int .i64 0, .slice none 0 0, .slice none 0 0] 29);
 StC w0.heap.size m14 ⟨b13, 0, none⟩ (.int .i64 i3) fun m15 =>
 StC w0.heap.size m15 ⟨b13, 1, none⟩ (.int .i64 i4) fun m16 =>
 StC w0.heap.size m16 ⟨b13, 2, none⟩ (.slice A5 n6 c7) fun m17 =>
 StC w0.heap.size m17 ⟨b13, 3, none⟩ (.slice A8 n9 c10) fun m18 =>
 ∃ i19 : Int, m18.cell ⟨b13, 0, none⟩ = some (.int .i64 i19) ∧ 
 IntKind.i64 = IntKind.i64 ∧ (bcase ((i19 : Int) == 1) (
 ∃ i20 : Int, m18.cell ⟨b13, 1, none⟩ = some (.int .i64 i20) ∧ 
 IntKind.i64 = IntKind.i64 ∧ (bcase (bif (i19 : Int) == 1 then (i20 : Int) == 3 else false) (
 ∃ (A21 : Option Addr) (n22 c23 : Nat), m18.cell ⟨b13, 2, none⟩ = some (.slice A21 n22 c23) ∧ 
 IntKind.i64 = IntKind.i64 ∧ (bcase (bif bif (i19 : Int) == 1 then (i20 : Int) == 3 else false then (((n22 : Nat) : Int) : Int) == 1 else false) (
 ∃ (A24 : Option Addr) (n25 c26 : Nat), m18.cell ⟨b13, 2, none⟩ = some (.slice A24 n25 c26) ∧ 
 ((0 : Int) ≤ 0 ∧ 0 < ((n25 : Nat) : Int)) ∧ nilO A24 fun a27 =>
 ∃ i28 : Int, m18.cell (a27.add (0)) = some (.int .i64 i28) ∧ 
 IntKind.i64 = IntKind.i64 ∧ RetP R (.bool (bif bif bif (i19 : Int) == 1 then (i20 : Int) == 3 else false then (((n22 : Nat) : Int) : Int) == 1 else false then (i28 : Int) == 7 else false)) m18) (
 (bif bif (i19 : Int) == 1 then (i20 : Int) == 3 else false then (((n22 : Nat) : Int) : Int) == 1 else false) = false ∧ RetP R (.bool false) m18))) (
 (bif (i19 : Int) == 1 then (i20 : Int) == 3 else false) = false ∧ false = false ∧ RetP R (.bool false) m18))) (
 ((i19 : Int) == 1) = false ∧ false = false ∧ false = false ∧ RetP R (.bool false) m18))) : CallsA Try.prog w0 21 #[] m R :=
  callsA_of (c := c21) (args := []) (by kernel_rfl) Try.func21 (by kernel_rfl) qs21 (by kernel_rfl) (by kernel_rfl) (cast (by kernel_rfl) h)

/-! 20 delayslot/delayslotlaw07.small -/
def qs20 : Nat → List (Nat × Nat) := fun i => match i with | _ => []
noncomputable def c20 : Code := bodyOf Try.f20
theorem cf20 (w0 : World) (m : AM) (x0 : Option Addr) (x0n x0c : Nat) (x1 : Int) (x2 : Option Addr) (x2n x2c : Nat) (x3 : Int) (R : Value → AM → Prop) (h :
 IntKind.i64 = IntKind.i64 ∧ (bcase (decide ((((x0n : Nat) : Int) : Int) ≤ 200)) (
 IntKind.i64 = IntKind.i64 ∧ (bcase (decide ((x1 : Int) ≤ 300)) (
 (decide ((x1 : Int) ≤ 300)) = true ∧ (bcase (bif decide ((((x0n : Nat) : Int) : Int) ≤ 200) then true else false) (
 IntKind.i64 = IntKind.i64 ∧ (bcase (bif bif decide ((((x0n : Nat) : Int) : Int) ≤ 200) then true else false then decide ((((x2n : Nat) : Int) : Int) ≤ 100) else false) (
 IntKind.i64 = IntKind.i64 ∧ RetP R (.bool (bif bif bif decide ((((x0n : Nat) : Int) : Int) ≤ 200) then true else false then decide ((((x2n : Nat) : Int) : Int) ≤ 100) else false then decide ((x3 : Int) ≤ 2000) else false)) m) (
 (bif bif decide ((((x0n : Nat) : Int) : Int) ≤ 200) then true else false then decide ((((x2n : Nat) : Int) : Int) ≤ 100) else false) = false ∧ RetP R (.bool false) m))) (
 (bif decide ((((x0n : Nat) : Int) : Int) ≤ 200) then true else false) = false ∧ false = false ∧ RetP R (.bool false) m))) (
 IntKind.i64 = IntKind.i64 ∧ (bcase (bif decide ((((x0n : Nat) : Int) : Int) ≤ 200) then bif decide ((x1 : Int) ≤ 300) then true else decide ((x1 : Int) > 32000) else false) (
 IntKind.i64 = IntKind.i64 ∧ (bcase (bif bif decide ((((x0n : Nat) : Int) : Int) ≤ 200) then bif decide ((x1 : Int) ≤ 300) then true else decide ((x1 : Int) > 32000) else false then decide ((((x2n : Nat) : Int) : Int) ≤ 100) else false) (
 IntKind.i64 = IntKind.i64 ∧ RetP R (.bool (bif bif bif decide ((((x0n : Nat) : Int) : Int) ≤ 200) then bif decide ((x1 : Int) ≤ 300) then true else decide ((x1 : Int) > 32000) else false then decide ((((x2n : Nat) : Int) : Int) ≤ 100) else false then decide ((x3 : Int) ≤ 2000) else false)) m) (
 (bif bif decide ((((x0n : Nat) : Int) : Int) ≤ 200) then bif decide ((x1 : Int) ≤ 300) then true else decide ((x1 : Int) > 32000) else false then decide ((((x2n : Nat) : Int) : Int) ≤ 100) else false) = false ∧ RetP R (.bool false) m))) (
 (bif decide ((((x0n : Nat) : Int) : Int) ≤ 200) then bif decide ((x1 : Int) ≤ 300) then true else decide ((x1 : Int) > 32000) else false) = false ∧ false = false ∧ RetP R (.bool false) m))))) (
 (decide ((((x0n : Nat) : Int) : Int) ≤ 200)) = false ∧ false = false ∧ false = false ∧ RetP R (.bool false) m))) : CallsA Try.prog w0 20 #[.slice x0 x0n x0c, .int .i64 x1, .slice x2 x2n x2c, .int .i64 x3] m R :=
  callsA_of (c := c20) (args := [.slice x0 x0n x0c, .int .i64 x1, .slice x2 x2n x2c, .int .i64 x3]) (by kernel_rfl) Try.func20 (by kernel_rfl) qs20 (by kernel_rfl) (by kernel_rfl) (cast (by kernel_rfl) h)

/-! 22 delayslot/delayslotref07.Equal -/
def qs22 : Nat → List (Nat × Nat) := fun i => match i with | _ => []
noncomputable def c22 : Code := bodyOf Try.f22
theorem cf22 (w0 : World) (m : AM) (x0_0 : Int) (x0_1 : Int) (x0_2 : Option Addr) (x0_2n x0_2c : Nat) (x0_3 : Option Addr) (x0_3n x0_3c : Nat) (x1_0 : Int) (x1_1 : Int) (x1_2 : Option Addr) (x1_2n x1_2c : Nat) (x1_3 : Option Addr) (x1_3n x1_3c : Nat) (R : Value → AM → Prop) (h :
 ∀ b1 : Nat, w0.heap.size ≤ b1 → m b1 = none → let m2 := AM.upd m b1 (.cells #[.int .i64 x0_0, .int .i64 x0_1, .slice x0_2 x0_2n x0_2c, .slice x0_3 x0_3n x0_3c] 28);
 ∀ b3 : Nat, w0.heap.size ≤ b3 → m2 b3 = none → let m4 := AM.upd m2 b3 (.cells #[.int .i64 x1_0, .int .i64 x1_1, .slice x1_2 x1_2n x1_2c, .slice x1_3 x1_3n x1_3c] 28);
 ∃ i5 : Int, m4.cell ⟨b1, 0, none⟩ = some (.int .i64 i5) ∧ 
 ∃ i6 : Int, m4.cell ⟨b3, 0, none⟩ = some (.int .i64 i6) ∧ 
 IntKind.i64 = IntKind.i64 ∧ (bcase ((i5 : Int) != i6) (
 ((i5 : Int) != i6) = true ∧ true = true ∧ true = true ∧ RetP R (.bool false) m4) (
 ∃ i7 : Int, m4.cell ⟨b1, 1, none⟩ = some (.int .i64 i7) ∧ 
 ∃ i8 : Int, m4.cell ⟨b3, 1, none⟩ = some (.int .i64 i8) ∧ 
 IntKind.i64 = IntKind.i64 ∧ (bcase (bif (i5 : Int) != i6 then true else (i7 : Int) != i8) (
 (bif (i5 : Int) != i6 then true else (i7 : Int) != i8) = true ∧ true = true ∧ RetP R (.bool false) m4) (
 ∃ (A9 : Option Addr) (n10 c11 : Nat), m4.cell ⟨b1, 2, none⟩ = some (.slice A9 n10 c11) ∧ 
 ∃ (A12 : Option Addr) (n13 c14 : Nat), m4.cell ⟨b3, 2, none⟩ = some (.slice A12 n13 c14) ∧ 
 IntKind.i64 = IntKind.i64 ∧ (bcase (bif bif (i5 : Int) != i6 then true else (i7 : Int) != i8 then true else (((n10 : Nat) : Int) : Int) != ((n13 : Nat) : Int)) (
 (bif bif (i5 : Int) != i6 then true else (i7 : Int) != i8 then true else (((n10 : Nat) : Int) : Int) != ((n13 : Nat) : Int)) = true ∧ RetP R (.bool false) m4) (
 ∃ (A15 : Option Addr) (n16 c17 : Nat), m4.cell ⟨b1, 3, none⟩ = some (.slice A15 n16 c17) ∧ 
 ∃ (A18 : Option Addr) (n19 c20 : Nat), m4.cell ⟨b3, 3, none⟩ = some (.slice A18 n19 c20) ∧ 
 IntKind.i64 = IntKind.i64 ∧ (bcase (bif bif bif (i5 : Int) != i6 then true else (i7 : Int) != i8 then true else (((n10 : Nat) : Int) : Int) != ((n13 : Nat) : Int) then true else (((n16 : Nat) : Int) : Int) != ((n19 : Nat) : Int)) (
 RetP R (.bool false) m4) (
 vcS Try.prog w0 qs22 (sub c22 [1, 1, 0, 1, 0]) (upd (upd (upd (upd (upd (upd (upd (upd (upd (upd (upd (upd (upd (upd (upd (upd (upd (upd (upd (upd (upd (upd (upd (upd (upd (upd (upd (upd (upd (upd (upd (upd (upd (upd (argS [.agg #[.int .i64 x0_0, .int .i64 x0_1, .slice x0_2 x0_2n x0_2c, .slice x0_3 x0_3n x0_3c], .agg #[.int .i64 x1_0, .int .i64 x1_1, .slice x1_2 x1_2n x1_2c, .slice x1_3 x1_3n x1_3c]]) 2 (.pointer (some ⟨b1, 0, none⟩))) 3 (.pointer (some ⟨b3, 0, none⟩))) 4 (.bool false)) 7 (.pointer (some ⟨b1, 0, none⟩))) 8 (.int .i64 i5)) 9 (.pointer (some ⟨b3, 0, none⟩))) 10 (.int .i64 i6)) 11 (.bool ((i5 : Int) != i6))) 12 (.bool ((i5 : Int) != i6))) 13 (.pointer (some ⟨b1, 1, none⟩))) 14 (.int .i64 i7)) 15 (.pointer (some ⟨b3, 1, none⟩))) 16 (.int .i64 i8)) 17 (.bool ((i7 : Int) != i8))) 18 (.bool (bif (i5 : Int) != i6 then true else (i7 : Int) != i8))) 19 (.bool (bif (i5 : Int) != i6 then true else (i7 : Int) != i8))) 20 (.pointer (some ⟨b1, 2, none⟩))) 21 (.slice A9 n10 c11)) 22 (.int .i64 ((n10 : Nat) : Int))) 23 (.pointer (some ⟨b3, 2, none⟩))) 24 (.slice A12 n13 c14)) 25 (.int .i64 ((n13 : Nat) : Int))) 26 (.bool ((((n10 : Nat) : Int) : Int) != ((n13 : Nat) : Int)))) 27 (.bool (bif bif (i5 : Int) != i6 then true else (i7 : Int) != i8 then true else (((n10 : Nat) : Int) : Int) != ((n13 : Nat) : Int)))) 28 (.bool (bif bif (i5 : Int) != i6 then true else (i7 : Int) != i8 then true else (((n10 : Nat) : Int) : Int) != ((n13 : Nat) : Int)))) 29 (.pointer (some ⟨b1, 3, none⟩))) 30 (.slice A15 n16 c17)) 31 (.int .i64 ((n16 : Nat) : Int))) 32 (.pointer (some ⟨b3, 3, none⟩))) 33 (.slice A18 n19 c20)) 34 (.int .i64 ((n19 : Nat) : Int))) 35 (.bool ((((n16 : Nat) : Int) : Int) != ((n19 : Nat) : Int)))) 36 (.bool (bif bif bif (i5 : Int) != i6 then true else (i7 : Int) != i8 then true else (((n10 : Nat) : Int) : Int) != ((n13 : Nat) : Int) then true else (((n16 : Nat) : Int) : Int) != ((n19 : Nat) : Int)))) 5 (.int .i64 0)) m4 (blockS 0 (thenS (fun σ m => vcS Try.prog w0 qs22 (sub c22 [1, 1, 1]) σ m (retQ Try.prog Try.f22 R)) (retQ Try.prog Try.f22 R)))))))))))) : CallsA Try.prog w0 22 #[.agg #[.int .i64 x0_0, .int .i64 x0_1, .slice x0_2 x0_2n x0_2c, .slice x0_3 x0_3n x0_3c], .agg #[.int .i64 x1_0, .int .i64 x1_1, .slice x1_2 x1_2n x1_2c, .slice x1_3 x1_3n x1_3c]] m R :=
  callsA_of (c := c22) (args := [.agg #[.int .i64 x0_0, .int .i64 x0_1, .slice x0_2 x0_2n x0_2c, .slice x0_3 x0_3n x0_3c], .agg #[.int .i64 x1_0, .int .i64 x1_1, .slice x1_2 x1_2n x1_2c, .slice x1_3 x1_3n x1_3c]]) (by kernel_rfl) Try.func22 (by kernel_rfl) qs22 (by kernel_rfl) (by kernel_rfl) (cast (by kernel_rfl) h)
def lq22_11010 (R : Value → AM → Prop) (x2 : Nat) (x3 : Nat) (I0 : Nat → Int → AM → Prop) (E0_0 : AM → Prop) (n0 : Nat) : Exit → Sg → AM → Prop
  | .normal, σ, m => σ 2 = .pointer (some ⟨x2, 0, none⟩) ∧ σ 3 = .pointer (some ⟨x3, 0, none⟩) ∧ okI .i64 (σ 5) = true ∧ ∃ n' : Nat, n' < n0 ∧ I0 n' (vI (σ 5)) m
  | .exit id, σ, m => if id = 0 then σ 2 = .pointer (some ⟨x2, 0, none⟩) ∧ σ 3 = .pointer (some ⟨x3, 0, none⟩) ∧ E0_0  m else False
  | .ret, σ, m => retQ Try.prog Try.f22 R .ret σ m
  | _, _, _ => False
theorem vl22_11010 (w0 : World) (m : AM) (σ : Sg) (R : Value → AM → Prop)  (x2 : Nat) (x3 : Nat) (x5 : Int) (I0 : Nat → Int → AM → Prop) (E0_0 : AM → Prop) (N : Nat) (h2 : σ 2 = .pointer (some ⟨x2, 0, none⟩)) (h3 : σ 3 = .pointer (some ⟨x3, 0, none⟩)) (h5 : σ 5 = .int .i64 x5)
 (h_0 : I0 N x5 m)
 (h_s : ∀ (n0 : Nat) (σ : Sg) (x5 : Int) (m : AM), I0 n0 x5 m → (
 ∃ (A21 : Option Addr) (n22 c23 : Nat), m.cell ⟨x2, 2, none⟩ = some (.slice A21 n22 c23) ∧ 
 IntKind.i64 = IntKind.i64 ∧ (bcase (decide ((x5 : Int) < ((n22 : Nat) : Int))) (
 ∃ (A24 : Option Addr) (n25 c26 : Nat), m.cell ⟨x2, 2, none⟩ = some (.slice A24 n25 c26) ∧ 
 ((0 : Int) ≤ x5 ∧ x5 < ((n25 : Nat) : Int)) ∧ nilO A24 fun a27 =>
 ∃ i28 : Int, m.cell (a27.add ((x5 : Int).toNat * 1)) = some (.int .i64 i28) ∧ 
 ∃ (A29 : Option Addr) (n30 c31 : Nat), m.cell ⟨x3, 2, none⟩ = some (.slice A29 n30 c31) ∧ 
 ((0 : Int) ≤ x5 ∧ x5 < ((n30 : Nat) : Int)) ∧ nilO A29 fun a32 =>
 ∃ i33 : Int, m.cell (a32.add ((x5 : Int).toNat * 1)) = some (.int .i64 i33) ∧ 
 IntKind.i64 = IntKind.i64 ∧ (bcase ((i28 : Int) != i33) (
 RetP R (.bool false) m) (
 IntKind.i64 = IntKind.i64 ∧ (.pointer (some ⟨x2, 0, none⟩) : Value) = .pointer (some ⟨x2, 0, none⟩) ∧ (.pointer (some ⟨x3, 0, none⟩) : Value) = .pointer (some ⟨x3, 0, none⟩) ∧ true = true ∧ ∃ n' : Nat, n' < n0 ∧ I0 n' (IntKind.wrap .i64 (x5 + 1)) m))) (
 (.pointer (some ⟨x2, 0, none⟩) : Value) = .pointer (some ⟨x2, 0, none⟩) ∧ (.pointer (some ⟨x3, 0, none⟩) : Value) = .pointer (some ⟨x3, 0, none⟩) ∧ E0_0  m))))
 (h_e0 : ∀ (σ : Sg)  (m : AM), E0_0  m → (
 vcS Try.prog w0 qs22 (sub c22 [1, 1, 1, 0, 1, 0]) (upd (upd (upd σ 2 (.pointer (some ⟨x2, 0, none⟩))) 3 (.pointer (some ⟨x3, 0, none⟩))) 6 (.int .i64 0)) m (blockS 2 (thenS (fun σ m => vcS Try.prog w0 qs22 (sub c22 [1, 1, 1, 1]) σ m (retQ Try.prog Try.f22 R)) (retQ Try.prog Try.f22 R))))) :
 vcS Try.prog w0 qs22 (sub c22 [1, 1, 0, 1, 0]) σ m (blockS 0 (thenS (fun σ m => vcS Try.prog w0 qs22 (sub c22 [1, 1, 1]) σ m (retQ Try.prog Try.f22 R)) (retQ Try.prog Try.f22 R))) := by
  rw [show sub c22 [1, 1, 0, 1, 0] = .loop (sub c22 [1, 1, 0, 1, 0, 0]) from by kernel_rfl]
  refine loopQ (fun n0 σ m => σ 2 = .pointer (some ⟨x2, 0, none⟩) ∧ σ 3 = .pointer (some ⟨x3, 0, none⟩) ∧ okI .i64 (σ 5) = true ∧ I0 n0 (vI (σ 5)) m) N (fun n0 => (lq22_11010 R x2 x3 I0 E0_0 n0)) ⟨h2, h3, (by rw [h5]; rfl), (by rw [h5]; exact h_0)⟩ ?_ ?_ ?_
  · rintro n0 σ m ⟨kk0, kk1, kk2, n', hlt, hI⟩; exact ⟨n', hlt, kk0, kk1, kk2, hI⟩
  · intro n0 e σ m hne h
    cases e with
    | normal => exact absurd rfl hne
    | ret => exact h
    | exit id =>
      by_cases e0 : id = 0
      · subst e0
        obtain ⟨kk0, kk1, hE⟩ := h
        have es : (upd (upd σ 2 (.pointer (some ⟨x2, 0, none⟩))) 3 (.pointer (some ⟨x3, 0, none⟩))) = σ := by rw [upd_id kk0, upd_id kk1]
        exact cast (congrArg (fun s => (blockS 0 (thenS (fun σ m => vcS Try.prog w0 qs22 (sub c22 [1, 1, 1]) σ m (retQ Try.prog Try.f22 R)) (retQ Try.prog Try.f22 R))) (.exit 0) s m) es) (cast (by kernel_rfl) (h_e0 σ  m hE))
      · replace h := (if_neg e0 : (if id = 0 then _ else _) = _).mp h
        exact False.elim h
    | _ => exact False.elim h
  · rintro n0 σ m ⟨kk0, kk1, kk2, hI⟩
    have es : (upd (upd (upd σ 2 (.pointer (some ⟨x2, 0, none⟩))) 3 (.pointer (some ⟨x3, 0, none⟩))) 5 (.int .i64 (vI (σ 5)))) = σ := by rw [upd_id kk0, upd_id kk1, upd_id (ok_int kk2)]
    exact cast (congrArg (fun s => vcS Try.prog w0 qs22 (sub c22 [1, 1, 0, 1, 0, 0]) s m (lq22_11010 R x2 x3 I0 E0_0 n0)) es) (cast (by kernel_rfl) (h_s n0 σ (vI (σ 5)) m hI))
def lq22_111010 (R : Value → AM → Prop) (x2 : Nat) (x3 : Nat) (I0 : Nat → Int → AM → Prop) (E0_2 : AM → Prop) (n0 : Nat) : Exit → Sg → AM → Prop
  | .normal, σ, m => σ 2 = .pointer (some ⟨x2, 0, none⟩) ∧ σ 3 = .pointer (some ⟨x3, 0, none⟩) ∧ okI .i64 (σ 6) = true ∧ ∃ n' : Nat, n' < n0 ∧ I0 n' (vI (σ 6)) m
  | .exit id, σ, m => if id = 2 then σ 2 = .pointer (some ⟨x2, 0, none⟩) ∧ σ 3 = .pointer (some ⟨x3, 0, none⟩) ∧ E0_2  m else False
  | .ret, σ, m => retQ Try.prog Try.f22 R .ret σ m
  | _, _, _ => False
theorem vl22_111010 (w0 : World) (m : AM) (σ : Sg) (R : Value → AM → Prop)  (x2 : Nat) (x3 : Nat) (x6 : Int) (I0 : Nat → Int → AM → Prop) (E0_2 : AM → Prop) (N : Nat) (h2 : σ 2 = .pointer (some ⟨x2, 0, none⟩)) (h3 : σ 3 = .pointer (some ⟨x3, 0, none⟩)) (h6 : σ 6 = .int .i64 x6)
 (h_0 : I0 N x6 m)
 (h_s : ∀ (n0 : Nat) (σ : Sg) (x6 : Int) (m : AM), I0 n0 x6 m → (
 ∃ (A34 : Option Addr) (n35 c36 : Nat), m.cell ⟨x2, 3, none⟩ = some (.slice A34 n35 c36) ∧ 
 IntKind.i64 = IntKind.i64 ∧ (bcase (decide ((x6 : Int) < ((n35 : Nat) : Int))) (
 ∃ (A37 : Option Addr) (n38 c39 : Nat), m.cell ⟨x2, 3, none⟩ = some (.slice A37 n38 c39) ∧ 
 ((0 : Int) ≤ x6 ∧ x6 < ((n38 : Nat) : Int)) ∧ nilO A37 fun a40 =>
 ∃ i41 : Int, m.cell (a40.add ((x6 : Int).toNat * 1)) = some (.int .i64 i41) ∧ 
 ∃ (A42 : Option Addr) (n43 c44 : Nat), m.cell ⟨x3, 3, none⟩ = some (.slice A42 n43 c44) ∧ 
 ((0 : Int) ≤ x6 ∧ x6 < ((n43 : Nat) : Int)) ∧ nilO A42 fun a45 =>
 ∃ i46 : Int, m.cell (a45.add ((x6 : Int).toNat * 1)) = some (.int .i64 i46) ∧ 
 IntKind.i64 = IntKind.i64 ∧ (bcase ((i41 : Int) != i46) (
 RetP R (.bool false) m) (
 IntKind.i64 = IntKind.i64 ∧ (.pointer (some ⟨x2, 0, none⟩) : Value) = .pointer (some ⟨x2, 0, none⟩) ∧ (.pointer (some ⟨x3, 0, none⟩) : Value) = .pointer (some ⟨x3, 0, none⟩) ∧ true = true ∧ ∃ n' : Nat, n' < n0 ∧ I0 n' (IntKind.wrap .i64 (x6 + 1)) m))) (
 (.pointer (some ⟨x2, 0, none⟩) : Value) = .pointer (some ⟨x2, 0, none⟩) ∧ (.pointer (some ⟨x3, 0, none⟩) : Value) = .pointer (some ⟨x3, 0, none⟩) ∧ E0_2  m))))
 (h_e2 : ∀ (σ : Sg)  (m : AM), E0_2  m → (
 RetP R (.bool true) m)) :
 vcS Try.prog w0 qs22 (sub c22 [1, 1, 1, 0, 1, 0]) σ m (blockS 2 (thenS (fun σ m => vcS Try.prog w0 qs22 (sub c22 [1, 1, 1, 1]) σ m (retQ Try.prog Try.f22 R)) (retQ Try.prog Try.f22 R))) := by
  rw [show sub c22 [1, 1, 1, 0, 1, 0] = .loop (sub c22 [1, 1, 1, 0, 1, 0, 0]) from by kernel_rfl]
  refine loopQ (fun n0 σ m => σ 2 = .pointer (some ⟨x2, 0, none⟩) ∧ σ 3 = .pointer (some ⟨x3, 0, none⟩) ∧ okI .i64 (σ 6) = true ∧ I0 n0 (vI (σ 6)) m) N (fun n0 => (lq22_111010 R x2 x3 I0 E0_2 n0)) ⟨h2, h3, (by rw [h6]; rfl), (by rw [h6]; exact h_0)⟩ ?_ ?_ ?_
  · rintro n0 σ m ⟨kk0, kk1, kk2, n', hlt, hI⟩; exact ⟨n', hlt, kk0, kk1, kk2, hI⟩
  · intro n0 e σ m hne h
    cases e with
    | normal => exact absurd rfl hne
    | ret => exact h
    | exit id =>
      by_cases e2 : id = 2
      · subst e2
        obtain ⟨kk0, kk1, hE⟩ := h
        have es : (upd (upd σ 2 (.pointer (some ⟨x2, 0, none⟩))) 3 (.pointer (some ⟨x3, 0, none⟩))) = σ := by rw [upd_id kk0, upd_id kk1]
        exact cast (congrArg (fun s => (blockS 2 (thenS (fun σ m => vcS Try.prog w0 qs22 (sub c22 [1, 1, 1, 1]) σ m (retQ Try.prog Try.f22 R)) (retQ Try.prog Try.f22 R))) (.exit 2) s m) es) (cast (by kernel_rfl) (h_e2 σ  m hE))
      · replace h := (if_neg e2 : (if id = 2 then _ else _) = _).mp h
        exact False.elim h
    | _ => exact False.elim h
  · rintro n0 σ m ⟨kk0, kk1, kk2, hI⟩
    have es : (upd (upd (upd σ 2 (.pointer (some ⟨x2, 0, none⟩))) 3 (.pointer (some ⟨x3, 0, none⟩))) 6 (.int .i64 (vI (σ 6)))) = σ := by rw [upd_id kk0, upd_id kk1, upd_id (ok_int kk2)]
    exact cast (congrArg (fun s => vcS Try.prog w0 qs22 (sub c22 [1, 1, 1, 0, 1, 0, 0]) s m (lq22_111010 R x2 x3 I0 E0_2 n0)) es) (cast (by kernel_rfl) (h_s n0 σ (vI (σ 6)) m hI))

/-! 3 delayslot/delayslotlaw07.SeqRuns -/
def qs3 : Nat → List (Nat × Nat) := fun i => match i with | _ => []
noncomputable def c3 : Code := bodyOf Try.f3
theorem cf3 (w0 : World) (m : AM) (x0 : Option Addr) (x0n x0c : Nat) (x1 : Int) (x2 : Option Addr) (x2n x2c : Nat) (x3 : Int) (R : Value → AM → Prop) (h :
 CallsA Try.prog w0 20 #[.slice x0 x0n x0c, .int .i64 x1, .slice x2 x2n x2c, .int .i64 x3] m fun r2 m3 =>
 ∃ t1 : Bool, r2 = .bool t1 ∧ (bcase (!t1) (
 CallsA Try.prog w0 21 #[] m3 fun r5 m6 =>
 ∃ t4 : Bool, r5 = .bool t4 ∧ RetP R (.bool t4) m6) (
 CallsA Try.prog w0 23 #[.slice x0 x0n x0c, .int .i64 x1, .slice x2 x2n x2c, .int .i64 x3] m3 fun r15 m16 =>
 ∃ i7 : Int, ∃ i8 : Int, ∃ (A9 : Option Addr) (n10 c11 : Nat), ∃ (A12 : Option Addr) (n13 c14 : Nat), r15 = .agg #[.int .i64 i7, .int .i64 i8, .slice A9 n10 c11, .slice A12 n13 c14] ∧ CallsA Try.prog w0 24 #[.slice x0 x0n x0c, .int .i64 x1, .slice x2 x2n x2c, .int .i64 x3] m16 fun r25 m26 =>
 ∃ i17 : Int, ∃ i18 : Int, ∃ (A19 : Option Addr) (n20 c21 : Nat), ∃ (A22 : Option Addr) (n23 c24 : Nat), r25 = .agg #[.int .i64 i17, .int .i64 i18, .slice A19 n20 c21, .slice A22 n23 c24] ∧ CallsA Try.prog w0 22 #[.agg #[.int .i64 i7, .int .i64 i8, .slice A9 n10 c11, .slice A12 n13 c14], .agg #[.int .i64 i17, .int .i64 i18, .slice A19 n20 c21, .slice A22 n23 c24]] m26 fun r28 m29 =>
 ∃ t27 : Bool, r28 = .bool t27 ∧ (bcase t27 (
 CallsA Try.prog w0 21 #[] m29 fun r31 m32 =>
 ∃ t30 : Bool, r31 = .bool t30 ∧ RetP R (.bool (bif t27 then t30 else false)) m32) (
 t27 = false ∧ RetP R (.bool false) m29))))) : CallsA Try.prog w0 3 #[.slice x0 x0n x0c, .int .i64 x1, .slice x2 x2n x2c, .int .i64 x3] m R :=
  callsA_of (c := c3) (args := [.slice x0 x0n x0c, .int .i64 x1, .slice x2 x2n x2c, .int .i64 x3]) (by kernel_rfl) Try.func3 (by kernel_rfl) qs3 (by kernel_rfl) (by kernel_rfl) (cast (by kernel_rfl) h)

/-! 4 delayslot/delayslotlaw07.SeqMore -/
def qs4 : Nat → List (Nat × Nat) := fun i => match i with | _ => []
noncomputable def c4 : Code := bodyOf Try.f4
theorem cf4 (w0 : World) (m : AM) (x0 : Option Addr) (x0n x0c : Nat) (x1 : Int) (x2 : Option Addr) (x2n x2c : Nat) (x3 : Int) (x4 : Int) (R : Value → AM → Prop) (h :
 CallsA Try.prog w0 20 #[.slice x0 x0n x0c, .int .i64 x1, .slice x2 x2n x2c, .int .i64 x3] m fun r2 m3 =>
 ∃ t1 : Bool, r2 = .bool t1 ∧ (bcase (!t1) (
 (!t1) = true ∧ true = true ∧ CallsA Try.prog w0 21 #[] m3 fun r5 m6 =>
 ∃ t4 : Bool, r5 = .bool t4 ∧ RetP R (.bool t4) m6) (
 CallsA Try.prog w0 20 #[.slice x0 x0n x0c, .int .i64 x1, .slice x2 x2n x2c, .int .i64 x4] m3 fun r8 m9 =>
 ∃ t7 : Bool, r8 = .bool t7 ∧ (bcase (bif !t1 then true else !t7) (
 (bif !t1 then true else !t7) = true ∧ CallsA Try.prog w0 21 #[] m9 fun r11 m12 =>
 ∃ t10 : Bool, r11 = .bool t10 ∧ RetP R (.bool t10) m12) (
 IntKind.i64 = IntKind.i64 ∧ (bcase (bif bif !t1 then true else !t7 then true else decide ((x3 : Int) > x4)) (
 CallsA Try.prog w0 21 #[] m9 fun r14 m15 =>
 ∃ t13 : Bool, r14 = .bool t13 ∧ RetP R (.bool t13) m15) (
 CallsA Try.prog w0 23 #[.slice x0 x0n x0c, .int .i64 x1, .slice x2 x2n x2c, .int .i64 x3] m9 fun r24 m25 =>
 ∃ i16 : Int, ∃ i17 : Int, ∃ (A18 : Option Addr) (n19 c20 : Nat), ∃ (A21 : Option Addr) (n22 c23 : Nat), r24 = .agg #[.int .i64 i16, .int .i64 i17, .slice A18 n19 c20, .slice A21 n22 c23] ∧ CallsA Try.prog w0 23 #[.slice x0 x0n x0c, .int .i64 x1, .slice x2 x2n x2c, .int .i64 x4] m25 fun r34 m35 =>
 ∃ i26 : Int, ∃ i27 : Int, ∃ (A28 : Option Addr) (n29 c30 : Nat), ∃ (A31 : Option Addr) (n32 c33 : Nat), r34 = .agg #[.int .i64 i26, .int .i64 i27, .slice A28 n29 c30, .slice A31 n32 c33] ∧ ∀ b36 : Nat, w0.heap.size ≤ b36 → m35 b36 = none → let m37 := AM.upd m35 b36 (.cells #[.int .i64 0, .int .i64 0, .slice none 0 0, .slice none 0 0] 29);
 ∀ b38 : Nat, w0.heap.size ≤ b38 → m37 b38 = none → let m39 := AM.upd m37 b38 (.cells #[.int .i64 0, .int .i64 0, .slice none 0 0, .slice none 0 0] 29);
 StC w0.heap.size m39 ⟨b36, 0, none⟩ (.int .i64 i16) fun m40 =>
 StC w0.heap.size m40 ⟨b36, 1, none⟩ (.int .i64 i17) fun m41 =>
 StC w0.heap.size m41 ⟨b36, 2, none⟩ (.slice A18 n19 c20) fun m42 =>
 StC w0.heap.size m42 ⟨b36, 3, none⟩ (.slice A21 n22 c23) fun m43 =>
 StC w0.heap.size m43 ⟨b38, 0, none⟩ (.int .i64 i26) fun m44 =>
 StC w0.heap.size m44 ⟨b38, 1, none⟩ (.int .i64 i27) fun m45 =>
 StC w0.heap.size m45 ⟨b38, 2, none⟩ (.slice A28 n29 c30) fun m46 =>
 StC w0.heap.size m46 ⟨b38, 3, none⟩ (.slice A31 n32 c33) fun m47 =>
 ∃ i48 : Int, m47.cell ⟨b36, 0, none⟩ = some (.int .i64 i48) ∧ 
 IntKind.i64 = IntKind.i64 ∧ (bcase ((i48 : Int) != 0) (
 ∃ i49 : Int, m47.cell ⟨b36, 0, none⟩ = some (.int .i64 i49) ∧ ∃ i50 : Int, m47.cell ⟨b36, 1, none⟩ = some (.int .i64 i50) ∧ ∃ (A51 : Option Addr) (n52 c53 : Nat), m47.cell ⟨b36, 2, none⟩ = some (.slice A51 n52 c53) ∧ ∃ (A54 : Option Addr) (n55 c56 : Nat), m47.cell ⟨b36, 3, none⟩ = some (.slice A54 n55 c56) ∧ 
 ∃ i57 : Int, m47.cell ⟨b38, 0, none⟩ = some (.int .i64 i57) ∧ ∃ i58 : Int, m47.cell ⟨b38, 1, none⟩ = some (.int .i64 i58) ∧ ∃ (A59 : Option Addr) (n60 c61 : Nat), m47.cell ⟨b38, 2, none⟩ = some (.slice A59 n60 c61) ∧ ∃ (A62 : Option Addr) (n63 c64 : Nat), m47.cell ⟨b38, 3, none⟩ = some (.slice A62 n63 c64) ∧ 
 CallsA Try.prog w0 22 #[.agg #[.int .i64 i49, .int .i64 i50, .slice A51 n52 c53, .slice A54 n55 c56], .agg #[.int .i64 i57, .int .i64 i58, .slice A59 n60 c61, .slice A62 n63 c64]] m47 fun r66 m67 =>
 ∃ t65 : Bool, r66 = .bool t65 ∧ (bcase t65 (
 CallsA Try.prog w0 21 #[] m67 fun r69 m70 =>
 ∃ t68 : Bool, r69 = .bool t68 ∧ RetP R (.bool (bif t65 then t68 else false)) m70) (
 t65 = false ∧ RetP R (.bool false) m67))) (
 ∃ (A71 : Option Addr) (n72 c73 : Nat), m47.cell ⟨b36, 2, none⟩ = some (.slice A71 n72 c73) ∧ 
 ∃ (A74 : Option Addr) (n75 c76 : Nat), m47.cell ⟨b38, 2, none⟩ = some (.slice A74 n75 c76) ∧ 
 IntKind.i64 = IntKind.i64 ∧ (bcase (decide ((((n72 : Nat) : Int) : Int) > ((n75 : Nat) : Int))) (
 (decide ((((n72 : Nat) : Int) : Int) > ((n75 : Nat) : Int))) = true ∧ true = true ∧ RetP R (.bool false) m47) (
 ∃ i77 : Int, m47.cell ⟨b36, 1, none⟩ = some (.int .i64 i77) ∧ 
 ∃ i78 : Int, m47.cell ⟨b38, 1, none⟩ = some (.int .i64 i78) ∧ 
 IntKind.i64 = IntKind.i64 ∧ (bcase (bif decide ((((n72 : Nat) : Int) : Int) > ((n75 : Nat) : Int)) then true else decide ((i77 : Int) > i78)) (
 (bif decide ((((n72 : Nat) : Int) : Int) > ((n75 : Nat) : Int)) then true else decide ((i77 : Int) > i78)) = true ∧ RetP R (.bool false) m47) (
 ∃ i79 : Int, m47.cell ⟨b36, 1, none⟩ = some (.int .i64 i79) ∧ 
 IntKind.i64 = IntKind.i64 ∧ IntKind.i64 = IntKind.i64 ∧ (bcase ((i79 : Int) != (if (0 : Int) > x3 then 0 else x3)) (
 ∃ (A80 : Option Addr) (n81 c82 : Nat), m47.cell ⟨b38, 2, none⟩ = some (.slice A80 n81 c82) ∧ 
 ∃ i83 : Int, m47.cell ⟨b38, 1, none⟩ = some (.int .i64 i83) ∧ 
 IntKind.i64 = IntKind.i64 ∧ IntKind.i64 = IntKind.i64 ∧ (bcase (bif bif decide ((((n72 : Nat) : Int) : Int) > ((n75 : Nat) : Int)) then true else decide ((i77 : Int) > i78) then true else bif (i79 : Int) != (if (0 : Int) > x3 then 0 else x3) then decide (((IntKind.wrap .i64 (((n81 : Nat) : Int) + i83)) : Int) > 0) else false) (
 RetP R (.bool false) m47) (
 vcS Try.prog w0 qs4 (sub c4 [1, 1, 1, 1, 1]) (upd (upd (upd (upd (upd (upd (upd (upd (upd (upd (upd (upd (upd (upd (upd (upd (upd (upd (upd (upd (upd (upd (upd (upd (upd (upd (upd (upd (upd (upd (upd (upd (upd (upd (upd (upd (upd (upd (upd (upd (upd (upd (upd (upd (upd (upd (upd (upd (upd (upd (upd (upd (upd (upd (upd (upd (upd (upd (upd (upd (upd (upd (upd (upd (upd (argS [.slice x0 x0n x0c, .int .i64 x1, .slice x2 x2n x2c, .int .i64 x3, .int .i64 x4]) 10 (.bool false)) 14 (.slice x0 x0n x0c)) 15 (.int .i64 x1)) 16 (.slice x2 x2n x2c)) 17 (.int .i64 x3)) 18 (.bool t1)) 19 (.bool (!t1))) 20 (.bool (!t1))) 21 (.slice x0 x0n x0c)) 22 (.int .i64 x1)) 23 (.slice x2 x2n x2c)) 24 (.int .i64 x4)) 25 (.bool t7)) 26 (.bool (!t7))) 27 (.bool (bif !t1 then true else !t7))) 28 (.bool (bif !t1 then true else !t7))) 29 (.int .i64 x3)) 30 (.int .i64 x4)) 31 (.bool (decide ((x3 : Int) > x4)))) 32 (.bool (bif bif !t1 then true else !t7 then true else decide ((x3 : Int) > x4)))) 34 (.slice x0 x0n x0c)) 35 (.int .i64 x1)) 36 (.slice x2 x2n x2c)) 37 (.int .i64 x3)) 38 (.agg #[.int .i64 i16, .int .i64 i17, .slice A18 n19 c20, .slice A21 n22 c23])) 39 (.slice x0 x0n x0c)) 40 (.int .i64 x1)) 41 (.slice x2 x2n x2c)) 42 (.int .i64 x4)) 43 (.agg #[.int .i64 i26, .int .i64 i27, .slice A28 n29 c30, .slice A31 n32 c33])) 11 (.pointer (some ⟨b36, 0, none⟩))) 12 (.pointer (some ⟨b38, 0, none⟩))) 44 (.pointer (some ⟨b36, 0, none⟩))) 45 (.int .i64 i48)) 46 (.bool ((i48 : Int) != 0))) 53 (.pointer (some ⟨b36, 2, none⟩))) 54 (.slice A71 n72 c73)) 55 (.int .i64 ((n72 : Nat) : Int))) 56 (.pointer (some ⟨b38, 2, none⟩))) 57 (.slice A74 n75 c76)) 58 (.int .i64 ((n75 : Nat) : Int))) 59 (.bool (decide ((((n72 : Nat) : Int) : Int) > ((n75 : Nat) : Int))))) 60 (.bool (decide ((((n72 : Nat) : Int) : Int) > ((n75 : Nat) : Int))))) 61 (.pointer (some ⟨b36, 1, none⟩))) 62 (.int .i64 i77)) 63 (.pointer (some ⟨b38, 1, none⟩))) 64 (.int .i64 i78)) 65 (.bool (decide ((i77 : Int) > i78)))) 66 (.bool (bif decide ((((n72 : Nat) : Int) : Int) > ((n75 : Nat) : Int)) then true else decide ((i77 : Int) > i78)))) 67 (.bool (bif decide ((((n72 : Nat) : Int) : Int) > ((n75 : Nat) : Int)) then true else decide ((i77 : Int) > i78)))) 68 (.pointer (some ⟨b36, 1, none⟩))) 69 (.int .i64 i79)) 70 (.int .i64 x3)) 71 (.int .i64 (if (0 : Int) > x3 then 0 else x3))) 72 (.bool ((i79 : Int) != (if (0 : Int) > x3 then 0 else x3)))) 73 (.bool ((i79 : Int) != (if (0 : Int) > x3 then 0 else x3)))) 74 (.pointer (some ⟨b38, 2, none⟩))) 75 (.slice A80 n81 c82)) 76 (.int .i64 ((n81 : Nat) : Int))) 77 (.pointer (some ⟨b38, 1, none⟩))) 78 (.int .i64 i83)) 79 (.int .i64 (IntKind.wrap .i64 (((n81 : Nat) : Int) + i83)))) 80 (.bool (decide (((IntKind.wrap .i64 (((n81 : Nat) : Int) + i83)) : Int) > 0)))) 81 (.bool (bif (i79 : Int) != (if (0 : Int) > x3 then 0 else x3) then decide (((IntKind.wrap .i64 (((n81 : Nat) : Int) + i83)) : Int) > 0) else false))) 82 (.bool (bif bif decide ((((n72 : Nat) : Int) : Int) > ((n75 : Nat) : Int)) then true else decide ((i77 : Int) > i78) then true else bif (i79 : Int) != (if (0 : Int) > x3 then 0 else x3) then decide (((IntKind.wrap .i64 (((n81 : Nat) : Int) + i83)) : Int) > 0) else false))) m47 (retQ Try.prog Try.f4 R)))) (
 ((i79 : Int) != (if (0 : Int) > x3 then 0 else x3)) = false ∧ (bcase (bif bif decide ((((n72 : Nat) : Int) : Int) > ((n75 : Nat) : Int)) then true else decide ((i77 : Int) > i78) then true else false) (
 RetP R (.bool false) m47) (
 vcS Try.prog w0 qs4 (sub c4 [1, 1, 1, 1, 1]) (upd (upd (upd (upd (upd (upd (upd (upd (upd (upd (upd (upd (upd (upd (upd (upd (upd (upd (upd (upd (upd (upd (upd (upd (upd (upd (upd (upd (upd (upd (upd (upd (upd (upd (upd (upd (upd (upd (upd (upd (upd (upd (upd (upd (upd (upd (upd (upd (upd (upd (upd (upd (upd (upd (upd (upd (upd (upd (upd (upd (upd (upd (upd (upd (upd (argS [.slice x0 x0n x0c, .int .i64 x1, .slice x2 x2n x2c, .int .i64 x3, .int .i64 x4]) 10 (.bool false)) 14 (.slice x0 x0n x0c)) 15 (.int .i64 x1)) 16 (.slice x2 x2n x2c)) 17 (.int .i64 x3)) 18 (.bool t1)) 19 (.bool (!t1))) 20 (.bool (!t1))) 21 (.slice x0 x0n x0c)) 22 (.int .i64 x1)) 23 (.slice x2 x2n x2c)) 24 (.int .i64 x4)) 25 (.bool t7)) 26 (.bool (!t7))) 27 (.bool (bif !t1 then true else !t7))) 28 (.bool (bif !t1 then true else !t7))) 29 (.int .i64 x3)) 30 (.int .i64 x4)) 31 (.bool (decide ((x3 : Int) > x4)))) 32 (.bool (bif bif !t1 then true else !t7 then true else decide ((x3 : Int) > x4)))) 34 (.slice x0 x0n x0c)) 35 (.int .i64 x1)) 36 (.slice x2 x2n x2c)) 37 (.int .i64 x3)) 38 (.agg #[.int .i64 i16, .int .i64 i17, .slice A18 n19 c20, .slice A21 n22 c23])) 39 (.slice x0 x0n x0c)) 40 (.int .i64 x1)) 41 (.slice x2 x2n x2c)) 42 (.int .i64 x4)) 43 (.agg #[.int .i64 i26, .int .i64 i27, .slice A28 n29 c30, .slice A31 n32 c33])) 11 (.pointer (some ⟨b36, 0, none⟩))) 12 (.pointer (some ⟨b38, 0, none⟩))) 44 (.pointer (some ⟨b36, 0, none⟩))) 45 (.int .i64 i48)) 46 (.bool ((i48 : Int) != 0))) 53 (.pointer (some ⟨b36, 2, none⟩))) 54 (.slice A71 n72 c73)) 55 (.int .i64 ((n72 : Nat) : Int))) 56 (.pointer (some ⟨b38, 2, none⟩))) 57 (.slice A74 n75 c76)) 58 (.int .i64 ((n75 : Nat) : Int))) 59 (.bool (decide ((((n72 : Nat) : Int) : Int) > ((n75 : Nat) : Int))))) 60 (.bool (decide ((((n72 : Nat) : Int) : Int) > ((n75 : Nat) : Int))))) 61 (.pointer (some ⟨b36, 1, none⟩))) 62 (.int .i64 i77)) 63 (.pointer (some ⟨b38, 1, none⟩))) 64 (.int .i64 i78)) 65 (.bool (decide ((i77 : Int) > i78)))) 66 (.bool (bif decide ((((n72 : Nat) : Int) : Int) > ((n75 : Nat) : Int)) then true else decide ((i77 : Int) > i78)))) 67 (.bool (bif decide ((((n72 : Nat) : Int) : Int) > ((n75 : Nat) : Int)) then true else decide ((i77 : Int) > i78)))) 68 (.pointer (some ⟨b36, 1, none⟩))) 69 (.int .i64 i79)) 70 (.int .i64 x3)) 71 (.int .i64 (if (0 : Int) > x3 then 0 else x3))) 72 (.bool ((i79 : Int) != (if (0 : Int) > x3 then 0 else x3)))) 73 (.bool ((i79 : Int) != (if (0 : Int) > x3 then 0 else x3)))) 74 (undef)) 75 (undef)) 76 (undef)) 77 (undef)) 78 (undef)) 79 (undef)) 80 (undef)) 81 (.bool false)) 82 (.bool (bif bif decide ((((n72 : Nat) : Int) : Int) > ((n75 : Nat) : Int)) then true else decide ((i77 : Int) > i78) then true else false))) m47 (retQ Try.prog Try.f4 R)))))))))))))))))) : CallsA Try.prog w0 4 #[.slice x0 x0n x0c, .int .i64 x1, .slice x2 x2n x2c, .int .i64 x3, .int .i64 x4] m R :=
  callsA_of (c := c4) (args := [.slice x0 x0n x0c, .int .i64 x1, .slice x2 x2n x2c, .int .i64 x3, .int .i64 x4]) (by kernel_rfl) Try.func4 (by kernel_rfl) qs4 (by kernel_rfl) (by kernel_rfl) (cast (by kernel_rfl) h)
theorem vk4_11111 (w0 : World) (m : AM) (σ : Sg) (R : Value → AM → Prop)  (x11 : Nat) (x12 : Nat) (h11 : σ 11 = .pointer (some ⟨x11, 0, none⟩)) (h12 : σ 12 = .pointer (some ⟨x12, 0, none⟩)) (h :
 ∃ (A84 : Option Addr) (n85 c86 : Nat), m.cell ⟨x11, 2, none⟩ = some (.slice A84 n85 c86) ∧ 
 vcS Try.prog w0 qs4 (sub c4 [1, 1, 1, 1, 1, 0, 1, 0]) (upd (upd (upd (upd (upd (upd σ 11 (.pointer (some ⟨x11, 0, none⟩))) 12 (.pointer (some ⟨x12, 0, none⟩))) 83 (.pointer (some ⟨x11, 2, none⟩))) 84 (.slice A84 n85 c86)) 85 (.int .i64 ((n85 : Nat) : Int))) 86 (.int .i64 0)) m (blockS 0 (thenS (fun σ m => vcS Try.prog w0 qs4 (sub c4 [1, 1, 1, 1, 1, 1]) σ m (retQ Try.prog Try.f4 R)) (retQ Try.prog Try.f4 R)))) :
 vcS Try.prog w0 qs4 (sub c4 [1, 1, 1, 1, 1]) σ m (retQ Try.prog Try.f4 R) := by
  have es0 : (upd (upd σ 11 (.pointer (some ⟨x11, 0, none⟩))) 12 (.pointer (some ⟨x12, 0, none⟩))) = σ := by rw [upd_id h11, upd_id h12]
  exact cast (congrArg (fun s => vcS Try.prog w0 qs4 (sub c4 [1, 1, 1, 1, 1]) s m (retQ Try.prog Try.f4 R)) es0) (cast (by kernel_rfl) h)
def lq4_11111010 (R : Value → AM → Prop) (x11 : Nat) (x12 : Nat) (x85 : Int) (I0 : Nat → Int → AM → Prop) (E0_0 : AM → Prop) (n0 : Nat) : Exit → Sg → AM → Prop
  | .normal, σ, m => σ 11 = .pointer (some ⟨x11, 0, none⟩) ∧ σ 12 = .pointer (some ⟨x12, 0, none⟩) ∧ σ 85 = .int .i64 x85 ∧ okI .i64 (σ 86) = true ∧ ∃ n' : Nat, n' < n0 ∧ I0 n' (vI (σ 86)) m
  | .exit id, σ, m => if id = 0 then σ 11 = .pointer (some ⟨x11, 0, none⟩) ∧ σ 12 = .pointer (some ⟨x12, 0, none⟩) ∧ σ 85 = .int .i64 x85 ∧ E0_0  m else False
  | .ret, σ, m => retQ Try.prog Try.f4 R .ret σ m
  | _, _, _ => False
theorem vl4_11111010 (w0 : World) (m : AM) (σ : Sg) (R : Value → AM → Prop)  (x11 : Nat) (x12 : Nat) (x85 : Int) (x86 : Int) (I0 : Nat → Int → AM → Prop) (E0_0 : AM → Prop) (N : Nat) (h11 : σ 11 = .pointer (some ⟨x11, 0, none⟩)) (h12 : σ 12 = .pointer (some ⟨x12, 0, none⟩)) (h85 : σ 85 = .int .i64 x85) (h86 : σ 86 = .int .i64 x86)
 (h_0 : I0 N x86 m)
 (h_s : ∀ (n0 : Nat) (σ : Sg) (x86 : Int) (m : AM), I0 n0 x86 m → (
 IntKind.i64 = IntKind.i64 ∧ (bcase (decide ((x86 : Int) < x85)) (
 ∃ (A87 : Option Addr) (n88 c89 : Nat), m.cell ⟨x11, 2, none⟩ = some (.slice A87 n88 c89) ∧ 
 ((0 : Int) ≤ x86 ∧ x86 < ((n88 : Nat) : Int)) ∧ nilO A87 fun a90 =>
 ∃ i91 : Int, m.cell (a90.add ((x86 : Int).toNat * 1)) = some (.int .i64 i91) ∧ 
 ∃ (A92 : Option Addr) (n93 c94 : Nat), m.cell ⟨x12, 2, none⟩ = some (.slice A92 n93 c94) ∧ 
 ((0 : Int) ≤ x86 ∧ x86 < ((n93 : Nat) : Int)) ∧ nilO A92 fun a95 =>
 ∃ i96 : Int, m.cell (a95.add ((x86 : Int).toNat * 1)) = some (.int .i64 i96) ∧ 
 IntKind.i64 = IntKind.i64 ∧ (bcase ((i91 : Int) != i96) (
 RetP R (.bool false) m) (
 IntKind.i64 = IntKind.i64 ∧ (.pointer (some ⟨x11, 0, none⟩) : Value) = .pointer (some ⟨x11, 0, none⟩) ∧ (.pointer (some ⟨x12, 0, none⟩) : Value) = .pointer (some ⟨x12, 0, none⟩) ∧ (.int .i64 x85 : Value) = .int .i64 x85 ∧ true = true ∧ ∃ n' : Nat, n' < n0 ∧ I0 n' (IntKind.wrap .i64 (x86 + 1)) m))) (
 (.pointer (some ⟨x11, 0, none⟩) : Value) = .pointer (some ⟨x11, 0, none⟩) ∧ (.pointer (some ⟨x12, 0, none⟩) : Value) = .pointer (some ⟨x12, 0, none⟩) ∧ (.int .i64 x85 : Value) = .int .i64 x85 ∧ E0_0  m))))
 (h_e0 : ∀ (σ : Sg)  (m : AM), E0_0  m → (
 CallsA Try.prog w0 21 #[] m fun r98 m99 =>
 ∃ t97 : Bool, r98 = .bool t97 ∧ RetP R (.bool t97) m99)) :
 vcS Try.prog w0 qs4 (sub c4 [1, 1, 1, 1, 1, 0, 1, 0]) σ m (blockS 0 (thenS (fun σ m => vcS Try.prog w0 qs4 (sub c4 [1, 1, 1, 1, 1, 1]) σ m (retQ Try.prog Try.f4 R)) (retQ Try.prog Try.f4 R))) := by
  rw [show sub c4 [1, 1, 1, 1, 1, 0, 1, 0] = .loop (sub c4 [1, 1, 1, 1, 1, 0, 1, 0, 0]) from by kernel_rfl]
  refine loopQ (fun n0 σ m => σ 11 = .pointer (some ⟨x11, 0, none⟩) ∧ σ 12 = .pointer (some ⟨x12, 0, none⟩) ∧ σ 85 = .int .i64 x85 ∧ okI .i64 (σ 86) = true ∧ I0 n0 (vI (σ 86)) m) N (fun n0 => (lq4_11111010 R x11 x12 x85 I0 E0_0 n0)) ⟨h11, h12, h85, (by rw [h86]; rfl), (by rw [h86]; exact h_0)⟩ ?_ ?_ ?_
  · rintro n0 σ m ⟨kk0, kk1, kk2, kk3, n', hlt, hI⟩; exact ⟨n', hlt, kk0, kk1, kk2, kk3, hI⟩
  · intro n0 e σ m hne h
    cases e with
    | normal => exact absurd rfl hne
    | ret => exact h
    | exit id =>
      by_cases e0 : id = 0
      · subst e0
        obtain ⟨kk0, kk1, kk2, hE⟩ := h
        have es : (upd (upd (upd σ 11 (.pointer (some ⟨x11, 0, none⟩))) 12 (.pointer (some ⟨x12, 0, none⟩))) 85 (.int .i64 x85)) = σ := by rw [upd_id kk0, upd_id kk1, upd_id kk2]
        exact cast (congrArg (fun s => (blockS 0 (thenS (fun σ m => vcS Try.prog w0 qs4 (sub c4 [1, 1, 1, 1, 1, 1]) σ m (retQ Try.prog Try.f4 R)) (retQ Try.prog Try.f4 R))) (.exit 0) s m) es) (cast (by kernel_rfl) (h_e0 σ  m hE))
      · replace h := (if_neg e0 : (if id = 0 then _ else _) = _).mp h
        exact False.elim h
    | _ => exact False.elim h
  · rintro n0 σ m ⟨kk0, kk1, kk2, kk3, hI⟩
    have es : (upd (upd (upd (upd σ 11 (.pointer (some ⟨x11, 0, none⟩))) 12 (.pointer (some ⟨x12, 0, none⟩))) 85 (.int .i64 x85)) 86 (.int .i64 (vI (σ 86)))) = σ := by rw [upd_id kk0, upd_id kk1, upd_id kk2, upd_id (ok_int kk3)]
    exact cast (congrArg (fun s => vcS Try.prog w0 qs4 (sub c4 [1, 1, 1, 1, 1, 0, 1, 0, 0]) s m (lq4_11111010 R x11 x12 x85 I0 E0_0 n0)) es) (cast (by kernel_rfl) (h_s n0 σ (vI (σ 86)) m hI))

/-! 5 delayslot/delayslotlaw07.SeqLines -/
def qs5 : Nat → List (Nat × Nat) := fun i => match i with | _ => []
noncomputable def c5 : Code := bodyOf Try.f5
theorem cf5 (w0 : World) (m : AM) (x0 : Option Addr) (x0n x0c : Nat) (R : Value → AM → Prop) (h :
 vcS Try.prog w0 qs5 (sub c5 [1, 0, 1, 0]) (upd (upd (upd (upd (argS [.slice x0 x0n x0c]) 2 (.bool false)) 6 (.slice x0 x0n x0c)) 7 (.int .i64 ((x0n : Nat) : Int))) 8 (.int .i64 0)) m (blockS 0 (thenS (fun σ m => vcS Try.prog w0 qs5 (sub c5 [1, 1]) σ m (retQ Try.prog Try.f5 R)) (retQ Try.prog Try.f5 R)))) : CallsA Try.prog w0 5 #[.slice x0 x0n x0c] m R :=
  callsA_of (c := c5) (args := [.slice x0 x0n x0c]) (by kernel_rfl) Try.func5 (by kernel_rfl) qs5 (by kernel_rfl) (by kernel_rfl) (cast (by kernel_rfl) h)
def lq5_1010 (R : Value → AM → Prop) (x0 : Option Addr) (x0n x0c : Nat) (x6 : Option Addr) (x6n x6c : Nat) (x7 : Int) (I0 : Nat → Int → AM → Prop) (E0_0 : AM → Prop) (n0 : Nat) : Exit → Sg → AM → Prop
  | .normal, σ, m => σ 0 = .slice x0 x0n x0c ∧ σ 6 = .slice x6 x6n x6c ∧ σ 7 = .int .i64 x7 ∧ okI .i64 (σ 8) = true ∧ ∃ n' : Nat, n' < n0 ∧ I0 n' (vI (σ 8)) m
  | .exit id, σ, m => if id = 0 then σ 0 = .slice x0 x0n x0c ∧ σ 6 = .slice x6 x6n x6c ∧ σ 7 = .int .i64 x7 ∧ E0_0  m else False
  | .ret, σ, m => retQ Try.prog Try.f5 R .ret σ m
  | _, _, _ => False
theorem vl5_1010 (w0 : World) (m : AM) (σ : Sg) (R : Value → AM → Prop)  (x0 : Option Addr) (x0n x0c : Nat) (x6 : Option Addr) (x6n x6c : Nat) (x7 : Int) (x8 : Int) (I0 : Nat → Int → AM → Prop) (E0_0 : AM → Prop) (N : Nat) (h0 : σ 0 = .slice x0 x0n x0c) (h6 : σ 6 = .slice x6 x6n x6c) (h7 : σ 7 = .int .i64 x7) (h8 : σ 8 = .int .i64 x8)
 (h_0 : I0 N x8 m)
 (h_s : ∀ (n0 : Nat) (σ : Sg) (x8 : Int) (m : AM), I0 n0 x8 m → (
 IntKind.i64 = IntKind.i64 ∧ (bcase (decide ((x8 : Int) < x7)) (
 ((0 : Int) ≤ x8 ∧ x8 < ((x6n : Nat) : Int)) ∧ nilO x6 fun a1 =>
 ∃ i2 : Int, m.cell (a1.add ((x8 : Int).toNat * 5)) = some (.int .i64 i2) ∧ ∃ i3 : Int, m.cell ((a1.add ((x8 : Int).toNat * 5)).add 1) = some (.int .i64 i3) ∧ ∃ i4 : Int, m.cell ((a1.add ((x8 : Int).toNat * 5)).add 2) = some (.int .i64 i4) ∧ ∃ i5 : Int, m.cell ((a1.add ((x8 : Int).toNat * 5)).add 3) = some (.int .i64 i5) ∧ ∃ i6 : Int, m.cell ((a1.add ((x8 : Int).toNat * 5)).add 4) = some (.int .i64 i6) ∧ 
 ∀ b7 : Nat, w0.heap.size ≤ b7 → m b7 = none → let m8 := AM.upd m b7 (.cells #[.int .i64 0, .int .i64 0, .int .i64 0, .int .i64 0, .int .i64 0] 34);
 StC w0.heap.size m8 ⟨b7, 0, none⟩ (.int .i64 i2) fun m9 =>
 StC w0.heap.size m9 ⟨b7, 1, none⟩ (.int .i64 i3) fun m10 =>
 StC w0.heap.size m10 ⟨b7, 2, none⟩ (.int .i64 i4) fun m11 =>
 StC w0.heap.size m11 ⟨b7, 3, none⟩ (.int .i64 i5) fun m12 =>
 StC w0.heap.size m12 ⟨b7, 4, none⟩ (.int .i64 i6) fun m13 =>
 ∃ i14 : Int, m13.cell ⟨b7, 0, none⟩ = some (.int .i64 i14) ∧ 
 IntKind.i64 = IntKind.i64 ∧ (bcase (decide ((i14 : Int) > 11)) (
 (decide ((i14 : Int) > 11)) = true ∧ true = true ∧ true = true ∧ CallsA Try.prog w0 21 #[] m13 fun r16 m17 =>
 ∃ t15 : Bool, r16 = .bool t15 ∧ RetP R (.bool t15) m17) (
 ∃ i18 : Int, m13.cell ⟨b7, 0, none⟩ = some (.int .i64 i18) ∧ 
 IntKind.i64 = IntKind.i64 ∧ (bcase (bif decide ((i14 : Int) > 11) then true else (i18 : Int) == 4) (
 (bif decide ((i14 : Int) > 11) then true else (i18 : Int) == 4) = true ∧ true = true ∧ CallsA Try.prog w0 21 #[] m13 fun r20 m21 =>
 ∃ t19 : Bool, r20 = .bool t19 ∧ RetP R (.bool t19) m21) (
 ∃ i22 : Int, m13.cell ⟨b7, 0, none⟩ = some (.int .i64 i22) ∧ 
 IntKind.i64 = IntKind.i64 ∧ (bcase (bif bif decide ((i14 : Int) > 11) then true else (i18 : Int) == 4 then true else (i22 : Int) == 5) (
 (bif bif decide ((i14 : Int) > 11) then true else (i18 : Int) == 4 then true else (i22 : Int) == 5) = true ∧ CallsA Try.prog w0 21 #[] m13 fun r24 m25 =>
 ∃ t23 : Bool, r24 = .bool t23 ∧ RetP R (.bool t23) m25) (
 IntKind.i64 = IntKind.i64 ∧ (bcase (bif bif bif decide ((i14 : Int) > 11) then true else (i18 : Int) == 4 then true else (i22 : Int) == 5 then true else decide ((((x0n : Nat) : Int) : Int) > 200)) (
 CallsA Try.prog w0 21 #[] m13 fun r27 m28 =>
 ∃ t26 : Bool, r27 = .bool t26 ∧ RetP R (.bool t26) m28) (
 IntKind.i64 = IntKind.i64 ∧ (.slice x0 x0n x0c : Value) = .slice x0 x0n x0c ∧ (.slice x6 x6n x6c : Value) = .slice x6 x6n x6c ∧ (.int .i64 x7 : Value) = .int .i64 x7 ∧ true = true ∧ ∃ n' : Nat, n' < n0 ∧ I0 n' (IntKind.wrap .i64 (x8 + 1)) m13))))))))) (
 (.slice x0 x0n x0c : Value) = .slice x0 x0n x0c ∧ (.slice x6 x6n x6c : Value) = .slice x6 x6n x6c ∧ (.int .i64 x7 : Value) = .int .i64 x7 ∧ E0_0  m))))
 (h_e0 : ∀ (σ : Sg)  (m : AM), E0_0  m → (
 CallsA Try.prog w0 23 #[.slice x0 x0n x0c, .int .i64 10, .slice none 0 0, .int .i64 1000] m fun r37 m38 =>
 ∃ i29 : Int, ∃ i30 : Int, ∃ (A31 : Option Addr) (n32 c33 : Nat), ∃ (A34 : Option Addr) (n35 c36 : Nat), r37 = .agg #[.int .i64 i29, .int .i64 i30, .slice A31 n32 c33, .slice A34 n35 c36] ∧ ∀ b39 : Nat, w0.heap.size ≤ b39 → m38 b39 = none → let m40 := AM.upd m38 b39 (.cells #[.int .i64 0, .int .i64 0, .slice none 0 0, .slice none 0 0] 29);
 StC w0.heap.size m40 ⟨b39, 0, none⟩ (.int .i64 i29) fun m41 =>
 StC w0.heap.size m41 ⟨b39, 1, none⟩ (.int .i64 i30) fun m42 =>
 StC w0.heap.size m42 ⟨b39, 2, none⟩ (.slice A31 n32 c33) fun m43 =>
 StC w0.heap.size m43 ⟨b39, 3, none⟩ (.slice A34 n35 c36) fun m44 =>
 ∃ i45 : Int, m44.cell ⟨b39, 0, none⟩ = some (.int .i64 i45) ∧ 
 IntKind.i64 = IntKind.i64 ∧ (bcase ((i45 : Int) == 8) (
 ∃ i46 : Int, m44.cell ⟨b39, 1, none⟩ = some (.int .i64 i46) ∧ 
 IntKind.i64 = IntKind.i64 ∧ (bcase (decide ((i46 : Int) ≤ ((x0n : Nat) : Int))) (
 CallsA Try.prog w0 21 #[] m44 fun r48 m49 =>
 ∃ t47 : Bool, r48 = .bool t47 ∧ RetP R (.bool (bif decide ((i46 : Int) ≤ ((x0n : Nat) : Int)) then t47 else false)) m49) (
 (decide ((i46 : Int) ≤ ((x0n : Nat) : Int))) = false ∧ RetP R (.bool false) m44))) (
 ∃ i50 : Int, m44.cell ⟨b39, 0, none⟩ = some (.int .i64 i50) ∧ 
 IntKind.i64 = IntKind.i64 ∧ (bcase ((i50 : Int) == 2) (
 ∃ i51 : Int, m44.cell ⟨b39, 1, none⟩ = some (.int .i64 i51) ∧ 
 IntKind.i64 = IntKind.i64 ∧ IntKind.i64 = IntKind.i64 ∧ (bcase (bif (i50 : Int) == 2 then (i51 : Int) == (IntKind.wrap .i64 (((x0n : Nat) : Int) + 1)) else false) (
 ∃ (A52 : Option Addr) (n53 c54 : Nat), m44.cell ⟨b39, 2, none⟩ = some (.slice A52 n53 c54) ∧ 
 ∃ (A55 : Option Addr) (n56 c57 : Nat), m44.cell ⟨b39, 3, none⟩ = some (.slice A55 n56 c57) ∧ 
 IntKind.i64 = IntKind.i64 ∧ IntKind.i64 = IntKind.i64 ∧ (bcase (bif bif (i50 : Int) == 2 then (i51 : Int) == (IntKind.wrap .i64 (((x0n : Nat) : Int) + 1)) else false then ((IntKind.wrap .i64 (((n53 : Nat) : Int) + ((n56 : Nat) : Int))) : Int) == 0 else false) (
 CallsA Try.prog w0 21 #[] m44 fun r59 m60 =>
 ∃ t58 : Bool, r59 = .bool t58 ∧ RetP R (.bool (bif bif bif (i50 : Int) == 2 then (i51 : Int) == (IntKind.wrap .i64 (((x0n : Nat) : Int) + 1)) else false then ((IntKind.wrap .i64 (((n53 : Nat) : Int) + ((n56 : Nat) : Int))) : Int) == 0 else false then t58 else false)) m60) (
 (bif bif (i50 : Int) == 2 then (i51 : Int) == (IntKind.wrap .i64 (((x0n : Nat) : Int) + 1)) else false then ((IntKind.wrap .i64 (((n53 : Nat) : Int) + ((n56 : Nat) : Int))) : Int) == 0 else false) = false ∧ RetP R (.bool false) m44))) (
 (bif (i50 : Int) == 2 then (i51 : Int) == (IntKind.wrap .i64 (((x0n : Nat) : Int) + 1)) else false) = false ∧ false = false ∧ RetP R (.bool false) m44))) (
 ((i50 : Int) == 2) = false ∧ false = false ∧ false = false ∧ RetP R (.bool false) m44)))))) :
 vcS Try.prog w0 qs5 (sub c5 [1, 0, 1, 0]) σ m (blockS 0 (thenS (fun σ m => vcS Try.prog w0 qs5 (sub c5 [1, 1]) σ m (retQ Try.prog Try.f5 R)) (retQ Try.prog Try.f5 R))) := by
  rw [show sub c5 [1, 0, 1, 0] = .loop (sub c5 [1, 0, 1, 0, 0]) from by kernel_rfl]
  refine loopQ (fun n0 σ m => σ 0 = .slice x0 x0n x0c ∧ σ 6 = .slice x6 x6n x6c ∧ σ 7 = .int .i64 x7 ∧ okI .i64 (σ 8) = true ∧ I0 n0 (vI (σ 8)) m) N (fun n0 => (lq5_1010 R x0 x0n x0c x6 x6n x6c x7 I0 E0_0 n0)) ⟨h0, h6, h7, (by rw [h8]; rfl), (by rw [h8]; exact h_0)⟩ ?_ ?_ ?_
  · rintro n0 σ m ⟨kk0, kk1, kk2, kk3, n', hlt, hI⟩; exact ⟨n', hlt, kk0, kk1, kk2, kk3, hI⟩
  · intro n0 e σ m hne h
    cases e with
    | normal => exact absurd rfl hne
    | ret => exact h
    | exit id =>
      by_cases e0 : id = 0
      · subst e0
        obtain ⟨kk0, kk1, kk2, hE⟩ := h
        have es : (upd (upd (upd σ 0 (.slice x0 x0n x0c)) 6 (.slice x6 x6n x6c)) 7 (.int .i64 x7)) = σ := by rw [upd_id kk0, upd_id kk1, upd_id kk2]
        exact cast (congrArg (fun s => (blockS 0 (thenS (fun σ m => vcS Try.prog w0 qs5 (sub c5 [1, 1]) σ m (retQ Try.prog Try.f5 R)) (retQ Try.prog Try.f5 R))) (.exit 0) s m) es) (cast (by kernel_rfl) (h_e0 σ  m hE))
      · replace h := (if_neg e0 : (if id = 0 then _ else _) = _).mp h
        exact False.elim h
    | _ => exact False.elim h
  · rintro n0 σ m ⟨kk0, kk1, kk2, kk3, hI⟩
    have es : (upd (upd (upd (upd σ 0 (.slice x0 x0n x0c)) 6 (.slice x6 x6n x6c)) 7 (.int .i64 x7)) 8 (.int .i64 (vI (σ 8)))) = σ := by rw [upd_id kk0, upd_id kk1, upd_id kk2, upd_id (ok_int kk3)]
    exact cast (congrArg (fun s => vcS Try.prog w0 qs5 (sub c5 [1, 0, 1, 0, 0]) s m (lq5_1010 R x0 x0n x0c x6 x6n x6c x7 I0 E0_0 n0)) es) (cast (by kernel_rfl) (h_s n0 σ (vI (σ 8)) m hI))

/-! 6 delayslot/delayslotlaw07.SeqTells -/
def qs6 : Nat → List (Nat × Nat) := fun i => match i with | _ => []
noncomputable def c6 : Code := bodyOf Try.f6
theorem cf6 (w0 : World) (m : AM) (x0 : Option Addr) (x0n x0c : Nat) (R : Value → AM → Prop) (h :
 IntKind.i64 = IntKind.i64 ∧ (bcase (decide ((((x0n : Nat) : Int) : Int) > 100)) (
 CallsA Try.prog w0 21 #[] m fun r2 m3 =>
 ∃ t1 : Bool, r2 = .bool t1 ∧ RetP R (.bool t1) m3) (
 vcS Try.prog w0 qs6 (sub c6 [1, 1, 1, 0, 1, 0]) (upd (upd (upd (upd (upd (upd (upd (upd (argS [.slice x0 x0n x0c]) 2 (.bool false)) 8 (.slice x0 x0n x0c)) 9 (.int .i64 ((x0n : Nat) : Int))) 10 (.bool (decide ((((x0n : Nat) : Int) : Int) > 100)))) 3 (.slice none 0 0)) 12 (.slice x0 x0n x0c)) 13 (.int .i64 ((x0n : Nat) : Int))) 14 (.int .i64 0)) m (blockS 0 (thenS (fun σ m => vcS Try.prog w0 qs6 (sub c6 [1, 1, 1, 1]) σ m (retQ Try.prog Try.f6 R)) (retQ Try.prog Try.f6 R)))))) : CallsA Try.prog w0 6 #[.slice x0 x0n x0c] m R :=
  callsA_of (c := c6) (args := [.slice x0 x0n x0c]) (by kernel_rfl) Try.func6 (by kernel_rfl) qs6 (by kernel_rfl) (by kernel_rfl) (cast (by kernel_rfl) h)
def lq6_111010 (R : Value → AM → Prop) (x0 : Option Addr) (x0n x0c : Nat) (x12 : Option Addr) (x12n x12c : Nat) (x13 : Int) (I0 : Nat → Option Addr → Nat → Nat → Int → AM → Prop) (E0_0 : Option Addr → Nat → Nat → AM → Prop) (n0 : Nat) : Exit → Sg → AM → Prop
  | .normal, σ, m => σ 0 = .slice x0 x0n x0c ∧ σ 12 = .slice x12 x12n x12c ∧ σ 13 = .int .i64 x13 ∧ okS (σ 3) = true ∧ okI .i64 (σ 14) = true ∧ ∃ n' : Nat, n' < n0 ∧ I0 n' (vSA (σ 3)) (vSN (σ 3)) (vSC (σ 3)) (vI (σ 14)) m
  | .exit id, σ, m => if id = 0 then σ 0 = .slice x0 x0n x0c ∧ σ 12 = .slice x12 x12n x12c ∧ σ 13 = .int .i64 x13 ∧ okS (σ 3) = true ∧ E0_0 (vSA (σ 3)) (vSN (σ 3)) (vSC (σ 3)) m else False
  | .ret, σ, m => retQ Try.prog Try.f6 R .ret σ m
  | _, _, _ => False
theorem vl6_111010 (w0 : World) (m : AM) (σ : Sg) (R : Value → AM → Prop)  (x0 : Option Addr) (x0n x0c : Nat) (x12 : Option Addr) (x12n x12c : Nat) (x13 : Int) (x3 : Option Addr) (x3n x3c : Nat) (x14 : Int) (I0 : Nat → Option Addr → Nat → Nat → Int → AM → Prop) (E0_0 : Option Addr → Nat → Nat → AM → Prop) (N : Nat) (h0 : σ 0 = .slice x0 x0n x0c) (h3 : σ 3 = .slice x3 x3n x3c) (h12 : σ 12 = .slice x12 x12n x12c) (h13 : σ 13 = .int .i64 x13) (h14 : σ 14 = .int .i64 x14)
 (h_0 : I0 N x3 x3n x3c x14 m)
 (h_s : ∀ (n0 : Nat) (σ : Sg) (x3 : Option Addr) (x3n : Nat) (x3c : Nat) (x14 : Int) (m : AM), I0 n0 x3 x3n x3c x14 m → (
 IntKind.i64 = IntKind.i64 ∧ (bcase (decide ((x14 : Int) < x13)) (
 ((0 : Int) ≤ x14 ∧ x14 < ((x12n : Nat) : Int)) ∧ nilO x12 fun a4 =>
 ∃ i5 : Int, m.cell (a4.add ((x14 : Int).toNat * 1)) = some (.int .i32 i5) ∧ 
 IntKind.i64 = IntKind.i64 ∧ true = true ∧ ∀ b6 : Nat, w0.heap.size ≤ b6 → m b6 = none → let m7 := AM.upd m b6 (.cells #[.int .i64 (IntKind.wrap .i64 ((IntKind.wrap .i64 i5) + 4294967296))] 3);
 awp Try.prog w0.heap.size (Builtin.append_ #[23, 23] 23 #[.slice x3 x3n x3c, .slice (some ⟨b6, 0, none⟩) 1 1]) m7 fun v8 m9 =>
 ∃ (A10 : Option Addr) (n11 c12 : Nat), v8 = .slice A10 n11 c12 ∧ IntKind.i64 = IntKind.i64 ∧ (.slice x0 x0n x0c : Value) = .slice x0 x0n x0c ∧ (.slice x12 x12n x12c : Value) = .slice x12 x12n x12c ∧ (.int .i64 x13 : Value) = .int .i64 x13 ∧ true = true ∧ true = true ∧ ∃ n' : Nat, n' < n0 ∧ I0 n' A10 n11 c12 (IntKind.wrap .i64 (x14 + 1)) m9) (
 (.slice x0 x0n x0c : Value) = .slice x0 x0n x0c ∧ (.slice x12 x12n x12c : Value) = .slice x12 x12n x12c ∧ (.int .i64 x13 : Value) = .int .i64 x13 ∧ true = true ∧ E0_0 x3 x3n x3c m))))
 (h_e0 : ∀ (σ : Sg) (x3 : Option Addr) (x3n : Nat) (x3c : Nat) (m : AM), E0_0 x3 x3n x3c m → (
 true = true ∧ true = true ∧ true = true ∧ true = true ∧ ∀ b13 : Nat, w0.heap.size ≤ b13 → m b13 = none → let m14 := AM.upd m b13 (.cells #[.int .i64 20, .int .i64 0, .int .i64 0, .int .i64 0, .int .i64 1, .int .i64 20, .int .i64 0, .int .i64 0, .int .i64 0, .int .i64 2, .int .i64 17, .int .i64 0, .int .i64 0, .int .i64 0, .int .i64 0] 34);
 CallsA Try.prog w0 23 #[.slice (some ⟨b13, 0, none⟩) 3 3, .int .i64 0, .slice x3 x3n x3c, .int .i64 1000] m14 fun r23 m24 =>
 ∃ i15 : Int, ∃ i16 : Int, ∃ (A17 : Option Addr) (n18 c19 : Nat), ∃ (A20 : Option Addr) (n21 c22 : Nat), r23 = .agg #[.int .i64 i15, .int .i64 i16, .slice A17 n18 c19, .slice A20 n21 c22] ∧ ∀ b25 : Nat, w0.heap.size ≤ b25 → m24 b25 = none → let m26 := AM.upd m24 b25 (.cells #[.int .i64 0, .int .i64 0, .slice none 0 0, .slice none 0 0] 29);
 StC w0.heap.size m26 ⟨b25, 0, none⟩ (.int .i64 i15) fun m27 =>
 StC w0.heap.size m27 ⟨b25, 1, none⟩ (.int .i64 i16) fun m28 =>
 StC w0.heap.size m28 ⟨b25, 2, none⟩ (.slice A17 n18 c19) fun m29 =>
 StC w0.heap.size m29 ⟨b25, 3, none⟩ (.slice A20 n21 c22) fun m30 =>
 ∃ (A31 : Option Addr) (n32 c33 : Nat), m30.cell ⟨b25, 2, none⟩ = some (.slice A31 n32 c33) ∧ 
 IntKind.i64 = IntKind.i64 ∧ (bcase ((((n32 : Nat) : Int) : Int) != ((x0n : Nat) : Int)) (
 ((((n32 : Nat) : Int) : Int) != ((x0n : Nat) : Int)) = true ∧ true = true ∧ RetP R (.bool false) m30) (
 ∃ i34 : Int, m30.cell ⟨b25, 0, none⟩ = some (.int .i64 i34) ∧ 
 IntKind.i64 = IntKind.i64 ∧ (bcase (bif (((n32 : Nat) : Int) : Int) != ((x0n : Nat) : Int) then true else (i34 : Int) != 6) (
 (bif (((n32 : Nat) : Int) : Int) != ((x0n : Nat) : Int) then true else (i34 : Int) != 6) = true ∧ RetP R (.bool false) m30) (
 ∃ i35 : Int, m30.cell ⟨b25, 1, none⟩ = some (.int .i64 i35) ∧ 
 IntKind.i64 = IntKind.i64 ∧ IntKind.i64 = IntKind.i64 ∧ IntKind.i64 = IntKind.i64 ∧ (bcase (bif bif (((n32 : Nat) : Int) : Int) != ((x0n : Nat) : Int) then true else (i34 : Int) != 6 then true else (i35 : Int) != (IntKind.wrap .i64 ((IntKind.wrap .i64 (3 * ((x0n : Nat) : Int))) + 1))) (
 RetP R (.bool false) m30) (
 vcS Try.prog w0 qs6 (sub c6 [1, 1, 1, 1, 1, 1, 0, 1, 0]) (upd (upd (upd (upd (upd (upd (upd (upd (upd (upd (upd (upd (upd (upd (upd (upd (upd (upd (upd (upd (upd (upd (upd (upd (upd (upd (upd (upd (upd (upd (upd (upd (upd (upd σ 0 (.slice x0 x0n x0c)) 12 (.slice x12 x12n x12c)) 13 (.int .i64 x13)) 3 (.slice x3 x3n x3c)) 25 (.agg #[.int .i64 20, .int .i64 0, .int .i64 0, .int .i64 0, .int .i64 1])) 26 (.agg #[.int .i64 20, .int .i64 0, .int .i64 0, .int .i64 0, .int .i64 2])) 27 (.agg #[.int .i64 17, .int .i64 0, .int .i64 0, .int .i64 0, .int .i64 0])) 28 (.slice (some ⟨b13, 0, none⟩) 3 3)) 29 (.slice x3 x3n x3c)) 30 (.agg #[.int .i64 i15, .int .i64 i16, .slice A17 n18 c19, .slice A20 n21 c22])) 6 (.pointer (some ⟨b25, 0, none⟩))) 31 (.pointer (some ⟨b25, 2, none⟩))) 32 (.slice A31 n32 c33)) 33 (.int .i64 ((n32 : Nat) : Int))) 34 (.slice x0 x0n x0c)) 35 (.int .i64 ((x0n : Nat) : Int))) 36 (.bool ((((n32 : Nat) : Int) : Int) != ((x0n : Nat) : Int)))) 37 (.bool ((((n32 : Nat) : Int) : Int) != ((x0n : Nat) : Int)))) 38 (.pointer (some ⟨b25, 0, none⟩))) 39 (.int .i64 i34)) 40 (.bool ((i34 : Int) != 6))) 41 (.bool (bif (((n32 : Nat) : Int) : Int) != ((x0n : Nat) : Int) then true else (i34 : Int) != 6))) 42 (.bool (bif (((n32 : Nat) : Int) : Int) != ((x0n : Nat) : Int) then true else (i34 : Int) != 6))) 43 (.pointer (some ⟨b25, 1, none⟩))) 44 (.int .i64 i35)) 45 (.slice x0 x0n x0c)) 46 (.int .i64 ((x0n : Nat) : Int))) 47 (.int .i64 (IntKind.wrap .i64 (3 * ((x0n : Nat) : Int))))) 48 (.int .i64 (IntKind.wrap .i64 ((IntKind.wrap .i64 (3 * ((x0n : Nat) : Int))) + 1)))) 49 (.bool ((i35 : Int) != (IntKind.wrap .i64 ((IntKind.wrap .i64 (3 * ((x0n : Nat) : Int))) + 1))))) 50 (.bool (bif bif (((n32 : Nat) : Int) : Int) != ((x0n : Nat) : Int) then true else (i34 : Int) != 6 then true else (i35 : Int) != (IntKind.wrap .i64 ((IntKind.wrap .i64 (3 * ((x0n : Nat) : Int))) + 1))))) 51 (.slice x0 x0n x0c)) 52 (.int .i64 ((x0n : Nat) : Int))) 53 (.int .i64 0)) m30 (blockS 2 (thenS (fun σ m => vcS Try.prog w0 qs6 (sub c6 [1, 1, 1, 1, 1, 1, 1]) σ m (retQ Try.prog Try.f6 R)) (retQ Try.prog Try.f6 R))))))))))) :
 vcS Try.prog w0 qs6 (sub c6 [1, 1, 1, 0, 1, 0]) σ m (blockS 0 (thenS (fun σ m => vcS Try.prog w0 qs6 (sub c6 [1, 1, 1, 1]) σ m (retQ Try.prog Try.f6 R)) (retQ Try.prog Try.f6 R))) := by
  rw [show sub c6 [1, 1, 1, 0, 1, 0] = .loop (sub c6 [1, 1, 1, 0, 1, 0, 0]) from by kernel_rfl]
  refine loopQ (fun n0 σ m => σ 0 = .slice x0 x0n x0c ∧ σ 12 = .slice x12 x12n x12c ∧ σ 13 = .int .i64 x13 ∧ okS (σ 3) = true ∧ okI .i64 (σ 14) = true ∧ I0 n0 (vSA (σ 3)) (vSN (σ 3)) (vSC (σ 3)) (vI (σ 14)) m) N (fun n0 => (lq6_111010 R x0 x0n x0c x12 x12n x12c x13 I0 E0_0 n0)) ⟨h0, h12, h13, (by rw [h3]; rfl), (by rw [h14]; rfl), (by rw [h3, h14]; exact h_0)⟩ ?_ ?_ ?_
  · rintro n0 σ m ⟨kk0, kk1, kk2, kk3, kk4, n', hlt, hI⟩; exact ⟨n', hlt, kk0, kk1, kk2, kk3, kk4, hI⟩
  · intro n0 e σ m hne h
    cases e with
    | normal => exact absurd rfl hne
    | ret => exact h
    | exit id =>
      by_cases e0 : id = 0
      · subst e0
        obtain ⟨kk0, kk1, kk2, kk3, hE⟩ := h
        have es : (upd (upd (upd (upd σ 0 (.slice x0 x0n x0c)) 12 (.slice x12 x12n x12c)) 13 (.int .i64 x13)) 3 (.slice (vSA (σ 3)) (vSN (σ 3)) (vSC (σ 3)))) = σ := by rw [upd_id kk0, upd_id kk1, upd_id kk2, upd_id (ok_slice kk3)]
        exact cast (congrArg (fun s => (blockS 0 (thenS (fun σ m => vcS Try.prog w0 qs6 (sub c6 [1, 1, 1, 1]) σ m (retQ Try.prog Try.f6 R)) (retQ Try.prog Try.f6 R))) (.exit 0) s m) es) (cast (by kernel_rfl) (h_e0 σ (vSA (σ 3)) (vSN (σ 3)) (vSC (σ 3)) m hE))
      · replace h := (if_neg e0 : (if id = 0 then _ else _) = _).mp h
        exact False.elim h
    | _ => exact False.elim h
  · rintro n0 σ m ⟨kk0, kk1, kk2, kk3, kk4, hI⟩
    have es : (upd (upd (upd (upd (upd σ 0 (.slice x0 x0n x0c)) 3 (.slice (vSA (σ 3)) (vSN (σ 3)) (vSC (σ 3)))) 12 (.slice x12 x12n x12c)) 13 (.int .i64 x13)) 14 (.int .i64 (vI (σ 14)))) = σ := by rw [upd_id kk0, upd_id (ok_slice kk3), upd_id kk1, upd_id kk2, upd_id (ok_int kk4)]
    exact cast (congrArg (fun s => vcS Try.prog w0 qs6 (sub c6 [1, 1, 1, 0, 1, 0, 0]) s m (lq6_111010 R x0 x0n x0c x12 x12n x12c x13 I0 E0_0 n0)) es) (cast (by kernel_rfl) (h_s n0 σ (vSA (σ 3)) (vSN (σ 3)) (vSC (σ 3)) (vI (σ 14)) m hI))
def lq6_111111010 (R : Value → AM → Prop) (x0 : Option Addr) (x0n x0c : Nat) (x6 : Nat) (x52 : Int) (I0 : Nat → Int → AM → Prop) (E0_2 : AM → Prop) (n0 : Nat) : Exit → Sg → AM → Prop
  | .normal, σ, m => σ 0 = .slice x0 x0n x0c ∧ σ 6 = .pointer (some ⟨x6, 0, none⟩) ∧ σ 52 = .int .i64 x52 ∧ okI .i64 (σ 53) = true ∧ ∃ n' : Nat, n' < n0 ∧ I0 n' (vI (σ 53)) m
  | .exit id, σ, m => if id = 2 then σ 0 = .slice x0 x0n x0c ∧ σ 6 = .pointer (some ⟨x6, 0, none⟩) ∧ σ 52 = .int .i64 x52 ∧ E0_2  m else False
  | .ret, σ, m => retQ Try.prog Try.f6 R .ret σ m
  | _, _, _ => False
theorem vl6_111111010 (w0 : World) (m : AM) (σ : Sg) (R : Value → AM → Prop)  (x0 : Option Addr) (x0n x0c : Nat) (x6 : Nat) (x52 : Int) (x53 : Int) (I0 : Nat → Int → AM → Prop) (E0_2 : AM → Prop) (N : Nat) (h0 : σ 0 = .slice x0 x0n x0c) (h6 : σ 6 = .pointer (some ⟨x6, 0, none⟩)) (h52 : σ 52 = .int .i64 x52) (h53 : σ 53 = .int .i64 x53)
 (h_0 : I0 N x53 m)
 (h_s : ∀ (n0 : Nat) (σ : Sg) (x53 : Int) (m : AM), I0 n0 x53 m → (
 IntKind.i64 = IntKind.i64 ∧ (bcase (decide ((x53 : Int) < x52)) (
 ∃ (A36 : Option Addr) (n37 c38 : Nat), m.cell ⟨x6, 2, none⟩ = some (.slice A36 n37 c38) ∧ 
 ((0 : Int) ≤ x53 ∧ x53 < ((n37 : Nat) : Int)) ∧ nilO A36 fun a39 =>
 ∃ i40 : Int, m.cell (a39.add ((x53 : Int).toNat * 1)) = some (.int .i64 i40) ∧ 
 ((0 : Int) ≤ x53 ∧ x53 < ((x0n : Nat) : Int)) ∧ nilO x0 fun a41 =>
 ∃ i42 : Int, m.cell (a41.add ((x53 : Int).toNat * 1)) = some (.int .i32 i42) ∧ 
 IntKind.i64 = IntKind.i64 ∧ (bcase ((i40 : Int) != (IntKind.wrap .i64 i42)) (
 RetP R (.bool false) m) (
 IntKind.i64 = IntKind.i64 ∧ (.slice x0 x0n x0c : Value) = .slice x0 x0n x0c ∧ (.pointer (some ⟨x6, 0, none⟩) : Value) = .pointer (some ⟨x6, 0, none⟩) ∧ (.int .i64 x52 : Value) = .int .i64 x52 ∧ true = true ∧ ∃ n' : Nat, n' < n0 ∧ I0 n' (IntKind.wrap .i64 (x53 + 1)) m))) (
 (.slice x0 x0n x0c : Value) = .slice x0 x0n x0c ∧ (.pointer (some ⟨x6, 0, none⟩) : Value) = .pointer (some ⟨x6, 0, none⟩) ∧ (.int .i64 x52 : Value) = .int .i64 x52 ∧ E0_2  m))))
 (h_e2 : ∀ (σ : Sg)  (m : AM), E0_2  m → (
 CallsA Try.prog w0 21 #[] m fun r44 m45 =>
 ∃ t43 : Bool, r44 = .bool t43 ∧ RetP R (.bool t43) m45)) :
 vcS Try.prog w0 qs6 (sub c6 [1, 1, 1, 1, 1, 1, 0, 1, 0]) σ m (blockS 2 (thenS (fun σ m => vcS Try.prog w0 qs6 (sub c6 [1, 1, 1, 1, 1, 1, 1]) σ m (retQ Try.prog Try.f6 R)) (retQ Try.prog Try.f6 R))) := by
  rw [show sub c6 [1, 1, 1, 1, 1, 1, 0, 1, 0] = .loop (sub c6 [1, 1, 1, 1, 1, 1, 0, 1, 0, 0]) from by kernel_rfl]
  refine loopQ (fun n0 σ m => σ 0 = .slice x0 x0n x0c ∧ σ 6 = .pointer (some ⟨x6, 0, none⟩) ∧ σ 52 = .int .i64 x52 ∧ okI .i64 (σ 53) = true ∧ I0 n0 (vI (σ 53)) m) N (fun n0 => (lq6_111111010 R x0 x0n x0c x6 x52 I0 E0_2 n0)) ⟨h0, h6, h52, (by rw [h53]; rfl), (by rw [h53]; exact h_0)⟩ ?_ ?_ ?_
  · rintro n0 σ m ⟨kk0, kk1, kk2, kk3, n', hlt, hI⟩; exact ⟨n', hlt, kk0, kk1, kk2, kk3, hI⟩
  · intro n0 e σ m hne h
    cases e with
    | normal => exact absurd rfl hne
    | ret => exact h
    | exit id =>
      by_cases e2 : id = 2
      · subst e2
        obtain ⟨kk0, kk1, kk2, hE⟩ := h
        have es : (upd (upd (upd σ 0 (.slice x0 x0n x0c)) 6 (.pointer (some ⟨x6, 0, none⟩))) 52 (.int .i64 x52)) = σ := by rw [upd_id kk0, upd_id kk1, upd_id kk2]
        exact cast (congrArg (fun s => (blockS 2 (thenS (fun σ m => vcS Try.prog w0 qs6 (sub c6 [1, 1, 1, 1, 1, 1, 1]) σ m (retQ Try.prog Try.f6 R)) (retQ Try.prog Try.f6 R))) (.exit 2) s m) es) (cast (by kernel_rfl) (h_e2 σ  m hE))
      · replace h := (if_neg e2 : (if id = 2 then _ else _) = _).mp h
        exact False.elim h
    | _ => exact False.elim h
  · rintro n0 σ m ⟨kk0, kk1, kk2, kk3, hI⟩
    have es : (upd (upd (upd (upd σ 0 (.slice x0 x0n x0c)) 6 (.pointer (some ⟨x6, 0, none⟩))) 52 (.int .i64 x52)) 53 (.int .i64 (vI (σ 53)))) = σ := by rw [upd_id kk0, upd_id kk1, upd_id kk2, upd_id (ok_int kk3)]
    exact cast (congrArg (fun s => vcS Try.prog w0 qs6 (sub c6 [1, 1, 1, 1, 1, 1, 0, 1, 0, 0]) s m (lq6_111111010 R x0 x0n x0c x6 x52 I0 E0_2 n0)) es) (cast (by kernel_rfl) (h_s n0 σ (vI (σ 53)) m hI))

/-! 7 delayslot/delayslotlaw07.SeqReckons -/
def qs7 : Nat → List (Nat × Nat) := fun i => match i with | 1000004 => [(0, 0)] | _ => []
noncomputable def c7 : Code := bodyOf Try.f7
theorem cf7 (w0 : World) (m : AM) (x0_0 : Int) (x0_1 : Int) (x0_2 : Int) (x0_3 : Int) (x0_4 : Int) (x1 : Int) (x2 : Int) (R : Value → AM → Prop) (h :
 ∀ b1 : Nat, w0.heap.size ≤ b1 → m b1 = none → let m2 := AM.upd m b1 (.cells #[.int .i64 x0_0, .int .i64 x0_1, .int .i64 x0_2, .int .i64 x0_3, .int .i64 x0_4] 34);
 ∃ i3 : Int, m2.cell ⟨b1, 0, none⟩ = some (.int .i64 i3) ∧ ∃ i4 : Int, m2.cell ⟨b1, 1, none⟩ = some (.int .i64 i4) ∧ ∃ i5 : Int, m2.cell ⟨b1, 2, none⟩ = some (.int .i64 i5) ∧ ∃ i6 : Int, m2.cell ⟨b1, 3, none⟩ = some (.int .i64 i6) ∧ ∃ i7 : Int, m2.cell ⟨b1, 4, none⟩ = some (.int .i64 i7) ∧ 
 CallsA Try.prog w0 25 #[.agg #[.int .i64 i3, .int .i64 i4, .int .i64 i5, .int .i64 i6, .int .i64 i7], .int .i64 x1, .int .i64 x2] m2 fun r11 m12 =>
 ∃ i8 : Int, ∃ i9 : Int, ∃ t10 : Bool, r11 = .tuple #[.int .i64 i8, .int .i64 i9, .bool t10] ∧ ∃ i16 : Int, m12.cell ⟨b1, 0, none⟩ = some (.int .i64 i16) ∧ ∃ i17 : Int, m12.cell ⟨b1, 1, none⟩ = some (.int .i64 i17) ∧ ∃ i18 : Int, m12.cell ⟨b1, 2, none⟩ = some (.int .i64 i18) ∧ ∃ i19 : Int, m12.cell ⟨b1, 3, none⟩ = some (.int .i64 i19) ∧ ∃ i20 : Int, m12.cell ⟨b1, 4, none⟩ = some (.int .i64 i20) ∧ 
 CallsA Try.prog w0 26 #[.agg #[.int .i64 i16, .int .i64 i17, .int .i64 i18, .int .i64 i19, .int .i64 i20]] m12 fun r22 m23 =>
 ∃ t21 : Bool, r22 = .bool t21 ∧ (bcase (!t21) (
 (!t21) = true ∧ true = true ∧ IntKind.i64 = IntKind.i64 ∧ (bcase ((i8 : Int) == 0) (
 IntKind.i64 = IntKind.i64 ∧ (bcase (bif (i8 : Int) == 0 then (i9 : Int) == 0 else false) (
 (bcase (bif bif (i8 : Int) == 0 then (i9 : Int) == 0 else false then !t10 else false) (
 CallsA Try.prog w0 21 #[] m23 fun r25 m26 =>
 ∃ t24 : Bool, r25 = .bool t24 ∧ RetP R (.bool (bif bif bif (i8 : Int) == 0 then (i9 : Int) == 0 else false then !t10 else false then t24 else false)) m26) (
 (bif bif (i8 : Int) == 0 then (i9 : Int) == 0 else false then !t10 else false) = false ∧ RetP R (.bool false) m23))) (
 (bif (i8 : Int) == 0 then (i9 : Int) == 0 else false) = false ∧ false = false ∧ RetP R (.bool false) m23))) (
 ((i8 : Int) == 0) = false ∧ false = false ∧ false = false ∧ RetP R (.bool false) m23))) (
 ∃ i27 : Int, m23.cell ⟨b1, 0, none⟩ = some (.int .i64 i27) ∧ 
 IntKind.i64 = IntKind.i64 ∧ (bcase (bif !t21 then true else decide ((i27 : Int) < 1)) (
 (bif !t21 then true else decide ((i27 : Int) < 1)) = true ∧ IntKind.i64 = IntKind.i64 ∧ (bcase ((i8 : Int) == 0) (
 IntKind.i64 = IntKind.i64 ∧ (bcase (bif (i8 : Int) == 0 then (i9 : Int) == 0 else false) (
 (bcase (bif bif (i8 : Int) == 0 then (i9 : Int) == 0 else false then !t10 else false) (
 CallsA Try.prog w0 21 #[] m23 fun r29 m30 =>
 ∃ t28 : Bool, r29 = .bool t28 ∧ RetP R (.bool (bif bif bif (i8 : Int) == 0 then (i9 : Int) == 0 else false then !t10 else false then t28 else false)) m30) (
 (bif bif (i8 : Int) == 0 then (i9 : Int) == 0 else false then !t10 else false) = false ∧ RetP R (.bool false) m23))) (
 (bif (i8 : Int) == 0 then (i9 : Int) == 0 else false) = false ∧ false = false ∧ RetP R (.bool false) m23))) (
 ((i8 : Int) == 0) = false ∧ false = false ∧ false = false ∧ RetP R (.bool false) m23))) (
 ∃ i31 : Int, m23.cell ⟨b1, 0, none⟩ = some (.int .i64 i31) ∧ 
 IntKind.i64 = IntKind.i64 ∧ (bcase (bif bif !t21 then true else decide ((i27 : Int) < 1) then true else decide ((i31 : Int) > 11)) (
 IntKind.i64 = IntKind.i64 ∧ (bcase ((i8 : Int) == 0) (
 IntKind.i64 = IntKind.i64 ∧ (bcase (bif (i8 : Int) == 0 then (i9 : Int) == 0 else false) (
 (bcase (bif bif (i8 : Int) == 0 then (i9 : Int) == 0 else false then !t10 else false) (
 CallsA Try.prog w0 21 #[] m23 fun r33 m34 =>
 ∃ t32 : Bool, r33 = .bool t32 ∧ RetP R (.bool (bif bif bif (i8 : Int) == 0 then (i9 : Int) == 0 else false then !t10 else false then t32 else false)) m34) (
 (bif bif (i8 : Int) == 0 then (i9 : Int) == 0 else false then !t10 else false) = false ∧ RetP R (.bool false) m23))) (
 (bif (i8 : Int) == 0 then (i9 : Int) == 0 else false) = false ∧ false = false ∧ RetP R (.bool false) m23))) (
 ((i8 : Int) == 0) = false ∧ false = false ∧ false = false ∧ RetP R (.bool false) m23))) (
 vcS Try.prog w0 qs7 (sub c7 [1, 1, 1, 0]) (upd (upd (upd (upd (upd (upd (upd (upd (upd (upd (upd (upd (upd (upd (upd (upd (upd (upd (upd (upd (upd (upd (upd (upd (upd (upd (argS [.agg #[.int .i64 x0_0, .int .i64 x0_1, .int .i64 x0_2, .int .i64 x0_3, .int .i64 x0_4], .int .i64 x1, .int .i64 x2]) 3 (.pointer (some ⟨b1, 0, none⟩))) 6 (.bool false)) 13 (.agg #[.int .i64 i3, .int .i64 i4, .int .i64 i5, .int .i64 i6, .int .i64 i7])) 14 (.int .i64 x1)) 15 (.int .i64 x2)) 16 (.tuple #[.int .i64 i8, .int .i64 i9, .bool t10])) 12 (.tuple #[.int .i64 i8, .int .i64 i9, .bool t10])) 17 (.int .i64 i8)) 18 (.int .i64 i9)) 19 (.bool t10)) 7 (.int .i64 i8)) 8 (.int .i64 i9)) 9 (.bool t10)) 20 (.agg #[.int .i64 i16, .int .i64 i17, .int .i64 i18, .int .i64 i19, .int .i64 i20])) 21 (.bool t21)) 22 (.bool (!t21))) 23 (.bool (!t21))) 24 (.pointer (some ⟨b1, 0, none⟩))) 25 (.int .i64 i27)) 26 (.bool (decide ((i27 : Int) < 1)))) 27 (.bool (bif !t21 then true else decide ((i27 : Int) < 1)))) 28 (.bool (bif !t21 then true else decide ((i27 : Int) < 1)))) 29 (.pointer (some ⟨b1, 0, none⟩))) 30 (.int .i64 i31)) 31 (.bool (decide ((i31 : Int) > 11)))) 32 (.bool (bif bif !t21 then true else decide ((i27 : Int) < 1) then true else decide ((i31 : Int) > 11)))) m23 (thenS (fun σ m => vcS Try.prog w0 qs7 (sub c7 [1, 1, 1, 1]) σ m (retQ Try.prog Try.f7 R)) (retQ Try.prog Try.f7 R))))))))) : CallsA Try.prog w0 7 #[.agg #[.int .i64 x0_0, .int .i64 x0_1, .int .i64 x0_2, .int .i64 x0_3, .int .i64 x0_4], .int .i64 x1, .int .i64 x2] m R :=
  callsA_of (c := c7) (args := [.agg #[.int .i64 x0_0, .int .i64 x0_1, .int .i64 x0_2, .int .i64 x0_3, .int .i64 x0_4], .int .i64 x1, .int .i64 x2]) (by kernel_rfl) Try.func7 (by kernel_rfl) qs7 (by kernel_rfl) (by kernel_rfl) (cast (by kernel_rfl) h)
theorem vr7_1110 (w0 : World) (m : AM) (σ : Sg) (R : Value → AM → Prop)  (x1 : Int) (x2 : Int) (x3 : Nat) (x7 : Int) (x8 : Int) (x9 : Bool) (K : Int → Bool → AM → Prop) (h1 : σ 1 = .int .i64 x1) (h2 : σ 2 = .int .i64 x2) (h3 : σ 3 = .pointer (some ⟨x3, 0, none⟩)) (h7 : σ 7 = .int .i64 x7) (h8 : σ 8 = .int .i64 x8) (h9 : σ 9 = .bool x9)
 (h_t : 
 (∃ i35 : Int, m.cell ⟨x3, 0, none⟩ = some (.int .i64 i35) ∧ ∃ i36 : Int, m.cell ⟨x3, 1, none⟩ = some (.int .i64 i36) ∧ ∃ i37 : Int, m.cell ⟨x3, 2, none⟩ = some (.int .i64 i37) ∧ ∃ i38 : Int, m.cell ⟨x3, 3, none⟩ = some (.int .i64 i38) ∧ ∃ i39 : Int, m.cell ⟨x3, 4, none⟩ = some (.int .i64 i39) ∧ 
 CallsA Try.prog w0 28 #[.int .i64 x1] m fun r41 m42 =>
 ∃ i40 : Int, r41 = .int .i64 i40 ∧ CallsA Try.prog w0 28 #[.int .i64 x2] m42 fun r44 m45 =>
 ∃ i43 : Int, r44 = .int .i64 i43 ∧ CallsA Try.prog w0 27 #[.agg #[.int .i64 i35, .int .i64 i36, .int .i64 i37, .int .i64 i38, .int .i64 i39], .int .i64 i40, .int .i64 i43] m45 fun r48 m49 =>
 ∃ i46 : Int, ∃ t47 : Bool, r48 = .tuple #[.int .i64 i46, .bool t47] ∧ true = true ∧ (.int .i64 x7 : Value) = .int .i64 x7 ∧ (.int .i64 x8 : Value) = .int .i64 x8 ∧ (.bool x9 : Value) = .bool x9 ∧ true = true ∧ true = true ∧ K i46 t47 m49) ∧
 (CallsA Try.prog w0 28 #[.int .i64 x1] m fun r53 m54 =>
 ∃ i52 : Int, r53 = .int .i64 i52 ∧ (∃ i55 : Int, m54.cell ⟨x3, 0, none⟩ = some (.int .i64 i55) ∧ ∃ i56 : Int, m54.cell ⟨x3, 1, none⟩ = some (.int .i64 i56) ∧ ∃ i57 : Int, m54.cell ⟨x3, 2, none⟩ = some (.int .i64 i57) ∧ ∃ i58 : Int, m54.cell ⟨x3, 3, none⟩ = some (.int .i64 i58) ∧ ∃ i59 : Int, m54.cell ⟨x3, 4, none⟩ = some (.int .i64 i59) ∧ 
 CallsA Try.prog w0 28 #[.int .i64 x2] m54 fun r61 m62 =>
 ∃ i60 : Int, r61 = .int .i64 i60 ∧ CallsA Try.prog w0 27 #[.agg #[.int .i64 i55, .int .i64 i56, .int .i64 i57, .int .i64 i58, .int .i64 i59], .int .i64 i52, .int .i64 i60] m62 fun r65 m66 =>
 ∃ i63 : Int, ∃ t64 : Bool, r65 = .tuple #[.int .i64 i63, .bool t64] ∧ true = true ∧ (.int .i64 x7 : Value) = .int .i64 x7 ∧ (.int .i64 x8 : Value) = .int .i64 x8 ∧ (.bool x9 : Value) = .bool x9 ∧ true = true ∧ true = true ∧ K i63 t64 m66) ∧
 (CallsA Try.prog w0 28 #[.int .i64 x2] m54 fun r70 m71 =>
 ∃ i69 : Int, r70 = .int .i64 i69 ∧ ∃ i72 : Int, m71.cell ⟨x3, 0, none⟩ = some (.int .i64 i72) ∧ ∃ i73 : Int, m71.cell ⟨x3, 1, none⟩ = some (.int .i64 i73) ∧ ∃ i74 : Int, m71.cell ⟨x3, 2, none⟩ = some (.int .i64 i74) ∧ ∃ i75 : Int, m71.cell ⟨x3, 3, none⟩ = some (.int .i64 i75) ∧ ∃ i76 : Int, m71.cell ⟨x3, 4, none⟩ = some (.int .i64 i76) ∧ 
 CallsA Try.prog w0 27 #[.agg #[.int .i64 i72, .int .i64 i73, .int .i64 i74, .int .i64 i75, .int .i64 i76], .int .i64 i52, .int .i64 i69] m71 fun r79 m80 =>
 ∃ i77 : Int, ∃ t78 : Bool, r79 = .tuple #[.int .i64 i77, .bool t78] ∧ true = true ∧ (.int .i64 x7 : Value) = .int .i64 x7 ∧ (.int .i64 x8 : Value) = .int .i64 x8 ∧ (.bool x9 : Value) = .bool x9 ∧ true = true ∧ true = true ∧ K i77 t78 m80)))
 (h_k : ∀ (σ : Sg) (y10 : Int) (y11 : Bool) (m : AM), K y10 y11 m → (
 (bcase (!y11) (
 IntKind.i64 = IntKind.i64 ∧ (bcase ((x7 : Int) == 0) (
 IntKind.i64 = IntKind.i64 ∧ (bcase (bif (x7 : Int) == 0 then (x8 : Int) == 4 else false) (
 (bcase (bif bif (x7 : Int) == 0 then (x8 : Int) == 4 else false then x9 else false) (
 CallsA Try.prog w0 21 #[] m fun r84 m85 =>
 ∃ t83 : Bool, r84 = .bool t83 ∧ RetP R (.bool (bif bif bif (x7 : Int) == 0 then (x8 : Int) == 4 else false then x9 else false then t83 else false)) m85) (
 (bif bif (x7 : Int) == 0 then (x8 : Int) == 4 else false then x9 else false) = false ∧ RetP R (.bool false) m))) (
 (bif (x7 : Int) == 0 then (x8 : Int) == 4 else false) = false ∧ false = false ∧ RetP R (.bool false) m))) (
 ((x7 : Int) == 0) = false ∧ false = false ∧ false = false ∧ RetP R (.bool false) m))) (
 CallsA Try.prog w0 28 #[.int .i64 y10] m fun r87 m88 =>
 ∃ i86 : Int, r87 = .int .i64 i86 ∧ IntKind.i64 = IntKind.i64 ∧ (bcase ((x7 : Int) == i86) (
 IntKind.i64 = IntKind.i64 ∧ (bcase (bif (x7 : Int) == i86 then (x8 : Int) == 0 else false) (
 (bcase (bif bif (x7 : Int) == i86 then (x8 : Int) == 0 else false then x9 else false) (
 CallsA Try.prog w0 21 #[] m88 fun r90 m91 =>
 ∃ t89 : Bool, r90 = .bool t89 ∧ RetP R (.bool (bif bif bif (x7 : Int) == i86 then (x8 : Int) == 0 else false then x9 else false then t89 else false)) m91) (
 (bif bif (x7 : Int) == i86 then (x8 : Int) == 0 else false then x9 else false) = false ∧ RetP R (.bool false) m88))) (
 (bif (x7 : Int) == i86 then (x8 : Int) == 0 else false) = false ∧ false = false ∧ RetP R (.bool false) m88))) (
 ((x7 : Int) == i86) = false ∧ false = false ∧ false = false ∧ RetP R (.bool false) m88)))))) :
 vcS Try.prog w0 qs7 (sub c7 [1, 1, 1, 0]) σ m (thenS (fun σ m => vcS Try.prog w0 qs7 (sub c7 [1, 1, 1, 1]) σ m (retQ Try.prog Try.f7 R)) (retQ Try.prog Try.f7 R)) := by
  have es0 : (upd (upd (upd (upd (upd (upd σ 1 (.int .i64 x1)) 2 (.int .i64 x2)) 3 (.pointer (some ⟨x3, 0, none⟩))) 7 (.int .i64 x7)) 8 (.int .i64 x8)) 9 (.bool x9)) = σ := by rw [upd_id h1, upd_id h2, upd_id h3, upd_id h7, upd_id h8, upd_id h9]
  refine vcS_cut (Q0 := (fun σ m => σ 7 = .int .i64 x7 ∧ σ 8 = .int .i64 x8 ∧ σ 9 = .bool x9 ∧ okI .i64 (σ 10) = true ∧ okB (σ 11) = true ∧ K (vI (σ 10)) (vB (σ 11)) m)) (by kernel_rfl) (cast (congrArg (fun s => trC Try.prog w0 qs7 (sub c7 [1, 1, 1, 0]) s m (fun σ m => σ 7 = .int .i64 x7 ∧ σ 8 = .int .i64 x8 ∧ σ 9 = .bool x9 ∧ okI .i64 (σ 10) = true ∧ okB (σ 11) = true ∧ K (vI (σ 10)) (vB (σ 11)) m)) es0) (cast (by kernel_rfl) h_t)) ?_
  rintro σ m ⟨kk0, kk1, kk2, kk3, kk4, hK⟩
  have es : (upd (upd (upd (upd (upd σ 7 (.int .i64 x7)) 8 (.int .i64 x8)) 9 (.bool x9)) 10 (.int .i64 (vI (σ 10)))) 11 (.bool (vB (σ 11)))) = σ := by rw [upd_id kk0, upd_id kk1, upd_id kk2, upd_id (ok_int kk3), upd_id (ok_bool kk4)]
  exact cast (congrArg (fun s => (thenS (fun σ m => vcS Try.prog w0 qs7 (sub c7 [1, 1, 1, 1]) σ m (retQ Try.prog Try.f7 R)) (retQ Try.prog Try.f7 R)) .normal s m) es) (cast (by kernel_rfl) (h_k σ (vI (σ 10)) (vB (σ 11)) m hK))

/-! 8 delayslot/delayslotlaw07.SeqRoom -/
def qs8 : Nat → List (Nat × Nat) := fun i => match i with | _ => []
noncomputable def c8 : Code := bodyOf Try.f8
theorem cf8 (w0 : World) (m : AM) (x0 : Option Addr) (x0n x0c : Nat) (x1 : Int) (x2 : Option Addr) (x2n x2c : Nat) (x3 : Int) (x4 : Int) (R : Value → AM → Prop) (h :
 CallsA Try.prog w0 20 #[.slice x0 x0n x0c, .int .i64 x1, .slice x2 x2n x2c, .int .i64 x3] m fun r2 m3 =>
 ∃ t1 : Bool, r2 = .bool t1 ∧ (bcase (!t1) (
 (!t1) = true ∧ true = true ∧ CallsA Try.prog w0 21 #[] m3 fun r5 m6 =>
 ∃ t4 : Bool, r5 = .bool t4 ∧ RetP R (.bool t4) m6) (
 IntKind.i64 = IntKind.i64 ∧ (bcase (bif !t1 then true else decide ((x1 : Int) < 0)) (
 (bif !t1 then true else decide ((x1 : Int) < 0)) = true ∧ CallsA Try.prog w0 21 #[] m3 fun r8 m9 =>
 ∃ t7 : Bool, r8 = .bool t7 ∧ RetP R (.bool t7) m9) (
 IntKind.i64 = IntKind.i64 ∧ (bcase (bif bif !t1 then true else decide ((x1 : Int) < 0) then true else decide ((x1 : Int) > 300)) (
 CallsA Try.prog w0 21 #[] m3 fun r11 m12 =>
 ∃ t10 : Bool, r11 = .bool t10 ∧ RetP R (.bool t10) m12) (
 CallsA Try.prog w0 23 #[.slice x0 x0n x0c, .int .i64 x1, .slice x2 x2n x2c, .int .i64 x3] m3 fun r21 m22 =>
 ∃ i13 : Int, ∃ i14 : Int, ∃ (A15 : Option Addr) (n16 c17 : Nat), ∃ (A18 : Option Addr) (n19 c20 : Nat), r21 = .agg #[.int .i64 i13, .int .i64 i14, .slice A15 n16 c17, .slice A18 n19 c20] ∧ IntKind.u16 = IntKind.u16 ∧ (300 : Int) ≠ 0 ∧ IntKind.i64 = IntKind.i64 ∧ CallsA Try.prog w0 23 #[.slice x0 x0n x0c, .int .i64 (IntKind.wrap .i64 (x1 + (IntKind.wrap .i64 (Int.tmod x4 300)))), .slice x2 x2n x2c, .int .i64 x3] m22 fun r31 m32 =>
 ∃ i23 : Int, ∃ i24 : Int, ∃ (A25 : Option Addr) (n26 c27 : Nat), ∃ (A28 : Option Addr) (n29 c30 : Nat), r31 = .agg #[.int .i64 i23, .int .i64 i24, .slice A25 n26 c27, .slice A28 n29 c30] ∧ ∀ b33 : Nat, w0.heap.size ≤ b33 → m32 b33 = none → let m34 := AM.upd m32 b33 (.cells #[.int .i64 0, .int .i64 0, .slice none 0 0, .slice none 0 0] 29);
 ∀ b35 : Nat, w0.heap.size ≤ b35 → m34 b35 = none → let m36 := AM.upd m34 b35 (.cells #[.int .i64 0, .int .i64 0, .slice none 0 0, .slice none 0 0] 29);
 StC w0.heap.size m36 ⟨b33, 0, none⟩ (.int .i64 i13) fun m37 =>
 StC w0.heap.size m37 ⟨b33, 1, none⟩ (.int .i64 i14) fun m38 =>
 StC w0.heap.size m38 ⟨b33, 2, none⟩ (.slice A15 n16 c17) fun m39 =>
 StC w0.heap.size m39 ⟨b33, 3, none⟩ (.slice A18 n19 c20) fun m40 =>
 StC w0.heap.size m40 ⟨b35, 0, none⟩ (.int .i64 i23) fun m41 =>
 StC w0.heap.size m41 ⟨b35, 1, none⟩ (.int .i64 i24) fun m42 =>
 StC w0.heap.size m42 ⟨b35, 2, none⟩ (.slice A25 n26 c27) fun m43 =>
 StC w0.heap.size m43 ⟨b35, 3, none⟩ (.slice A28 n29 c30) fun m44 =>
 ∃ i45 : Int, m44.cell ⟨b33, 0, none⟩ = some (.int .i64 i45) ∧ 
 IntKind.i64 = IntKind.i64 ∧ (bcase ((i45 : Int) == 3) (
 ((i45 : Int) == 3) = true ∧ CallsA Try.prog w0 21 #[] m44 fun r47 m48 =>
 ∃ t46 : Bool, r47 = .bool t46 ∧ RetP R (.bool (bif true then t46 else false)) m48) (
 ∃ i49 : Int, m44.cell ⟨b33, 0, none⟩ = some (.int .i64 i49) ∧ ∃ i50 : Int, m44.cell ⟨b33, 1, none⟩ = some (.int .i64 i50) ∧ ∃ (A51 : Option Addr) (n52 c53 : Nat), m44.cell ⟨b33, 2, none⟩ = some (.slice A51 n52 c53) ∧ ∃ (A54 : Option Addr) (n55 c56 : Nat), m44.cell ⟨b33, 3, none⟩ = some (.slice A54 n55 c56) ∧ 
 ∃ i57 : Int, m44.cell ⟨b35, 0, none⟩ = some (.int .i64 i57) ∧ ∃ i58 : Int, m44.cell ⟨b35, 1, none⟩ = some (.int .i64 i58) ∧ ∃ (A59 : Option Addr) (n60 c61 : Nat), m44.cell ⟨b35, 2, none⟩ = some (.slice A59 n60 c61) ∧ ∃ (A62 : Option Addr) (n63 c64 : Nat), m44.cell ⟨b35, 3, none⟩ = some (.slice A62 n63 c64) ∧ 
 CallsA Try.prog w0 22 #[.agg #[.int .i64 i49, .int .i64 i50, .slice A51 n52 c53, .slice A54 n55 c56], .agg #[.int .i64 i57, .int .i64 i58, .slice A59 n60 c61, .slice A62 n63 c64]] m44 fun r66 m67 =>
 ∃ t65 : Bool, r66 = .bool t65 ∧ (bcase (bif (i45 : Int) == 3 then true else t65) (
 CallsA Try.prog w0 21 #[] m67 fun r69 m70 =>
 ∃ t68 : Bool, r69 = .bool t68 ∧ RetP R (.bool (bif bif (i45 : Int) == 3 then true else t65 then t68 else false)) m70) (
 (bif (i45 : Int) == 3 then true else t65) = false ∧ RetP R (.bool false) m67))))))))))) : CallsA Try.prog w0 8 #[.slice x0 x0n x0c, .int .i64 x1, .slice x2 x2n x2c, .int .i64 x3, .int .u16 x4] m R :=
  callsA_of (c := c8) (args := [.slice x0 x0n x0c, .int .i64 x1, .slice x2 x2n x2c, .int .i64 x3, .int .u16 x4]) (by kernel_rfl) Try.func8 (by kernel_rfl) qs8 (by kernel_rfl) (by kernel_rfl) (cast (by kernel_rfl) h)

/-! 9 delayslot/delayslotlaw07.SeqInput -/
def qs9 : Nat → List (Nat × Nat) := fun i => match i with | _ => []
noncomputable def c9 : Code := bodyOf Try.f9
theorem cf9 (w0 : World) (m : AM) (x0 : Option Addr) (x0n x0c : Nat) (x1 : Int) (x2 : Option Addr) (x2n x2c : Nat) (x3 : Option Addr) (x3n x3c : Nat) (x4 : Int) (R : Value → AM → Prop) (h :
 CallsA Try.prog w0 20 #[.slice x0 x0n x0c, .int .i64 x1, .slice x2 x2n x2c, .int .i64 x4] m fun r2 m3 =>
 ∃ t1 : Bool, r2 = .bool t1 ∧ (bcase (!t1) (
 (!t1) = true ∧ CallsA Try.prog w0 21 #[] m3 fun r5 m6 =>
 ∃ t4 : Bool, r5 = .bool t4 ∧ RetP R (.bool t4) m6) (
 IntKind.i64 = IntKind.i64 ∧ (bcase (bif !t1 then true else decide ((((x3n : Nat) : Int) : Int) > 100)) (
 CallsA Try.prog w0 21 #[] m3 fun r8 m9 =>
 ∃ t7 : Bool, r8 = .bool t7 ∧ RetP R (.bool t7) m9) (
 CallsA Try.prog w0 23 #[.slice x0 x0n x0c, .int .i64 x1, .slice x2 x2n x2c, .int .i64 x4] m3 fun r18 m19 =>
 ∃ i10 : Int, ∃ i11 : Int, ∃ (A12 : Option Addr) (n13 c14 : Nat), ∃ (A15 : Option Addr) (n16 c17 : Nat), r18 = .agg #[.int .i64 i10, .int .i64 i11, .slice A12 n13 c14, .slice A15 n16 c17] ∧ true = true ∧ ∀ b20 : Nat, w0.heap.size ≤ b20 → m19 b20 = none → let m21 := AM.upd m19 b20 (.cells #[] 3);
 awp Try.prog w0.heap.size (Builtin.append_ #[23, 23] 23 #[.slice (some ⟨b20, 0, none⟩) 0 0, .slice x2 x2n x2c]) m21 fun v22 m23 =>
 ∃ (A24 : Option Addr) (n25 c26 : Nat), v22 = .slice A24 n25 c26 ∧ awp Try.prog w0.heap.size (Builtin.append_ #[23, 23] 23 #[.slice A24 n25 c26, .slice x3 x3n x3c]) m23 fun v27 m28 =>
 ∃ (A29 : Option Addr) (n30 c31 : Nat), v27 = .slice A29 n30 c31 ∧ CallsA Try.prog w0 23 #[.slice x0 x0n x0c, .int .i64 x1, .slice A29 n30 c31, .int .i64 x4] m28 fun r40 m41 =>
 ∃ i32 : Int, ∃ i33 : Int, ∃ (A34 : Option Addr) (n35 c36 : Nat), ∃ (A37 : Option Addr) (n38 c39 : Nat), r40 = .agg #[.int .i64 i32, .int .i64 i33, .slice A34 n35 c36, .slice A37 n38 c39] ∧ ∀ b42 : Nat, w0.heap.size ≤ b42 → m41 b42 = none → let m43 := AM.upd m41 b42 (.cells #[.int .i64 0, .int .i64 0, .slice none 0 0, .slice none 0 0] 29);
 ∀ b44 : Nat, w0.heap.size ≤ b44 → m43 b44 = none → let m45 := AM.upd m43 b44 (.cells #[.int .i64 0, .int .i64 0, .slice none 0 0, .slice none 0 0] 29);
 StC w0.heap.size m45 ⟨b42, 0, none⟩ (.int .i64 i10) fun m46 =>
 StC w0.heap.size m46 ⟨b42, 1, none⟩ (.int .i64 i11) fun m47 =>
 StC w0.heap.size m47 ⟨b42, 2, none⟩ (.slice A12 n13 c14) fun m48 =>
 StC w0.heap.size m48 ⟨b42, 3, none⟩ (.slice A15 n16 c17) fun m49 =>
 StC w0.heap.size m49 ⟨b44, 0, none⟩ (.int .i64 i32) fun m50 =>
 StC w0.heap.size m50 ⟨b44, 1, none⟩ (.int .i64 i33) fun m51 =>
 StC w0.heap.size m51 ⟨b44, 2, none⟩ (.slice A34 n35 c36) fun m52 =>
 StC w0.heap.size m52 ⟨b44, 3, none⟩ (.slice A37 n38 c39) fun m53 =>
 ∃ i54 : Int, m53.cell ⟨b42, 0, none⟩ = some (.int .i64 i54) ∧ 
 IntKind.i64 = IntKind.i64 ∧ (bcase ((i54 : Int) == 6) (
 ((i54 : Int) == 6) = true ∧ CallsA Try.prog w0 21 #[] m53 fun r56 m57 =>
 ∃ t55 : Bool, r56 = .bool t55 ∧ RetP R (.bool (bif true then t55 else false)) m57) (
 ∃ i58 : Int, m53.cell ⟨b42, 0, none⟩ = some (.int .i64 i58) ∧ ∃ i59 : Int, m53.cell ⟨b42, 1, none⟩ = some (.int .i64 i59) ∧ ∃ (A60 : Option Addr) (n61 c62 : Nat), m53.cell ⟨b42, 2, none⟩ = some (.slice A60 n61 c62) ∧ ∃ (A63 : Option Addr) (n64 c65 : Nat), m53.cell ⟨b42, 3, none⟩ = some (.slice A63 n64 c65) ∧ 
 ∃ i66 : Int, m53.cell ⟨b44, 0, none⟩ = some (.int .i64 i66) ∧ ∃ i67 : Int, m53.cell ⟨b44, 1, none⟩ = some (.int .i64 i67) ∧ ∃ (A68 : Option Addr) (n69 c70 : Nat), m53.cell ⟨b44, 2, none⟩ = some (.slice A68 n69 c70) ∧ ∃ (A71 : Option Addr) (n72 c73 : Nat), m53.cell ⟨b44, 3, none⟩ = some (.slice A71 n72 c73) ∧ 
 CallsA Try.prog w0 22 #[.agg #[.int .i64 i58, .int .i64 i59, .slice A60 n61 c62, .slice A63 n64 c65], .agg #[.int .i64 i66, .int .i64 i67, .slice A68 n69 c70, .slice A71 n72 c73]] m53 fun r75 m76 =>
 ∃ t74 : Bool, r75 = .bool t74 ∧ (bcase (bif (i54 : Int) == 6 then true else t74) (
 CallsA Try.prog w0 21 #[] m76 fun r78 m79 =>
 ∃ t77 : Bool, r78 = .bool t77 ∧ RetP R (.bool (bif bif (i54 : Int) == 6 then true else t74 then t77 else false)) m79) (
 (bif (i54 : Int) == 6 then true else t74) = false ∧ RetP R (.bool false) m76))))))))) : CallsA Try.prog w0 9 #[.slice x0 x0n x0c, .int .i64 x1, .slice x2 x2n x2c, .slice x3 x3n x3c, .int .i64 x4] m R :=
  callsA_of (c := c9) (args := [.slice x0 x0n x0c, .int .i64 x1, .slice x2 x2n x2c, .slice x3 x3n x3c, .int .i64 x4]) (by kernel_rfl) Try.func9 (by kernel_rfl) qs9 (by kernel_rfl) (by kernel_rfl) (cast (by kernel_rfl) h)

/-! 10 delayslot/delayslotlaw07.SeqBehind -/
def qs10 : Nat → List (Nat × Nat) := fun i => match i with | _ => []
noncomputable def c10 : Code := bodyOf Try.f10
theorem cf10 (w0 : World) (m : AM) (x0 : Option Addr) (x0n x0c : Nat) (x1 : Option Addr) (x1n x1c : Nat) (x2 : Int) (x3 : Option Addr) (x3n x3c : Nat) (x4 : Int) (R : Value → AM → Prop) (h :
 CallsA Try.prog w0 20 #[.slice x0 x0n x0c, .int .i64 x2, .slice x3 x3n x3c, .int .i64 x4] m fun r2 m3 =>
 ∃ t1 : Bool, r2 = .bool t1 ∧ (bcase (!t1) (
 (!t1) = true ∧ CallsA Try.prog w0 21 #[] m3 fun r5 m6 =>
 ∃ t4 : Bool, r5 = .bool t4 ∧ RetP R (.bool t4) m6) (
 IntKind.i64 = IntKind.i64 ∧ (bcase (bif !t1 then true else decide ((((x1n : Nat) : Int) : Int) > 200)) (
 CallsA Try.prog w0 21 #[] m3 fun r8 m9 =>
 ∃ t7 : Bool, r8 = .bool t7 ∧ RetP R (.bool t7) m9) (
 CallsA Try.prog w0 23 #[.slice x0 x0n x0c, .int .i64 x2, .slice x3 x3n x3c, .int .i64 x4] m3 fun r18 m19 =>
 ∃ i10 : Int, ∃ i11 : Int, ∃ (A12 : Option Addr) (n13 c14 : Nat), ∃ (A15 : Option Addr) (n16 c17 : Nat), r18 = .agg #[.int .i64 i10, .int .i64 i11, .slice A12 n13 c14, .slice A15 n16 c17] ∧ true = true ∧ ∀ b20 : Nat, w0.heap.size ≤ b20 → m19 b20 = none → let m21 := AM.upd m19 b20 (.cells #[] 34);
 awp Try.prog w0.heap.size (Builtin.append_ #[22, 22] 22 #[.slice (some ⟨b20, 0, none⟩) 0 0, .slice x0 x0n x0c]) m21 fun v22 m23 =>
 ∃ (A24 : Option Addr) (n25 c26 : Nat), v22 = .slice A24 n25 c26 ∧ awp Try.prog w0.heap.size (Builtin.append_ #[22, 22] 22 #[.slice A24 n25 c26, .slice x1 x1n x1c]) m23 fun v27 m28 =>
 ∃ (A29 : Option Addr) (n30 c31 : Nat), v27 = .slice A29 n30 c31 ∧ CallsA Try.prog w0 23 #[.slice A29 n30 c31, .int .i64 x2, .slice x3 x3n x3c, .int .i64 x4] m28 fun r40 m41 =>
 ∃ i32 : Int, ∃ i33 : Int, ∃ (A34 : Option Addr) (n35 c36 : Nat), ∃ (A37 : Option Addr) (n38 c39 : Nat), r40 = .agg #[.int .i64 i32, .int .i64 i33, .slice A34 n35 c36, .slice A37 n38 c39] ∧ ∀ b42 : Nat, w0.heap.size ≤ b42 → m41 b42 = none → let m43 := AM.upd m41 b42 (.cells #[.int .i64 0, .int .i64 0, .slice none 0 0, .slice none 0 0] 29);
 ∀ b44 : Nat, w0.heap.size ≤ b44 → m43 b44 = none → let m45 := AM.upd m43 b44 (.cells #[.int .i64 0, .int .i64 0, .slice none 0 0, .slice none 0 0] 29);
 StC w0.heap.size m45 ⟨b42, 0, none⟩ (.int .i64 i10) fun m46 =>
 StC w0.heap.size m46 ⟨b42, 1, none⟩ (.int .i64 i11) fun m47 =>
 StC w0.heap.size m47 ⟨b42, 2, none⟩ (.slice A12 n13 c14) fun m48 =>
 StC w0.heap.size m48 ⟨b42, 3, none⟩ (.slice A15 n16 c17) fun m49 =>
 StC w0.heap.size m49 ⟨b44, 0, none⟩ (.int .i64 i32) fun m50 =>
 StC w0.heap.size m50 ⟨b44, 1, none⟩ (.int .i64 i33) fun m51 =>
 StC w0.heap.size m51 ⟨b44, 2, none⟩ (.slice A34 n35 c36) fun m52 =>
 StC w0.heap.size m52 ⟨b44, 3, none⟩ (.slice A37 n38 c39) fun m53 =>
 ∃ i54 : Int, m53.cell ⟨b42, 0, none⟩ = some (.int .i64 i54) ∧ 
 IntKind.i64 = IntKind.i64 ∧ (bcase ((i54 : Int) == 2) (
 ((i54 : Int) == 2) = true ∧ CallsA Try.prog w0 21 #[] m53 fun r56 m57 =>
 ∃ t55 : Bool, r56 = .bool t55 ∧ RetP R (.bool (bif true then t55 else false)) m57) (
 ∃ i58 : Int, m53.cell ⟨b42, 0, none⟩ = some (.int .i64 i58) ∧ ∃ i59 : Int, m53.cell ⟨b42, 1, none⟩ = some (.int .i64 i59) ∧ ∃ (A60 : Option Addr) (n61 c62 : Nat), m53.cell ⟨b42, 2, none⟩ = some (.slice A60 n61 c62) ∧ ∃ (A63 : Option Addr) (n64 c65 : Nat), m53.cell ⟨b42, 3, none⟩ = some (.slice A63 n64 c65) ∧ 
 ∃ i66 : Int, m53.cell ⟨b44, 0, none⟩ = some (.int .i64 i66) ∧ ∃ i67 : Int, m53.cell ⟨b44, 1, none⟩ = some (.int .i64 i67) ∧ ∃ (A68 : Option Addr) (n69 c70 : Nat), m53.cell ⟨b44, 2, none⟩ = some (.slice A68 n69 c70) ∧ ∃ (A71 : Option Addr) (n72 c73 : Nat), m53.cell ⟨b44, 3, none⟩ = some (.slice A71 n72 c73) ∧ 
 CallsA Try.prog w0 22 #[.agg #[.int .i64 i58, .int .i64 i59, .slice A60 n61 c62, .slice A63 n64 c65], .agg #[.int .i64 i66, .int .i64 i67, .slice A68 n69 c70, .slice A71 n72 c73]] m53 fun r75 m76 =>
 ∃ t74 : Bool, r75 = .bool t74 ∧ (bcase (bif (i54 : Int) == 2 then true else t74) (
 CallsA Try.prog w0 21 #[] m76 fun r78 m79 =>
 ∃ t77 : Bool, r78 = .bool t77 ∧ RetP R (.bool (bif bif (i54 : Int) == 2 then true else t74 then t77 else false)) m79) (
 (bif (i54 : Int) == 2 then true else t74) = false ∧ RetP R (.bool false) m76))))))))) : CallsA Try.prog w0 10 #[.slice x0 x0n x0c, .slice x1 x1n x1c, .int .i64 x2, .slice x3 x3n x3c, .int .i64 x4] m R :=
  callsA_of (c := c10) (args := [.slice x0 x0n x0c, .slice x1 x1n x1c, .int .i64 x2, .slice x3 x3n x3c, .int .i64 x4]) (by kernel_rfl) Try.func10 (by kernel_rfl) qs10 (by kernel_rfl) (by kernel_rfl) (cast (by kernel_rfl) h)

/-! 11 delayslot/delayslotlaw07.SeqNone -/
def qs11 : Nat → List (Nat × Nat) := fun i => match i with | _ => []
noncomputable def c11 : Code := bodyOf Try.f11
theorem cf11 (w0 : World) (m : AM) (x0_0 : Int) (x0_1 : Int) (x0_2 : Int) (x0_3 : Int) (x0_4 : Int) (x1 : Int) (x2 : Int) (R : Value → AM → Prop) (h :
 ∀ b1 : Nat, w0.heap.size ≤ b1 → m b1 = none → let m2 := AM.upd m b1 (.cells #[.int .i64 x0_0, .int .i64 x0_1, .int .i64 x0_2, .int .i64 x0_3, .int .i64 x0_4] 34);
 ∃ i3 : Int, m2.cell ⟨b1, 0, none⟩ = some (.int .i64 i3) ∧ ∃ i4 : Int, m2.cell ⟨b1, 1, none⟩ = some (.int .i64 i4) ∧ ∃ i5 : Int, m2.cell ⟨b1, 2, none⟩ = some (.int .i64 i5) ∧ ∃ i6 : Int, m2.cell ⟨b1, 3, none⟩ = some (.int .i64 i6) ∧ ∃ i7 : Int, m2.cell ⟨b1, 4, none⟩ = some (.int .i64 i7) ∧ 
 true = true ∧ ∀ b8 : Nat, w0.heap.size ≤ b8 → m2 b8 = none → let m9 := AM.upd m2 b8 (.cells #[.int .i64 i3, .int .i64 i4, .int .i64 i5, .int .i64 i6, .int .i64 i7] 34);
 IntKind.i64 = IntKind.i64 ∧ CallsA Try.prog w0 23 #[.slice (some ⟨b8, 0, none⟩) 1 1, .int .i64 5, .slice none 0 0, .int .i64 (if (0 : Int) < x1 then 0 else x1)] m9 fun r18 m19 =>
 ∃ i10 : Int, ∃ i11 : Int, ∃ (A12 : Option Addr) (n13 c14 : Nat), ∃ (A15 : Option Addr) (n16 c17 : Nat), r18 = .agg #[.int .i64 i10, .int .i64 i11, .slice A12 n13 c14, .slice A15 n16 c17] ∧ ∀ b20 : Nat, w0.heap.size ≤ b20 → m19 b20 = none → let m21 := AM.upd m19 b20 (.cells #[.int .i64 0, .int .i64 0, .slice none 0 0, .slice none 0 0] 29);
 StC w0.heap.size m21 ⟨b20, 0, none⟩ (.int .i64 i10) fun m22 =>
 StC w0.heap.size m22 ⟨b20, 1, none⟩ (.int .i64 i11) fun m23 =>
 StC w0.heap.size m23 ⟨b20, 2, none⟩ (.slice A12 n13 c14) fun m24 =>
 StC w0.heap.size m24 ⟨b20, 3, none⟩ (.slice A15 n16 c17) fun m25 =>
 ((0 : Int) ≤ 4097 ∧ (4097 : Int) ≤ 4097 ∧ (4097 : Int) ≤ 9223372036854775807 ∧ ((40 : Nat) : Int) * 4097 ≤ 281474976710656) ∧ ∀ b26 : Nat, w0.heap.size ≤ b26 → m25 b26 = none → let m27 := AM.upd m25 b26 (.cells (zeros [.int .i64 0, .int .i64 0, .int .i64 0, .int .i64 0, .int .i64 0] (4097 : Int).toNat).toArray 34);
 CallsA Try.prog w0 23 #[.slice (some ⟨b26, 0, none⟩) ((4097 : Int).toNat) ((4097 : Int).toNat), .int .i64 5, .slice none 0 0, .int .i64 9] m27 fun r36 m37 =>
 ∃ i28 : Int, ∃ i29 : Int, ∃ (A30 : Option Addr) (n31 c32 : Nat), ∃ (A33 : Option Addr) (n34 c35 : Nat), r36 = .agg #[.int .i64 i28, .int .i64 i29, .slice A30 n31 c32, .slice A33 n34 c35] ∧ ∀ b38 : Nat, w0.heap.size ≤ b38 → m37 b38 = none → let m39 := AM.upd m37 b38 (.cells #[.int .i64 0, .int .i64 0, .slice none 0 0, .slice none 0 0] 29);
 StC w0.heap.size m39 ⟨b38, 0, none⟩ (.int .i64 i28) fun m40 =>
 StC w0.heap.size m40 ⟨b38, 1, none⟩ (.int .i64 i29) fun m41 =>
 StC w0.heap.size m41 ⟨b38, 2, none⟩ (.slice A30 n31 c32) fun m42 =>
 StC w0.heap.size m42 ⟨b38, 3, none⟩ (.slice A33 n34 c35) fun m43 =>
 ∃ i44 : Int, m43.cell ⟨b1, 0, none⟩ = some (.int .i64 i44) ∧ ∃ i45 : Int, m43.cell ⟨b1, 1, none⟩ = some (.int .i64 i45) ∧ ∃ i46 : Int, m43.cell ⟨b1, 2, none⟩ = some (.int .i64 i46) ∧ ∃ i47 : Int, m43.cell ⟨b1, 3, none⟩ = some (.int .i64 i47) ∧ ∃ i48 : Int, m43.cell ⟨b1, 4, none⟩ = some (.int .i64 i48) ∧ 
 true = true ∧ ∀ b49 : Nat, w0.heap.size ≤ b49 → m43 b49 = none → let m50 := AM.upd m43 b49 (.cells #[.int .i64 i44, .int .i64 i45, .int .i64 i46, .int .i64 i47, .int .i64 i48] 34);
 IntKind.i64 = IntKind.i64 ∧ CallsA Try.prog w0 23 #[.slice (some ⟨b49, 0, none⟩) 1 1, .int .i64 (if ((-1) : Int) < (IntKind.wrap .i64 x2) then -1 else IntKind.wrap .i64 x2), .slice none 0 0, .int .i64 9] m50 fun r59 m60 =>
 ∃ i51 : Int, ∃ i52 : Int, ∃ (A53 : Option Addr) (n54 c55 : Nat), ∃ (A56 : Option Addr) (n57 c58 : Nat), r59 = .agg #[.int .i64 i51, .int .i64 i52, .slice A53 n54 c55, .slice A56 n57 c58] ∧ ∀ b61 : Nat, w0.heap.size ≤ b61 → m60 b61 = none → let m62 := AM.upd m60 b61 (.cells #[.int .i64 0, .int .i64 0, .slice none 0 0, .slice none 0 0] 29);
 StC w0.heap.size m62 ⟨b61, 0, none⟩ (.int .i64 i51) fun m63 =>
 StC w0.heap.size m63 ⟨b61, 1, none⟩ (.int .i64 i52) fun m64 =>
 StC w0.heap.size m64 ⟨b61, 2, none⟩ (.slice A53 n54 c55) fun m65 =>
 StC w0.heap.size m65 ⟨b61, 3, none⟩ (.slice A56 n57 c58) fun m66 =>
 ∃ i67 : Int, m66.cell ⟨b1, 0, none⟩ = some (.int .i64 i67) ∧ ∃ i68 : Int, m66.cell ⟨b1, 1, none⟩ = some (.int .i64 i68) ∧ ∃ i69 : Int, m66.cell ⟨b1, 2, none⟩ = some (.int .i64 i69) ∧ ∃ i70 : Int, m66.cell ⟨b1, 3, none⟩ = some (.int .i64 i70) ∧ ∃ i71 : Int, m66.cell ⟨b1, 4, none⟩ = some (.int .i64 i71) ∧ 
 true = true ∧ ∀ b72 : Nat, w0.heap.size ≤ b72 → m66 b72 = none → let m73 := AM.upd m66 b72 (.cells #[.int .i64 i67, .int .i64 i68, .int .i64 i69, .int .i64 i70, .int .i64 i71] 34);
 IntKind.i64 = IntKind.i64 ∧ CallsA Try.prog w0 23 #[.slice (some ⟨b72, 0, none⟩) 1 1, .int .i64 (if (32001 : Int) > (IntKind.wrap .i64 x2) then 32001 else IntKind.wrap .i64 x2), .slice none 0 0, .int .i64 9] m73 fun r82 m83 =>
 ∃ i74 : Int, ∃ i75 : Int, ∃ (A76 : Option Addr) (n77 c78 : Nat), ∃ (A79 : Option Addr) (n80 c81 : Nat), r82 = .agg #[.int .i64 i74, .int .i64 i75, .slice A76 n77 c78, .slice A79 n80 c81] ∧ ∀ b84 : Nat, w0.heap.size ≤ b84 → m83 b84 = none → let m85 := AM.upd m83 b84 (.cells #[.int .i64 0, .int .i64 0, .slice none 0 0, .slice none 0 0] 29);
 StC w0.heap.size m85 ⟨b84, 0, none⟩ (.int .i64 i74) fun m86 =>
 StC w0.heap.size m86 ⟨b84, 1, none⟩ (.int .i64 i75) fun m87 =>
 StC w0.heap.size m87 ⟨b84, 2, none⟩ (.slice A76 n77 c78) fun m88 =>
 StC w0.heap.size m88 ⟨b84, 3, none⟩ (.slice A79 n80 c81) fun m89 =>
 ∃ i90 : Int, m89.cell ⟨b20, 0, none⟩ = some (.int .i64 i90) ∧ 
 ∃ i91 : Int, m89.cell ⟨b20, 1, none⟩ = some (.int .i64 i91) ∧ 
 IntKind.i64 = IntKind.i64 ∧ ∃ (A92 : Option Addr) (n93 c94 : Nat), m89.cell ⟨b20, 2, none⟩ = some (.slice A92 n93 c94) ∧ 
 IntKind.i64 = IntKind.i64 ∧ ∃ (A95 : Option Addr) (n96 c97 : Nat), m89.cell ⟨b20, 3, none⟩ = some (.slice A95 n96 c97) ∧ 
 IntKind.i64 = IntKind.i64 ∧ IntKind.i64 = IntKind.i64 ∧ (bcase (((IntKind.wrap .i64 ((IntKind.wrap .i64 ((IntKind.wrap .i64 (i90 + i91)) + ((n93 : Nat) : Int))) + ((n96 : Nat) : Int))) : Int) == 0) (
 ∃ i98 : Int, m89.cell ⟨b38, 0, none⟩ = some (.int .i64 i98) ∧ 
 ∃ i99 : Int, m89.cell ⟨b38, 1, none⟩ = some (.int .i64 i99) ∧ 
 IntKind.i64 = IntKind.i64 ∧ IntKind.i64 = IntKind.i64 ∧ (bcase (bif ((IntKind.wrap .i64 ((IntKind.wrap .i64 ((IntKind.wrap .i64 (i90 + i91)) + ((n93 : Nat) : Int))) + ((n96 : Nat) : Int))) : Int) == 0 then ((IntKind.wrap .i64 (i98 + i99)) : Int) == 0 else false) (
 ∃ i100 : Int, m89.cell ⟨b61, 0, none⟩ = some (.int .i64 i100) ∧ 
 ∃ i101 : Int, m89.cell ⟨b61, 1, none⟩ = some (.int .i64 i101) ∧ 
 IntKind.i64 = IntKind.i64 ∧ IntKind.i64 = IntKind.i64 ∧ (bcase (bif bif ((IntKind.wrap .i64 ((IntKind.wrap .i64 ((IntKind.wrap .i64 (i90 + i91)) + ((n93 : Nat) : Int))) + ((n96 : Nat) : Int))) : Int) == 0 then ((IntKind.wrap .i64 (i98 + i99)) : Int) == 0 else false then ((IntKind.wrap .i64 (i100 + i101)) : Int) == 0 else false) (
 ∃ i102 : Int, m89.cell ⟨b84, 0, none⟩ = some (.int .i64 i102) ∧ 
 ∃ i103 : Int, m89.cell ⟨b84, 1, none⟩ = some (.int .i64 i103) ∧ 
 IntKind.i64 = IntKind.i64 ∧ IntKind.i64 = IntKind.i64 ∧ (bcase (bif bif bif ((IntKind.wrap .i64 ((IntKind.wrap .i64 ((IntKind.wrap .i64 (i90 + i91)) + ((n93 : Nat) : Int))) + ((n96 : Nat) : Int))) : Int) == 0 then ((IntKind.wrap .i64 (i98 + i99)) : Int) == 0 else false then ((IntKind.wrap .i64 (i100 + i101)) : Int) == 0 else false then ((IntKind.wrap .i64 (i102 + i103)) : Int) == 0 else false) (
 CallsA Try.prog w0 21 #[] m89 fun r105 m106 =>
 ∃ t104 : Bool, r105 = .bool t104 ∧ RetP R (.bool (bif bif bif bif ((IntKind.wrap .i64 ((IntKind.wrap .i64 ((IntKind.wrap .i64 (i90 + i91)) + ((n93 : Nat) : Int))) + ((n96 : Nat) : Int))) : Int) == 0 then ((IntKind.wrap .i64 (i98 + i99)) : Int) == 0 else false then ((IntKind.wrap .i64 (i100 + i101)) : Int) == 0 else false then ((IntKind.wrap .i64 (i102 + i103)) : Int) == 0 else false then t104 else false)) m106) (
 (bif bif bif ((IntKind.wrap .i64 ((IntKind.wrap .i64 ((IntKind.wrap .i64 (i90 + i91)) + ((n93 : Nat) : Int))) + ((n96 : Nat) : Int))) : Int) == 0 then ((IntKind.wrap .i64 (i98 + i99)) : Int) == 0 else false then ((IntKind.wrap .i64 (i100 + i101)) : Int) == 0 else false then ((IntKind.wrap .i64 (i102 + i103)) : Int) == 0 else false) = false ∧ RetP R (.bool false) m89))) (
 (bif bif ((IntKind.wrap .i64 ((IntKind.wrap .i64 ((IntKind.wrap .i64 (i90 + i91)) + ((n93 : Nat) : Int))) + ((n96 : Nat) : Int))) : Int) == 0 then ((IntKind.wrap .i64 (i98 + i99)) : Int) == 0 else false then ((IntKind.wrap .i64 (i100 + i101)) : Int) == 0 else false) = false ∧ false = false ∧ RetP R (.bool false) m89))) (
 (bif ((IntKind.wrap .i64 ((IntKind.wrap .i64 ((IntKind.wrap .i64 (i90 + i91)) + ((n93 : Nat) : Int))) + ((n96 : Nat) : Int))) : Int) == 0 then ((IntKind.wrap .i64 (i98 + i99)) : Int) == 0 else false) = false ∧ false = false ∧ false = false ∧ RetP R (.bool false) m89))) (
 (((IntKind.wrap .i64 ((IntKind.wrap .i64 ((IntKind.wrap .i64 (i90 + i91)) + ((n93 : Nat) : Int))) + ((n96 : Nat) : Int))) : Int) == 0) = false ∧ false = false ∧ false = false ∧ false = false ∧ RetP R (.bool false) m89))) : CallsA Try.prog w0 11 #[.agg #[.int .i64 x0_0, .int .i64 x0_1, .int .i64 x0_2, .int .i64 x0_3, .int .i64 x0_4], .int .i64 x1, .int .i32 x2] m R :=
  callsA_of (c := c11) (args := [.agg #[.int .i64 x0_0, .int .i64 x0_1, .int .i64 x0_2, .int .i64 x0_3, .int .i64 x0_4], .int .i64 x1, .int .i32 x2]) (by kernel_rfl) Try.func11 (by kernel_rfl) qs11 (by kernel_rfl) (by kernel_rfl) (cast (by kernel_rfl) h)

/-! 12 delayslot/delayslotlaw07.SeqLoop -/
def qs12 : Nat → List (Nat × Nat) := fun i => match i with | _ => []
noncomputable def c12 : Code := bodyOf Try.f12
theorem cf12 (w0 : World) (m : AM) (x0 : Int) (R : Value → AM → Prop) (h :
 IntKind.u8 = IntKind.u8 ∧ (100 : Int) ≠ 0 ∧ IntKind.i64 = IntKind.i64 ∧ true = true ∧ true = true ∧ true = true ∧ true = true ∧ true = true ∧ true = true ∧ true = true ∧ ∀ b1 : Nat, w0.heap.size ≤ b1 → m b1 = none → let m2 := AM.upd m b1 (.cells #[.int .i64 10, .int .i64 1, .int .i64 0, .int .i64 0, .int .i64 (IntKind.wrap .i64 (1 + (IntKind.wrap .i64 (Int.tmod x0 100)))), .int .i64 1, .int .i64 4, .int .i64 4, .int .i64 1, .int .i64 0, .int .i64 10, .int .i64 1, .int .i64 1, .int .i64 0, .int .i64 (-1), .int .i64 16, .int .i64 1, .int .i64 0, .int .i64 0, .int .i64 (-3), .int .i64 20, .int .i64 0, .int .i64 0, .int .i64 0, .int .i64 2, .int .i64 20, .int .i64 0, .int .i64 0, .int .i64 0, .int .i64 0] 34);
 CallsA Try.prog w0 23 #[.slice (some ⟨b1, 0, none⟩) 6 6, .int .i64 0, .slice none 0 0, .int .i64 1000] m2 fun r11 m12 =>
 ∃ i3 : Int, ∃ i4 : Int, ∃ (A5 : Option Addr) (n6 c7 : Nat), ∃ (A8 : Option Addr) (n9 c10 : Nat), r11 = .agg #[.int .i64 i3, .int .i64 i4, .slice A5 n6 c7, .slice A8 n9 c10] ∧ ∀ b13 : Nat, w0.heap.size ≤ b13 → m12 b13 = none → let m14 := AM.upd m12 b13 (.cells #[.int .i64 0, .int .i64 0, .slice none 0 0, .slice none 0 0] 29);
 StC w0.heap.size m14 ⟨b13, 0, none⟩ (.int .i64 i3) fun m15 =>
 StC w0.heap.size m15 ⟨b13, 1, none⟩ (.int .i64 i4) fun m16 =>
 StC w0.heap.size m16 ⟨b13, 2, none⟩ (.slice A5 n6 c7) fun m17 =>
 StC w0.heap.size m17 ⟨b13, 3, none⟩ (.slice A8 n9 c10) fun m18 =>
 ∃ i19 : Int, m18.cell ⟨b13, 0, none⟩ = some (.int .i64 i19) ∧ 
 IntKind.i64 = IntKind.i64 ∧ (bcase ((i19 : Int) == 1) (
 ∃ i20 : Int, m18.cell ⟨b13, 1, none⟩ = some (.int .i64 i20) ∧ 
 IntKind.i64 = IntKind.i64 ∧ IntKind.i64 = IntKind.i64 ∧ IntKind.i64 = IntKind.i64 ∧ (bcase (bif (i19 : Int) == 1 then (i20 : Int) == (IntKind.wrap .i64 ((IntKind.wrap .i64 (3 * (IntKind.wrap .i64 (1 + (IntKind.wrap .i64 (Int.tmod x0 100)))))) + 3)) else false) (
 ∃ (A21 : Option Addr) (n22 c23 : Nat), m18.cell ⟨b13, 2, none⟩ = some (.slice A21 n22 c23) ∧ 
 IntKind.i64 = IntKind.i64 ∧ (bcase (bif bif (i19 : Int) == 1 then (i20 : Int) == (IntKind.wrap .i64 ((IntKind.wrap .i64 (3 * (IntKind.wrap .i64 (1 + (IntKind.wrap .i64 (Int.tmod x0 100)))))) + 3)) else false then (((n22 : Nat) : Int) : Int) == 1 else false) (
 ∃ (A24 : Option Addr) (n25 c26 : Nat), m18.cell ⟨b13, 2, none⟩ = some (.slice A24 n25 c26) ∧ 
 ((0 : Int) ≤ 0 ∧ 0 < ((n25 : Nat) : Int)) ∧ nilO A24 fun a27 =>
 ∃ i28 : Int, m18.cell (a27.add (0)) = some (.int .i64 i28) ∧ 
 IntKind.i64 = IntKind.i64 ∧ IntKind.i64 = IntKind.i64 ∧ IntKind.i64 = IntKind.i64 ∧ (2 : Int) ≠ 0 ∧ IntKind.i64 = IntKind.i64 ∧ (bcase (bif bif bif (i19 : Int) == 1 then (i20 : Int) == (IntKind.wrap .i64 ((IntKind.wrap .i64 (3 * (IntKind.wrap .i64 (1 + (IntKind.wrap .i64 (Int.tmod x0 100)))))) + 3)) else false then (((n22 : Nat) : Int) : Int) == 1 else false then (i28 : Int) == (IntKind.wrap .i64 (Int.tdiv (IntKind.wrap .i64 ((IntKind.wrap .i64 (1 + (IntKind.wrap .i64 (Int.tmod x0 100)))) * (IntKind.wrap .i64 ((IntKind.wrap .i64 (1 + (IntKind.wrap .i64 (Int.tmod x0 100)))) + 1)))) 2)) else false) (
 CallsA Try.prog w0 21 #[] m18 fun r30 m31 =>
 ∃ t29 : Bool, r30 = .bool t29 ∧ RetP R (.bool (bif bif bif bif (i19 : Int) == 1 then (i20 : Int) == (IntKind.wrap .i64 ((IntKind.wrap .i64 (3 * (IntKind.wrap .i64 (1 + (IntKind.wrap .i64 (Int.tmod x0 100)))))) + 3)) else false then (((n22 : Nat) : Int) : Int) == 1 else false then (i28 : Int) == (IntKind.wrap .i64 (Int.tdiv (IntKind.wrap .i64 ((IntKind.wrap .i64 (1 + (IntKind.wrap .i64 (Int.tmod x0 100)))) * (IntKind.wrap .i64 ((IntKind.wrap .i64 (1 + (IntKind.wrap .i64 (Int.tmod x0 100)))) + 1)))) 2)) else false then t29 else false)) m31) (
 (bif bif bif (i19 : Int) == 1 then (i20 : Int) == (IntKind.wrap .i64 ((IntKind.wrap .i64 (3 * (IntKind.wrap .i64 (1 + (IntKind.wrap .i64 (Int.tmod x0 100)))))) + 3)) else false then (((n22 : Nat) : Int) : Int) == 1 else false then (i28 : Int) == (IntKind.wrap .i64 (Int.tdiv (IntKind.wrap .i64 ((IntKind.wrap .i64 (1 + (IntKind.wrap .i64 (Int.tmod x0 100)))) * (IntKind.wrap .i64 ((IntKind.wrap .i64 (1 + (IntKind.wrap .i64 (Int.tmod x0 100)))) + 1)))) 2)) else false) = false ∧ RetP R (.bool false) m18))) (
 (bif bif (i19 : Int) == 1 then (i20 : Int) == (IntKind.wrap .i64 ((IntKind.wrap .i64 (3 * (IntKind.wrap .i64 (1 + (IntKind.wrap .i64 (Int.tmod x0 100)))))) + 3)) else false then (((n22 : Nat) : Int) : Int) == 1 else false) = false ∧ false = false ∧ RetP R (.bool false) m18))) (
 (bif (i19 : Int) == 1 then (i20 : Int) == (IntKind.wrap .i64 ((IntKind.wrap .i64 (3 * (IntKind.wrap .i64 (1 + (IntKind.wrap .i64 (Int.tmod x0 100)))))) + 3)) else false) = false ∧ false = false ∧ false = false ∧ RetP R (.bool false) m18))) (
 ((i19 : Int) == 1) = false ∧ false = false ∧ false = false ∧ false = false ∧ RetP R (.bool false) m18))) : CallsA Try.prog w0 12 #[.int .u8 x0] m R :=
  callsA_of (c := c12) (args := [.int .u8 x0]) (by kernel_rfl) Try.func12 (by kernel_rfl) qs12 (by kernel_rfl) (by kernel_rfl) (cast (by kernel_rfl) h)
end Go.Proofs.Ytadcbnldahcelaa.V
