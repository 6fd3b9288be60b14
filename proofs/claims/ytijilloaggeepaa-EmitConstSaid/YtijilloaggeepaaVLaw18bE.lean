/- Ytijilloaggeepaa: a text of our own, by an AI agent: VLaw18bE -/
import Derived.Test.YtijilloaggeepaaCore5
import Derived.Test.YtijilloaggeepaaTabE
namespace Go.Proofs.Ytijilloaggeepaa.V
open Go Go.Alog Go.Proofs.Ytijilloaggeepaa.T
set_option linter.unusedVariables false
set_option maxRecDepth 100000

/-! 8 delayslot/delayslotlaw18.EmitLands -/
def qs8 : Nat → List (Nat × Nat) := fun i => match i with | _ => []
noncomputable def c8 : Code := bodyOf Try.f8
theorem cf8 (w0 : World) (m : AM) (x0 : Int) (R : Value → AM → Prop) (h :
 IntKind.u8 = IntKind.u8 ∧ (51 : Int) ≠ 0 ∧ ∀ b1 : Nat, w0.heap.size ≤ b1 → m b1 = none → let m2 := AM.upd m b1 (.cells #[.slice none 0 0, .slice none 0 0, .int .i64 0] 27);
 true = true ∧ CallsA Try.prog w0 10 #[.pointer (some ⟨b1, 0, none⟩), .agg #[.int .i64 15, .int .i64 0, .int .i64 0, .int .i64 0, .int .i64 0]] m2 fun r4 m5 =>
 ∃ i3 : Int, r4 = .int .i64 i3 ∧ vcS Try.prog w0 qs8 (sub c8 [1, 1, 1, 1, 0, 1, 0]) (upd (upd (upd (upd (upd (upd (upd (upd (upd (upd (upd (argS [.int .u8 x0]) 2 (.bool false)) 8 (.int .u8 x0)) 9 (.int .u8 (Int.tmod x0 51))) 10 (.int .i64 (IntKind.wrap .i64 (Int.tmod x0 51)))) 3 (.int .i64 (IntKind.wrap .i64 (Int.tmod x0 51)))) 4 (.pointer (some ⟨b1, 0, none⟩))) 11 (.agg #[.int .i64 15, .int .i64 0, .int .i64 0, .int .i64 0, .int .i64 0])) 12 (.int .i64 i3)) 5 (.int .i64 i3)) 13 (.int .i64 (IntKind.wrap .i64 (Int.tmod x0 51)))) 14 (.int .i64 0)) m5 (blockS 0 (thenS (fun σ m => vcS Try.prog w0 qs8 (sub c8 [1, 1, 1, 1, 1]) σ m (retQ Try.prog Try.f8 R)) (retQ Try.prog Try.f8 R)))) : CallsA Try.prog w0 8 #[.int .u8 x0] m R :=
  callsA_of (c := c8) (args := [.int .u8 x0]) (by kernel_rfl) Try.func8 (by kernel_rfl) qs8 (by kernel_rfl) (by kernel_rfl) (cast (by kernel_rfl) h)
def lq8_1111010 (R : Value → AM → Prop) (x3 : Int) (x4 : Nat) (x5 : Int) (x13 : Int) (I0 : Nat → Int → AM → Prop) (E0_0 : AM → Prop) (n0 : Nat) : Exit → Sg → AM → Prop
  | .normal, σ, m => σ 3 = .int .i64 x3 ∧ σ 4 = .pointer (some ⟨x4, 0, none⟩) ∧ σ 5 = .int .i64 x5 ∧ σ 13 = .int .i64 x13 ∧ okI .i64 (σ 14) = true ∧ ∃ n' : Nat, n' < n0 ∧ I0 n' (vI (σ 14)) m
  | .exit id, σ, m => if id = 0 then σ 3 = .int .i64 x3 ∧ σ 4 = .pointer (some ⟨x4, 0, none⟩) ∧ σ 5 = .int .i64 x5 ∧ σ 13 = .int .i64 x13 ∧ E0_0  m else False
  | .ret, σ, m => retQ Try.prog Try.f8 R .ret σ m
  | _, _, _ => False
theorem vl8_1111010 (w0 : World) (m : AM) (σ : Sg) (R : Value → AM → Prop)  (x3 : Int) (x4 : Nat) (x5 : Int) (x13 : Int) (x14 : Int) (I0 : Nat → Int → AM → Prop) (E0_0 : AM → Prop) (N : Nat) (h3 : σ 3 = .int .i64 x3) (h4 : σ 4 = .pointer (some ⟨x4, 0, none⟩)) (h5 : σ 5 = .int .i64 x5) (h13 : σ 13 = .int .i64 x13) (h14 : σ 14 = .int .i64 x14)
 (h_0 : I0 N x14 m)
 (h_s : ∀ (n0 : Nat) (σ : Sg) (x14 : Int) (m : AM), I0 n0 x14 m → (
 IntKind.i64 = IntKind.i64 ∧ (bcase (decide ((x14 : Int) < x13)) (
 true = true ∧ CallsA Try.prog w0 12 #[.pointer (some ⟨x4, 0, none⟩), .agg #[.int .i64 10, .int .i64 1, .int .i64 1, .int .i64 0, .int .i64 1]] m fun r7 m8 =>
 ∃ i6 : Int, r7 = .int .i64 i6 ∧ IntKind.i64 = IntKind.i64 ∧ (.int .i64 x3 : Value) = .int .i64 x3 ∧ (.pointer (some ⟨x4, 0, none⟩) : Value) = .pointer (some ⟨x4, 0, none⟩) ∧ (.int .i64 x5 : Value) = .int .i64 x5 ∧ (.int .i64 x13 : Value) = .int .i64 x13 ∧ true = true ∧ ∃ n' : Nat, n' < n0 ∧ I0 n' (IntKind.wrap .i64 (x14 + 1)) m8) (
 (.int .i64 x3 : Value) = .int .i64 x3 ∧ (.pointer (some ⟨x4, 0, none⟩) : Value) = .pointer (some ⟨x4, 0, none⟩) ∧ (.int .i64 x5 : Value) = .int .i64 x5 ∧ (.int .i64 x13 : Value) = .int .i64 x13 ∧ E0_0  m))))
 (h_e0 : ∀ (σ : Sg)  (m : AM), E0_0  m → (
 CallsA Try.prog w0 14 #[.pointer (some ⟨x4, 0, none⟩), .int .i64 x5] m fun r10 m11 =>
 ∃ t9 : Bool, r10 = .bool t9 ∧ true = true ∧ CallsA Try.prog w0 12 #[.pointer (some ⟨x4, 0, none⟩), .agg #[.int .i64 10, .int .i64 2, .int .i64 2, .int .i64 0, .int .i64 1]] m11 fun r13 m14 =>
 ∃ i12 : Int, r13 = .int .i64 i12 ∧ true = true ∧ CallsA Try.prog w0 12 #[.pointer (some ⟨x4, 0, none⟩), .agg #[.int .i64 8, .int .i64 3, .int .i64 2, .int .i64 4, .int .i64 0]] m14 fun r16 m17 =>
 ∃ i15 : Int, r16 = .int .i64 i15 ∧ true = true ∧ IntKind.i64 = IntKind.i64 ∧ CallsA Try.prog w0 24 #[.pointer (some ⟨x4, 0, none⟩), .agg #[.int .i64 16, .int .i64 3, .int .i64 0, .int .i64 0, .int .i64 0], .int .i64 (IntKind.wrap .i64 (x3 + 1))] m17 fun r19 m20 =>
 ∃ i18 : Int, r19 = .int .i64 i18 ∧ true = true ∧ CallsA Try.prog w0 12 #[.pointer (some ⟨x4, 0, none⟩), .agg #[.int .i64 13, .int .i64 1, .int .i64 0, .int .i64 0, .int .i64 0]] m20 fun r22 m23 =>
 ∃ i21 : Int, r22 = .int .i64 i21 ∧ true = true ∧ CallsA Try.prog w0 12 #[.pointer (some ⟨x4, 0, none⟩), .agg #[.int .i64 13, .int .i64 2, .int .i64 0, .int .i64 0, .int .i64 1]] m23 fun r25 m26 =>
 ∃ i24 : Int, r25 = .int .i64 i24 ∧ true = true ∧ CallsA Try.prog w0 12 #[.pointer (some ⟨x4, 0, none⟩), .agg #[.int .i64 20, .int .i64 0, .int .i64 0, .int .i64 0, .int .i64 0]] m26 fun r28 m29 =>
 ∃ i27 : Int, r28 = .int .i64 i27 ∧ CallsA Try.prog w0 11 #[.pointer (some ⟨x4, 0, none⟩)] m29 fun r33 m34 =>
 ∃ (A30 : Option Addr) (n31 c32 : Nat), r33 = .slice A30 n31 c32 ∧ CallsA Try.prog w0 25 #[.slice A30 n31 c32, .int .i64 2, .slice none 0 0, .int .i64 100] m34 fun r43 m44 =>
 ∃ i35 : Int, ∃ i36 : Int, ∃ (A37 : Option Addr) (n38 c39 : Nat), ∃ (A40 : Option Addr) (n41 c42 : Nat), r43 = .agg #[.int .i64 i35, .int .i64 i36, .slice A37 n38 c39, .slice A40 n41 c42] ∧ ∀ b45 : Nat, w0.heap.size ≤ b45 → m44 b45 = none → let m46 := AM.upd m44 b45 (.cells #[.int .i64 0, .int .i64 0, .slice none 0 0, .slice none 0 0] 60);
 StC w0.heap.size m46 ⟨b45, 0, none⟩ (.int .i64 i35) fun m47 =>
 StC w0.heap.size m47 ⟨b45, 1, none⟩ (.int .i64 i36) fun m48 =>
 StC w0.heap.size m48 ⟨b45, 2, none⟩ (.slice A37 n38 c39) fun m49 =>
 StC w0.heap.size m49 ⟨b45, 3, none⟩ (.slice A40 n41 c42) fun m50 =>
 (bcase t9 (
 ∃ i51 : Int, m50.cell ⟨b45, 0, none⟩ = some (.int .i64 i51) ∧ 
 IntKind.i64 = IntKind.i64 ∧ (bcase (bif t9 then (i51 : Int) == 1 else false) (
 ∃ i52 : Int, m50.cell ⟨b45, 1, none⟩ = some (.int .i64 i52) ∧ 
 IntKind.i64 = IntKind.i64 ∧ (bcase (bif bif t9 then (i51 : Int) == 1 else false then (i52 : Int) == 7 else false) (
 ∃ (A53 : Option Addr) (n54 c55 : Nat), m50.cell ⟨b45, 3, none⟩ = some (.slice A53 n54 c55) ∧ 
 IntKind.i64 = IntKind.i64 ∧ (bcase (bif bif bif t9 then (i51 : Int) == 1 else false then (i52 : Int) == 7 else false then (((n54 : Nat) : Int) : Int) == 2 else false) (
 ∃ (A56 : Option Addr) (n57 c58 : Nat), m50.cell ⟨b45, 3, none⟩ = some (.slice A56 n57 c58) ∧ 
 ((0 : Int) ≤ 0 ∧ 0 < ((n57 : Nat) : Int)) ∧ nilO A56 fun a59 =>
 ∃ i60 : Int, m50.cell (a59.add (0)) = some (.int .i64 i60) ∧ 
 IntKind.i64 = IntKind.i64 ∧ (bcase (bif bif bif bif t9 then (i51 : Int) == 1 else false then (i52 : Int) == 7 else false then (((n54 : Nat) : Int) : Int) == 2 else false then (i60 : Int) == 0 else false) (
 ∃ (A61 : Option Addr) (n62 c63 : Nat), m50.cell ⟨b45, 3, none⟩ = some (.slice A61 n62 c63) ∧ 
 ((0 : Int) ≤ 1 ∧ 1 < ((n62 : Nat) : Int)) ∧ nilO A61 fun a64 =>
 ∃ i65 : Int, m50.cell (a64.add (1)) = some (.int .i64 i65) ∧ 
 IntKind.i64 = IntKind.i64 ∧ (bcase (bif bif bif bif bif t9 then (i51 : Int) == 1 else false then (i52 : Int) == 7 else false then (((n54 : Nat) : Int) : Int) == 2 else false then (i60 : Int) == 0 else false then (i65 : Int) == 1 else false) (
 CallsA Try.prog w0 16 #[] m50 fun r67 m68 =>
 ∃ t66 : Bool, r67 = .bool t66 ∧ RetP R (.bool (bif bif bif bif bif bif t9 then (i51 : Int) == 1 else false then (i52 : Int) == 7 else false then (((n54 : Nat) : Int) : Int) == 2 else false then (i60 : Int) == 0 else false then (i65 : Int) == 1 else false then t66 else false)) m68) (
 (bif bif bif bif bif t9 then (i51 : Int) == 1 else false then (i52 : Int) == 7 else false then (((n54 : Nat) : Int) : Int) == 2 else false then (i60 : Int) == 0 else false then (i65 : Int) == 1 else false) = false ∧ RetP R (.bool false) m50))) (
 (bif bif bif bif t9 then (i51 : Int) == 1 else false then (i52 : Int) == 7 else false then (((n54 : Nat) : Int) : Int) == 2 else false then (i60 : Int) == 0 else false) = false ∧ false = false ∧ RetP R (.bool false) m50))) (
 (bif bif bif t9 then (i51 : Int) == 1 else false then (i52 : Int) == 7 else false then (((n54 : Nat) : Int) : Int) == 2 else false) = false ∧ false = false ∧ false = false ∧ RetP R (.bool false) m50))) (
 (bif bif t9 then (i51 : Int) == 1 else false then (i52 : Int) == 7 else false) = false ∧ false = false ∧ false = false ∧ false = false ∧ RetP R (.bool false) m50))) (
 (bif t9 then (i51 : Int) == 1 else false) = false ∧ false = false ∧ false = false ∧ false = false ∧ false = false ∧ RetP R (.bool false) m50))) (
 t9 = false ∧ false = false ∧ false = false ∧ false = false ∧ false = false ∧ false = false ∧ RetP R (.bool false) m50)))) :
 vcS Try.prog w0 qs8 (sub c8 [1, 1, 1, 1, 0, 1, 0]) σ m (blockS 0 (thenS (fun σ m => vcS Try.prog w0 qs8 (sub c8 [1, 1, 1, 1, 1]) σ m (retQ Try.prog Try.f8 R)) (retQ Try.prog Try.f8 R))) := by
  rw [show sub c8 [1, 1, 1, 1, 0, 1, 0] = .loop (sub c8 [1, 1, 1, 1, 0, 1, 0, 0]) from by kernel_rfl]
  refine loopQ (fun n0 σ m => σ 3 = .int .i64 x3 ∧ σ 4 = .pointer (some ⟨x4, 0, none⟩) ∧ σ 5 = .int .i64 x5 ∧ σ 13 = .int .i64 x13 ∧ okI .i64 (σ 14) = true ∧ I0 n0 (vI (σ 14)) m) N (fun n0 => (lq8_1111010 R x3 x4 x5 x13 I0 E0_0 n0)) ⟨h3, h4, h5, h13, (by rw [h14]; rfl), (by rw [h14]; exact h_0)⟩ ?_ ?_ ?_
  · rintro n0 σ m ⟨kk0, kk1, kk2, kk3, kk4, n', hlt, hI⟩; exact ⟨n', hlt, kk0, kk1, kk2, kk3, kk4, hI⟩
  · intro n0 e σ m hne h
    cases e with
    | normal => exact absurd rfl hne
    | ret => exact h
    | exit id =>
      by_cases e0 : id = 0
      · subst e0
        obtain ⟨kk0, kk1, kk2, kk3, hE⟩ := h
        have es : (upd (upd (upd (upd σ 3 (.int .i64 x3)) 4 (.pointer (some ⟨x4, 0, none⟩))) 5 (.int .i64 x5)) 13 (.int .i64 x13)) = σ := by rw [upd_id kk0, upd_id kk1, upd_id kk2, upd_id kk3]
        exact cast (congrArg (fun s => (blockS 0 (thenS (fun σ m => vcS Try.prog w0 qs8 (sub c8 [1, 1, 1, 1, 1]) σ m (retQ Try.prog Try.f8 R)) (retQ Try.prog Try.f8 R))) (.exit 0) s m) es) (cast (by kernel_rfl) (h_e0 σ  m hE))
      · replace h := (if_neg e0 : (if id = 0 then _ else _) = _).mp h
        exact False.elim h
    | _ => exact False.elim h
  · rintro n0 σ m ⟨kk0, kk1, kk2, kk3, kk4, hI⟩
    have es : (upd (upd (upd (upd (upd σ 3 (.int .i64 x3)) 4 (.pointer (some ⟨x4, 0, none⟩))) 5 (.int .i64 x5)) 13 (.int .i64 x13)) 14 (.int .i64 (vI (σ 14)))) = σ := by rw [upd_id kk0, upd_id kk1, upd_id kk2, upd_id kk3, upd_id (ok_int kk4)]
    exact cast (congrArg (fun s => vcS Try.prog w0 qs8 (sub c8 [1, 1, 1, 1, 0, 1, 0, 0]) s m (lq8_1111010 R x3 x4 x5 x13 I0 E0_0 n0)) es) (cast (by kernel_rfl) (h_s n0 σ (vI (σ 14)) m hI))

/-! 9 delayslot/delayslotlaw18.EmitConst -/
def qs9 : Nat → List (Nat × Nat) := fun i => match i with | _ => []
noncomputable def c9 : Code := bodyOf Try.f9
theorem cf9 (w0 : World) (m : AM) (x0 : Int) (x1 : Int) (R : Value → AM → Prop) (h :
 IntKind.u8 = IntKind.u8 ∧ (31 : Int) ≠ 0 ∧ IntKind.i64 = IntKind.i64 ∧ ∀ b1 : Nat, w0.heap.size ≤ b1 → m b1 = none → let m2 := AM.upd m b1 (.cells #[.slice none 0 0, .slice none 0 0, .int .i64 0] 27);
 CallsA Try.prog w0 20 #[.pointer (some ⟨b1, 0, none⟩), .int .i64 (IntKind.wrap .i64 (1 + (IntKind.wrap .i64 (Int.tmod x0 31)))), .int .i64 x1] m2 fun r3 m4 =>
 r3 = .tuple #[] ∧ true = true ∧ CallsA Try.prog w0 12 #[.pointer (some ⟨b1, 0, none⟩), .agg #[.int .i64 13, .int .i64 (IntKind.wrap .i64 (1 + (IntKind.wrap .i64 (Int.tmod x0 31)))), .int .i64 0, .int .i64 0, .int .i64 1]] m4 fun r6 m7 =>
 ∃ i5 : Int, r6 = .int .i64 i5 ∧ true = true ∧ CallsA Try.prog w0 12 #[.pointer (some ⟨b1, 0, none⟩), .agg #[.int .i64 10, .int .i64 (IntKind.wrap .i64 (1 + (IntKind.wrap .i64 (Int.tmod x0 31)))), .int .i64 0, .int .i64 0, .int .i64 1]] m7 fun r9 m10 =>
 ∃ i8 : Int, r9 = .int .i64 i8 ∧ true = true ∧ CallsA Try.prog w0 12 #[.pointer (some ⟨b1, 0, none⟩), .agg #[.int .i64 13, .int .i64 (IntKind.wrap .i64 (1 + (IntKind.wrap .i64 (Int.tmod x0 31)))), .int .i64 0, .int .i64 0, .int .i64 0]] m10 fun r12 m13 =>
 ∃ i11 : Int, r12 = .int .i64 i11 ∧ true = true ∧ CallsA Try.prog w0 12 #[.pointer (some ⟨b1, 0, none⟩), .agg #[.int .i64 20, .int .i64 0, .int .i64 0, .int .i64 0, .int .i64 0]] m13 fun r15 m16 =>
 ∃ i14 : Int, r15 = .int .i64 i14 ∧ CallsA Try.prog w0 11 #[.pointer (some ⟨b1, 0, none⟩)] m16 fun r20 m21 =>
 ∃ (A17 : Option Addr) (n18 c19 : Nat), r20 = .slice A17 n18 c19 ∧ CallsA Try.prog w0 25 #[.slice A17 n18 c19, .int .i64 2, .slice none 0 0, .int .i64 10] m21 fun r30 m31 =>
 ∃ i22 : Int, ∃ i23 : Int, ∃ (A24 : Option Addr) (n25 c26 : Nat), ∃ (A27 : Option Addr) (n28 c29 : Nat), r30 = .agg #[.int .i64 i22, .int .i64 i23, .slice A24 n25 c26, .slice A27 n28 c29] ∧ ∀ b32 : Nat, w0.heap.size ≤ b32 → m31 b32 = none → let m33 := AM.upd m31 b32 (.cells #[.int .i64 0, .int .i64 0, .slice none 0 0, .slice none 0 0] 60);
 StC w0.heap.size m33 ⟨b32, 0, none⟩ (.int .i64 i22) fun m34 =>
 StC w0.heap.size m34 ⟨b32, 1, none⟩ (.int .i64 i23) fun m35 =>
 StC w0.heap.size m35 ⟨b32, 2, none⟩ (.slice A24 n25 c26) fun m36 =>
 StC w0.heap.size m36 ⟨b32, 3, none⟩ (.slice A27 n28 c29) fun m37 =>
 ∃ i38 : Int, m37.cell ⟨b32, 0, none⟩ = some (.int .i64 i38) ∧ 
 IntKind.i64 = IntKind.i64 ∧ (bcase ((i38 : Int) != 1) (
 ((i38 : Int) != 1) = true ∧ RetP R (.bool false) m37) (
 ∃ (A39 : Option Addr) (n40 c41 : Nat), m37.cell ⟨b32, 3, none⟩ = some (.slice A39 n40 c41) ∧ 
 IntKind.i64 = IntKind.i64 ∧ (bcase (bif (i38 : Int) != 1 then true else decide ((((n40 : Nat) : Int) : Int) < 1)) (
 RetP R (.bool false) m37) (
 ∃ (A42 : Option Addr) (n43 c44 : Nat), m37.cell ⟨b32, 3, none⟩ = some (.slice A42 n43 c44) ∧ 
 IntKind.i64 = IntKind.i64 ∧ (bcase ((((n43 : Nat) : Int) : Int) == 2) (
 ∃ (A45 : Option Addr) (n46 c47 : Nat), m37.cell ⟨b32, 3, none⟩ = some (.slice A45 n46 c47) ∧ 
 ((0 : Int) ≤ 1 ∧ 1 < ((n46 : Nat) : Int)) ∧ nilO A45 fun a48 =>
 ∃ i49 : Int, m37.cell (a48.add (1)) = some (.int .i64 i49) ∧ 
 CallsA Try.prog w0 26 #[.int .i64 x1] m37 fun r51 m52 =>
 ∃ i50 : Int, r51 = .int .i64 i50 ∧ IntKind.i64 = IntKind.i64 ∧ (bcase ((i49 : Int) == i50) (
 ∃ (A53 : Option Addr) (n54 c55 : Nat), m52.cell ⟨b32, 3, none⟩ = some (.slice A53 n54 c55) ∧ 
 ((0 : Int) ≤ 0 ∧ 0 < ((n54 : Nat) : Int)) ∧ nilO A53 fun a56 =>
 ∃ i57 : Int, m52.cell (a56.add (0)) = some (.int .i64 i57) ∧ 
 IntKind.i64 = IntKind.i64 ∧ (bcase (bif (i49 : Int) == i50 then (i57 : Int) == 1 else false) (
 CallsA Try.prog w0 16 #[] m52 fun r59 m60 =>
 ∃ t58 : Bool, r59 = .bool t58 ∧ RetP R (.bool (bif bif (i49 : Int) == i50 then (i57 : Int) == 1 else false then t58 else false)) m60) (
 (bif (i49 : Int) == i50 then (i57 : Int) == 1 else false) = false ∧ RetP R (.bool false) m52))) (
 ((i49 : Int) == i50) = false ∧ false = false ∧ RetP R (.bool false) m52))) (
 CallsA Try.prog w0 26 #[.int .i64 x1] m37 fun r62 m63 =>
 ∃ i61 : Int, r62 = .int .i64 i61 ∧ IntKind.i64 = IntKind.i64 ∧ (bcase ((0 : Int) == i61) (
 ∃ (A64 : Option Addr) (n65 c66 : Nat), m63.cell ⟨b32, 3, none⟩ = some (.slice A64 n65 c66) ∧ 
 ((0 : Int) ≤ 0 ∧ 0 < ((n65 : Nat) : Int)) ∧ nilO A64 fun a67 =>
 ∃ i68 : Int, m63.cell (a67.add (0)) = some (.int .i64 i68) ∧ 
 IntKind.i64 = IntKind.i64 ∧ (bcase (bif (0 : Int) == i61 then (i68 : Int) == 1 else false) (
 CallsA Try.prog w0 16 #[] m63 fun r70 m71 =>
 ∃ t69 : Bool, r70 = .bool t69 ∧ RetP R (.bool (bif bif (0 : Int) == i61 then (i68 : Int) == 1 else false then t69 else false)) m71) (
 (bif (0 : Int) == i61 then (i68 : Int) == 1 else false) = false ∧ RetP R (.bool false) m63))) (
 ((0 : Int) == i61) = false ∧ false = false ∧ RetP R (.bool false) m63))))))))) : CallsA Try.prog w0 9 #[.int .u8 x0, .int .i64 x1] m R :=
  callsA_of (c := c9) (args := [.int .u8 x0, .int .i64 x1]) (by kernel_rfl) Try.func9 (by kernel_rfl) qs9 (by kernel_rfl) (by kernel_rfl) (cast (by kernel_rfl) h)
end Go.Proofs.Ytijilloaggeepaa.V
