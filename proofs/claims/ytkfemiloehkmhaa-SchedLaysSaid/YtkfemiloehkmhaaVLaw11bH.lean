/- Ytkfemiloehkmhaa: a text of our own, by an AI agent: VLaw11bH -/
import Derived.Test.YtkfemiloehkmhaaCoreA
import Derived.Test.YtkfemiloehkmhaaTabH
namespace Go.Proofs.Ytkfemiloehkmhaa.V
open Go Go.Alog Go.Proofs.Ytkfemiloehkmhaa.T
set_option linter.unusedVariables false
set_option maxRecDepth 100000

/-! 11 delayslot/delayslotlaw11.SchedLays -/
def qs11 : Nat → List (Nat × Nat) := fun i => match i with | _ => []
noncomputable def c11 : Code := bodyOf Try.f11
theorem cf11 (w0 : World) (m : AM) (x0 : Option Addr) (x0n x0c : Nat) (x1 : Option Addr) (x1n x1c : Nat) (R : Value → AM → Prop) (h :
 IntKind.i64 = IntKind.i64 ∧ (bcase (decide ((((x0n : Nat) : Int) : Int) > 40)) (
 (decide ((((x0n : Nat) : Int) : Int) > 40)) = true ∧ CallsA Try.prog w0 32 #[] m fun r2 m3 =>
 ∃ t1 : Bool, r2 = .bool t1 ∧ RetP R (.bool t1) m3) (
 IntKind.i64 = IntKind.i64 ∧ (bcase (bif decide ((((x0n : Nat) : Int) : Int) > 40) then true else decide ((((x1n : Nat) : Int) : Int) > 100)) (
 CallsA Try.prog w0 32 #[] m fun r5 m6 =>
 ∃ t4 : Bool, r5 = .bool t4 ∧ RetP R (.bool t4) m6) (
 CallsA Try.prog w0 36 #[.slice x0 x0n x0c, .slice x1 x1n x1c] m fun r10 m11 =>
 ∃ (A7 : Option Addr) (n8 c9 : Nat), r10 = .slice A7 n8 c9 ∧ IntKind.i64 = IntKind.i64 ∧ (bcase ((((n8 : Nat) : Int) : Int) != ((x1n : Nat) : Int)) (
 RetP R (.bool false) m11) (
 vcS Try.prog w0 qs11 (sub c11 [1, 1, 1, 1, 0, 1, 0]) (upd (upd (upd (upd (upd (upd (upd (upd (upd (upd (upd (upd (upd (upd (upd (upd (upd (upd (upd (upd (upd (argS [.slice x0 x0n x0c, .slice x1 x1n x1c]) 4 (.bool false)) 9 (.slice x0 x0n x0c)) 10 (.int .i64 ((x0n : Nat) : Int))) 11 (.bool (decide ((((x0n : Nat) : Int) : Int) > 40)))) 12 (.bool (decide ((((x0n : Nat) : Int) : Int) > 40)))) 13 (.slice x1 x1n x1c)) 14 (.int .i64 ((x1n : Nat) : Int))) 15 (.bool (decide ((((x1n : Nat) : Int) : Int) > 100)))) 16 (.bool (bif decide ((((x0n : Nat) : Int) : Int) > 40) then true else decide ((((x1n : Nat) : Int) : Int) > 100)))) 18 (.slice x0 x0n x0c)) 19 (.slice x1 x1n x1c)) 20 (.slice A7 n8 c9)) 5 (.slice A7 n8 c9)) 21 (.slice A7 n8 c9)) 22 (.int .i64 ((n8 : Nat) : Int))) 23 (.slice x1 x1n x1c)) 24 (.int .i64 ((x1n : Nat) : Int))) 25 (.bool ((((n8 : Nat) : Int) : Int) != ((x1n : Nat) : Int)))) 26 (.slice x1 x1n x1c)) 27 (.int .i64 ((x1n : Nat) : Int))) 28 (.int .i64 0)) m11 (blockS 0 (thenS (fun σ m => vcS Try.prog w0 qs11 (sub c11 [1, 1, 1, 1, 1]) σ m (retQ Try.prog Try.f11 R)) (retQ Try.prog Try.f11 R)))))))))) : CallsA Try.prog w0 11 #[.slice x0 x0n x0c, .slice x1 x1n x1c] m R :=
  callsA_of (c := c11) (args := [.slice x0 x0n x0c, .slice x1 x1n x1c]) (by kernel_rfl) Try.func11 (by kernel_rfl) qs11 (by kernel_rfl) (by kernel_rfl) (cast (by kernel_rfl) h)
def lq11_1111010 (R : Value → AM → Prop) (x0 : Option Addr) (x0n x0c : Nat) (x5 : Option Addr) (x5n x5c : Nat) (x26 : Option Addr) (x26n x26c : Nat) (x27 : Int) (I0 : Nat → Int → AM → Prop) (E0_0 : AM → Prop) (n0 : Nat) : Exit → Sg → AM → Prop
  | .normal, σ, m => σ 0 = .slice x0 x0n x0c ∧ σ 5 = .slice x5 x5n x5c ∧ σ 26 = .slice x26 x26n x26c ∧ σ 27 = .int .i64 x27 ∧ okI .i64 (σ 28) = true ∧ ∃ n' : Nat, n' < n0 ∧ I0 n' (vI (σ 28)) m
  | .exit id, σ, m => if id = 0 then σ 0 = .slice x0 x0n x0c ∧ σ 5 = .slice x5 x5n x5c ∧ σ 26 = .slice x26 x26n x26c ∧ σ 27 = .int .i64 x27 ∧ E0_0  m else False
  | .ret, σ, m => retQ Try.prog Try.f11 R .ret σ m
  | _, _, _ => False
theorem vl11_1111010 (w0 : World) (m : AM) (σ : Sg) (R : Value → AM → Prop)  (x0 : Option Addr) (x0n x0c : Nat) (x5 : Option Addr) (x5n x5c : Nat) (x26 : Option Addr) (x26n x26c : Nat) (x27 : Int) (x28 : Int) (I0 : Nat → Int → AM → Prop) (E0_0 : AM → Prop) (N : Nat) (h0 : σ 0 = .slice x0 x0n x0c) (h5 : σ 5 = .slice x5 x5n x5c) (h26 : σ 26 = .slice x26 x26n x26c) (h27 : σ 27 = .int .i64 x27) (h28 : σ 28 = .int .i64 x28)
 (h_0 : I0 N x28 m)
 (h_s : ∀ (n0 : Nat) (σ : Sg) (x28 : Int) (m : AM), I0 n0 x28 m → (
 IntKind.i64 = IntKind.i64 ∧ (bcase (decide ((x28 : Int) < x27)) (
 ((0 : Int) ≤ x28 ∧ x28 < ((x26n : Nat) : Int)) ∧ nilO x26 fun a12 =>
 ∃ i13 : Int, m.cell (a12.add ((x28 : Int).toNat * 1)) = some (.int .i64 i13) ∧ 
 true = true ∧ ∀ b14 : Nat, w0.heap.size ≤ b14 → m b14 = none → let m15 := AM.upd m b14 (.cells #[.int .i64 0, .int .i64 0, .int .i64 0, .int .i64 0, .int .i64 0] 24);
 StC w0.heap.size m15 ⟨b14, 0, none⟩ (.int .i64 0) fun m16 =>
 StC w0.heap.size m16 ⟨b14, 1, none⟩ (.int .i64 0) fun m17 =>
 StC w0.heap.size m17 ⟨b14, 2, none⟩ (.int .i64 0) fun m18 =>
 StC w0.heap.size m18 ⟨b14, 3, none⟩ (.int .i64 0) fun m19 =>
 StC w0.heap.size m19 ⟨b14, 4, none⟩ (.int .i64 0) fun m20 =>
 IntKind.i64 = IntKind.i64 ∧ (bcase (decide ((i13 : Int) ≥ 0)) (
 IntKind.i64 = IntKind.i64 ∧ (bcase (bif decide ((i13 : Int) ≥ 0) then decide ((i13 : Int) < ((x0n : Nat) : Int)) else false) (
 ((0 : Int) ≤ i13 ∧ i13 < ((x0n : Nat) : Int)) ∧ nilO x0 fun a21 =>
 ∃ i22 : Int, m20.cell (a21.add ((i13 : Int).toNat * 5)) = some (.int .i64 i22) ∧ ∃ i23 : Int, m20.cell ((a21.add ((i13 : Int).toNat * 5)).add 1) = some (.int .i64 i23) ∧ ∃ i24 : Int, m20.cell ((a21.add ((i13 : Int).toNat * 5)).add 2) = some (.int .i64 i24) ∧ ∃ i25 : Int, m20.cell ((a21.add ((i13 : Int).toNat * 5)).add 3) = some (.int .i64 i25) ∧ ∃ i26 : Int, m20.cell ((a21.add ((i13 : Int).toNat * 5)).add 4) = some (.int .i64 i26) ∧ 
 StC w0.heap.size m20 ⟨b14, 0, none⟩ (.int .i64 i22) fun m27 =>
 StC w0.heap.size m27 ⟨b14, 1, none⟩ (.int .i64 i23) fun m28 =>
 StC w0.heap.size m28 ⟨b14, 2, none⟩ (.int .i64 i24) fun m29 =>
 StC w0.heap.size m29 ⟨b14, 3, none⟩ (.int .i64 i25) fun m30 =>
 StC w0.heap.size m30 ⟨b14, 4, none⟩ (.int .i64 i26) fun m31 =>
 ((0 : Int) ≤ x28 ∧ x28 < ((x5n : Nat) : Int)) ∧ nilO x5 fun a32 =>
 ∃ i33 : Int, m31.cell (a32.add ((x28 : Int).toNat * 5)) = some (.int .i64 i33) ∧ ∃ i34 : Int, m31.cell ((a32.add ((x28 : Int).toNat * 5)).add 1) = some (.int .i64 i34) ∧ ∃ i35 : Int, m31.cell ((a32.add ((x28 : Int).toNat * 5)).add 2) = some (.int .i64 i35) ∧ ∃ i36 : Int, m31.cell ((a32.add ((x28 : Int).toNat * 5)).add 3) = some (.int .i64 i36) ∧ ∃ i37 : Int, m31.cell ((a32.add ((x28 : Int).toNat * 5)).add 4) = some (.int .i64 i37) ∧ 
 ∃ i38 : Int, m31.cell ⟨b14, 0, none⟩ = some (.int .i64 i38) ∧ ∃ i39 : Int, m31.cell ⟨b14, 1, none⟩ = some (.int .i64 i39) ∧ ∃ i40 : Int, m31.cell ⟨b14, 2, none⟩ = some (.int .i64 i40) ∧ ∃ i41 : Int, m31.cell ⟨b14, 3, none⟩ = some (.int .i64 i41) ∧ ∃ i42 : Int, m31.cell ⟨b14, 4, none⟩ = some (.int .i64 i42) ∧ 
 ∃ t43 : Bool, EqP Try.prog .neq 24 (.agg #[.int .i64 i33, .int .i64 i34, .int .i64 i35, .int .i64 i36, .int .i64 i37]) (.agg #[.int .i64 i38, .int .i64 i39, .int .i64 i40, .int .i64 i41, .int .i64 i42]) t43 ∧ (bcase t43 (
 RetP R (.bool false) m31) (
 IntKind.i64 = IntKind.i64 ∧ (.slice x0 x0n x0c : Value) = .slice x0 x0n x0c ∧ (.slice x5 x5n x5c : Value) = .slice x5 x5n x5c ∧ (.slice x26 x26n x26c : Value) = .slice x26 x26n x26c ∧ (.int .i64 x27 : Value) = .int .i64 x27 ∧ true = true ∧ ∃ n' : Nat, n' < n0 ∧ I0 n' (IntKind.wrap .i64 (x28 + 1)) m31))) (
 ((0 : Int) ≤ x28 ∧ x28 < ((x5n : Nat) : Int)) ∧ nilO x5 fun a44 =>
 ∃ i45 : Int, m20.cell (a44.add ((x28 : Int).toNat * 5)) = some (.int .i64 i45) ∧ ∃ i46 : Int, m20.cell ((a44.add ((x28 : Int).toNat * 5)).add 1) = some (.int .i64 i46) ∧ ∃ i47 : Int, m20.cell ((a44.add ((x28 : Int).toNat * 5)).add 2) = some (.int .i64 i47) ∧ ∃ i48 : Int, m20.cell ((a44.add ((x28 : Int).toNat * 5)).add 3) = some (.int .i64 i48) ∧ ∃ i49 : Int, m20.cell ((a44.add ((x28 : Int).toNat * 5)).add 4) = some (.int .i64 i49) ∧ 
 ∃ i50 : Int, m20.cell ⟨b14, 0, none⟩ = some (.int .i64 i50) ∧ ∃ i51 : Int, m20.cell ⟨b14, 1, none⟩ = some (.int .i64 i51) ∧ ∃ i52 : Int, m20.cell ⟨b14, 2, none⟩ = some (.int .i64 i52) ∧ ∃ i53 : Int, m20.cell ⟨b14, 3, none⟩ = some (.int .i64 i53) ∧ ∃ i54 : Int, m20.cell ⟨b14, 4, none⟩ = some (.int .i64 i54) ∧ 
 ∃ t55 : Bool, EqP Try.prog .neq 24 (.agg #[.int .i64 i45, .int .i64 i46, .int .i64 i47, .int .i64 i48, .int .i64 i49]) (.agg #[.int .i64 i50, .int .i64 i51, .int .i64 i52, .int .i64 i53, .int .i64 i54]) t55 ∧ (bcase t55 (
 RetP R (.bool false) m20) (
 IntKind.i64 = IntKind.i64 ∧ (.slice x0 x0n x0c : Value) = .slice x0 x0n x0c ∧ (.slice x5 x5n x5c : Value) = .slice x5 x5n x5c ∧ (.slice x26 x26n x26c : Value) = .slice x26 x26n x26c ∧ (.int .i64 x27 : Value) = .int .i64 x27 ∧ true = true ∧ ∃ n' : Nat, n' < n0 ∧ I0 n' (IntKind.wrap .i64 (x28 + 1)) m20))))) (
 (decide ((i13 : Int) ≥ 0)) = false ∧ ((0 : Int) ≤ x28 ∧ x28 < ((x5n : Nat) : Int)) ∧ nilO x5 fun a56 =>
 ∃ i57 : Int, m20.cell (a56.add ((x28 : Int).toNat * 5)) = some (.int .i64 i57) ∧ ∃ i58 : Int, m20.cell ((a56.add ((x28 : Int).toNat * 5)).add 1) = some (.int .i64 i58) ∧ ∃ i59 : Int, m20.cell ((a56.add ((x28 : Int).toNat * 5)).add 2) = some (.int .i64 i59) ∧ ∃ i60 : Int, m20.cell ((a56.add ((x28 : Int).toNat * 5)).add 3) = some (.int .i64 i60) ∧ ∃ i61 : Int, m20.cell ((a56.add ((x28 : Int).toNat * 5)).add 4) = some (.int .i64 i61) ∧ 
 ∃ i62 : Int, m20.cell ⟨b14, 0, none⟩ = some (.int .i64 i62) ∧ ∃ i63 : Int, m20.cell ⟨b14, 1, none⟩ = some (.int .i64 i63) ∧ ∃ i64 : Int, m20.cell ⟨b14, 2, none⟩ = some (.int .i64 i64) ∧ ∃ i65 : Int, m20.cell ⟨b14, 3, none⟩ = some (.int .i64 i65) ∧ ∃ i66 : Int, m20.cell ⟨b14, 4, none⟩ = some (.int .i64 i66) ∧ 
 ∃ t67 : Bool, EqP Try.prog .neq 24 (.agg #[.int .i64 i57, .int .i64 i58, .int .i64 i59, .int .i64 i60, .int .i64 i61]) (.agg #[.int .i64 i62, .int .i64 i63, .int .i64 i64, .int .i64 i65, .int .i64 i66]) t67 ∧ (bcase t67 (
 RetP R (.bool false) m20) (
 IntKind.i64 = IntKind.i64 ∧ (.slice x0 x0n x0c : Value) = .slice x0 x0n x0c ∧ (.slice x5 x5n x5c : Value) = .slice x5 x5n x5c ∧ (.slice x26 x26n x26c : Value) = .slice x26 x26n x26c ∧ (.int .i64 x27 : Value) = .int .i64 x27 ∧ true = true ∧ ∃ n' : Nat, n' < n0 ∧ I0 n' (IntKind.wrap .i64 (x28 + 1)) m20))))) (
 (.slice x0 x0n x0c : Value) = .slice x0 x0n x0c ∧ (.slice x5 x5n x5c : Value) = .slice x5 x5n x5c ∧ (.slice x26 x26n x26c : Value) = .slice x26 x26n x26c ∧ (.int .i64 x27 : Value) = .int .i64 x27 ∧ E0_0  m))))
 (h_e0 : ∀ (σ : Sg)  (m : AM), E0_0  m → (
 CallsA Try.prog w0 37 #[.slice x0 x0n x0c] m fun r71 m72 =>
 ∃ (A68 : Option Addr) (n69 c70 : Nat), r71 = .slice A68 n69 c70 ∧ CallsA Try.prog w0 38 #[.slice x0 x0n x0c] m72 fun r76 m77 =>
 ∃ (A73 : Option Addr) (n74 c75 : Nat), r76 = .slice A73 n74 c75 ∧ CallsA Try.prog w0 33 #[.slice A68 n69 c70, .slice A73 n74 c75] m77 fun r79 m80 =>
 ∃ t78 : Bool, r79 = .bool t78 ∧ (bcase t78 (
 CallsA Try.prog w0 32 #[] m80 fun r82 m83 =>
 ∃ t81 : Bool, r82 = .bool t81 ∧ RetP R (.bool (bif t78 then t81 else false)) m83) (
 t78 = false ∧ RetP R (.bool false) m80)))) :
 vcS Try.prog w0 qs11 (sub c11 [1, 1, 1, 1, 0, 1, 0]) σ m (blockS 0 (thenS (fun σ m => vcS Try.prog w0 qs11 (sub c11 [1, 1, 1, 1, 1]) σ m (retQ Try.prog Try.f11 R)) (retQ Try.prog Try.f11 R))) := by
  rw [show sub c11 [1, 1, 1, 1, 0, 1, 0] = .loop (sub c11 [1, 1, 1, 1, 0, 1, 0, 0]) from by kernel_rfl]
  refine loopQ (fun n0 σ m => σ 0 = .slice x0 x0n x0c ∧ σ 5 = .slice x5 x5n x5c ∧ σ 26 = .slice x26 x26n x26c ∧ σ 27 = .int .i64 x27 ∧ okI .i64 (σ 28) = true ∧ I0 n0 (vI (σ 28)) m) N (fun n0 => (lq11_1111010 R x0 x0n x0c x5 x5n x5c x26 x26n x26c x27 I0 E0_0 n0)) ⟨h0, h5, h26, h27, (by rw [h28]; rfl), (by rw [h28]; exact h_0)⟩ ?_ ?_ ?_
  · rintro n0 σ m ⟨kk0, kk1, kk2, kk3, kk4, n', hlt, hI⟩; exact ⟨n', hlt, kk0, kk1, kk2, kk3, kk4, hI⟩
  · intro n0 e σ m hne h
    cases e with
    | normal => exact absurd rfl hne
    | ret => exact h
    | exit id =>
      by_cases e0 : id = 0
      · subst e0
        obtain ⟨kk0, kk1, kk2, kk3, hE⟩ := h
        have es : (upd (upd (upd (upd σ 0 (.slice x0 x0n x0c)) 5 (.slice x5 x5n x5c)) 26 (.slice x26 x26n x26c)) 27 (.int .i64 x27)) = σ := by rw [upd_id kk0, upd_id kk1, upd_id kk2, upd_id kk3]
        exact cast (congrArg (fun s => (blockS 0 (thenS (fun σ m => vcS Try.prog w0 qs11 (sub c11 [1, 1, 1, 1, 1]) σ m (retQ Try.prog Try.f11 R)) (retQ Try.prog Try.f11 R))) (.exit 0) s m) es) (cast (by kernel_rfl) (h_e0 σ  m hE))
      · replace h := (if_neg e0 : (if id = 0 then _ else _) = _).mp h
        exact False.elim h
    | _ => exact False.elim h
  · rintro n0 σ m ⟨kk0, kk1, kk2, kk3, kk4, hI⟩
    have es : (upd (upd (upd (upd (upd σ 0 (.slice x0 x0n x0c)) 5 (.slice x5 x5n x5c)) 26 (.slice x26 x26n x26c)) 27 (.int .i64 x27)) 28 (.int .i64 (vI (σ 28)))) = σ := by rw [upd_id kk0, upd_id kk1, upd_id kk2, upd_id kk3, upd_id (ok_int kk4)]
    exact cast (congrArg (fun s => vcS Try.prog w0 qs11 (sub c11 [1, 1, 1, 1, 0, 1, 0, 0]) s m (lq11_1111010 R x0 x0n x0c x5 x5n x5c x26 x26n x26c x27 I0 E0_0 n0)) es) (cast (by kernel_rfl) (h_s n0 σ (vI (σ 28)) m hI))

/-! 12 delayslot/delayslotlaw11.SchedKeeps -/
def qs12 : Nat → List (Nat × Nat) := fun i => match i with | _ => []
noncomputable def c12 : Code := bodyOf Try.f12
theorem cf12 (w0 : World) (m : AM) (x0 : Option Addr) (x0n x0c : Nat) (R : Value → AM → Prop) (h :
 IntKind.i64 = IntKind.i64 ∧ (bcase (decide ((((x0n : Nat) : Int) : Int) > 40)) (
 CallsA Try.prog w0 32 #[] m fun r2 m3 =>
 ∃ t1 : Bool, r2 = .bool t1 ∧ RetP R (.bool t1) m3) (
 CallsA Try.prog w0 34 #[.slice x0 x0n x0c] m fun r7 m8 =>
 ∃ (A4 : Option Addr) (n5 c6 : Nat), r7 = .slice A4 n5 c6 ∧ CallsA Try.prog w0 39 #[.slice x0 x0n x0c, .slice A4 n5 c6] m8 fun r10 m11 =>
 ∃ t9 : Bool, r10 = .bool t9 ∧ (bcase (!t9) (
 (!t9) = true ∧ true = true ∧ RetP R (.bool false) m11) (
 IntKind.i64 = IntKind.i64 ∧ IntKind.i64 = IntKind.i64 ∧ (bcase (bif !t9 then true else decide ((((n5 : Nat) : Int) : Int) > (IntKind.wrap .i64 (2 * ((x0n : Nat) : Int))))) (
 (bif !t9 then true else decide ((((n5 : Nat) : Int) : Int) > (IntKind.wrap .i64 (2 * ((x0n : Nat) : Int))))) = true ∧ RetP R (.bool false) m11) (
 IntKind.i64 = IntKind.i64 ∧ (bcase (decide ((((n5 : Nat) : Int) : Int) > 0)) (
 IntKind.i64 = IntKind.i64 ∧ ((0 : Int) ≤ (IntKind.wrap .i64 (((n5 : Nat) : Int) - 1)) ∧ (IntKind.wrap .i64 (((n5 : Nat) : Int) - 1)) < ((n5 : Nat) : Int)) ∧ nilO A4 fun a12 =>
 ∃ i13 : Int, m11.cell (a12.add ((IntKind.wrap .i64 (((n5 : Nat) : Int) - 1) : Int).toNat * 1)) = some (.int .i64 i13) ∧ 
 IntKind.i64 = IntKind.i64 ∧ (bcase (bif bif !t9 then true else decide ((((n5 : Nat) : Int) : Int) > (IntKind.wrap .i64 (2 * ((x0n : Nat) : Int)))) then true else bif decide ((((n5 : Nat) : Int) : Int) > 0) then decide ((i13 : Int) < 0) else false) (
 RetP R (.bool false) m11) (
 vcS Try.prog w0 qs12 (sub c12 [1, 1, 1, 1, 0, 1, 0]) (upd (upd (upd (upd (upd (upd (upd (upd (upd (upd (upd (upd (upd (upd (upd (upd (upd (upd (upd (upd (upd (upd (upd (upd (upd (upd (upd (upd (upd (upd (upd (upd (upd (upd (argS [.slice x0 x0n x0c]) 2 (.bool false)) 5 (.slice x0 x0n x0c)) 6 (.int .i64 ((x0n : Nat) : Int))) 7 (.bool (decide ((((x0n : Nat) : Int) : Int) > 40)))) 9 (.slice x0 x0n x0c)) 10 (.slice A4 n5 c6)) 3 (.slice A4 n5 c6)) 11 (.slice x0 x0n x0c)) 12 (.slice A4 n5 c6)) 13 (.bool t9)) 14 (.bool (!t9))) 15 (.bool (!t9))) 16 (.slice A4 n5 c6)) 17 (.int .i64 ((n5 : Nat) : Int))) 18 (.slice x0 x0n x0c)) 19 (.int .i64 ((x0n : Nat) : Int))) 20 (.int .i64 (IntKind.wrap .i64 (2 * ((x0n : Nat) : Int))))) 21 (.bool (decide ((((n5 : Nat) : Int) : Int) > (IntKind.wrap .i64 (2 * ((x0n : Nat) : Int))))))) 22 (.bool (bif !t9 then true else decide ((((n5 : Nat) : Int) : Int) > (IntKind.wrap .i64 (2 * ((x0n : Nat) : Int))))))) 23 (.bool (bif !t9 then true else decide ((((n5 : Nat) : Int) : Int) > (IntKind.wrap .i64 (2 * ((x0n : Nat) : Int))))))) 24 (.slice A4 n5 c6)) 25 (.int .i64 ((n5 : Nat) : Int))) 26 (.bool (decide ((((n5 : Nat) : Int) : Int) > 0)))) 27 (.bool (decide ((((n5 : Nat) : Int) : Int) > 0)))) 28 (.slice A4 n5 c6)) 29 (.slice A4 n5 c6)) 30 (.int .i64 ((n5 : Nat) : Int))) 31 (.int .i64 (IntKind.wrap .i64 (((n5 : Nat) : Int) - 1)))) 32 (.pointer (some (a12.add ((IntKind.wrap .i64 (((n5 : Nat) : Int) - 1) : Int).toNat * 1))))) 33 (.int .i64 i13)) 34 (.bool (decide ((i13 : Int) < 0)))) 35 (.bool (bif decide ((((n5 : Nat) : Int) : Int) > 0) then decide ((i13 : Int) < 0) else false))) 36 (.bool (bif bif !t9 then true else decide ((((n5 : Nat) : Int) : Int) > (IntKind.wrap .i64 (2 * ((x0n : Nat) : Int)))) then true else bif decide ((((n5 : Nat) : Int) : Int) > 0) then decide ((i13 : Int) < 0) else false))) 4 (.int .i64 1)) m11 (blockS 0 (thenS (fun σ m => vcS Try.prog w0 qs12 (sub c12 [1, 1, 1, 1, 1]) σ m (retQ Try.prog Try.f12 R)) (retQ Try.prog Try.f12 R)))))) (
 (decide ((((n5 : Nat) : Int) : Int) > 0)) = false ∧ (bcase (bif bif !t9 then true else decide ((((n5 : Nat) : Int) : Int) > (IntKind.wrap .i64 (2 * ((x0n : Nat) : Int)))) then true else false) (
 RetP R (.bool false) m11) (
 vcS Try.prog w0 qs12 (sub c12 [1, 1, 1, 1, 0, 1, 0]) (upd (upd (upd (upd (upd (upd (upd (upd (upd (upd (upd (upd (upd (upd (upd (upd (upd (upd (upd (upd (upd (upd (upd (upd (upd (upd (upd (upd (upd (upd (upd (upd (upd (upd (argS [.slice x0 x0n x0c]) 2 (.bool false)) 5 (.slice x0 x0n x0c)) 6 (.int .i64 ((x0n : Nat) : Int))) 7 (.bool (decide ((((x0n : Nat) : Int) : Int) > 40)))) 9 (.slice x0 x0n x0c)) 10 (.slice A4 n5 c6)) 3 (.slice A4 n5 c6)) 11 (.slice x0 x0n x0c)) 12 (.slice A4 n5 c6)) 13 (.bool t9)) 14 (.bool (!t9))) 15 (.bool (!t9))) 16 (.slice A4 n5 c6)) 17 (.int .i64 ((n5 : Nat) : Int))) 18 (.slice x0 x0n x0c)) 19 (.int .i64 ((x0n : Nat) : Int))) 20 (.int .i64 (IntKind.wrap .i64 (2 * ((x0n : Nat) : Int))))) 21 (.bool (decide ((((n5 : Nat) : Int) : Int) > (IntKind.wrap .i64 (2 * ((x0n : Nat) : Int))))))) 22 (.bool (bif !t9 then true else decide ((((n5 : Nat) : Int) : Int) > (IntKind.wrap .i64 (2 * ((x0n : Nat) : Int))))))) 23 (.bool (bif !t9 then true else decide ((((n5 : Nat) : Int) : Int) > (IntKind.wrap .i64 (2 * ((x0n : Nat) : Int))))))) 24 (.slice A4 n5 c6)) 25 (.int .i64 ((n5 : Nat) : Int))) 26 (.bool (decide ((((n5 : Nat) : Int) : Int) > 0)))) 27 (.bool (decide ((((n5 : Nat) : Int) : Int) > 0)))) 28 (undef)) 29 (undef)) 30 (undef)) 31 (undef)) 32 (undef)) 33 (undef)) 34 (undef)) 35 (.bool false)) 36 (.bool (bif bif !t9 then true else decide ((((n5 : Nat) : Int) : Int) > (IntKind.wrap .i64 (2 * ((x0n : Nat) : Int)))) then true else false))) 4 (.int .i64 1)) m11 (blockS 0 (thenS (fun σ m => vcS Try.prog w0 qs12 (sub c12 [1, 1, 1, 1, 1]) σ m (retQ Try.prog Try.f12 R)) (retQ Try.prog Try.f12 R)))))))))))))) : CallsA Try.prog w0 12 #[.slice x0 x0n x0c] m R :=
  callsA_of (c := c12) (args := [.slice x0 x0n x0c]) (by kernel_rfl) Try.func12 (by kernel_rfl) qs12 (by kernel_rfl) (by kernel_rfl) (cast (by kernel_rfl) h)
def lq12_1111010 (R : Value → AM → Prop) (x3 : Option Addr) (x3n x3c : Nat) (I0 : Nat → Int → AM → Prop) (E0_0 : AM → Prop) (n0 : Nat) : Exit → Sg → AM → Prop
  | .normal, σ, m => σ 3 = .slice x3 x3n x3c ∧ okI .i64 (σ 4) = true ∧ ∃ n' : Nat, n' < n0 ∧ I0 n' (vI (σ 4)) m
  | .exit id, σ, m => if id = 0 then σ 3 = .slice x3 x3n x3c ∧ E0_0  m else False
  | .ret, σ, m => retQ Try.prog Try.f12 R .ret σ m
  | _, _, _ => False
theorem vl12_1111010 (w0 : World) (m : AM) (σ : Sg) (R : Value → AM → Prop)  (x3 : Option Addr) (x3n x3c : Nat) (x4 : Int) (I0 : Nat → Int → AM → Prop) (E0_0 : AM → Prop) (N : Nat) (h3 : σ 3 = .slice x3 x3n x3c) (h4 : σ 4 = .int .i64 x4)
 (h_0 : I0 N x4 m)
 (h_s : ∀ (n0 : Nat) (σ : Sg) (x4 : Int) (m : AM), I0 n0 x4 m → (
 IntKind.i64 = IntKind.i64 ∧ (bcase (decide ((x4 : Int) < ((x3n : Nat) : Int))) (
 ((0 : Int) ≤ x4 ∧ x4 < ((x3n : Nat) : Int)) ∧ nilO x3 fun a14 =>
 ∃ i15 : Int, m.cell (a14.add ((x4 : Int).toNat * 1)) = some (.int .i64 i15) ∧ 
 IntKind.i64 = IntKind.i64 ∧ (bcase (decide ((i15 : Int) < 0)) (
 IntKind.i64 = IntKind.i64 ∧ ((0 : Int) ≤ (IntKind.wrap .i64 (x4 - 1)) ∧ (IntKind.wrap .i64 (x4 - 1)) < ((x3n : Nat) : Int)) ∧ nilO x3 fun a16 =>
 ∃ i17 : Int, m.cell (a16.add ((IntKind.wrap .i64 (x4 - 1) : Int).toNat * 1)) = some (.int .i64 i17) ∧ 
 IntKind.i64 = IntKind.i64 ∧ (bcase (bif decide ((i15 : Int) < 0) then decide ((i17 : Int) < 0) else false) (
 RetP R (.bool false) m) (
 IntKind.i64 = IntKind.i64 ∧ (.slice x3 x3n x3c : Value) = .slice x3 x3n x3c ∧ true = true ∧ ∃ n' : Nat, n' < n0 ∧ I0 n' (IntKind.wrap .i64 (x4 + 1)) m))) (
 (decide ((i15 : Int) < 0)) = false ∧ IntKind.i64 = IntKind.i64 ∧ (.slice x3 x3n x3c : Value) = .slice x3 x3n x3c ∧ true = true ∧ ∃ n' : Nat, n' < n0 ∧ I0 n' (IntKind.wrap .i64 (x4 + 1)) m))) (
 (.slice x3 x3n x3c : Value) = .slice x3 x3n x3c ∧ E0_0  m))))
 (h_e0 : ∀ (σ : Sg)  (m : AM), E0_0  m → (
 CallsA Try.prog w0 32 #[] m fun r19 m20 =>
 ∃ t18 : Bool, r19 = .bool t18 ∧ RetP R (.bool t18) m20)) :
 vcS Try.prog w0 qs12 (sub c12 [1, 1, 1, 1, 0, 1, 0]) σ m (blockS 0 (thenS (fun σ m => vcS Try.prog w0 qs12 (sub c12 [1, 1, 1, 1, 1]) σ m (retQ Try.prog Try.f12 R)) (retQ Try.prog Try.f12 R))) := by
  rw [show sub c12 [1, 1, 1, 1, 0, 1, 0] = .loop (sub c12 [1, 1, 1, 1, 0, 1, 0, 0]) from by kernel_rfl]
  refine loopQ (fun n0 σ m => σ 3 = .slice x3 x3n x3c ∧ okI .i64 (σ 4) = true ∧ I0 n0 (vI (σ 4)) m) N (fun n0 => (lq12_1111010 R x3 x3n x3c I0 E0_0 n0)) ⟨h3, (by rw [h4]; rfl), (by rw [h4]; exact h_0)⟩ ?_ ?_ ?_
  · rintro n0 σ m ⟨kk0, kk1, n', hlt, hI⟩; exact ⟨n', hlt, kk0, kk1, hI⟩
  · intro n0 e σ m hne h
    cases e with
    | normal => exact absurd rfl hne
    | ret => exact h
    | exit id =>
      by_cases e0 : id = 0
      · subst e0
        obtain ⟨kk0, hE⟩ := h
        have es : (upd σ 3 (.slice x3 x3n x3c)) = σ := by rw [upd_id kk0]
        exact cast (congrArg (fun s => (blockS 0 (thenS (fun σ m => vcS Try.prog w0 qs12 (sub c12 [1, 1, 1, 1, 1]) σ m (retQ Try.prog Try.f12 R)) (retQ Try.prog Try.f12 R))) (.exit 0) s m) es) (cast (by kernel_rfl) (h_e0 σ  m hE))
      · replace h := (if_neg e0 : (if id = 0 then _ else _) = _).mp h
        exact False.elim h
    | _ => exact False.elim h
  · rintro n0 σ m ⟨kk0, kk1, hI⟩
    have es : (upd (upd σ 3 (.slice x3 x3n x3c)) 4 (.int .i64 (vI (σ 4)))) = σ := by rw [upd_id kk0, upd_id (ok_int kk1)]
    exact cast (congrArg (fun s => vcS Try.prog w0 qs12 (sub c12 [1, 1, 1, 1, 0, 1, 0, 0]) s m (lq12_1111010 R x3 x3n x3c I0 E0_0 n0)) es) (cast (by kernel_rfl) (h_s n0 σ (vI (σ 4)) m hI))
end Go.Proofs.Ytkfemiloehkmhaa.V
