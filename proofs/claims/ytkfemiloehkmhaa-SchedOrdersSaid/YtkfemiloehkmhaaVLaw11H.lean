/- Ytkfemiloehkmhaa: a text of our own, by an AI agent: VLaw11H -/
import Derived.Test.YtkfemiloehkmhaaCore5
import Derived.Test.YtkfemiloehkmhaaTabH
namespace Go.Proofs.Ytkfemiloehkmhaa.V
open Go Go.Alog Go.Proofs.Ytkfemiloehkmhaa.T
set_option linter.unusedVariables false
set_option maxRecDepth 100000

/-! 32 delayslot/delayslotlaw11.awake -/
def qs32 : Nat → List (Nat × Nat) := fun i => match i with | _ => []
noncomputable def c32 : Code := bodyOf Try.f32
theorem cf32 (w0 : World) (m : AM)  (R : Value → AM → Prop) (h :
 true = true ∧ true = true ∧ true = true ∧ true = true ∧ ∀ b1 : Nat, w0.heap.size ≤ b1 → m b1 = none → let m2 := AM.upd m b1 (.cells #[.int .i64 12, .int .i64 1, .int .i64 0, .int .i64 0, .int .i64 0, .int .i64 1, .int .i64 2, .int .i64 1, .int .i64 1, .int .i64 0, .int .i64 17, .int .i64 0, .int .i64 0, .int .i64 0, .int .i64 0] 24);
 CallsA Try.prog w0 37 #[.slice (some ⟨b1, 0, none⟩) 3 3] m2 fun r6 m7 =>
 ∃ (A3 : Option Addr) (n4 c5 : Nat), r6 = .slice A3 n4 c5 ∧ true = true ∧ ∀ b8 : Nat, w0.heap.size ≤ b8 → m7 b8 = none → let m9 := AM.upd m7 b8 (.cells #[.int .i64 2, .int .i64 (-1)] 3);
 CallsA Try.prog w0 36 #[.slice (some ⟨b1, 0, none⟩) 3 3, .slice (some ⟨b8, 0, none⟩) 2 2] m9 fun r13 m14 =>
 ∃ (A10 : Option Addr) (n11 c12 : Nat), r13 = .slice A10 n11 c12 ∧ true = true ∧ ∀ b15 : Nat, w0.heap.size ≤ b15 → m14 b15 = none → let m16 := AM.upd m14 b15 (.cells #[.int .i64 0, .int .i64 (-1), .int .i64 2, .int .i64 1] 3);
 CallsA Try.prog w0 33 #[.slice A3 n4 c5, .slice (some ⟨b15, 0, none⟩) 4 4] m16 fun r18 m19 =>
 ∃ t17 : Bool, r18 = .bool t17 ∧ (bcase t17 (
 IntKind.i64 = IntKind.i64 ∧ (bcase (bif t17 then (((n11 : Nat) : Int) : Int) == 2 else false) (
 ((0 : Int) ≤ 0 ∧ 0 < ((n11 : Nat) : Int)) ∧ nilO A10 fun a20 =>
 ∃ i21 : Int, m19.cell (a20.add (0)) = some (.int .i64 i21) ∧ 
 IntKind.i64 = IntKind.i64 ∧ (bcase (bif bif t17 then (((n11 : Nat) : Int) : Int) == 2 else false then (i21 : Int) == 17 else false) (
 ((0 : Int) ≤ 1 ∧ 1 < ((n11 : Nat) : Int)) ∧ nilO A10 fun a22 =>
 ∃ i23 : Int, m19.cell (a22.add (5)) = some (.int .i64 i23) ∧ 
 IntKind.i64 = IntKind.i64 ∧ RetP R (.bool (bif bif bif t17 then (((n11 : Nat) : Int) : Int) == 2 else false then (i21 : Int) == 17 else false then (i23 : Int) == 0 else false)) m19) (
 (bif bif t17 then (((n11 : Nat) : Int) : Int) == 2 else false then (i21 : Int) == 17 else false) = false ∧ RetP R (.bool false) m19))) (
 (bif t17 then (((n11 : Nat) : Int) : Int) == 2 else false) = false ∧ false = false ∧ RetP R (.bool false) m19))) (
 t17 = false ∧ false = false ∧ false = false ∧ RetP R (.bool false) m19))) : CallsA Try.prog w0 32 #[] m R :=
  callsA_of (c := c32) (args := []) (by kernel_rfl) Try.func32 (by kernel_rfl) qs32 (by kernel_rfl) (by kernel_rfl) (cast (by kernel_rfl) h)

/-! 10 delayslot/delayslotlaw11.SchedOrders -/
def qs10 : Nat → List (Nat × Nat) := fun i => match i with | _ => []
noncomputable def c10 : Code := bodyOf Try.f10
theorem cf10 (w0 : World) (m : AM) (x0 : Option Addr) (x0n x0c : Nat) (R : Value → AM → Prop) (h :
 IntKind.i64 = IntKind.i64 ∧ (bcase (decide ((((x0n : Nat) : Int) : Int) > 40)) (
 CallsA Try.prog w0 32 #[] m fun r2 m3 =>
 ∃ t1 : Bool, r2 = .bool t1 ∧ RetP R (.bool t1) m3) (
 CallsA Try.prog w0 34 #[.slice x0 x0n x0c] m fun r7 m8 =>
 ∃ (A4 : Option Addr) (n5 c6 : Nat), r7 = .slice A4 n5 c6 ∧ CallsA Try.prog w0 35 #[.slice x0 x0n x0c] m8 fun r12 m13 =>
 ∃ (A9 : Option Addr) (n10 c11 : Nat), r12 = .slice A9 n10 c11 ∧ CallsA Try.prog w0 33 #[.slice A4 n5 c6, .slice A9 n10 c11] m13 fun r15 m16 =>
 ∃ t14 : Bool, r15 = .bool t14 ∧ (bcase t14 (
 CallsA Try.prog w0 32 #[] m16 fun r18 m19 =>
 ∃ t17 : Bool, r18 = .bool t17 ∧ RetP R (.bool (bif t14 then t17 else false)) m19) (
 t14 = false ∧ RetP R (.bool false) m16))))) : CallsA Try.prog w0 10 #[.slice x0 x0n x0c] m R :=
  callsA_of (c := c10) (args := [.slice x0 x0n x0c]) (by kernel_rfl) Try.func10 (by kernel_rfl) qs10 (by kernel_rfl) (by kernel_rfl) (cast (by kernel_rfl) h)

/-! 11 delayslot/delayslotlaw11.SchedLays -/
def qs11 : Nat → List (Nat × Nat) := fun i => match i with | _ => []
noncomputable def c11 : Code := bodyOf Try.f11
theorem cf11 (w0 : World) (m : AM) (x0 : Option Addr) (x0n x0c : Nat) (x1 : Option Addr) (x1n x1c : Nat) (R : Value → AM → Prop) (h :
 IntKind.i64 = IntKind.i64 ∧ (bcase (decide ((((x0n : Nat) : Int) : Int) > 40)) (
 (decide ((((x0n : Nat) : Int) : Int) > 40)) = true ∧ CallsA Try.prog w0 32 #[] m fun r2 m3 =>
 ∃ t1 : Bool, r2 = .bool t1 ∧ RetP R (.bool t1) m3) (
 IntKind.i64 = IntKind.i64 ∧ (bcase (bif decide ((((x0n : Nat) : Int) : Int) > 40) then true else decide ((((x1n : Nat) : Int) : Int) > 100)) (
 CallsA Try.prog w0 32 #[] m fun r5 m6 =>
 ∃ t4 : Bool, r5 = .bool t4 ∧ RetP R (.bool t4) m6) (
 CallsA Try.prog w0 36 #[.slice x0 x0n x0c, .slice x1 x1n x1c] m fun r10 m11 =>
 ∃ (A7 : Option Addr) (n8 c9 : Nat), r10 = .slice A7 n8 c9 ∧ IntKind.i64 = IntKind.i64 ∧ (bcase ((((n8 : Nat) : Int) : Int) != ((x1n : Nat) : Int)) (
 RetP R (.bool false) m11) (
 vcS Try.prog w0 qs11 (sub c11 [1, 1, 1, 1, 0, 1, 0]) (upd (upd (upd (upd (upd (upd (upd (upd (upd (upd (upd (upd (upd (upd (upd (upd (upd (upd (upd (upd (upd (argS [.slice x0 x0n x0c, .slice x1 x1n x1c]) 4 (.bool false)) 9 (.slice x0 x0n x0c)) 10 (.int .i64 ((x0n : Nat) : Int))) 11 (.bool (decide ((((x0n : Nat) : Int) : Int) > 40)))) 12 (.bool (decide ((((x0n : Nat) : Int) : Int) > 40)))) 13 (.slice x1 x1n x1c)) 14 (.int .i64 ((x1n : Nat) : Int))) 15 (.bool (decide ((((x1n : Nat) : Int) : Int) > 100)))) 16 (.bool (bif decide ((((x0n : Nat) : Int) : Int) > 40) then true else decide ((((x1n : Nat) : Int) : Int) > 100)))) 18 (.slice x0 x0n x0c)) 19 (.slice x1 x1n x1c)) 20 (.slice A7 n8 c9)) 5 (.slice A7 n8 c9)) 21 (.slice A7 n8 c9)) 22 (.int .i64 ((n8 : Nat) : Int))) 23 (.slice x1 x1n x1c)) 24 (.int .i64 ((x1n : Nat) : Int))) 25 (.bool ((((n8 : Nat) : Int) : Int) != ((x1n : Nat) : Int)))) 26 (.slice x1 x1n x1c)) 27 (.int .i64 ((x1n : Nat) : Int))) 28 (.int .i64 0)) m11 (blockS 0 (thenS (fun σ m => vcS Try.prog w0 qs11 (sub c11 [1, 1, 1, 1, 1]) σ m (retQ Try.prog Try.f11 R)) (retQ Try.prog Try.f11 R)))))))))) : CallsA Try.prog w0 11 #[.slice x0 x0n x0c, .slice x1 x1n x1c] m R :=
  callsA_of (c := c11) (args := [.slice x0 x0n x0c, .slice x1 x1n x1c]) (by kernel_rfl) Try.func11 (by kernel_rfl) qs11 (by kernel_rfl) (by kernel_rfl) (cast (by kernel_rfl) h)
def lq11_1111010 (R : Value → AM → Prop) (x0 : Option Addr) (x0n x0c : Nat) (x5 : Option Addr) (x5n x5c : Nat) (x26 : Option Addr) (x26n x26c : Nat) (x27 : Int) (I0 : Nat → Int → AM → Prop) (E0_0 : AM → Prop) (n0 : Nat) : Exit → Sg → AM → Prop
  | .normal, σ, m => σ 0 = .slice x0 x0n x0c ∧ σ 5 = .slice x5 x5n x5c ∧ σ 26 = .slice x26 x26n x26c ∧ σ 27 = .int .i64 x27 ∧ okI .i64 (σ 28) = true ∧ ∃ n' : Nat, n' < n0 ∧ I0 n' (vI (σ 28)) m
  | .exit id, σ, m => if id = 0 then σ 0 = .slice x0 x0n x0c ∧ σ 5 = .slice x5 x5n x5c ∧ σ 26 = .slice x26 x26n x26c ∧ σ 27 = .int .i64 x27 ∧ E0_0  m else False
  | .ret, σ, m => retQ Try.prog Try.f11 R .ret σ m
  | _, _, _ => False
theorem vl11_1111010 (w0 : World) (m : AM) (σ : Sg) (R : Value → AM → Prop)  (x0 : Option Addr) (x0n x0c : Nat) (x5 : Option Addr) (x5n x5c : Nat) (x26 : Option Addr) (x26n x26c : Nat) (x27 : Int) (x28 : Int) (I0 : Nat → Int → AM → Prop) (E0_0 : AM → Prop) (N : Nat) (h0 : σ 0 = .slice x0 x0n x0c) (h5 : σ 5 = .slice x5 x5n x5c) (h26 : σ 26 = .slice x26 x26n x26c) (h27 : σ 27 = .int .i64 x27) (h28 : σ 28 = .int .i64 x28)
 (h_0 : I0 N x28 m)
 (h_s : ∀ (n0 : Nat) (σ : Sg) (x28 : Int) (m : AM), I0 n0 x28 m → (
 IntKind.i64 = IntKind.i64 ∧ (bcase (decide ((x28 : Int) < x27)) (
 ((0 : Int) ≤ x28 ∧ x28 < ((x26n : Nat) : Int)) ∧ nilO x26 fun a12 =>
 ∃ i13 : Int, m.cell (a12.add ((x28 : Int).toNat * 1)) = some (.int .i64 i13) ∧ 
 true = true ∧ ∀ b14 : Nat, w0.heap.size ≤ b14 → m b14 = none → let m15 := AM.upd m b14 (.cells #[.int .i64 0, .int .i64 0, .int .i64 0, .int .i64 0, .int .i64 0] 24);
 StC w0.heap.size m15 ⟨b14, 0, none⟩ (.int .i64 0) fun m16 =>
 StC w0.heap.size m16 ⟨b14, 1, none⟩ (.int .i64 0) fun m17 =>
 StC w0.heap.size m17 ⟨b14, 2, none⟩ (.int .i64 0) fun m18 =>
 StC w0.heap.size m18 ⟨b14, 3, none⟩ (.int .i64 0) fun m19 =>
 StC w0.heap.size m19 ⟨b14, 4, none⟩ (.int .i64 0) fun m20 =>
 IntKind.i64 = IntKind.i64 ∧ (bcase (decide ((i13 : Int) ≥ 0)) (
 IntKind.i64 = IntKind.i64 ∧ (bcase (bif decide ((i13 : Int) ≥ 0) then decide ((i13 : Int) < ((x0n : Nat) : Int)) else false) (
 ((0 : Int) ≤ i13 ∧ i13 < ((x0n : Nat) : Int)) ∧ nilO x0 fun a21 =>
 ∃ i22 : Int, m20.cell (a21.add ((i13 : Int).toNat * 5)) = some (.int .i64 i22) ∧ ∃ i23 : Int, m20.cell ((a21.add ((i13 : Int).toNat * 5)).add 1) = some (.int .i64 i23) ∧ ∃ i24 : Int, m20.cell ((a21.add ((i13 : Int).toNat * 5)).add 2) = some (.int .i64 i24) ∧ ∃ i25 : Int, m20.cell ((a21.add ((i13 : Int).toNat * 5)).add 3) = some (.int .i64 i25) ∧ ∃ i26 : Int, m20.cell ((a21.add ((i13 : Int).toNat * 5)).add 4) = some (.int .i64 i26) ∧ 
 StC w0.heap.size m20 ⟨b14, 0, none⟩ (.int .i64 i22) fun m27 =>
 StC w0.heap.size m27 ⟨b14, 1, none⟩ (.int .i64 i23) fun m28 =>
 StC w0.heap.size m28 ⟨b14, 2, none⟩ (.int .i64 i24) fun m29 =>
 StC w0.heap.size m29 ⟨b14, 3, none⟩ (.int .i64 i25) fun m30 =>
 StC w0.heap.size m30 ⟨b14, 4, none⟩ (.int .i64 i26) fun m31 =>
 ((0 : Int) ≤ x28 ∧ x28 < ((x5n : Nat) : Int)) ∧ nilO x5 fun a32 =>
 ∃ i33 : Int, m31.cell (a32.add ((x28 : Int).toNat * 5)) = some (.int .i64 i33) ∧ ∃ i34 : Int, m31.cell ((a32.add ((x28 : Int).toNat * 5)).add 1) = some (.int .i64 i34) ∧ ∃ i35 : Int, m31.cell ((a32.add ((x28 : Int).toNat * 5)).add 2) = some (.int .i64 i35) ∧ ∃ i36 : Int, m31.cell ((a32.add ((x28 : Int).toNat * 5)).add 3) = some (.int .i64 i36) ∧ ∃ i37 : Int, m31.cell ((a32.add ((x28 : Int).toNat * 5)).add 4) = some (.int .i64 i37) ∧ 
 ∃ i38 : Int, m31.cell ⟨b14, 0, none⟩ = some (.int .i64 i38) ∧ ∃ i39 : Int, m31.cell ⟨b14, 1, none⟩ = some (.int .i64 i39) ∧ ∃ i40 : Int, m31.cell ⟨b14, 2, none⟩ = some (.int .i64 i40) ∧ ∃ i41 : Int, m31.cell ⟨b14, 3, none⟩ = some (.int .i64 i41) ∧ ∃ i42 : Int, m31.cell ⟨b14, 4, none⟩ = some (.int .i64 i42) ∧ 
 ∃ t43 : Bool, EqP Try.prog .neq 24 (.agg #[.int .i64 i33, .int .i64 i34, .int .i64 i35, .int .i64 i36, .int .i64 i37]) (.agg #[.int .i64 i38, .int .i64 i39, .int .i64 i40, .int .i64 i41, .int .i64 i42]) t43 ∧ (bcase t43 (
 RetP R (.bool false) m31) (
 IntKind.i64 = IntKind.i64 ∧ (.slice x0 x0n x0c : Value) = .slice x0 x0n x0c ∧ (.slice x5 x5n x5c : Value) = .slice x5 x5n x5c ∧ (.slice x26 x26n x26c : Value) = .slice x26 x26n x26c ∧ (.int .i64 x27 : Value) = .int .i64 x27 ∧ true = true ∧ ∃ n' : Nat, n' < n0 ∧ I0 n' (IntKind.wrap .i64 (x28 + 1)) m31))) (
 ((0 : Int) ≤ x28 ∧ x28 < ((x5n : Nat) : Int)) ∧ nilO x5 fun a44 =>
 ∃ i45 : Int, m20.cell (a44.add ((x28 : Int).toNat * 5)) = some (.int .i64 i45) ∧ ∃ i46 : Int, m20.cell ((a44.add ((x28 : Int).toNat * 5)).add 1) = some (.int .i64 i46) ∧ ∃ i47 : Int, m20.cell ((a44.add ((x28 : Int).toNat * 5)).add 2) = some (.int .i64 i47) ∧ ∃ i48 : Int, m20.cell ((a44.add ((x28 : Int).toNat * 5)).add 3) = some (.int .i64 i48) ∧ ∃ i49 : Int, m20.cell ((a44.add ((x28 : Int).toNat * 5)).add 4) = some (.int .i64 i49) ∧ 
 ∃ i50 : Int, m20.cell ⟨b14, 0, none⟩ = some (.int .i64 i50) ∧ ∃ i51 : Int, m20.cell ⟨b14, 1, none⟩ = some (.int .i64 i51) ∧ ∃ i52 : Int, m20.cell ⟨b14, 2, none⟩ = some (.int .i64 i52) ∧ ∃ i53 : Int, m20.cell ⟨b14, 3, none⟩ = some (.int .i64 i53) ∧ ∃ i54 : Int, m20.cell ⟨b14, 4, none⟩ = some (.int .i64 i54) ∧ 
 ∃ t55 : Bool, EqP Try.prog .neq 24 (.agg #[.int .i64 i45, .int .i64 i46, .int .i64 i47, .int .i64 i48, .int .i64 i49]) (.agg #[.int .i64 i50, .int .i64 i51, .int .i64 i52, .int .i64 i53, .int .i64 i54]) t55 ∧ (bcase t55 (
 RetP R (.bool false) m20) (
 IntKind.i64 = IntKind.i64 ∧ (.slice x0 x0n x0c : Value) = .slice x0 x0n x0c ∧ (.slice x5 x5n x5c : Value) = .slice x5 x5n x5c ∧ (.slice x26 x26n x26c : Value) = .slice x26 x26n x26c ∧ (.int .i64 x27 : Value) = .int .i64 x27 ∧ true = true ∧ ∃ n' : Nat, n' < n0 ∧ I0 n' (IntKind.wrap .i64 (x28 + 1)) m20))))) (
 (decide ((i13 : Int) ≥ 0)) = false ∧ ((0 : Int) ≤ x28 ∧ x28 < ((x5n : Nat) : Int)) ∧ nilO x5 fun a56 =>
 ∃ i57 : Int, m20.cell (a56.add ((x28 : Int).toNat * 5)) = some (.int .i64 i57) ∧ ∃ i58 : Int, m20.cell ((a56.add ((x28 : Int).toNat * 5)).add 1) = some (.int .i64 i58) ∧ ∃ i59 : Int, m20.cell ((a56.add ((x28 : Int).toNat * 5)).add 2) = some (.int .i64 i59) ∧ ∃ i60 : Int, m20.cell ((a56.add ((x28 : Int).toNat * 5)).add 3) = some (.int .i64 i60) ∧ ∃ i61 : Int, m20.cell ((a56.add ((x28 : Int).toNat * 5)).add 4) = some (.int .i64 i61) ∧ 
 ∃ i62 : Int, m20.cell ⟨b14, 0, none⟩ = some (.int .i64 i62) ∧ ∃ i63 : Int, m20.cell ⟨b14, 1, none⟩ = some (.int .i64 i63) ∧ ∃ i64 : Int, m20.cell ⟨b14, 2, none⟩ = some (.int .i64 i64) ∧ ∃ i65 : Int, m20.cell ⟨b14, 3, none⟩ = some (.int .i64 i65) ∧ ∃ i66 : Int, m20.cell ⟨b14, 4, none⟩ = some (.int .i64 i66) ∧ 
 ∃ t67 : Bool, EqP Try.prog .neq 24 (.agg #[.int .i64 i57, .int .i64 i58, .int .i64 i59, .int .i64 i60, .int .i64 i61]) (.agg #[.int .i64 i62, .int .i64 i63, .int .i64 i64, .int .i64 i65, .int .i64 i66]) t67 ∧ (bcase t67 (
 RetP R (.bool false) m20) (
 IntKind.i64 = IntKind.i64 ∧ (.slice x0 x0n x0c : Value) = .slice x0 x0n x0c ∧ (.slice x5 x5n x5c : Value) = .slice x5 x5n x5c ∧ (.slice x26 x26n x26c : Value) = .slice x26 x26n x26c ∧ (.int .i64 x27 : Value) = .int .i64 x27 ∧ true = true ∧ ∃ n' : Nat, n' < n0 ∧ I0 n' (IntKind.wrap .i64 (x28 + 1)) m20))))) (
 (.slice x0 x0n x0c : Value) = .slice x0 x0n x0c ∧ (.slice x5 x5n x5c : Value) = .slice x5 x5n x5c ∧ (.slice x26 x26n x26c : Value) = .slice x26 x26n x26c ∧ (.int .i64 x27 : Value) = .int .i64 x27 ∧ E0_0  m))))
 (h_e0 : ∀ (σ : Sg)  (m : AM), E0_0  m → (
 CallsA Try.prog w0 37 #[.slice x0 x0n x0c] m fun r71 m72 =>
 ∃ (A68 : Option Addr) (n69 c70 : Nat), r71 = .slice A68 n69 c70 ∧ CallsA Try.prog w0 38 #[.slice x0 x0n x0c] m72 fun r76 m77 =>
 ∃ (A73 : Option Addr) (n74 c75 : Nat), r76 = .slice A73 n74 c75 ∧ CallsA Try.prog w0 33 #[.slice A68 n69 c70, .slice A73 n74 c75] m77 fun r79 m80 =>
 ∃ t78 : Bool, r79 = .bool t78 ∧ (bcase t78 (
 CallsA Try.prog w0 32 #[] m80 fun r82 m83 =>
 ∃ t81 : Bool, r82 = .bool t81 ∧ RetP R (.bool (bif t78 then t81 else false)) m83) (
 t78 = false ∧ RetP R (.bool false) m80)))) :
 vcS Try.prog w0 qs11 (sub c11 [1, 1, 1, 1, 0, 1, 0]) σ m (blockS 0 (thenS (fun σ m => vcS Try.prog w0 qs11 (sub c11 [1, 1, 1, 1, 1]) σ m (retQ Try.prog Try.f11 R)) (retQ Try.prog Try.f11 R))) := by
  rw [show sub c11 [1, 1, 1, 1, 0, 1, 0] = .loop (sub c11 [1, 1, 1, 1, 0, 1, 0, 0]) from by kernel_rfl]
  refine loopQ (fun n0 σ m => σ 0 = .slice x0 x0n x0c ∧ σ 5 = .slice x5 x5n x5c ∧ σ 26 = .slice x26 x26n x26c ∧ σ 27 = .int .i64 x27 ∧ okI .i64 (σ 28) = true ∧ I0 n0 (vI (σ 28)) m) N (fun n0 => (lq11_1111010 R x0 x0n x0c x5 x5n x5c x26 x26n x26c x27 I0 E0_0 n0)) ⟨h0, h5, h26, h27, (by rw [h28]; rfl), (by rw [h28]; exact h_0)⟩ ?_ ?_ ?_
  · rintro n0 σ m ⟨kk0, kk1, kk2, kk3, kk4, n', hlt, hI⟩; exact ⟨n', hlt, kk0, kk1, kk2, kk3, kk4, hI⟩
  · intro n0 e σ m hne h
    cases e with
    | normal => exact absurd rfl hne
    | ret => exact h
    | exit id =>
      by_cases e0 : id = 0
      · subst e0
        obtain ⟨kk0, kk1, kk2, kk3, hE⟩ := h
        have es : (upd (upd (upd (upd σ 0 (.slice x0 x0n x0c)) 5 (.slice x5 x5n x5c)) 26 (.slice x26 x26n x26c)) 27 (.int .i64 x27)) = σ := by rw [upd_id kk0, upd_id kk1, upd_id kk2, upd_id kk3]
        exact cast (congrArg (fun s => (blockS 0 (thenS (fun σ m => vcS Try.prog w0 qs11 (sub c11 [1, 1, 1, 1, 1]) σ m (retQ Try.prog Try.f11 R)) (retQ Try.prog Try.f11 R))) (.exit 0) s m) es) (cast (by kernel_rfl) (h_e0 σ  m hE))
      · replace h := (if_neg e0 : (if id = 0 then _ else _) = _).mp h
        exact False.elim h
    | _ => exact False.elim h
  · rintro n0 σ m ⟨kk0, kk1, kk2, kk3, kk4, hI⟩
    have es : (upd (upd (upd (upd (upd σ 0 (.slice x0 x0n x0c)) 5 (.slice x5 x5n x5c)) 26 (.slice x26 x26n x26c)) 27 (.int .i64 x27)) 28 (.int .i64 (vI (σ 28)))) = σ := by rw [upd_id kk0, upd_id kk1, upd_id kk2, upd_id kk3, upd_id (ok_int kk4)]
    exact cast (congrArg (fun s => vcS Try.prog w0 qs11 (sub c11 [1, 1, 1, 1, 0, 1, 0, 0]) s m (lq11_1111010 R x0 x0n x0c x5 x5n x5c x26 x26n x26c x27 I0 E0_0 n0)) es) (cast (by kernel_rfl) (h_s n0 σ (vI (σ 28)) m hI))

/-! 12 delayslot/delayslotlaw11.SchedKeeps -/
def qs12 : Nat → List (Nat × Nat) := fun i => match i with | _ => []
noncomputable def c12 : Code := bodyOf Try.f12
theorem cf12 (w0 : World) (m : AM) (x0 : Option Addr) (x0n x0c : Nat) (R : Value → AM → Prop) (h :
 IntKind.i64 = IntKind.i64 ∧ (bcase (decide ((((x0n : Nat) : Int) : Int) > 40)) (
 CallsA Try.prog w0 32 #[] m fun r2 m3 =>
 ∃ t1 : Bool, r2 = .bool t1 ∧ RetP R (.bool t1) m3) (
 CallsA Try.prog w0 34 #[.slice x0 x0n x0c] m fun r7 m8 =>
 ∃ (A4 : Option Addr) (n5 c6 : Nat), r7 = .slice A4 n5 c6 ∧ CallsA Try.prog w0 39 #[.slice x0 x0n x0c, .slice A4 n5 c6] m8 fun r10 m11 =>
 ∃ t9 : Bool, r10 = .bool t9 ∧ (bcase (!t9) (
 (!t9) = true ∧ true = true ∧ RetP R (.bool false) m11) (
 IntKind.i64 = IntKind.i64 ∧ IntKind.i64 = IntKind.i64 ∧ (bcase (bif !t9 then true else decide ((((n5 : Nat) : Int) : Int) > (IntKind.wrap .i64 (2 * ((x0n : Nat) : Int))))) (
 (bif !t9 then true else decide ((((n5 : Nat) : Int) : Int) > (IntKind.wrap .i64 (2 * ((x0n : Nat) : Int))))) = true ∧ RetP R (.bool false) m11) (
 IntKind.i64 = IntKind.i64 ∧ (bcase (decide ((((n5 : Nat) : Int) : Int) > 0)) (
 IntKind.i64 = IntKind.i64 ∧ ((0 : Int) ≤ (IntKind.wrap .i64 (((n5 : Nat) : Int) - 1)) ∧ (IntKind.wrap .i64 (((n5 : Nat) : Int) - 1)) < ((n5 : Nat) : Int)) ∧ nilO A4 fun a12 =>
 ∃ i13 : Int, m11.cell (a12.add ((IntKind.wrap .i64 (((n5 : Nat) : Int) - 1) : Int).toNat * 1)) = some (.int .i64 i13) ∧ 
 IntKind.i64 = IntKind.i64 ∧ (bcase (bif bif !t9 then true else decide ((((n5 : Nat) : Int) : Int) > (IntKind.wrap .i64 (2 * ((x0n : Nat) : Int)))) then true else bif decide ((((n5 : Nat) : Int) : Int) > 0) then decide ((i13 : Int) < 0) else false) (
 RetP R (.bool false) m11) (
 vcS Try.prog w0 qs12 (sub c12 [1, 1, 1, 1, 0, 1, 0]) (upd (upd (upd (upd (upd (upd (upd (upd (upd (upd (upd (upd (upd (upd (upd (upd (upd (upd (upd (upd (upd (upd (upd (upd (upd (upd (upd (upd (upd (upd (upd (upd (upd (upd (argS [.slice x0 x0n x0c]) 2 (.bool false)) 5 (.slice x0 x0n x0c)) 6 (.int .i64 ((x0n : Nat) : Int))) 7 (.bool (decide ((((x0n : Nat) : Int) : Int) > 40)))) 9 (.slice x0 x0n x0c)) 10 (.slice A4 n5 c6)) 3 (.slice A4 n5 c6)) 11 (.slice x0 x0n x0c)) 12 (.slice A4 n5 c6)) 13 (.bool t9)) 14 (.bool (!t9))) 15 (.bool (!t9))) 16 (.slice A4 n5 c6)) 17 (.int .i64 ((n5 : Nat) : Int))) 18 (.slice x0 x0n x0c)) 19 (.int .i64 ((x0n : Nat) : Int))) 20 (.int .i64 (IntKind.wrap .i64 (2 * ((x0n : Nat) : Int))))) 21 (.bool (decide ((((n5 : Nat) : Int) : Int) > (IntKind.wrap .i64 (2 * ((x0n : Nat) : Int))))))) 22 (.bool (bif !t9 then true else decide ((((n5 : Nat) : Int) : Int) > (IntKind.wrap .i64 (2 * ((x0n : Nat) : Int))))))) 23 (.bool (bif !t9 then true else decide ((((n5 : Nat) : Int) : Int) > (IntKind.wrap .i64 (2 * ((x0n : Nat) : Int))))))) 24 (.slice A4 n5 c6)) 25 (.int .i64 ((n5 : Nat) : Int))) 26 (.bool (decide ((((n5 : Nat) : Int) : Int) > 0)))) 27 (.bool (decide ((((n5 : Nat) : Int) : Int) > 0)))) 28 (.slice A4 n5 c6)) 29 (.slice A4 n5 c6)) 30 (.int .i64 ((n5 : Nat) : Int))) 31 (.int .i64 (IntKind.wrap .i64 (((n5 : Nat) : Int) - 1)))) 32 (.pointer (some (a12.add ((IntKind.wrap .i64 (((n5 : Nat) : Int) - 1) : Int).toNat * 1))))) 33 (.int .i64 i13)) 34 (.bool (decide ((i13 : Int) < 0)))) 35 (.bool (bif decide ((((n5 : Nat) : Int) : Int) > 0) then decide ((i13 : Int) < 0) else false))) 36 (.bool (bif bif !t9 then true else decide ((((n5 : Nat) : Int) : Int) > (IntKind.wrap .i64 (2 * ((x0n : Nat) : Int)))) then true else bif decide ((((n5 : Nat) : Int) : Int) > 0) then decide ((i13 : Int) < 0) else false))) 4 (.int .i64 1)) m11 (blockS 0 (thenS (fun σ m => vcS Try.prog w0 qs12 (sub c12 [1, 1, 1, 1, 1]) σ m (retQ Try.prog Try.f12 R)) (retQ Try.prog Try.f12 R)))))) (
 (decide ((((n5 : Nat) : Int) : Int) > 0)) = false ∧ (bcase (bif bif !t9 then true else decide ((((n5 : Nat) : Int) : Int) > (IntKind.wrap .i64 (2 * ((x0n : Nat) : Int)))) then true else false) (
 RetP R (.bool false) m11) (
 vcS Try.prog w0 qs12 (sub c12 [1, 1, 1, 1, 0, 1, 0]) (upd (upd (upd (upd (upd (upd (upd (upd (upd (upd (upd (upd (upd (upd (upd (upd (upd (upd (upd (upd (upd (upd (upd (upd (upd (upd (upd (upd (upd (upd (upd (upd (upd (upd (argS [.slice x0 x0n x0c]) 2 (.bool false)) 5 (.slice x0 x0n x0c)) 6 (.int .i64 ((x0n : Nat) : Int))) 7 (.bool (decide ((((x0n : Nat) : Int) : Int) > 40)))) 9 (.slice x0 x0n x0c)) 10 (.slice A4 n5 c6)) 3 (.slice A4 n5 c6)) 11 (.slice x0 x0n x0c)) 12 (.slice A4 n5 c6)) 13 (.bool t9)) 14 (.bool (!t9))) 15 (.bool (!t9))) 16 (.slice A4 n5 c6)) 17 (.int .i64 ((n5 : Nat) : Int))) 18 (.slice x0 x0n x0c)) 19 (.int .i64 ((x0n : Nat) : Int))) 20 (.int .i64 (IntKind.wrap .i64 (2 * ((x0n : Nat) : Int))))) 21 (.bool (decide ((((n5 : Nat) : Int) : Int) > (IntKind.wrap .i64 (2 * ((x0n : Nat) : Int))))))) 22 (.bool (bif !t9 then true else decide ((((n5 : Nat) : Int) : Int) > (IntKind.wrap .i64 (2 * ((x0n : Nat) : Int))))))) 23 (.bool (bif !t9 then true else decide ((((n5 : Nat) : Int) : Int) > (IntKind.wrap .i64 (2 * ((x0n : Nat) : Int))))))) 24 (.slice A4 n5 c6)) 25 (.int .i64 ((n5 : Nat) : Int))) 26 (.bool (decide ((((n5 : Nat) : Int) : Int) > 0)))) 27 (.bool (decide ((((n5 : Nat) : Int) : Int) > 0)))) 28 (undef)) 29 (undef)) 30 (undef)) 31 (undef)) 32 (undef)) 33 (undef)) 34 (undef)) 35 (.bool false)) 36 (.bool (bif bif !t9 then true else decide ((((n5 : Nat) : Int) : Int) > (IntKind.wrap .i64 (2 * ((x0n : Nat) : Int)))) then true else false))) 4 (.int .i64 1)) m11 (blockS 0 (thenS (fun σ m => vcS Try.prog w0 qs12 (sub c12 [1, 1, 1, 1, 1]) σ m (retQ Try.prog Try.f12 R)) (retQ Try.prog Try.f12 R)))))))))))))) : CallsA Try.prog w0 12 #[.slice x0 x0n x0c] m R :=
  callsA_of (c := c12) (args := [.slice x0 x0n x0c]) (by kernel_rfl) Try.func12 (by kernel_rfl) qs12 (by kernel_rfl) (by kernel_rfl) (cast (by kernel_rfl) h)
def lq12_1111010 (R : Value → AM → Prop) (x3 : Option Addr) (x3n x3c : Nat) (I0 : Nat → Int → AM → Prop) (E0_0 : AM → Prop) (n0 : Nat) : Exit → Sg → AM → Prop
  | .normal, σ, m => σ 3 = .slice x3 x3n x3c ∧ okI .i64 (σ 4) = true ∧ ∃ n' : Nat, n' < n0 ∧ I0 n' (vI (σ 4)) m
  | .exit id, σ, m => if id = 0 then σ 3 = .slice x3 x3n x3c ∧ E0_0  m else False
  | .ret, σ, m => retQ Try.prog Try.f12 R .ret σ m
  | _, _, _ => False
theorem vl12_1111010 (w0 : World) (m : AM) (σ : Sg) (R : Value → AM → Prop)  (x3 : Option Addr) (x3n x3c : Nat) (x4 : Int) (I0 : Nat → Int → AM → Prop) (E0_0 : AM → Prop) (N : Nat) (h3 : σ 3 = .slice x3 x3n x3c) (h4 : σ 4 = .int .i64 x4)
 (h_0 : I0 N x4 m)
 (h_s : ∀ (n0 : Nat) (σ : Sg) (x4 : Int) (m : AM), I0 n0 x4 m → (
 IntKind.i64 = IntKind.i64 ∧ (bcase (decide ((x4 : Int) < ((x3n : Nat) : Int))) (
 ((0 : Int) ≤ x4 ∧ x4 < ((x3n : Nat) : Int)) ∧ nilO x3 fun a14 =>
 ∃ i15 : Int, m.cell (a14.add ((x4 : Int).toNat * 1)) = some (.int .i64 i15) ∧ 
 IntKind.i64 = IntKind.i64 ∧ (bcase (decide ((i15 : Int) < 0)) (
 IntKind.i64 = IntKind.i64 ∧ ((0 : Int) ≤ (IntKind.wrap .i64 (x4 - 1)) ∧ (IntKind.wrap .i64 (x4 - 1)) < ((x3n : Nat) : Int)) ∧ nilO x3 fun a16 =>
 ∃ i17 : Int, m.cell (a16.add ((IntKind.wrap .i64 (x4 - 1) : Int).toNat * 1)) = some (.int .i64 i17) ∧ 
 IntKind.i64 = IntKind.i64 ∧ (bcase (bif decide ((i15 : Int) < 0) then decide ((i17 : Int) < 0) else false) (
 RetP R (.bool false) m) (
 IntKind.i64 = IntKind.i64 ∧ (.slice x3 x3n x3c : Value) = .slice x3 x3n x3c ∧ true = true ∧ ∃ n' : Nat, n' < n0 ∧ I0 n' (IntKind.wrap .i64 (x4 + 1)) m))) (
 (decide ((i15 : Int) < 0)) = false ∧ IntKind.i64 = IntKind.i64 ∧ (.slice x3 x3n x3c : Value) = .slice x3 x3n x3c ∧ true = true ∧ ∃ n' : Nat, n' < n0 ∧ I0 n' (IntKind.wrap .i64 (x4 + 1)) m))) (
 (.slice x3 x3n x3c : Value) = .slice x3 x3n x3c ∧ E0_0  m))))
 (h_e0 : ∀ (σ : Sg)  (m : AM), E0_0  m → (
 CallsA Try.prog w0 32 #[] m fun r19 m20 =>
 ∃ t18 : Bool, r19 = .bool t18 ∧ RetP R (.bool t18) m20)) :
 vcS Try.prog w0 qs12 (sub c12 [1, 1, 1, 1, 0, 1, 0]) σ m (blockS 0 (thenS (fun σ m => vcS Try.prog w0 qs12 (sub c12 [1, 1, 1, 1, 1]) σ m (retQ Try.prog Try.f12 R)) (retQ Try.prog Try.f12 R))) := by
  rw [show sub c12 [1, 1, 1, 1, 0, 1, 0] = .loop (sub c12 [1, 1, 1, 1, 0, 1, 0, 0]) from by kernel_rfl]
  refine loopQ (fun n0 σ m => σ 3 = .slice x3 x3n x3c ∧ okI .i64 (σ 4) = true ∧ I0 n0 (vI (σ 4)) m) N (fun n0 => (lq12_1111010 R x3 x3n x3c I0 E0_0 n0)) ⟨h3, (by rw [h4]; rfl), (by rw [h4]; exact h_0)⟩ ?_ ?_ ?_
  · rintro n0 σ m ⟨kk0, kk1, n', hlt, hI⟩; exact ⟨n', hlt, kk0, kk1, hI⟩
  · intro n0 e σ m hne h
    cases e with
    | normal => exact absurd rfl hne
    | ret => exact h
    | exit id =>
      by_cases e0 : id = 0
      · subst e0
        obtain ⟨kk0, hE⟩ := h
        have es : (upd σ 3 (.slice x3 x3n x3c)) = σ := by rw [upd_id kk0]
        exact cast (congrArg (fun s => (blockS 0 (thenS (fun σ m => vcS Try.prog w0 qs12 (sub c12 [1, 1, 1, 1, 1]) σ m (retQ Try.prog Try.f12 R)) (retQ Try.prog Try.f12 R))) (.exit 0) s m) es) (cast (by kernel_rfl) (h_e0 σ  m hE))
      · replace h := (if_neg e0 : (if id = 0 then _ else _) = _).mp h
        exact False.elim h
    | _ => exact False.elim h
  · rintro n0 σ m ⟨kk0, kk1, hI⟩
    have es : (upd (upd σ 3 (.slice x3 x3n x3c)) 4 (.int .i64 (vI (σ 4)))) = σ := by rw [upd_id kk0, upd_id (ok_int kk1)]
    exact cast (congrArg (fun s => vcS Try.prog w0 qs12 (sub c12 [1, 1, 1, 1, 0, 1, 0, 0]) s m (lq12_1111010 R x3 x3n x3c I0 E0_0 n0)) es) (cast (by kernel_rfl) (h_s n0 σ (vI (σ 4)) m hI))

/-! 13 delayslot/delayslotlaw11.SchedSlots -/
def qs13 : Nat → List (Nat × Nat) := fun i => match i with | _ => []
noncomputable def c13 : Code := bodyOf Try.f13
theorem cf13 (w0 : World) (m : AM) (x0 : Option Addr) (x0n x0c : Nat) (R : Value → AM → Prop) (h :
 vcS Try.prog w0 qs13 (sub c13 [1, 0, 1, 0]) (upd (upd (upd (upd (argS [.slice x0 x0n x0c]) 2 (.bool false)) 12 (.slice x0 x0n x0c)) 13 (.int .i64 ((x0n : Nat) : Int))) 14 (.int .i64 0)) m (blockS 0 (thenS (fun σ m => vcS Try.prog w0 qs13 (sub c13 [1, 1]) σ m (retQ Try.prog Try.f13 R)) (retQ Try.prog Try.f13 R)))) : CallsA Try.prog w0 13 #[.slice x0 x0n x0c] m R :=
  callsA_of (c := c13) (args := [.slice x0 x0n x0c]) (by kernel_rfl) Try.func13 (by kernel_rfl) qs13 (by kernel_rfl) (by kernel_rfl) (cast (by kernel_rfl) h)
def lq13_1010 (R : Value → AM → Prop) (x0 : Option Addr) (x0n x0c : Nat) (x12 : Option Addr) (x12n x12c : Nat) (x13 : Int) (I0 : Nat → Int → AM → Prop) (E0_0 : AM → Prop) (n0 : Nat) : Exit → Sg → AM → Prop
  | .normal, σ, m => σ 0 = .slice x0 x0n x0c ∧ σ 12 = .slice x12 x12n x12c ∧ σ 13 = .int .i64 x13 ∧ okI .i64 (σ 14) = true ∧ ∃ n' : Nat, n' < n0 ∧ I0 n' (vI (σ 14)) m
  | .exit id, σ, m => if id = 0 then σ 0 = .slice x0 x0n x0c ∧ σ 12 = .slice x12 x12n x12c ∧ σ 13 = .int .i64 x13 ∧ E0_0  m else False
  | .ret, σ, m => retQ Try.prog Try.f13 R .ret σ m
  | _, _, _ => False
theorem vl13_1010 (w0 : World) (m : AM) (σ : Sg) (R : Value → AM → Prop)  (x0 : Option Addr) (x0n x0c : Nat) (x12 : Option Addr) (x12n x12c : Nat) (x13 : Int) (x14 : Int) (I0 : Nat → Int → AM → Prop) (E0_0 : AM → Prop) (N : Nat) (h0 : σ 0 = .slice x0 x0n x0c) (h12 : σ 12 = .slice x12 x12n x12c) (h13 : σ 13 = .int .i64 x13) (h14 : σ 14 = .int .i64 x14)
 (h_0 : I0 N x14 m)
 (h_s : ∀ (n0 : Nat) (σ : Sg) (x14 : Int) (m : AM), I0 n0 x14 m → (
 IntKind.i64 = IntKind.i64 ∧ (bcase (decide ((x14 : Int) < x13)) (
 ((0 : Int) ≤ x14 ∧ x14 < ((x12n : Nat) : Int)) ∧ nilO x12 fun a1 =>
 ∃ i2 : Int, m.cell (a1.add ((x14 : Int).toNat * 5)) = some (.int .i64 i2) ∧ ∃ i3 : Int, m.cell ((a1.add ((x14 : Int).toNat * 5)).add 1) = some (.int .i64 i3) ∧ ∃ i4 : Int, m.cell ((a1.add ((x14 : Int).toNat * 5)).add 2) = some (.int .i64 i4) ∧ ∃ i5 : Int, m.cell ((a1.add ((x14 : Int).toNat * 5)).add 3) = some (.int .i64 i5) ∧ ∃ i6 : Int, m.cell ((a1.add ((x14 : Int).toNat * 5)).add 4) = some (.int .i64 i6) ∧ 
 ∀ b7 : Nat, w0.heap.size ≤ b7 → m b7 = none → let m8 := AM.upd m b7 (.cells #[.int .i64 0, .int .i64 0, .int .i64 0, .int .i64 0, .int .i64 0] 24);
 StC w0.heap.size m8 ⟨b7, 0, none⟩ (.int .i64 i2) fun m9 =>
 StC w0.heap.size m9 ⟨b7, 1, none⟩ (.int .i64 i3) fun m10 =>
 StC w0.heap.size m10 ⟨b7, 2, none⟩ (.int .i64 i4) fun m11 =>
 StC w0.heap.size m11 ⟨b7, 3, none⟩ (.int .i64 i5) fun m12 =>
 StC w0.heap.size m12 ⟨b7, 4, none⟩ (.int .i64 i6) fun m13 =>
 IntKind.i64 = IntKind.i64 ∧ (bcase (decide ((((x0n : Nat) : Int) : Int) > 40)) (
 (decide ((((x0n : Nat) : Int) : Int) > 40)) = true ∧ CallsA Try.prog w0 32 #[] m13 fun r15 m16 =>
 ∃ t14 : Bool, r15 = .bool t14 ∧ RetP R (.bool t14) m16) (
 IntKind.i64 = IntKind.i64 ∧ IntKind.i64 = IntKind.i64 ∧ (bcase (decide ((x14 : Int) < (IntKind.wrap .i64 (((x0n : Nat) : Int) - 1)))) (
 ∃ i17 : Int, m13.cell ⟨b7, 0, none⟩ = some (.int .i64 i17) ∧ ∃ i18 : Int, m13.cell ⟨b7, 1, none⟩ = some (.int .i64 i18) ∧ ∃ i19 : Int, m13.cell ⟨b7, 2, none⟩ = some (.int .i64 i19) ∧ ∃ i20 : Int, m13.cell ⟨b7, 3, none⟩ = some (.int .i64 i20) ∧ ∃ i21 : Int, m13.cell ⟨b7, 4, none⟩ = some (.int .i64 i21) ∧ 
 CallsA Try.prog w0 30 #[.agg #[.int .i64 i17, .int .i64 i18, .int .i64 i19, .int .i64 i20, .int .i64 i21]] m13 fun r23 m24 =>
 ∃ t22 : Bool, r23 = .bool t22 ∧ (bcase (bif decide ((((x0n : Nat) : Int) : Int) > 40) then true else bif decide ((x14 : Int) < (IntKind.wrap .i64 (((x0n : Nat) : Int) - 1))) then t22 else false) (
 CallsA Try.prog w0 32 #[] m24 fun r26 m27 =>
 ∃ t25 : Bool, r26 = .bool t25 ∧ RetP R (.bool t25) m27) (
 IntKind.i64 = IntKind.i64 ∧ (.slice x0 x0n x0c : Value) = .slice x0 x0n x0c ∧ (.slice x12 x12n x12c : Value) = .slice x12 x12n x12c ∧ (.int .i64 x13 : Value) = .int .i64 x13 ∧ true = true ∧ ∃ n' : Nat, n' < n0 ∧ I0 n' (IntKind.wrap .i64 (x14 + 1)) m24))) (
 (decide ((x14 : Int) < (IntKind.wrap .i64 (((x0n : Nat) : Int) - 1)))) = false ∧ (bcase (bif decide ((((x0n : Nat) : Int) : Int) > 40) then true else false) (
 CallsA Try.prog w0 32 #[] m13 fun r29 m30 =>
 ∃ t28 : Bool, r29 = .bool t28 ∧ RetP R (.bool t28) m30) (
 IntKind.i64 = IntKind.i64 ∧ (.slice x0 x0n x0c : Value) = .slice x0 x0n x0c ∧ (.slice x12 x12n x12c : Value) = .slice x12 x12n x12c ∧ (.int .i64 x13 : Value) = .int .i64 x13 ∧ true = true ∧ ∃ n' : Nat, n' < n0 ∧ I0 n' (IntKind.wrap .i64 (x14 + 1)) m13))))))) (
 (.slice x0 x0n x0c : Value) = .slice x0 x0n x0c ∧ (.slice x12 x12n x12c : Value) = .slice x12 x12n x12c ∧ (.int .i64 x13 : Value) = .int .i64 x13 ∧ E0_0  m))))
 (h_e0 : ∀ (σ : Sg)  (m : AM), E0_0  m → (
 CallsA Try.prog w0 37 #[.slice x0 x0n x0c] m fun r34 m35 =>
 ∃ (A31 : Option Addr) (n32 c33 : Nat), r34 = .slice A31 n32 c33 ∧ IntKind.i64 = IntKind.i64 ∧ (bcase ((((x0n : Nat) : Int) : Int) == 0) (
 IntKind.i64 = IntKind.i64 ∧ (bcase ((((n32 : Nat) : Int) : Int) == 0) (
 CallsA Try.prog w0 32 #[] m35 fun r37 m38 =>
 ∃ t36 : Bool, r37 = .bool t36 ∧ RetP R (.bool (bif (((n32 : Nat) : Int) : Int) == 0 then t36 else false)) m38) (
 ((((n32 : Nat) : Int) : Int) == 0) = false ∧ RetP R (.bool false) m35))) (
 IntKind.i64 = IntKind.i64 ∧ IntKind.i64 = IntKind.i64 ∧ IntKind.i64 = IntKind.i64 ∧ (bcase (decide ((((n32 : Nat) : Int) : Int) > (IntKind.wrap .i64 ((IntKind.wrap .i64 (2 * ((x0n : Nat) : Int))) + 1)))) (
 (decide ((((n32 : Nat) : Int) : Int) > (IntKind.wrap .i64 ((IntKind.wrap .i64 (2 * ((x0n : Nat) : Int))) + 1)))) = true ∧ RetP R (.bool false) m35) (
 IntKind.i64 = IntKind.i64 ∧ (bcase (bif decide ((((n32 : Nat) : Int) : Int) > (IntKind.wrap .i64 ((IntKind.wrap .i64 (2 * ((x0n : Nat) : Int))) + 1))) then true else decide ((((n32 : Nat) : Int) : Int) < ((x0n : Nat) : Int))) (
 RetP R (.bool false) m35) (
 ((0 : Int) ≤ ((x0n : Nat) : Int) ∧ (((x0n : Nat) : Int) : Int) ≤ ((x0n : Nat) : Int) ∧ (((x0n : Nat) : Int) : Int) ≤ 9223372036854775807 ∧ ((8 : Nat) : Int) * ((x0n : Nat) : Int) ≤ 281474976710656) ∧ ∀ b39 : Nat, w0.heap.size ≤ b39 → m35 b39 = none → let m40 := AM.upd m35 b39 (.cells (zeros [.int .i64 0] (((x0n : Nat) : Int) : Int).toNat).toArray 3);
 vcS Try.prog w0 qs13 (sub c13 [1, 1, 1, 1, 1, 1, 0, 1, 0]) (upd (upd (upd (upd (upd (upd (upd (upd (upd (upd (upd (upd (upd (upd (upd (upd (upd (upd (upd (upd (upd (upd (upd (upd (upd (upd (upd (upd (upd (upd σ 0 (.slice x0 x0n x0c)) 12 (.slice x12 x12n x12c)) 13 (.int .i64 x13)) 35 (.slice x0 x0n x0c)) 36 (.slice A31 n32 c33)) 5 (.slice A31 n32 c33)) 37 (.slice x0 x0n x0c)) 38 (.int .i64 ((x0n : Nat) : Int))) 39 (.bool ((((x0n : Nat) : Int) : Int) == 0))) 46 (.slice A31 n32 c33)) 47 (.int .i64 ((n32 : Nat) : Int))) 48 (.slice x0 x0n x0c)) 49 (.int .i64 ((x0n : Nat) : Int))) 50 (.int .i64 (IntKind.wrap .i64 (2 * ((x0n : Nat) : Int))))) 51 (.int .i64 (IntKind.wrap .i64 ((IntKind.wrap .i64 (2 * ((x0n : Nat) : Int))) + 1)))) 52 (.bool (decide ((((n32 : Nat) : Int) : Int) > (IntKind.wrap .i64 ((IntKind.wrap .i64 (2 * ((x0n : Nat) : Int))) + 1)))))) 53 (.bool (decide ((((n32 : Nat) : Int) : Int) > (IntKind.wrap .i64 ((IntKind.wrap .i64 (2 * ((x0n : Nat) : Int))) + 1)))))) 54 (.slice A31 n32 c33)) 55 (.int .i64 ((n32 : Nat) : Int))) 56 (.slice x0 x0n x0c)) 57 (.int .i64 ((x0n : Nat) : Int))) 58 (.bool (decide ((((n32 : Nat) : Int) : Int) < ((x0n : Nat) : Int))))) 59 (.bool (bif decide ((((n32 : Nat) : Int) : Int) > (IntKind.wrap .i64 ((IntKind.wrap .i64 (2 * ((x0n : Nat) : Int))) + 1))) then true else decide ((((n32 : Nat) : Int) : Int) < ((x0n : Nat) : Int))))) 60 (.slice x0 x0n x0c)) 61 (.int .i64 ((x0n : Nat) : Int))) 62 (.slice (some ⟨b39, 0, none⟩) ((((x0n : Nat) : Int) : Int).toNat) ((((x0n : Nat) : Int) : Int).toNat))) 6 (.slice (some ⟨b39, 0, none⟩) ((((x0n : Nat) : Int) : Int).toNat) ((((x0n : Nat) : Int) : Int).toNat))) 63 (.slice A31 n32 c33)) 64 (.int .i64 ((n32 : Nat) : Int))) 65 (.int .i64 0)) m40 (blockS 2 (thenS (fun σ m => vcS Try.prog w0 qs13 (sub c13 [1, 1, 1, 1, 1, 1, 1]) σ m (retQ Try.prog Try.f13 R)) (retQ Try.prog Try.f13 R))))))))))) :
 vcS Try.prog w0 qs13 (sub c13 [1, 0, 1, 0]) σ m (blockS 0 (thenS (fun σ m => vcS Try.prog w0 qs13 (sub c13 [1, 1]) σ m (retQ Try.prog Try.f13 R)) (retQ Try.prog Try.f13 R))) := by
  rw [show sub c13 [1, 0, 1, 0] = .loop (sub c13 [1, 0, 1, 0, 0]) from by kernel_rfl]
  refine loopQ (fun n0 σ m => σ 0 = .slice x0 x0n x0c ∧ σ 12 = .slice x12 x12n x12c ∧ σ 13 = .int .i64 x13 ∧ okI .i64 (σ 14) = true ∧ I0 n0 (vI (σ 14)) m) N (fun n0 => (lq13_1010 R x0 x0n x0c x12 x12n x12c x13 I0 E0_0 n0)) ⟨h0, h12, h13, (by rw [h14]; rfl), (by rw [h14]; exact h_0)⟩ ?_ ?_ ?_
  · rintro n0 σ m ⟨kk0, kk1, kk2, kk3, n', hlt, hI⟩; exact ⟨n', hlt, kk0, kk1, kk2, kk3, hI⟩
  · intro n0 e σ m hne h
    cases e with
    | normal => exact absurd rfl hne
    | ret => exact h
    | exit id =>
      by_cases e0 : id = 0
      · subst e0
        obtain ⟨kk0, kk1, kk2, hE⟩ := h
        have es : (upd (upd (upd σ 0 (.slice x0 x0n x0c)) 12 (.slice x12 x12n x12c)) 13 (.int .i64 x13)) = σ := by rw [upd_id kk0, upd_id kk1, upd_id kk2]
        exact cast (congrArg (fun s => (blockS 0 (thenS (fun σ m => vcS Try.prog w0 qs13 (sub c13 [1, 1]) σ m (retQ Try.prog Try.f13 R)) (retQ Try.prog Try.f13 R))) (.exit 0) s m) es) (cast (by kernel_rfl) (h_e0 σ  m hE))
      · replace h := (if_neg e0 : (if id = 0 then _ else _) = _).mp h
        exact False.elim h
    | _ => exact False.elim h
  · rintro n0 σ m ⟨kk0, kk1, kk2, kk3, hI⟩
    have es : (upd (upd (upd (upd σ 0 (.slice x0 x0n x0c)) 12 (.slice x12 x12n x12c)) 13 (.int .i64 x13)) 14 (.int .i64 (vI (σ 14)))) = σ := by rw [upd_id kk0, upd_id kk1, upd_id kk2, upd_id (ok_int kk3)]
    exact cast (congrArg (fun s => vcS Try.prog w0 qs13 (sub c13 [1, 0, 1, 0, 0]) s m (lq13_1010 R x0 x0n x0c x12 x12n x12c x13 I0 E0_0 n0)) es) (cast (by kernel_rfl) (h_s n0 σ (vI (σ 14)) m hI))
def lq13_111111010 (R : Value → AM → Prop) (x0 : Option Addr) (x0n x0c : Nat) (x5 : Option Addr) (x5n x5c : Nat) (x6 : Option Addr) (x6n x6c : Nat) (x63 : Option Addr) (x63n x63c : Nat) (x64 : Int) (I0 : Nat → Int → AM → Prop) (E0_2 : AM → Prop) (n0 : Nat) : Exit → Sg → AM → Prop
  | .normal, σ, m => σ 0 = .slice x0 x0n x0c ∧ σ 5 = .slice x5 x5n x5c ∧ σ 6 = .slice x6 x6n x6c ∧ σ 63 = .slice x63 x63n x63c ∧ σ 64 = .int .i64 x64 ∧ okI .i64 (σ 65) = true ∧ ∃ n' : Nat, n' < n0 ∧ I0 n' (vI (σ 65)) m
  | .exit id, σ, m => if id = 2 then σ 0 = .slice x0 x0n x0c ∧ σ 5 = .slice x5 x5n x5c ∧ σ 6 = .slice x6 x6n x6c ∧ σ 63 = .slice x63 x63n x63c ∧ σ 64 = .int .i64 x64 ∧ E0_2  m else False
  | .ret, σ, m => retQ Try.prog Try.f13 R .ret σ m
  | _, _, _ => False
theorem vl13_111111010 (w0 : World) (m : AM) (σ : Sg) (R : Value → AM → Prop)  (x0 : Option Addr) (x0n x0c : Nat) (x5 : Option Addr) (x5n x5c : Nat) (x6 : Option Addr) (x6n x6c : Nat) (x63 : Option Addr) (x63n x63c : Nat) (x64 : Int) (x65 : Int) (I0 : Nat → Int → AM → Prop) (E0_2 : AM → Prop) (N : Nat) (h0 : σ 0 = .slice x0 x0n x0c) (h5 : σ 5 = .slice x5 x5n x5c) (h6 : σ 6 = .slice x6 x6n x6c) (h63 : σ 63 = .slice x63 x63n x63c) (h64 : σ 64 = .int .i64 x64) (h65 : σ 65 = .int .i64 x65)
 (h_0 : I0 N x65 m)
 (h_s : ∀ (n0 : Nat) (σ : Sg) (x65 : Int) (m : AM), I0 n0 x65 m → (
 IntKind.i64 = IntKind.i64 ∧ (bcase (decide ((x65 : Int) < x64)) (
 ((0 : Int) ≤ x65 ∧ x65 < ((x63n : Nat) : Int)) ∧ nilO x63 fun a41 =>
 ∃ i42 : Int, m.cell (a41.add ((x65 : Int).toNat * 1)) = some (.int .i64 i42) ∧ 
 IntKind.i64 = IntKind.i64 ∧ (bcase (decide ((i42 : Int) < (-1))) (
 (decide ((i42 : Int) < (-1))) = true ∧ RetP R (.bool false) m) (
 IntKind.i64 = IntKind.i64 ∧ (bcase (bif decide ((i42 : Int) < (-1)) then true else decide ((i42 : Int) ≥ ((x0n : Nat) : Int))) (
 RetP R (.bool false) m) (
 IntKind.i64 = IntKind.i64 ∧ (bcase (decide ((i42 : Int) ≥ 0)) (
 ((0 : Int) ≤ i42 ∧ i42 < ((x6n : Nat) : Int)) ∧ nilO x6 fun a43 =>
 ∃ i44 : Int, m.cell (a43.add ((i42 : Int).toNat * 1)) = some (.int .i64 i44) ∧ 
 IntKind.i64 = IntKind.i64 ∧ ((0 : Int) ≤ i42 ∧ i42 < ((x6n : Nat) : Int)) ∧ nilO x6 fun a45 =>
 StC w0.heap.size m (a45.add ((i42 : Int).toNat * 1)) (.int .i64 (IntKind.wrap .i64 (i44 + 1))) fun m46 =>
 IntKind.i64 = IntKind.i64 ∧ (.slice x0 x0n x0c : Value) = .slice x0 x0n x0c ∧ (.slice x5 x5n x5c : Value) = .slice x5 x5n x5c ∧ (.slice x6 x6n x6c : Value) = .slice x6 x6n x6c ∧ (.slice x63 x63n x63c : Value) = .slice x63 x63n x63c ∧ (.int .i64 x64 : Value) = .int .i64 x64 ∧ true = true ∧ ∃ n' : Nat, n' < n0 ∧ I0 n' (IntKind.wrap .i64 (x65 + 1)) m46) (
 IntKind.i64 = IntKind.i64 ∧ (.slice x0 x0n x0c : Value) = .slice x0 x0n x0c ∧ (.slice x5 x5n x5c : Value) = .slice x5 x5n x5c ∧ (.slice x6 x6n x6c : Value) = .slice x6 x6n x6c ∧ (.slice x63 x63n x63c : Value) = .slice x63 x63n x63c ∧ (.int .i64 x64 : Value) = .int .i64 x64 ∧ true = true ∧ ∃ n' : Nat, n' < n0 ∧ I0 n' (IntKind.wrap .i64 (x65 + 1)) m))))))) (
 (.slice x0 x0n x0c : Value) = .slice x0 x0n x0c ∧ (.slice x5 x5n x5c : Value) = .slice x5 x5n x5c ∧ (.slice x6 x6n x6c : Value) = .slice x6 x6n x6c ∧ (.slice x63 x63n x63c : Value) = .slice x63 x63n x63c ∧ (.int .i64 x64 : Value) = .int .i64 x64 ∧ E0_2  m))))
 (h_e2 : ∀ (σ : Sg)  (m : AM), E0_2  m → (
 vcS Try.prog w0 qs13 (sub c13 [1, 1, 1, 1, 1, 1, 1, 0, 1, 0]) (upd (upd (upd (upd (upd (upd (upd (upd σ 0 (.slice x0 x0n x0c)) 5 (.slice x5 x5n x5c)) 6 (.slice x6 x6n x6c)) 63 (.slice x63 x63n x63c)) 64 (.int .i64 x64)) 86 (.slice x6 x6n x6c)) 87 (.int .i64 ((x6n : Nat) : Int))) 88 (.int .i64 0)) m (blockS 4 (thenS (fun σ m => vcS Try.prog w0 qs13 (sub c13 [1, 1, 1, 1, 1, 1, 1, 1]) σ m (retQ Try.prog Try.f13 R)) (retQ Try.prog Try.f13 R))))) :
 vcS Try.prog w0 qs13 (sub c13 [1, 1, 1, 1, 1, 1, 0, 1, 0]) σ m (blockS 2 (thenS (fun σ m => vcS Try.prog w0 qs13 (sub c13 [1, 1, 1, 1, 1, 1, 1]) σ m (retQ Try.prog Try.f13 R)) (retQ Try.prog Try.f13 R))) := by
  rw [show sub c13 [1, 1, 1, 1, 1, 1, 0, 1, 0] = .loop (sub c13 [1, 1, 1, 1, 1, 1, 0, 1, 0, 0]) from by kernel_rfl]
  refine loopQ (fun n0 σ m => σ 0 = .slice x0 x0n x0c ∧ σ 5 = .slice x5 x5n x5c ∧ σ 6 = .slice x6 x6n x6c ∧ σ 63 = .slice x63 x63n x63c ∧ σ 64 = .int .i64 x64 ∧ okI .i64 (σ 65) = true ∧ I0 n0 (vI (σ 65)) m) N (fun n0 => (lq13_111111010 R x0 x0n x0c x5 x5n x5c x6 x6n x6c x63 x63n x63c x64 I0 E0_2 n0)) ⟨h0, h5, h6, h63, h64, (by rw [h65]; rfl), (by rw [h65]; exact h_0)⟩ ?_ ?_ ?_
  · rintro n0 σ m ⟨kk0, kk1, kk2, kk3, kk4, kk5, n', hlt, hI⟩; exact ⟨n', hlt, kk0, kk1, kk2, kk3, kk4, kk5, hI⟩
  · intro n0 e σ m hne h
    cases e with
    | normal => exact absurd rfl hne
    | ret => exact h
    | exit id =>
      by_cases e2 : id = 2
      · subst e2
        obtain ⟨kk0, kk1, kk2, kk3, kk4, hE⟩ := h
        have es : (upd (upd (upd (upd (upd σ 0 (.slice x0 x0n x0c)) 5 (.slice x5 x5n x5c)) 6 (.slice x6 x6n x6c)) 63 (.slice x63 x63n x63c)) 64 (.int .i64 x64)) = σ := by rw [upd_id kk0, upd_id kk1, upd_id kk2, upd_id kk3, upd_id kk4]
        exact cast (congrArg (fun s => (blockS 2 (thenS (fun σ m => vcS Try.prog w0 qs13 (sub c13 [1, 1, 1, 1, 1, 1, 1]) σ m (retQ Try.prog Try.f13 R)) (retQ Try.prog Try.f13 R))) (.exit 2) s m) es) (cast (by kernel_rfl) (h_e2 σ  m hE))
      · replace h := (if_neg e2 : (if id = 2 then _ else _) = _).mp h
        exact False.elim h
    | _ => exact False.elim h
  · rintro n0 σ m ⟨kk0, kk1, kk2, kk3, kk4, kk5, hI⟩
    have es : (upd (upd (upd (upd (upd (upd σ 0 (.slice x0 x0n x0c)) 5 (.slice x5 x5n x5c)) 6 (.slice x6 x6n x6c)) 63 (.slice x63 x63n x63c)) 64 (.int .i64 x64)) 65 (.int .i64 (vI (σ 65)))) = σ := by rw [upd_id kk0, upd_id kk1, upd_id kk2, upd_id kk3, upd_id kk4, upd_id (ok_int kk5)]
    exact cast (congrArg (fun s => vcS Try.prog w0 qs13 (sub c13 [1, 1, 1, 1, 1, 1, 0, 1, 0, 0]) s m (lq13_111111010 R x0 x0n x0c x5 x5n x5c x6 x6n x6c x63 x63n x63c x64 I0 E0_2 n0)) es) (cast (by kernel_rfl) (h_s n0 σ (vI (σ 65)) m hI))
def lq13_1111111010 (R : Value → AM → Prop) (x0 : Option Addr) (x0n x0c : Nat) (x5 : Option Addr) (x5n x5c : Nat) (x86 : Option Addr) (x86n x86c : Nat) (x87 : Int) (I0 : Nat → Int → AM → Prop) (E0_4 : AM → Prop) (n0 : Nat) : Exit → Sg → AM → Prop
  | .normal, σ, m => σ 0 = .slice x0 x0n x0c ∧ σ 5 = .slice x5 x5n x5c ∧ σ 86 = .slice x86 x86n x86c ∧ σ 87 = .int .i64 x87 ∧ okI .i64 (σ 88) = true ∧ ∃ n' : Nat, n' < n0 ∧ I0 n' (vI (σ 88)) m
  | .exit id, σ, m => if id = 4 then σ 0 = .slice x0 x0n x0c ∧ σ 5 = .slice x5 x5n x5c ∧ σ 86 = .slice x86 x86n x86c ∧ σ 87 = .int .i64 x87 ∧ E0_4  m else False
  | .ret, σ, m => retQ Try.prog Try.f13 R .ret σ m
  | _, _, _ => False
theorem vl13_1111111010 (w0 : World) (m : AM) (σ : Sg) (R : Value → AM → Prop)  (x0 : Option Addr) (x0n x0c : Nat) (x5 : Option Addr) (x5n x5c : Nat) (x86 : Option Addr) (x86n x86c : Nat) (x87 : Int) (x88 : Int) (I0 : Nat → Int → AM → Prop) (E0_4 : AM → Prop) (N : Nat) (h0 : σ 0 = .slice x0 x0n x0c) (h5 : σ 5 = .slice x5 x5n x5c) (h86 : σ 86 = .slice x86 x86n x86c) (h87 : σ 87 = .int .i64 x87) (h88 : σ 88 = .int .i64 x88)
 (h_0 : I0 N x88 m)
 (h_s : ∀ (n0 : Nat) (σ : Sg) (x88 : Int) (m : AM), I0 n0 x88 m → (
 IntKind.i64 = IntKind.i64 ∧ (bcase (decide ((x88 : Int) < x87)) (
 ((0 : Int) ≤ x88 ∧ x88 < ((x86n : Nat) : Int)) ∧ nilO x86 fun a47 =>
 ∃ i48 : Int, m.cell (a47.add ((x88 : Int).toNat * 1)) = some (.int .i64 i48) ∧ 
 IntKind.i64 = IntKind.i64 ∧ (bcase ((i48 : Int) != 1) (
 RetP R (.bool false) m) (
 IntKind.i64 = IntKind.i64 ∧ (.slice x0 x0n x0c : Value) = .slice x0 x0n x0c ∧ (.slice x5 x5n x5c : Value) = .slice x5 x5n x5c ∧ (.slice x86 x86n x86c : Value) = .slice x86 x86n x86c ∧ (.int .i64 x87 : Value) = .int .i64 x87 ∧ true = true ∧ ∃ n' : Nat, n' < n0 ∧ I0 n' (IntKind.wrap .i64 (x88 + 1)) m))) (
 (.slice x0 x0n x0c : Value) = .slice x0 x0n x0c ∧ (.slice x5 x5n x5c : Value) = .slice x5 x5n x5c ∧ (.slice x86 x86n x86c : Value) = .slice x86 x86n x86c ∧ (.int .i64 x87 : Value) = .int .i64 x87 ∧ E0_4  m))))
 (h_e4 : ∀ (σ : Sg)  (m : AM), E0_4  m → (
 IntKind.i64 = IntKind.i64 ∧ ((0 : Int) ≤ (IntKind.wrap .i64 (((x5n : Nat) : Int) - 1)) ∧ (IntKind.wrap .i64 (((x5n : Nat) : Int) - 1)) < ((x5n : Nat) : Int)) ∧ nilO x5 fun a49 =>
 ∃ i50 : Int, m.cell (a49.add ((IntKind.wrap .i64 (((x5n : Nat) : Int) - 1) : Int).toNat * 1)) = some (.int .i64 i50) ∧ 
 IntKind.i64 = IntKind.i64 ∧ (bcase (decide ((i50 : Int) ≥ 0)) (
 ((0 : Int) ≤ i50 ∧ i50 < ((x0n : Nat) : Int)) ∧ nilO x0 fun a51 =>
 ∃ i52 : Int, m.cell (a51.add ((i50 : Int).toNat * 5)) = some (.int .i64 i52) ∧ ∃ i53 : Int, m.cell ((a51.add ((i50 : Int).toNat * 5)).add 1) = some (.int .i64 i53) ∧ ∃ i54 : Int, m.cell ((a51.add ((i50 : Int).toNat * 5)).add 2) = some (.int .i64 i54) ∧ ∃ i55 : Int, m.cell ((a51.add ((i50 : Int).toNat * 5)).add 3) = some (.int .i64 i55) ∧ ∃ i56 : Int, m.cell ((a51.add ((i50 : Int).toNat * 5)).add 4) = some (.int .i64 i56) ∧ 
 CallsA Try.prog w0 40 #[.agg #[.int .i64 i52, .int .i64 i53, .int .i64 i54, .int .i64 i55, .int .i64 i56]] m fun r58 m59 =>
 ∃ t57 : Bool, r58 = .bool t57 ∧ (bcase (bif decide ((i50 : Int) ≥ 0) then t57 else false) (
 RetP R (.bool false) m59) (
 IntKind.i64 = IntKind.i64 ∧ ((0 : Int) ≤ (IntKind.wrap .i64 (((x0n : Nat) : Int) - 1)) ∧ (IntKind.wrap .i64 (((x0n : Nat) : Int) - 1)) < ((x0n : Nat) : Int)) ∧ nilO x0 fun a60 =>
 ∃ i61 : Int, m59.cell (a60.add ((IntKind.wrap .i64 (((x0n : Nat) : Int) - 1) : Int).toNat * 5)) = some (.int .i64 i61) ∧ ∃ i62 : Int, m59.cell ((a60.add ((IntKind.wrap .i64 (((x0n : Nat) : Int) - 1) : Int).toNat * 5)).add 1) = some (.int .i64 i62) ∧ ∃ i63 : Int, m59.cell ((a60.add ((IntKind.wrap .i64 (((x0n : Nat) : Int) - 1) : Int).toNat * 5)).add 2) = some (.int .i64 i63) ∧ ∃ i64 : Int, m59.cell ((a60.add ((IntKind.wrap .i64 (((x0n : Nat) : Int) - 1) : Int).toNat * 5)).add 3) = some (.int .i64 i64) ∧ ∃ i65 : Int, m59.cell ((a60.add ((IntKind.wrap .i64 (((x0n : Nat) : Int) - 1) : Int).toNat * 5)).add 4) = some (.int .i64 i65) ∧ 
 CallsA Try.prog w0 30 #[.agg #[.int .i64 i61, .int .i64 i62, .int .i64 i63, .int .i64 i64, .int .i64 i65]] m59 fun r67 m68 =>
 ∃ t66 : Bool, r67 = .bool t66 ∧ (bcase (!t66) (
 (!t66) = true ∧ CallsA Try.prog w0 32 #[] m68 fun r70 m71 =>
 ∃ t69 : Bool, r70 = .bool t69 ∧ RetP R (.bool (bif true then t69 else false)) m71) (
 IntKind.i64 = IntKind.i64 ∧ (bcase (decide ((((x5n : Nat) : Int) : Int) > 1)) (
 IntKind.i64 = IntKind.i64 ∧ ((0 : Int) ≤ (IntKind.wrap .i64 (((x5n : Nat) : Int) - 2)) ∧ (IntKind.wrap .i64 (((x5n : Nat) : Int) - 2)) < ((x5n : Nat) : Int)) ∧ nilO x5 fun a72 =>
 ∃ i73 : Int, m68.cell (a72.add ((IntKind.wrap .i64 (((x5n : Nat) : Int) - 2) : Int).toNat * 1)) = some (.int .i64 i73) ∧ 
 IntKind.i64 = IntKind.i64 ∧ IntKind.i64 = IntKind.i64 ∧ (bcase (bif !t66 then true else bif decide ((((x5n : Nat) : Int) : Int) > 1) then (i73 : Int) == (IntKind.wrap .i64 (((x0n : Nat) : Int) - 1)) else false) (
 CallsA Try.prog w0 32 #[] m68 fun r75 m76 =>
 ∃ t74 : Bool, r75 = .bool t74 ∧ RetP R (.bool (bif bif !t66 then true else bif decide ((((x5n : Nat) : Int) : Int) > 1) then (i73 : Int) == (IntKind.wrap .i64 (((x0n : Nat) : Int) - 1)) else false then t74 else false)) m76) (
 (bif !t66 then true else bif decide ((((x5n : Nat) : Int) : Int) > 1) then (i73 : Int) == (IntKind.wrap .i64 (((x0n : Nat) : Int) - 1)) else false) = false ∧ RetP R (.bool false) m68))) (
 (decide ((((x5n : Nat) : Int) : Int) > 1)) = false ∧ (bcase (bif !t66 then true else false) (
 CallsA Try.prog w0 32 #[] m68 fun r78 m79 =>
 ∃ t77 : Bool, r78 = .bool t77 ∧ RetP R (.bool (bif bif !t66 then true else false then t77 else false)) m79) (
 (bif !t66 then true else false) = false ∧ RetP R (.bool false) m68))))))))) (
 (decide ((i50 : Int) ≥ 0)) = false ∧ IntKind.i64 = IntKind.i64 ∧ ((0 : Int) ≤ (IntKind.wrap .i64 (((x0n : Nat) : Int) - 1)) ∧ (IntKind.wrap .i64 (((x0n : Nat) : Int) - 1)) < ((x0n : Nat) : Int)) ∧ nilO x0 fun a80 =>
 ∃ i81 : Int, m.cell (a80.add ((IntKind.wrap .i64 (((x0n : Nat) : Int) - 1) : Int).toNat * 5)) = some (.int .i64 i81) ∧ ∃ i82 : Int, m.cell ((a80.add ((IntKind.wrap .i64 (((x0n : Nat) : Int) - 1) : Int).toNat * 5)).add 1) = some (.int .i64 i82) ∧ ∃ i83 : Int, m.cell ((a80.add ((IntKind.wrap .i64 (((x0n : Nat) : Int) - 1) : Int).toNat * 5)).add 2) = some (.int .i64 i83) ∧ ∃ i84 : Int, m.cell ((a80.add ((IntKind.wrap .i64 (((x0n : Nat) : Int) - 1) : Int).toNat * 5)).add 3) = some (.int .i64 i84) ∧ ∃ i85 : Int, m.cell ((a80.add ((IntKind.wrap .i64 (((x0n : Nat) : Int) - 1) : Int).toNat * 5)).add 4) = some (.int .i64 i85) ∧ 
 CallsA Try.prog w0 30 #[.agg #[.int .i64 i81, .int .i64 i82, .int .i64 i83, .int .i64 i84, .int .i64 i85]] m fun r87 m88 =>
 ∃ t86 : Bool, r87 = .bool t86 ∧ (bcase (!t86) (
 (!t86) = true ∧ CallsA Try.prog w0 32 #[] m88 fun r90 m91 =>
 ∃ t89 : Bool, r90 = .bool t89 ∧ RetP R (.bool (bif true then t89 else false)) m91) (
 IntKind.i64 = IntKind.i64 ∧ (bcase (decide ((((x5n : Nat) : Int) : Int) > 1)) (
 IntKind.i64 = IntKind.i64 ∧ ((0 : Int) ≤ (IntKind.wrap .i64 (((x5n : Nat) : Int) - 2)) ∧ (IntKind.wrap .i64 (((x5n : Nat) : Int) - 2)) < ((x5n : Nat) : Int)) ∧ nilO x5 fun a92 =>
 ∃ i93 : Int, m88.cell (a92.add ((IntKind.wrap .i64 (((x5n : Nat) : Int) - 2) : Int).toNat * 1)) = some (.int .i64 i93) ∧ 
 IntKind.i64 = IntKind.i64 ∧ IntKind.i64 = IntKind.i64 ∧ (bcase (bif !t86 then true else bif decide ((((x5n : Nat) : Int) : Int) > 1) then (i93 : Int) == (IntKind.wrap .i64 (((x0n : Nat) : Int) - 1)) else false) (
 CallsA Try.prog w0 32 #[] m88 fun r95 m96 =>
 ∃ t94 : Bool, r95 = .bool t94 ∧ RetP R (.bool (bif bif !t86 then true else bif decide ((((x5n : Nat) : Int) : Int) > 1) then (i93 : Int) == (IntKind.wrap .i64 (((x0n : Nat) : Int) - 1)) else false then t94 else false)) m96) (
 (bif !t86 then true else bif decide ((((x5n : Nat) : Int) : Int) > 1) then (i93 : Int) == (IntKind.wrap .i64 (((x0n : Nat) : Int) - 1)) else false) = false ∧ RetP R (.bool false) m88))) (
 (decide ((((x5n : Nat) : Int) : Int) > 1)) = false ∧ (bcase (bif !t86 then true else false) (
 CallsA Try.prog w0 32 #[] m88 fun r98 m99 =>
 ∃ t97 : Bool, r98 = .bool t97 ∧ RetP R (.bool (bif bif !t86 then true else false then t97 else false)) m99) (
 (bif !t86 then true else false) = false ∧ RetP R (.bool false) m88)))))))))) :
 vcS Try.prog w0 qs13 (sub c13 [1, 1, 1, 1, 1, 1, 1, 0, 1, 0]) σ m (blockS 4 (thenS (fun σ m => vcS Try.prog w0 qs13 (sub c13 [1, 1, 1, 1, 1, 1, 1, 1]) σ m (retQ Try.prog Try.f13 R)) (retQ Try.prog Try.f13 R))) := by
  rw [show sub c13 [1, 1, 1, 1, 1, 1, 1, 0, 1, 0] = .loop (sub c13 [1, 1, 1, 1, 1, 1, 1, 0, 1, 0, 0]) from by kernel_rfl]
  refine loopQ (fun n0 σ m => σ 0 = .slice x0 x0n x0c ∧ σ 5 = .slice x5 x5n x5c ∧ σ 86 = .slice x86 x86n x86c ∧ σ 87 = .int .i64 x87 ∧ okI .i64 (σ 88) = true ∧ I0 n0 (vI (σ 88)) m) N (fun n0 => (lq13_1111111010 R x0 x0n x0c x5 x5n x5c x86 x86n x86c x87 I0 E0_4 n0)) ⟨h0, h5, h86, h87, (by rw [h88]; rfl), (by rw [h88]; exact h_0)⟩ ?_ ?_ ?_
  · rintro n0 σ m ⟨kk0, kk1, kk2, kk3, kk4, n', hlt, hI⟩; exact ⟨n', hlt, kk0, kk1, kk2, kk3, kk4, hI⟩
  · intro n0 e σ m hne h
    cases e with
    | normal => exact absurd rfl hne
    | ret => exact h
    | exit id =>
      by_cases e4 : id = 4
      · subst e4
        obtain ⟨kk0, kk1, kk2, kk3, hE⟩ := h
        have es : (upd (upd (upd (upd σ 0 (.slice x0 x0n x0c)) 5 (.slice x5 x5n x5c)) 86 (.slice x86 x86n x86c)) 87 (.int .i64 x87)) = σ := by rw [upd_id kk0, upd_id kk1, upd_id kk2, upd_id kk3]
        exact cast (congrArg (fun s => (blockS 4 (thenS (fun σ m => vcS Try.prog w0 qs13 (sub c13 [1, 1, 1, 1, 1, 1, 1, 1]) σ m (retQ Try.prog Try.f13 R)) (retQ Try.prog Try.f13 R))) (.exit 4) s m) es) (cast (by kernel_rfl) (h_e4 σ  m hE))
      · replace h := (if_neg e4 : (if id = 4 then _ else _) = _).mp h
        exact False.elim h
    | _ => exact False.elim h
  · rintro n0 σ m ⟨kk0, kk1, kk2, kk3, kk4, hI⟩
    have es : (upd (upd (upd (upd (upd σ 0 (.slice x0 x0n x0c)) 5 (.slice x5 x5n x5c)) 86 (.slice x86 x86n x86c)) 87 (.int .i64 x87)) 88 (.int .i64 (vI (σ 88)))) = σ := by rw [upd_id kk0, upd_id kk1, upd_id kk2, upd_id kk3, upd_id (ok_int kk4)]
    exact cast (congrArg (fun s => vcS Try.prog w0 qs13 (sub c13 [1, 1, 1, 1, 1, 1, 1, 0, 1, 0, 0]) s m (lq13_1111111010 R x0 x0n x0c x5 x5n x5c x86 x86n x86c x87 I0 E0_4 n0)) es) (cast (by kernel_rfl) (h_s n0 σ (vI (σ 88)) m hI))

/-! 14 delayslot/delayslotlaw11.SchedFree -/
def qs14 : Nat → List (Nat × Nat) := fun i => match i with | _ => []
noncomputable def c14 : Code := bodyOf Try.f14
theorem cf14 (w0 : World) (m : AM) (x0 : Option Addr) (x0n x0c : Nat) (R : Value → AM → Prop) (h :
 IntKind.i64 = IntKind.i64 ∧ (bcase (decide ((((x0n : Nat) : Int) : Int) > 40)) (
 CallsA Try.prog w0 32 #[] m fun r2 m3 =>
 ∃ t1 : Bool, r2 = .bool t1 ∧ RetP R (.bool t1) m3) (
 vcS Try.prog w0 qs14 (sub c14 [1, 1, 0, 1, 0]) (upd (upd (upd (upd (upd (upd (upd (argS [.slice x0 x0n x0c]) 2 (.bool false)) 7 (.slice x0 x0n x0c)) 8 (.int .i64 ((x0n : Nat) : Int))) 9 (.bool (decide ((((x0n : Nat) : Int) : Int) > 40)))) 11 (.slice x0 x0n x0c)) 12 (.int .i64 ((x0n : Nat) : Int))) 13 (.int .i64 0)) m (blockS 0 (thenS (fun σ m => vcS Try.prog w0 qs14 (sub c14 [1, 1, 1]) σ m (retQ Try.prog Try.f14 R)) (retQ Try.prog Try.f14 R)))))) : CallsA Try.prog w0 14 #[.slice x0 x0n x0c] m R :=
  callsA_of (c := c14) (args := [.slice x0 x0n x0c]) (by kernel_rfl) Try.func14 (by kernel_rfl) qs14 (by kernel_rfl) (by kernel_rfl) (cast (by kernel_rfl) h)
def lq14_11010 (R : Value → AM → Prop) (x0 : Option Addr) (x0n x0c : Nat) (x12 : Int) (I0 : Nat → Int → AM → Prop) (E0_0 : AM → Prop) (n0 : Nat) : Exit → Sg → AM → Prop
  | .normal, σ, m => σ 0 = .slice x0 x0n x0c ∧ σ 12 = .int .i64 x12 ∧ okI .i64 (σ 13) = true ∧ ∃ n' : Nat, n' < n0 ∧ I0 n' (vI (σ 13)) m
  | .exit id, σ, m => if id = 0 then σ 0 = .slice x0 x0n x0c ∧ σ 12 = .int .i64 x12 ∧ E0_0  m else False
  | .ret, σ, m => retQ Try.prog Try.f14 R .ret σ m
  | _, _, _ => False
theorem vl14_11010 (w0 : World) (m : AM) (σ : Sg) (R : Value → AM → Prop)  (x0 : Option Addr) (x0n x0c : Nat) (x12 : Int) (x13 : Int) (I0 : Nat → Int → AM → Prop) (E0_0 : AM → Prop) (N : Nat) (h0 : σ 0 = .slice x0 x0n x0c) (h12 : σ 12 = .int .i64 x12) (h13 : σ 13 = .int .i64 x13)
 (h_0 : I0 N x13 m)
 (h_s : ∀ (n0 : Nat) (σ : Sg) (x13 : Int) (m : AM), I0 n0 x13 m → (
 IntKind.i64 = IntKind.i64 ∧ (bcase (decide ((x13 : Int) < x12)) (
 IntKind.i64 = IntKind.i64 ∧ vcS Try.prog w0 qs14 (sub c14 [1, 1, 0, 1, 0, 0, 1, 1, 0, 0, 1, 1, 0]) (upd (upd (upd (upd (upd (upd (upd (upd (upd σ 0 (.slice x0 x0n x0c)) 12 (.int .i64 x12)) 13 (.int .i64 x13)) 14 (.bool (decide ((x13 : Int) < x12)))) 15 (.int .i64 x13)) 3 (.int .i64 x13)) 16 (.int .i64 x13)) 17 (.int .i64 (IntKind.wrap .i64 (x13 + 1)))) 4 (.int .i64 (IntKind.wrap .i64 (x13 + 1)))) m (blockS 2 (blockS 1 (thenS (fun σ m => vcS Try.prog w0 qs14 (sub c14 [1, 1, 0, 1, 0, 0, 1, 1, 1]) σ m (lq14_11010 R x0 x0n x0c x12 I0 E0_0 n0)) (lq14_11010 R x0 x0n x0c x12 I0 E0_0 n0))))) (
 (.slice x0 x0n x0c : Value) = .slice x0 x0n x0c ∧ (.int .i64 x12 : Value) = .int .i64 x12 ∧ E0_0  m))))
 (h_e0 : ∀ (σ : Sg)  (m : AM), E0_0  m → (
 CallsA Try.prog w0 34 #[.slice x0 x0n x0c] m fun r7 m8 =>
 ∃ (A4 : Option Addr) (n5 c6 : Nat), r7 = .slice A4 n5 c6 ∧ vcS Try.prog w0 qs14 (sub c14 [1, 1, 1, 1, 0, 1, 0]) (upd (upd (upd (upd (upd (upd (upd (upd σ 0 (.slice x0 x0n x0c)) 12 (.int .i64 x12)) 36 (.slice x0 x0n x0c)) 37 (.slice A4 n5 c6)) 5 (.slice A4 n5 c6)) 38 (.slice A4 n5 c6)) 39 (.int .i64 ((n5 : Nat) : Int))) 40 (.int .i64 0)) m8 (blockS 4 (thenS (fun σ m => vcS Try.prog w0 qs14 (sub c14 [1, 1, 1, 1, 1]) σ m (retQ Try.prog Try.f14 R)) (retQ Try.prog Try.f14 R))))) :
 vcS Try.prog w0 qs14 (sub c14 [1, 1, 0, 1, 0]) σ m (blockS 0 (thenS (fun σ m => vcS Try.prog w0 qs14 (sub c14 [1, 1, 1]) σ m (retQ Try.prog Try.f14 R)) (retQ Try.prog Try.f14 R))) := by
  rw [show sub c14 [1, 1, 0, 1, 0] = .loop (sub c14 [1, 1, 0, 1, 0, 0]) from by kernel_rfl]
  refine loopQ (fun n0 σ m => σ 0 = .slice x0 x0n x0c ∧ σ 12 = .int .i64 x12 ∧ okI .i64 (σ 13) = true ∧ I0 n0 (vI (σ 13)) m) N (fun n0 => (lq14_11010 R x0 x0n x0c x12 I0 E0_0 n0)) ⟨h0, h12, (by rw [h13]; rfl), (by rw [h13]; exact h_0)⟩ ?_ ?_ ?_
  · rintro n0 σ m ⟨kk0, kk1, kk2, n', hlt, hI⟩; exact ⟨n', hlt, kk0, kk1, kk2, hI⟩
  · intro n0 e σ m hne h
    cases e with
    | normal => exact absurd rfl hne
    | ret => exact h
    | exit id =>
      by_cases e0 : id = 0
      · subst e0
        obtain ⟨kk0, kk1, hE⟩ := h
        have es : (upd (upd σ 0 (.slice x0 x0n x0c)) 12 (.int .i64 x12)) = σ := by rw [upd_id kk0, upd_id kk1]
        exact cast (congrArg (fun s => (blockS 0 (thenS (fun σ m => vcS Try.prog w0 qs14 (sub c14 [1, 1, 1]) σ m (retQ Try.prog Try.f14 R)) (retQ Try.prog Try.f14 R))) (.exit 0) s m) es) (cast (by kernel_rfl) (h_e0 σ  m hE))
      · replace h := (if_neg e0 : (if id = 0 then _ else _) = _).mp h
        exact False.elim h
    | _ => exact False.elim h
  · rintro n0 σ m ⟨kk0, kk1, kk2, hI⟩
    have es : (upd (upd (upd σ 0 (.slice x0 x0n x0c)) 12 (.int .i64 x12)) 13 (.int .i64 (vI (σ 13)))) = σ := by rw [upd_id kk0, upd_id kk1, upd_id (ok_int kk2)]
    exact cast (congrArg (fun s => vcS Try.prog w0 qs14 (sub c14 [1, 1, 0, 1, 0, 0]) s m (lq14_11010 R x0 x0n x0c x12 I0 E0_0 n0)) es) (cast (by kernel_rfl) (h_s n0 σ (vI (σ 13)) m hI))
def lq14_1101001100110 (R : Value → AM → Prop) (x0 : Option Addr) (x0n x0c : Nat) (x3 : Int) (x12 : Int) (x13 : Int) (I1 : Nat → Int → AM → Prop) (E1_2 : AM → Prop) (n1 : Nat) : Exit → Sg → AM → Prop
  | .normal, σ, m => σ 0 = .slice x0 x0n x0c ∧ σ 3 = .int .i64 x3 ∧ σ 12 = .int .i64 x12 ∧ σ 13 = .int .i64 x13 ∧ okI .i64 (σ 4) = true ∧ ∃ n' : Nat, n' < n1 ∧ I1 n' (vI (σ 4)) m
  | .exit id, σ, m => if id = 2 then σ 0 = .slice x0 x0n x0c ∧ σ 3 = .int .i64 x3 ∧ σ 12 = .int .i64 x12 ∧ σ 13 = .int .i64 x13 ∧ E1_2  m else False
  | .ret, σ, m => retQ Try.prog Try.f14 R .ret σ m
  | _, _, _ => False
theorem vl14_1101001100110 (w0 : World) (m : AM) (σ : Sg) (R : Value → AM → Prop) (n0 : Nat) (I0 : Nat → Int → AM → Prop) (E0_0 : AM → Prop) (x0 : Option Addr) (x0n x0c : Nat) (x3 : Int) (x12 : Int) (x13 : Int) (x4 : Int) (I1 : Nat → Int → AM → Prop) (E1_2 : AM → Prop) (N : Nat) (h0 : σ 0 = .slice x0 x0n x0c) (h3 : σ 3 = .int .i64 x3) (h4 : σ 4 = .int .i64 x4) (h12 : σ 12 = .int .i64 x12) (h13 : σ 13 = .int .i64 x13)
 (h_0 : I1 N x4 m)
 (h_s : ∀ (n1 : Nat) (σ : Sg) (x4 : Int) (m : AM), I1 n1 x4 m → (
 IntKind.i64 = IntKind.i64 ∧ (bcase (decide ((x4 : Int) < ((x0n : Nat) : Int))) (
 ((0 : Int) ≤ x3 ∧ x3 < ((x0n : Nat) : Int)) ∧ nilO x0 fun a9 =>
 ∃ i10 : Int, m.cell (a9.add ((x3 : Int).toNat * 5)) = some (.int .i64 i10) ∧ ∃ i11 : Int, m.cell ((a9.add ((x3 : Int).toNat * 5)).add 1) = some (.int .i64 i11) ∧ ∃ i12 : Int, m.cell ((a9.add ((x3 : Int).toNat * 5)).add 2) = some (.int .i64 i12) ∧ ∃ i13 : Int, m.cell ((a9.add ((x3 : Int).toNat * 5)).add 3) = some (.int .i64 i13) ∧ ∃ i14 : Int, m.cell ((a9.add ((x3 : Int).toNat * 5)).add 4) = some (.int .i64 i14) ∧ 
 ((0 : Int) ≤ x4 ∧ x4 < ((x0n : Nat) : Int)) ∧ nilO x0 fun a15 =>
 ∃ i16 : Int, m.cell (a15.add ((x4 : Int).toNat * 5)) = some (.int .i64 i16) ∧ ∃ i17 : Int, m.cell ((a15.add ((x4 : Int).toNat * 5)).add 1) = some (.int .i64 i17) ∧ ∃ i18 : Int, m.cell ((a15.add ((x4 : Int).toNat * 5)).add 2) = some (.int .i64 i18) ∧ ∃ i19 : Int, m.cell ((a15.add ((x4 : Int).toNat * 5)).add 3) = some (.int .i64 i19) ∧ ∃ i20 : Int, m.cell ((a15.add ((x4 : Int).toNat * 5)).add 4) = some (.int .i64 i20) ∧ 
 CallsA Try.prog w0 41 #[.agg #[.int .i64 i10, .int .i64 i11, .int .i64 i12, .int .i64 i13, .int .i64 i14], .agg #[.int .i64 i16, .int .i64 i17, .int .i64 i18, .int .i64 i19, .int .i64 i20]] m fun r22 m23 =>
 ∃ i21 : Int, r22 = .int .i64 i21 ∧ IntKind.i64 = IntKind.i64 ∧ (bcase (decide ((i21 : Int) > 0)) (
 CallsA Try.prog w0 32 #[] m23 fun r25 m26 =>
 ∃ t24 : Bool, r25 = .bool t24 ∧ RetP R (.bool t24) m26) (
 IntKind.i64 = IntKind.i64 ∧ (.slice x0 x0n x0c : Value) = .slice x0 x0n x0c ∧ (.int .i64 x3 : Value) = .int .i64 x3 ∧ (.int .i64 x12 : Value) = .int .i64 x12 ∧ (.int .i64 x13 : Value) = .int .i64 x13 ∧ true = true ∧ ∃ n' : Nat, n' < n1 ∧ I1 n' (IntKind.wrap .i64 (x4 + 1)) m23))) (
 (.slice x0 x0n x0c : Value) = .slice x0 x0n x0c ∧ (.int .i64 x3 : Value) = .int .i64 x3 ∧ (.int .i64 x12 : Value) = .int .i64 x12 ∧ (.int .i64 x13 : Value) = .int .i64 x13 ∧ E1_2  m))))
 (h_e2 : ∀ (σ : Sg)  (m : AM), E1_2  m → (
 IntKind.i64 = IntKind.i64 ∧ (.slice x0 x0n x0c : Value) = .slice x0 x0n x0c ∧ (.int .i64 x12 : Value) = .int .i64 x12 ∧ true = true ∧ ∃ n' : Nat, n' < n0 ∧ I0 n' (IntKind.wrap .i64 (x13 + 1)) m)) :
 vcS Try.prog w0 qs14 (sub c14 [1, 1, 0, 1, 0, 0, 1, 1, 0, 0, 1, 1, 0]) σ m (blockS 2 (blockS 1 (thenS (fun σ m => vcS Try.prog w0 qs14 (sub c14 [1, 1, 0, 1, 0, 0, 1, 1, 1]) σ m (lq14_11010 R x0 x0n x0c x12 I0 E0_0 n0)) (lq14_11010 R x0 x0n x0c x12 I0 E0_0 n0)))) := by
  rw [show sub c14 [1, 1, 0, 1, 0, 0, 1, 1, 0, 0, 1, 1, 0] = .loop (sub c14 [1, 1, 0, 1, 0, 0, 1, 1, 0, 0, 1, 1, 0, 0]) from by kernel_rfl]
  refine loopQ (fun n1 σ m => σ 0 = .slice x0 x0n x0c ∧ σ 3 = .int .i64 x3 ∧ σ 12 = .int .i64 x12 ∧ σ 13 = .int .i64 x13 ∧ okI .i64 (σ 4) = true ∧ I1 n1 (vI (σ 4)) m) N (fun n1 => (lq14_1101001100110 R x0 x0n x0c x3 x12 x13 I1 E1_2 n1)) ⟨h0, h3, h12, h13, (by rw [h4]; rfl), (by rw [h4]; exact h_0)⟩ ?_ ?_ ?_
  · rintro n1 σ m ⟨kk0, kk1, kk2, kk3, kk4, n', hlt, hI⟩; exact ⟨n', hlt, kk0, kk1, kk2, kk3, kk4, hI⟩
  · intro n1 e σ m hne h
    cases e with
    | normal => exact absurd rfl hne
    | ret => exact h
    | exit id =>
      by_cases e2 : id = 2
      · subst e2
        obtain ⟨kk0, kk1, kk2, kk3, hE⟩ := h
        have es : (upd (upd (upd (upd σ 0 (.slice x0 x0n x0c)) 3 (.int .i64 x3)) 12 (.int .i64 x12)) 13 (.int .i64 x13)) = σ := by rw [upd_id kk0, upd_id kk1, upd_id kk2, upd_id kk3]
        exact cast (congrArg (fun s => (blockS 2 (blockS 1 (thenS (fun σ m => vcS Try.prog w0 qs14 (sub c14 [1, 1, 0, 1, 0, 0, 1, 1, 1]) σ m (lq14_11010 R x0 x0n x0c x12 I0 E0_0 n0)) (lq14_11010 R x0 x0n x0c x12 I0 E0_0 n0)))) (.exit 2) s m) es) (cast (by kernel_rfl) (h_e2 σ  m hE))
      · replace h := (if_neg e2 : (if id = 2 then _ else _) = _).mp h
        exact False.elim h
    | _ => exact False.elim h
  · rintro n1 σ m ⟨kk0, kk1, kk2, kk3, kk4, hI⟩
    have es : (upd (upd (upd (upd (upd σ 0 (.slice x0 x0n x0c)) 3 (.int .i64 x3)) 4 (.int .i64 (vI (σ 4)))) 12 (.int .i64 x12)) 13 (.int .i64 x13)) = σ := by rw [upd_id kk0, upd_id kk1, upd_id (ok_int kk4), upd_id kk2, upd_id kk3]
    exact cast (congrArg (fun s => vcS Try.prog w0 qs14 (sub c14 [1, 1, 0, 1, 0, 0, 1, 1, 0, 0, 1, 1, 0, 0]) s m (lq14_1101001100110 R x0 x0n x0c x3 x12 x13 I1 E1_2 n1)) es) (cast (by kernel_rfl) (h_s n1 σ (vI (σ 4)) m hI))
def lq14_1111010 (R : Value → AM → Prop) (x0 : Option Addr) (x0n x0c : Nat) (x5 : Option Addr) (x5n x5c : Nat) (x39 : Int) (I0 : Nat → Int → AM → Prop) (E0_4 : AM → Prop) (n0 : Nat) : Exit → Sg → AM → Prop
  | .normal, σ, m => σ 0 = .slice x0 x0n x0c ∧ σ 5 = .slice x5 x5n x5c ∧ σ 39 = .int .i64 x39 ∧ okI .i64 (σ 40) = true ∧ ∃ n' : Nat, n' < n0 ∧ I0 n' (vI (σ 40)) m
  | .exit id, σ, m => if id = 4 then σ 0 = .slice x0 x0n x0c ∧ σ 5 = .slice x5 x5n x5c ∧ σ 39 = .int .i64 x39 ∧ E0_4  m else False
  | .ret, σ, m => retQ Try.prog Try.f14 R .ret σ m
  | _, _, _ => False
theorem vl14_1111010 (w0 : World) (m : AM) (σ : Sg) (R : Value → AM → Prop)  (x0 : Option Addr) (x0n x0c : Nat) (x5 : Option Addr) (x5n x5c : Nat) (x39 : Int) (x40 : Int) (I0 : Nat → Int → AM → Prop) (E0_4 : AM → Prop) (N : Nat) (h0 : σ 0 = .slice x0 x0n x0c) (h5 : σ 5 = .slice x5 x5n x5c) (h39 : σ 39 = .int .i64 x39) (h40 : σ 40 = .int .i64 x40)
 (h_0 : I0 N x40 m)
 (h_s : ∀ (n0 : Nat) (σ : Sg) (x40 : Int) (m : AM), I0 n0 x40 m → (
 IntKind.i64 = IntKind.i64 ∧ (bcase (decide ((x40 : Int) < x39)) (
 ((0 : Int) ≤ x40 ∧ x40 < ((x5n : Nat) : Int)) ∧ nilO x5 fun a27 =>
 ∃ i28 : Int, m.cell (a27.add ((x40 : Int).toNat * 1)) = some (.int .i64 i28) ∧ 
 IntKind.i64 = IntKind.i64 ∧ (bcase ((i28 : Int) != x40) (
 RetP R (.bool false) m) (
 IntKind.i64 = IntKind.i64 ∧ (.slice x0 x0n x0c : Value) = .slice x0 x0n x0c ∧ (.slice x5 x5n x5c : Value) = .slice x5 x5n x5c ∧ (.int .i64 x39 : Value) = .int .i64 x39 ∧ true = true ∧ ∃ n' : Nat, n' < n0 ∧ I0 n' (IntKind.wrap .i64 (x40 + 1)) m))) (
 (.slice x0 x0n x0c : Value) = .slice x0 x0n x0c ∧ (.slice x5 x5n x5c : Value) = .slice x5 x5n x5c ∧ (.int .i64 x39 : Value) = .int .i64 x39 ∧ E0_4  m))))
 (h_e4 : ∀ (σ : Sg)  (m : AM), E0_4  m → (
 IntKind.i64 = IntKind.i64 ∧ (bcase ((((x5n : Nat) : Int) : Int) == ((x0n : Nat) : Int)) (
 CallsA Try.prog w0 32 #[] m fun r30 m31 =>
 ∃ t29 : Bool, r30 = .bool t29 ∧ RetP R (.bool (bif (((x5n : Nat) : Int) : Int) == ((x0n : Nat) : Int) then t29 else false)) m31) (
 ((((x5n : Nat) : Int) : Int) == ((x0n : Nat) : Int)) = false ∧ RetP R (.bool false) m)))) :
 vcS Try.prog w0 qs14 (sub c14 [1, 1, 1, 1, 0, 1, 0]) σ m (blockS 4 (thenS (fun σ m => vcS Try.prog w0 qs14 (sub c14 [1, 1, 1, 1, 1]) σ m (retQ Try.prog Try.f14 R)) (retQ Try.prog Try.f14 R))) := by
  rw [show sub c14 [1, 1, 1, 1, 0, 1, 0] = .loop (sub c14 [1, 1, 1, 1, 0, 1, 0, 0]) from by kernel_rfl]
  refine loopQ (fun n0 σ m => σ 0 = .slice x0 x0n x0c ∧ σ 5 = .slice x5 x5n x5c ∧ σ 39 = .int .i64 x39 ∧ okI .i64 (σ 40) = true ∧ I0 n0 (vI (σ 40)) m) N (fun n0 => (lq14_1111010 R x0 x0n x0c x5 x5n x5c x39 I0 E0_4 n0)) ⟨h0, h5, h39, (by rw [h40]; rfl), (by rw [h40]; exact h_0)⟩ ?_ ?_ ?_
  · rintro n0 σ m ⟨kk0, kk1, kk2, kk3, n', hlt, hI⟩; exact ⟨n', hlt, kk0, kk1, kk2, kk3, hI⟩
  · intro n0 e σ m hne h
    cases e with
    | normal => exact absurd rfl hne
    | ret => exact h
    | exit id =>
      by_cases e4 : id = 4
      · subst e4
        obtain ⟨kk0, kk1, kk2, hE⟩ := h
        have es : (upd (upd (upd σ 0 (.slice x0 x0n x0c)) 5 (.slice x5 x5n x5c)) 39 (.int .i64 x39)) = σ := by rw [upd_id kk0, upd_id kk1, upd_id kk2]
        exact cast (congrArg (fun s => (blockS 4 (thenS (fun σ m => vcS Try.prog w0 qs14 (sub c14 [1, 1, 1, 1, 1]) σ m (retQ Try.prog Try.f14 R)) (retQ Try.prog Try.f14 R))) (.exit 4) s m) es) (cast (by kernel_rfl) (h_e4 σ  m hE))
      · replace h := (if_neg e4 : (if id = 4 then _ else _) = _).mp h
        exact False.elim h
    | _ => exact False.elim h
  · rintro n0 σ m ⟨kk0, kk1, kk2, kk3, hI⟩
    have es : (upd (upd (upd (upd σ 0 (.slice x0 x0n x0c)) 5 (.slice x5 x5n x5c)) 39 (.int .i64 x39)) 40 (.int .i64 (vI (σ 40)))) = σ := by rw [upd_id kk0, upd_id kk1, upd_id kk2, upd_id (ok_int kk3)]
    exact cast (congrArg (fun s => vcS Try.prog w0 qs14 (sub c14 [1, 1, 1, 1, 0, 1, 0, 0]) s m (lq14_1111010 R x0 x0n x0c x5 x5n x5c x39 I0 E0_4 n0)) es) (cast (by kernel_rfl) (h_s n0 σ (vI (σ 40)) m hI))

/-! 15 delayslot/delayslotlaw11.SchedShort -/
def qs15 : Nat → List (Nat × Nat) := fun i => match i with | _ => []
noncomputable def c15 : Code := bodyOf Try.f15
theorem cf15 (w0 : World) (m : AM) (x0 : Option Addr) (x0n x0c : Nat) (R : Value → AM → Prop) (h :
 IntKind.i64 = IntKind.i64 ∧ (bcase (decide ((((x0n : Nat) : Int) : Int) > 40)) (
 CallsA Try.prog w0 32 #[] m fun r2 m3 =>
 ∃ t1 : Bool, r2 = .bool t1 ∧ RetP R (.bool t1) m3) (
 vcS Try.prog w0 qs15 (sub c15 [1, 1, 1, 0, 1, 0]) (upd (upd (upd (upd (upd (upd (upd (upd (argS [.slice x0 x0n x0c]) 2 (.bool false)) 16 (.slice x0 x0n x0c)) 17 (.int .i64 ((x0n : Nat) : Int))) 18 (.bool (decide ((((x0n : Nat) : Int) : Int) > 40)))) 3 (.int .i64 0)) 20 (.slice x0 x0n x0c)) 21 (.int .i64 ((x0n : Nat) : Int))) 22 (.int .i64 0)) m (blockS 0 (thenS (fun σ m => vcS Try.prog w0 qs15 (sub c15 [1, 1, 1, 1]) σ m (retQ Try.prog Try.f15 R)) (retQ Try.prog Try.f15 R)))))) : CallsA Try.prog w0 15 #[.slice x0 x0n x0c] m R :=
  callsA_of (c := c15) (args := [.slice x0 x0n x0c]) (by kernel_rfl) Try.func15 (by kernel_rfl) qs15 (by kernel_rfl) (by kernel_rfl) (cast (by kernel_rfl) h)
def lq15_111010 (R : Value → AM → Prop) (x0 : Option Addr) (x0n x0c : Nat) (x20 : Option Addr) (x20n x20c : Nat) (x21 : Int) (I0 : Nat → Int → Int → AM → Prop) (E0_0 : Int → AM → Prop) (n0 : Nat) : Exit → Sg → AM → Prop
  | .normal, σ, m => σ 0 = .slice x0 x0n x0c ∧ σ 20 = .slice x20 x20n x20c ∧ σ 21 = .int .i64 x21 ∧ okI .i64 (σ 3) = true ∧ okI .i64 (σ 22) = true ∧ ∃ n' : Nat, n' < n0 ∧ I0 n' (vI (σ 3)) (vI (σ 22)) m
  | .exit id, σ, m => if id = 0 then σ 0 = .slice x0 x0n x0c ∧ σ 20 = .slice x20 x20n x20c ∧ σ 21 = .int .i64 x21 ∧ okI .i64 (σ 3) = true ∧ E0_0 (vI (σ 3)) m else False
  | .ret, σ, m => retQ Try.prog Try.f15 R .ret σ m
  | _, _, _ => False
theorem vl15_111010 (w0 : World) (m : AM) (σ : Sg) (R : Value → AM → Prop)  (x0 : Option Addr) (x0n x0c : Nat) (x20 : Option Addr) (x20n x20c : Nat) (x21 : Int) (x3 : Int) (x22 : Int) (I0 : Nat → Int → Int → AM → Prop) (E0_0 : Int → AM → Prop) (N : Nat) (h0 : σ 0 = .slice x0 x0n x0c) (h3 : σ 3 = .int .i64 x3) (h20 : σ 20 = .slice x20 x20n x20c) (h21 : σ 21 = .int .i64 x21) (h22 : σ 22 = .int .i64 x22)
 (h_0 : I0 N x3 x22 m)
 (h_s : ∀ (n0 : Nat) (σ : Sg) (x3 : Int) (x22 : Int) (m : AM), I0 n0 x3 x22 m → (
 IntKind.i64 = IntKind.i64 ∧ (bcase (decide ((x22 : Int) < x21)) (
 ((0 : Int) ≤ x22 ∧ x22 < ((x20n : Nat) : Int)) ∧ nilO x20 fun a4 =>
 ∃ i5 : Int, m.cell (a4.add ((x22 : Int).toNat * 5)) = some (.int .i64 i5) ∧ ∃ i6 : Int, m.cell ((a4.add ((x22 : Int).toNat * 5)).add 1) = some (.int .i64 i6) ∧ ∃ i7 : Int, m.cell ((a4.add ((x22 : Int).toNat * 5)).add 2) = some (.int .i64 i7) ∧ ∃ i8 : Int, m.cell ((a4.add ((x22 : Int).toNat * 5)).add 3) = some (.int .i64 i8) ∧ ∃ i9 : Int, m.cell ((a4.add ((x22 : Int).toNat * 5)).add 4) = some (.int .i64 i9) ∧ 
 ∀ b10 : Nat, w0.heap.size ≤ b10 → m b10 = none → let m11 := AM.upd m b10 (.cells #[.int .i64 0, .int .i64 0, .int .i64 0, .int .i64 0, .int .i64 0] 24);
 StC w0.heap.size m11 ⟨b10, 0, none⟩ (.int .i64 i5) fun m12 =>
 StC w0.heap.size m12 ⟨b10, 1, none⟩ (.int .i64 i6) fun m13 =>
 StC w0.heap.size m13 ⟨b10, 2, none⟩ (.int .i64 i7) fun m14 =>
 StC w0.heap.size m14 ⟨b10, 3, none⟩ (.int .i64 i8) fun m15 =>
 StC w0.heap.size m15 ⟨b10, 4, none⟩ (.int .i64 i9) fun m16 =>
 ∃ i17 : Int, m16.cell ⟨b10, 0, none⟩ = some (.int .i64 i17) ∧ ∃ i18 : Int, m16.cell ⟨b10, 1, none⟩ = some (.int .i64 i18) ∧ ∃ i19 : Int, m16.cell ⟨b10, 2, none⟩ = some (.int .i64 i19) ∧ ∃ i20 : Int, m16.cell ⟨b10, 3, none⟩ = some (.int .i64 i20) ∧ ∃ i21 : Int, m16.cell ⟨b10, 4, none⟩ = some (.int .i64 i21) ∧ 
 CallsA Try.prog w0 40 #[.agg #[.int .i64 i17, .int .i64 i18, .int .i64 i19, .int .i64 i20, .int .i64 i21]] m16 fun r23 m24 =>
 ∃ t22 : Bool, r23 = .bool t22 ∧ (bcase t22 (
 IntKind.i64 = IntKind.i64 ∧ IntKind.i64 = IntKind.i64 ∧ (.slice x0 x0n x0c : Value) = .slice x0 x0n x0c ∧ (.slice x20 x20n x20c : Value) = .slice x20 x20n x20c ∧ (.int .i64 x21 : Value) = .int .i64 x21 ∧ true = true ∧ true = true ∧ ∃ n' : Nat, n' < n0 ∧ I0 n' (IntKind.wrap .i64 (x3 + 1)) (IntKind.wrap .i64 (x22 + 1)) m24) (
 IntKind.i64 = IntKind.i64 ∧ (.slice x0 x0n x0c : Value) = .slice x0 x0n x0c ∧ (.slice x20 x20n x20c : Value) = .slice x20 x20n x20c ∧ (.int .i64 x21 : Value) = .int .i64 x21 ∧ true = true ∧ true = true ∧ ∃ n' : Nat, n' < n0 ∧ I0 n' x3 (IntKind.wrap .i64 (x22 + 1)) m24))) (
 (.slice x0 x0n x0c : Value) = .slice x0 x0n x0c ∧ (.slice x20 x20n x20c : Value) = .slice x20 x20n x20c ∧ (.int .i64 x21 : Value) = .int .i64 x21 ∧ true = true ∧ E0_0 x3 m))))
 (h_e0 : ∀ (σ : Sg) (x3 : Int) (m : AM), E0_0 x3 m → (
 CallsA Try.prog w0 34 #[.slice x0 x0n x0c] m fun r28 m29 =>
 ∃ (A25 : Option Addr) (n26 c27 : Nat), r28 = .slice A25 n26 c27 ∧ CallsA Try.prog w0 36 #[.slice x0 x0n x0c, .slice A25 n26 c27] m29 fun r33 m34 =>
 ∃ (A30 : Option Addr) (n31 c32 : Nat), r33 = .slice A30 n31 c32 ∧ IntKind.i64 = IntKind.i64 ∧ (bcase (decide ((((n26 : Nat) : Int) : Int) < ((x0n : Nat) : Int))) (
 (decide ((((n26 : Nat) : Int) : Int) < ((x0n : Nat) : Int))) = true ∧ true = true ∧ RetP R (.bool false) m34) (
 IntKind.i64 = IntKind.i64 ∧ IntKind.i64 = IntKind.i64 ∧ (bcase (bif decide ((((n26 : Nat) : Int) : Int) < ((x0n : Nat) : Int)) then true else decide ((((n26 : Nat) : Int) : Int) > (IntKind.wrap .i64 (((x0n : Nat) : Int) + x3)))) (
 (bif decide ((((n26 : Nat) : Int) : Int) < ((x0n : Nat) : Int)) then true else decide ((((n26 : Nat) : Int) : Int) > (IntKind.wrap .i64 (((x0n : Nat) : Int) + x3)))) = true ∧ RetP R (.bool false) m34) (
 IntKind.i64 = IntKind.i64 ∧ (bcase (bif bif decide ((((n26 : Nat) : Int) : Int) < ((x0n : Nat) : Int)) then true else decide ((((n26 : Nat) : Int) : Int) > (IntKind.wrap .i64 (((x0n : Nat) : Int) + x3))) then true else (((n31 : Nat) : Int) : Int) != ((n26 : Nat) : Int)) (
 RetP R (.bool false) m34) (
 vcS Try.prog w0 qs15 (sub c15 [1, 1, 1, 1, 1, 1, 1, 0, 1, 0]) (upd (upd (upd (upd (upd (upd (upd (upd (upd (upd (upd (upd (upd (upd (upd (upd (upd (upd (upd (upd (upd (upd (upd (upd (upd (upd (upd (upd (upd (upd (upd (upd (upd (upd (upd σ 0 (.slice x0 x0n x0c)) 20 (.slice x20 x20n x20c)) 21 (.int .i64 x21)) 3 (.int .i64 x3)) 31 (.slice x0 x0n x0c)) 32 (.slice A25 n26 c27)) 6 (.slice A25 n26 c27)) 33 (.slice x0 x0n x0c)) 34 (.slice A25 n26 c27)) 35 (.slice A30 n31 c32)) 7 (.slice A30 n31 c32)) 36 (.slice A25 n26 c27)) 37 (.int .i64 ((n26 : Nat) : Int))) 38 (.slice x0 x0n x0c)) 39 (.int .i64 ((x0n : Nat) : Int))) 40 (.bool (decide ((((n26 : Nat) : Int) : Int) < ((x0n : Nat) : Int))))) 41 (.bool (decide ((((n26 : Nat) : Int) : Int) < ((x0n : Nat) : Int))))) 42 (.slice A25 n26 c27)) 43 (.int .i64 ((n26 : Nat) : Int))) 44 (.slice x0 x0n x0c)) 45 (.int .i64 ((x0n : Nat) : Int))) 46 (.int .i64 x3)) 47 (.int .i64 (IntKind.wrap .i64 (((x0n : Nat) : Int) + x3)))) 48 (.bool (decide ((((n26 : Nat) : Int) : Int) > (IntKind.wrap .i64 (((x0n : Nat) : Int) + x3)))))) 49 (.bool (bif decide ((((n26 : Nat) : Int) : Int) < ((x0n : Nat) : Int)) then true else decide ((((n26 : Nat) : Int) : Int) > (IntKind.wrap .i64 (((x0n : Nat) : Int) + x3)))))) 50 (.bool (bif decide ((((n26 : Nat) : Int) : Int) < ((x0n : Nat) : Int)) then true else decide ((((n26 : Nat) : Int) : Int) > (IntKind.wrap .i64 (((x0n : Nat) : Int) + x3)))))) 51 (.slice A30 n31 c32)) 52 (.int .i64 ((n31 : Nat) : Int))) 53 (.slice A25 n26 c27)) 54 (.int .i64 ((n26 : Nat) : Int))) 55 (.bool ((((n31 : Nat) : Int) : Int) != ((n26 : Nat) : Int)))) 56 (.bool (bif bif decide ((((n26 : Nat) : Int) : Int) < ((x0n : Nat) : Int)) then true else decide ((((n26 : Nat) : Int) : Int) > (IntKind.wrap .i64 (((x0n : Nat) : Int) + x3))) then true else (((n31 : Nat) : Int) : Int) != ((n26 : Nat) : Int)))) 57 (.slice x0 x0n x0c)) 58 (.int .i64 ((x0n : Nat) : Int))) 59 (.int .i64 0)) m34 (blockS 2 (thenS (fun σ m => vcS Try.prog w0 qs15 (sub c15 [1, 1, 1, 1, 1, 1, 1, 1]) σ m (retQ Try.prog Try.f15 R)) (retQ Try.prog Try.f15 R))))))))))) :
 vcS Try.prog w0 qs15 (sub c15 [1, 1, 1, 0, 1, 0]) σ m (blockS 0 (thenS (fun σ m => vcS Try.prog w0 qs15 (sub c15 [1, 1, 1, 1]) σ m (retQ Try.prog Try.f15 R)) (retQ Try.prog Try.f15 R))) := by
  rw [show sub c15 [1, 1, 1, 0, 1, 0] = .loop (sub c15 [1, 1, 1, 0, 1, 0, 0]) from by kernel_rfl]
  refine loopQ (fun n0 σ m => σ 0 = .slice x0 x0n x0c ∧ σ 20 = .slice x20 x20n x20c ∧ σ 21 = .int .i64 x21 ∧ okI .i64 (σ 3) = true ∧ okI .i64 (σ 22) = true ∧ I0 n0 (vI (σ 3)) (vI (σ 22)) m) N (fun n0 => (lq15_111010 R x0 x0n x0c x20 x20n x20c x21 I0 E0_0 n0)) ⟨h0, h20, h21, (by rw [h3]; rfl), (by rw [h22]; rfl), (by rw [h3, h22]; exact h_0)⟩ ?_ ?_ ?_
  · rintro n0 σ m ⟨kk0, kk1, kk2, kk3, kk4, n', hlt, hI⟩; exact ⟨n', hlt, kk0, kk1, kk2, kk3, kk4, hI⟩
  · intro n0 e σ m hne h
    cases e with
    | normal => exact absurd rfl hne
    | ret => exact h
    | exit id =>
      by_cases e0 : id = 0
      · subst e0
        obtain ⟨kk0, kk1, kk2, kk3, hE⟩ := h
        have es : (upd (upd (upd (upd σ 0 (.slice x0 x0n x0c)) 20 (.slice x20 x20n x20c)) 21 (.int .i64 x21)) 3 (.int .i64 (vI (σ 3)))) = σ := by rw [upd_id kk0, upd_id kk1, upd_id kk2, upd_id (ok_int kk3)]
        exact cast (congrArg (fun s => (blockS 0 (thenS (fun σ m => vcS Try.prog w0 qs15 (sub c15 [1, 1, 1, 1]) σ m (retQ Try.prog Try.f15 R)) (retQ Try.prog Try.f15 R))) (.exit 0) s m) es) (cast (by kernel_rfl) (h_e0 σ (vI (σ 3)) m hE))
      · replace h := (if_neg e0 : (if id = 0 then _ else _) = _).mp h
        exact False.elim h
    | _ => exact False.elim h
  · rintro n0 σ m ⟨kk0, kk1, kk2, kk3, kk4, hI⟩
    have es : (upd (upd (upd (upd (upd σ 0 (.slice x0 x0n x0c)) 3 (.int .i64 (vI (σ 3)))) 20 (.slice x20 x20n x20c)) 21 (.int .i64 x21)) 22 (.int .i64 (vI (σ 22)))) = σ := by rw [upd_id kk0, upd_id (ok_int kk3), upd_id kk1, upd_id kk2, upd_id (ok_int kk4)]
    exact cast (congrArg (fun s => vcS Try.prog w0 qs15 (sub c15 [1, 1, 1, 0, 1, 0, 0]) s m (lq15_111010 R x0 x0n x0c x20 x20n x20c x21 I0 E0_0 n0)) es) (cast (by kernel_rfl) (h_s n0 σ (vI (σ 3)) (vI (σ 22)) m hI))
def lq15_1111111010 (R : Value → AM → Prop) (x0 : Option Addr) (x0n x0c : Nat) (x7 : Option Addr) (x7n x7c : Nat) (x57 : Option Addr) (x57n x57c : Nat) (x58 : Int) (I0 : Nat → Int → AM → Prop) (E0_2 : AM → Prop) (n0 : Nat) : Exit → Sg → AM → Prop
  | .normal, σ, m => σ 0 = .slice x0 x0n x0c ∧ σ 7 = .slice x7 x7n x7c ∧ σ 57 = .slice x57 x57n x57c ∧ σ 58 = .int .i64 x58 ∧ okI .i64 (σ 59) = true ∧ ∃ n' : Nat, n' < n0 ∧ I0 n' (vI (σ 59)) m
  | .exit id, σ, m => if id = 2 then σ 0 = .slice x0 x0n x0c ∧ σ 7 = .slice x7 x7n x7c ∧ σ 57 = .slice x57 x57n x57c ∧ σ 58 = .int .i64 x58 ∧ E0_2  m else False
  | .ret, σ, m => retQ Try.prog Try.f15 R .ret σ m
  | _, _, _ => False
theorem vl15_1111111010 (w0 : World) (m : AM) (σ : Sg) (R : Value → AM → Prop)  (x0 : Option Addr) (x0n x0c : Nat) (x7 : Option Addr) (x7n x7c : Nat) (x57 : Option Addr) (x57n x57c : Nat) (x58 : Int) (x59 : Int) (I0 : Nat → Int → AM → Prop) (E0_2 : AM → Prop) (N : Nat) (h0 : σ 0 = .slice x0 x0n x0c) (h7 : σ 7 = .slice x7 x7n x7c) (h57 : σ 57 = .slice x57 x57n x57c) (h58 : σ 58 = .int .i64 x58) (h59 : σ 59 = .int .i64 x59)
 (h_0 : I0 N x59 m)
 (h_s : ∀ (n0 : Nat) (σ : Sg) (x59 : Int) (m : AM), I0 n0 x59 m → (
 IntKind.i64 = IntKind.i64 ∧ (bcase (decide ((x59 : Int) < x58)) (
 ((0 : Int) ≤ x59 ∧ x59 < ((x57n : Nat) : Int)) ∧ nilO x57 fun a35 =>
 ∃ i36 : Int, m.cell (a35.add ((x59 : Int).toNat * 5)) = some (.int .i64 i36) ∧ ∃ i37 : Int, m.cell ((a35.add ((x59 : Int).toNat * 5)).add 1) = some (.int .i64 i37) ∧ ∃ i38 : Int, m.cell ((a35.add ((x59 : Int).toNat * 5)).add 2) = some (.int .i64 i38) ∧ ∃ i39 : Int, m.cell ((a35.add ((x59 : Int).toNat * 5)).add 3) = some (.int .i64 i39) ∧ ∃ i40 : Int, m.cell ((a35.add ((x59 : Int).toNat * 5)).add 4) = some (.int .i64 i40) ∧ 
 ∀ b41 : Nat, w0.heap.size ≤ b41 → m b41 = none → let m42 := AM.upd m b41 (.cells #[.int .i64 0, .int .i64 0, .int .i64 0, .int .i64 0, .int .i64 0] 24);
 StC w0.heap.size m42 ⟨b41, 0, none⟩ (.int .i64 i36) fun m43 =>
 StC w0.heap.size m43 ⟨b41, 1, none⟩ (.int .i64 i37) fun m44 =>
 StC w0.heap.size m44 ⟨b41, 2, none⟩ (.int .i64 i38) fun m45 =>
 StC w0.heap.size m45 ⟨b41, 3, none⟩ (.int .i64 i39) fun m46 =>
 StC w0.heap.size m46 ⟨b41, 4, none⟩ (.int .i64 i40) fun m47 =>
 vcS Try.prog w0 qs15 (sub c15 [1, 1, 1, 1, 1, 1, 1, 0, 1, 0, 0, 1, 1, 0, 0, 1, 1, 0, 1, 0]) (upd (upd (upd (upd (upd (upd (upd (upd (upd (upd (upd (upd (upd (upd σ 0 (.slice x0 x0n x0c)) 7 (.slice x7 x7n x7c)) 57 (.slice x57 x57n x57c)) 58 (.int .i64 x58)) 59 (.int .i64 x59)) 60 (.bool (decide ((x59 : Int) < x58)))) 61 (.pointer (some (a35.add ((x59 : Int).toNat * 5))))) 62 (.agg #[.int .i64 i36, .int .i64 i37, .int .i64 i38, .int .i64 i39, .int .i64 i40])) 9 (.pointer (some ⟨b41, 0, none⟩))) 10 (.int .i64 0)) 11 (.int .i64 0)) 63 (.slice x0 x0n x0c)) 64 (.int .i64 ((x0n : Nat) : Int))) 65 (.int .i64 0)) m47 (blockS 4 (thenS (fun σ m => vcS Try.prog w0 qs15 (sub c15 [1, 1, 1, 1, 1, 1, 1, 0, 1, 0, 0, 1, 1, 0, 0, 1, 1, 1]) σ m (blockS 3 (thenS (fun σ m => vcS Try.prog w0 qs15 (sub c15 [1, 1, 1, 1, 1, 1, 1, 0, 1, 0, 0, 1, 1, 1]) σ m (lq15_1111111010 R x0 x0n x0c x7 x7n x7c x57 x57n x57c x58 I0 E0_2 n0)) (lq15_1111111010 R x0 x0n x0c x7 x7n x7c x57 x57n x57c x58 I0 E0_2 n0)))) (blockS 3 (thenS (fun σ m => vcS Try.prog w0 qs15 (sub c15 [1, 1, 1, 1, 1, 1, 1, 0, 1, 0, 0, 1, 1, 1]) σ m (lq15_1111111010 R x0 x0n x0c x7 x7n x7c x57 x57n x57c x58 I0 E0_2 n0)) (lq15_1111111010 R x0 x0n x0c x7 x7n x7c x57 x57n x57c x58 I0 E0_2 n0)))))) (
 (.slice x0 x0n x0c : Value) = .slice x0 x0n x0c ∧ (.slice x7 x7n x7c : Value) = .slice x7 x7n x7c ∧ (.slice x57 x57n x57c : Value) = .slice x57 x57n x57c ∧ (.int .i64 x58 : Value) = .int .i64 x58 ∧ E0_2  m))))
 (h_e2 : ∀ (σ : Sg)  (m : AM), E0_2  m → (
 CallsA Try.prog w0 32 #[] m fun r49 m50 =>
 ∃ t48 : Bool, r49 = .bool t48 ∧ RetP R (.bool t48) m50)) :
 vcS Try.prog w0 qs15 (sub c15 [1, 1, 1, 1, 1, 1, 1, 0, 1, 0]) σ m (blockS 2 (thenS (fun σ m => vcS Try.prog w0 qs15 (sub c15 [1, 1, 1, 1, 1, 1, 1, 1]) σ m (retQ Try.prog Try.f15 R)) (retQ Try.prog Try.f15 R))) := by
  rw [show sub c15 [1, 1, 1, 1, 1, 1, 1, 0, 1, 0] = .loop (sub c15 [1, 1, 1, 1, 1, 1, 1, 0, 1, 0, 0]) from by kernel_rfl]
  refine loopQ (fun n0 σ m => σ 0 = .slice x0 x0n x0c ∧ σ 7 = .slice x7 x7n x7c ∧ σ 57 = .slice x57 x57n x57c ∧ σ 58 = .int .i64 x58 ∧ okI .i64 (σ 59) = true ∧ I0 n0 (vI (σ 59)) m) N (fun n0 => (lq15_1111111010 R x0 x0n x0c x7 x7n x7c x57 x57n x57c x58 I0 E0_2 n0)) ⟨h0, h7, h57, h58, (by rw [h59]; rfl), (by rw [h59]; exact h_0)⟩ ?_ ?_ ?_
  · rintro n0 σ m ⟨kk0, kk1, kk2, kk3, kk4, n', hlt, hI⟩; exact ⟨n', hlt, kk0, kk1, kk2, kk3, kk4, hI⟩
  · intro n0 e σ m hne h
    cases e with
    | normal => exact absurd rfl hne
    | ret => exact h
    | exit id =>
      by_cases e2 : id = 2
      · subst e2
        obtain ⟨kk0, kk1, kk2, kk3, hE⟩ := h
        have es : (upd (upd (upd (upd σ 0 (.slice x0 x0n x0c)) 7 (.slice x7 x7n x7c)) 57 (.slice x57 x57n x57c)) 58 (.int .i64 x58)) = σ := by rw [upd_id kk0, upd_id kk1, upd_id kk2, upd_id kk3]
        exact cast (congrArg (fun s => (blockS 2 (thenS (fun σ m => vcS Try.prog w0 qs15 (sub c15 [1, 1, 1, 1, 1, 1, 1, 1]) σ m (retQ Try.prog Try.f15 R)) (retQ Try.prog Try.f15 R))) (.exit 2) s m) es) (cast (by kernel_rfl) (h_e2 σ  m hE))
      · replace h := (if_neg e2 : (if id = 2 then _ else _) = _).mp h
        exact False.elim h
    | _ => exact False.elim h
  · rintro n0 σ m ⟨kk0, kk1, kk2, kk3, kk4, hI⟩
    have es : (upd (upd (upd (upd (upd σ 0 (.slice x0 x0n x0c)) 7 (.slice x7 x7n x7c)) 57 (.slice x57 x57n x57c)) 58 (.int .i64 x58)) 59 (.int .i64 (vI (σ 59)))) = σ := by rw [upd_id kk0, upd_id kk1, upd_id kk2, upd_id kk3, upd_id (ok_int kk4)]
    exact cast (congrArg (fun s => vcS Try.prog w0 qs15 (sub c15 [1, 1, 1, 1, 1, 1, 1, 0, 1, 0, 0]) s m (lq15_1111111010 R x0 x0n x0c x7 x7n x7c x57 x57n x57c x58 I0 E0_2 n0)) es) (cast (by kernel_rfl) (h_s n0 σ (vI (σ 59)) m hI))
def lq15_11111110100110011010 (R : Value → AM → Prop) (x0 : Option Addr) (x0n x0c : Nat) (x7 : Option Addr) (x7n x7c : Nat) (x9 : Nat) (x11 : Int) (x57 : Option Addr) (x57n x57c : Nat) (x58 : Int) (x59 : Int) (x63 : Option Addr) (x63n x63c : Nat) (x64 : Int) (I1 : Nat → Int → Int → AM → Prop) (E1_4 : Int → AM → Prop) (n1 : Nat) : Exit → Sg → AM → Prop
  | .normal, σ, m => σ 0 = .slice x0 x0n x0c ∧ σ 7 = .slice x7 x7n x7c ∧ σ 9 = .pointer (some ⟨x9, 0, none⟩) ∧ σ 11 = .int .i64 x11 ∧ σ 57 = .slice x57 x57n x57c ∧ σ 58 = .int .i64 x58 ∧ σ 59 = .int .i64 x59 ∧ σ 63 = .slice x63 x63n x63c ∧ σ 64 = .int .i64 x64 ∧ okI .i64 (σ 10) = true ∧ okI .i64 (σ 65) = true ∧ ∃ n' : Nat, n' < n1 ∧ I1 n' (vI (σ 10)) (vI (σ 65)) m
  | .exit id, σ, m => if id = 4 then σ 0 = .slice x0 x0n x0c ∧ σ 7 = .slice x7 x7n x7c ∧ σ 9 = .pointer (some ⟨x9, 0, none⟩) ∧ σ 11 = .int .i64 x11 ∧ σ 57 = .slice x57 x57n x57c ∧ σ 58 = .int .i64 x58 ∧ σ 59 = .int .i64 x59 ∧ σ 63 = .slice x63 x63n x63c ∧ σ 64 = .int .i64 x64 ∧ okI .i64 (σ 10) = true ∧ E1_4 (vI (σ 10)) m else False
  | .ret, σ, m => retQ Try.prog Try.f15 R .ret σ m
  | _, _, _ => False
theorem vl15_11111110100110011010 (w0 : World) (m : AM) (σ : Sg) (R : Value → AM → Prop) (n0 : Nat) (I0 : Nat → Int → AM → Prop) (E0_2 : AM → Prop) (x0 : Option Addr) (x0n x0c : Nat) (x7 : Option Addr) (x7n x7c : Nat) (x9 : Nat) (x11 : Int) (x57 : Option Addr) (x57n x57c : Nat) (x58 : Int) (x59 : Int) (x63 : Option Addr) (x63n x63c : Nat) (x64 : Int) (x10 : Int) (x65 : Int) (I1 : Nat → Int → Int → AM → Prop) (E1_4 : Int → AM → Prop) (N : Nat) (h0 : σ 0 = .slice x0 x0n x0c) (h7 : σ 7 = .slice x7 x7n x7c) (h9 : σ 9 = .pointer (some ⟨x9, 0, none⟩)) (h10 : σ 10 = .int .i64 x10) (h11 : σ 11 = .int .i64 x11) (h57 : σ 57 = .slice x57 x57n x57c) (h58 : σ 58 = .int .i64 x58) (h59 : σ 59 = .int .i64 x59) (h63 : σ 63 = .slice x63 x63n x63c) (h64 : σ 64 = .int .i64 x64) (h65 : σ 65 = .int .i64 x65)
 (h_0 : I1 N x10 x65 m)
 (h_s : ∀ (n1 : Nat) (σ : Sg) (x10 : Int) (x65 : Int) (m : AM), I1 n1 x10 x65 m → (
 IntKind.i64 = IntKind.i64 ∧ (bcase (decide ((x65 : Int) < x64)) (
 ((0 : Int) ≤ x65 ∧ x65 < ((x63n : Nat) : Int)) ∧ nilO x63 fun a51 =>
 ∃ i52 : Int, m.cell (a51.add ((x65 : Int).toNat * 5)) = some (.int .i64 i52) ∧ ∃ i53 : Int, m.cell ((a51.add ((x65 : Int).toNat * 5)).add 1) = some (.int .i64 i53) ∧ ∃ i54 : Int, m.cell ((a51.add ((x65 : Int).toNat * 5)).add 2) = some (.int .i64 i54) ∧ ∃ i55 : Int, m.cell ((a51.add ((x65 : Int).toNat * 5)).add 3) = some (.int .i64 i55) ∧ ∃ i56 : Int, m.cell ((a51.add ((x65 : Int).toNat * 5)).add 4) = some (.int .i64 i56) ∧ 
 ∀ b57 : Nat, w0.heap.size ≤ b57 → m b57 = none → let m58 := AM.upd m b57 (.cells #[.int .i64 0, .int .i64 0, .int .i64 0, .int .i64 0, .int .i64 0] 24);
 StC w0.heap.size m58 ⟨b57, 0, none⟩ (.int .i64 i52) fun m59 =>
 StC w0.heap.size m59 ⟨b57, 1, none⟩ (.int .i64 i53) fun m60 =>
 StC w0.heap.size m60 ⟨b57, 2, none⟩ (.int .i64 i54) fun m61 =>
 StC w0.heap.size m61 ⟨b57, 3, none⟩ (.int .i64 i55) fun m62 =>
 StC w0.heap.size m62 ⟨b57, 4, none⟩ (.int .i64 i56) fun m63 =>
 ∃ i64 : Int, m63.cell ⟨x9, 0, none⟩ = some (.int .i64 i64) ∧ ∃ i65 : Int, m63.cell ⟨x9, 1, none⟩ = some (.int .i64 i65) ∧ ∃ i66 : Int, m63.cell ⟨x9, 2, none⟩ = some (.int .i64 i66) ∧ ∃ i67 : Int, m63.cell ⟨x9, 3, none⟩ = some (.int .i64 i67) ∧ ∃ i68 : Int, m63.cell ⟨x9, 4, none⟩ = some (.int .i64 i68) ∧ 
 ∃ i69 : Int, m63.cell ⟨b57, 0, none⟩ = some (.int .i64 i69) ∧ ∃ i70 : Int, m63.cell ⟨b57, 1, none⟩ = some (.int .i64 i70) ∧ ∃ i71 : Int, m63.cell ⟨b57, 2, none⟩ = some (.int .i64 i71) ∧ ∃ i72 : Int, m63.cell ⟨b57, 3, none⟩ = some (.int .i64 i72) ∧ ∃ i73 : Int, m63.cell ⟨b57, 4, none⟩ = some (.int .i64 i73) ∧ 
 ∃ t74 : Bool, EqP Try.prog .eql 24 (.agg #[.int .i64 i64, .int .i64 i65, .int .i64 i66, .int .i64 i67, .int .i64 i68]) (.agg #[.int .i64 i69, .int .i64 i70, .int .i64 i71, .int .i64 i72, .int .i64 i73]) t74 ∧ (bcase t74 (
 IntKind.i64 = IntKind.i64 ∧ IntKind.i64 = IntKind.i64 ∧ (.slice x0 x0n x0c : Value) = .slice x0 x0n x0c ∧ (.slice x7 x7n x7c : Value) = .slice x7 x7n x7c ∧ (.pointer (some ⟨x9, 0, none⟩) : Value) = .pointer (some ⟨x9, 0, none⟩) ∧ (.int .i64 x11 : Value) = .int .i64 x11 ∧ (.slice x57 x57n x57c : Value) = .slice x57 x57n x57c ∧ (.int .i64 x58 : Value) = .int .i64 x58 ∧ (.int .i64 x59 : Value) = .int .i64 x59 ∧ (.slice x63 x63n x63c : Value) = .slice x63 x63n x63c ∧ (.int .i64 x64 : Value) = .int .i64 x64 ∧ true = true ∧ true = true ∧ ∃ n' : Nat, n' < n1 ∧ I1 n' (IntKind.wrap .i64 (x10 + 1)) (IntKind.wrap .i64 (x65 + 1)) m63) (
 IntKind.i64 = IntKind.i64 ∧ (.slice x0 x0n x0c : Value) = .slice x0 x0n x0c ∧ (.slice x7 x7n x7c : Value) = .slice x7 x7n x7c ∧ (.pointer (some ⟨x9, 0, none⟩) : Value) = .pointer (some ⟨x9, 0, none⟩) ∧ (.int .i64 x11 : Value) = .int .i64 x11 ∧ (.slice x57 x57n x57c : Value) = .slice x57 x57n x57c ∧ (.int .i64 x58 : Value) = .int .i64 x58 ∧ (.int .i64 x59 : Value) = .int .i64 x59 ∧ (.slice x63 x63n x63c : Value) = .slice x63 x63n x63c ∧ (.int .i64 x64 : Value) = .int .i64 x64 ∧ true = true ∧ true = true ∧ ∃ n' : Nat, n' < n1 ∧ I1 n' x10 (IntKind.wrap .i64 (x65 + 1)) m63))) (
 (.slice x0 x0n x0c : Value) = .slice x0 x0n x0c ∧ (.slice x7 x7n x7c : Value) = .slice x7 x7n x7c ∧ (.pointer (some ⟨x9, 0, none⟩) : Value) = .pointer (some ⟨x9, 0, none⟩) ∧ (.int .i64 x11 : Value) = .int .i64 x11 ∧ (.slice x57 x57n x57c : Value) = .slice x57 x57n x57c ∧ (.int .i64 x58 : Value) = .int .i64 x58 ∧ (.int .i64 x59 : Value) = .int .i64 x59 ∧ (.slice x63 x63n x63c : Value) = .slice x63 x63n x63c ∧ (.int .i64 x64 : Value) = .int .i64 x64 ∧ true = true ∧ E1_4 x10 m))))
 (h_e4 : ∀ (σ : Sg) (x10 : Int) (m : AM), E1_4 x10 m → (
 vcS Try.prog w0 qs15 (sub c15 [1, 1, 1, 1, 1, 1, 1, 0, 1, 0, 0, 1, 1, 0, 0, 1, 1, 1, 0, 1, 0]) (upd (upd (upd (upd (upd (upd (upd (upd (upd (upd (upd (upd (upd σ 0 (.slice x0 x0n x0c)) 7 (.slice x7 x7n x7c)) 9 (.pointer (some ⟨x9, 0, none⟩))) 11 (.int .i64 x11)) 57 (.slice x57 x57n x57c)) 58 (.int .i64 x58)) 59 (.int .i64 x59)) 63 (.slice x63 x63n x63c)) 64 (.int .i64 x64)) 10 (.int .i64 x10)) 75 (.slice x7 x7n x7c)) 76 (.int .i64 ((x7n : Nat) : Int))) 77 (.int .i64 0)) m (blockS 6 (thenS (fun σ m => vcS Try.prog w0 qs15 (sub c15 [1, 1, 1, 1, 1, 1, 1, 0, 1, 0, 0, 1, 1, 0, 0, 1, 1, 1, 1]) σ m (blockS 3 (thenS (fun σ m => vcS Try.prog w0 qs15 (sub c15 [1, 1, 1, 1, 1, 1, 1, 0, 1, 0, 0, 1, 1, 1]) σ m (lq15_1111111010 R x0 x0n x0c x7 x7n x7c x57 x57n x57c x58 I0 E0_2 n0)) (lq15_1111111010 R x0 x0n x0c x7 x7n x7c x57 x57n x57c x58 I0 E0_2 n0)))) (blockS 3 (thenS (fun σ m => vcS Try.prog w0 qs15 (sub c15 [1, 1, 1, 1, 1, 1, 1, 0, 1, 0, 0, 1, 1, 1]) σ m (lq15_1111111010 R x0 x0n x0c x7 x7n x7c x57 x57n x57c x58 I0 E0_2 n0)) (lq15_1111111010 R x0 x0n x0c x7 x7n x7c x57 x57n x57c x58 I0 E0_2 n0))))))) :
 vcS Try.prog w0 qs15 (sub c15 [1, 1, 1, 1, 1, 1, 1, 0, 1, 0, 0, 1, 1, 0, 0, 1, 1, 0, 1, 0]) σ m (blockS 4 (thenS (fun σ m => vcS Try.prog w0 qs15 (sub c15 [1, 1, 1, 1, 1, 1, 1, 0, 1, 0, 0, 1, 1, 0, 0, 1, 1, 1]) σ m (blockS 3 (thenS (fun σ m => vcS Try.prog w0 qs15 (sub c15 [1, 1, 1, 1, 1, 1, 1, 0, 1, 0, 0, 1, 1, 1]) σ m (lq15_1111111010 R x0 x0n x0c x7 x7n x7c x57 x57n x57c x58 I0 E0_2 n0)) (lq15_1111111010 R x0 x0n x0c x7 x7n x7c x57 x57n x57c x58 I0 E0_2 n0)))) (blockS 3 (thenS (fun σ m => vcS Try.prog w0 qs15 (sub c15 [1, 1, 1, 1, 1, 1, 1, 0, 1, 0, 0, 1, 1, 1]) σ m (lq15_1111111010 R x0 x0n x0c x7 x7n x7c x57 x57n x57c x58 I0 E0_2 n0)) (lq15_1111111010 R x0 x0n x0c x7 x7n x7c x57 x57n x57c x58 I0 E0_2 n0))))) := by
  rw [show sub c15 [1, 1, 1, 1, 1, 1, 1, 0, 1, 0, 0, 1, 1, 0, 0, 1, 1, 0, 1, 0] = .loop (sub c15 [1, 1, 1, 1, 1, 1, 1, 0, 1, 0, 0, 1, 1, 0, 0, 1, 1, 0, 1, 0, 0]) from by kernel_rfl]
  refine loopQ (fun n1 σ m => σ 0 = .slice x0 x0n x0c ∧ σ 7 = .slice x7 x7n x7c ∧ σ 9 = .pointer (some ⟨x9, 0, none⟩) ∧ σ 11 = .int .i64 x11 ∧ σ 57 = .slice x57 x57n x57c ∧ σ 58 = .int .i64 x58 ∧ σ 59 = .int .i64 x59 ∧ σ 63 = .slice x63 x63n x63c ∧ σ 64 = .int .i64 x64 ∧ okI .i64 (σ 10) = true ∧ okI .i64 (σ 65) = true ∧ I1 n1 (vI (σ 10)) (vI (σ 65)) m) N (fun n1 => (lq15_11111110100110011010 R x0 x0n x0c x7 x7n x7c x9 x11 x57 x57n x57c x58 x59 x63 x63n x63c x64 I1 E1_4 n1)) ⟨h0, h7, h9, h11, h57, h58, h59, h63, h64, (by rw [h10]; rfl), (by rw [h65]; rfl), (by rw [h10, h65]; exact h_0)⟩ ?_ ?_ ?_
  · rintro n1 σ m ⟨kk0, kk1, kk2, kk3, kk4, kk5, kk6, kk7, kk8, kk9, kk10, n', hlt, hI⟩; exact ⟨n', hlt, kk0, kk1, kk2, kk3, kk4, kk5, kk6, kk7, kk8, kk9, kk10, hI⟩
  · intro n1 e σ m hne h
    cases e with
    | normal => exact absurd rfl hne
    | ret => exact h
    | exit id =>
      by_cases e4 : id = 4
      · subst e4
        obtain ⟨kk0, kk1, kk2, kk3, kk4, kk5, kk6, kk7, kk8, kk9, hE⟩ := h
        have es : (upd (upd (upd (upd (upd (upd (upd (upd (upd (upd σ 0 (.slice x0 x0n x0c)) 7 (.slice x7 x7n x7c)) 9 (.pointer (some ⟨x9, 0, none⟩))) 11 (.int .i64 x11)) 57 (.slice x57 x57n x57c)) 58 (.int .i64 x58)) 59 (.int .i64 x59)) 63 (.slice x63 x63n x63c)) 64 (.int .i64 x64)) 10 (.int .i64 (vI (σ 10)))) = σ := by rw [upd_id kk0, upd_id kk1, upd_id kk2, upd_id kk3, upd_id kk4, upd_id kk5, upd_id kk6, upd_id kk7, upd_id kk8, upd_id (ok_int kk9)]
        exact cast (congrArg (fun s => (blockS 4 (thenS (fun σ m => vcS Try.prog w0 qs15 (sub c15 [1, 1, 1, 1, 1, 1, 1, 0, 1, 0, 0, 1, 1, 0, 0, 1, 1, 1]) σ m (blockS 3 (thenS (fun σ m => vcS Try.prog w0 qs15 (sub c15 [1, 1, 1, 1, 1, 1, 1, 0, 1, 0, 0, 1, 1, 1]) σ m (lq15_1111111010 R x0 x0n x0c x7 x7n x7c x57 x57n x57c x58 I0 E0_2 n0)) (lq15_1111111010 R x0 x0n x0c x7 x7n x7c x57 x57n x57c x58 I0 E0_2 n0)))) (blockS 3 (thenS (fun σ m => vcS Try.prog w0 qs15 (sub c15 [1, 1, 1, 1, 1, 1, 1, 0, 1, 0, 0, 1, 1, 1]) σ m (lq15_1111111010 R x0 x0n x0c x7 x7n x7c x57 x57n x57c x58 I0 E0_2 n0)) (lq15_1111111010 R x0 x0n x0c x7 x7n x7c x57 x57n x57c x58 I0 E0_2 n0))))) (.exit 4) s m) es) (cast (by kernel_rfl) (h_e4 σ (vI (σ 10)) m hE))
      · replace h := (if_neg e4 : (if id = 4 then _ else _) = _).mp h
        exact False.elim h
    | _ => exact False.elim h
  · rintro n1 σ m ⟨kk0, kk1, kk2, kk3, kk4, kk5, kk6, kk7, kk8, kk9, kk10, hI⟩
    have es : (upd (upd (upd (upd (upd (upd (upd (upd (upd (upd (upd σ 0 (.slice x0 x0n x0c)) 7 (.slice x7 x7n x7c)) 9 (.pointer (some ⟨x9, 0, none⟩))) 10 (.int .i64 (vI (σ 10)))) 11 (.int .i64 x11)) 57 (.slice x57 x57n x57c)) 58 (.int .i64 x58)) 59 (.int .i64 x59)) 63 (.slice x63 x63n x63c)) 64 (.int .i64 x64)) 65 (.int .i64 (vI (σ 65)))) = σ := by rw [upd_id kk0, upd_id kk1, upd_id kk2, upd_id (ok_int kk9), upd_id kk3, upd_id kk4, upd_id kk5, upd_id kk6, upd_id kk7, upd_id kk8, upd_id (ok_int kk10)]
    exact cast (congrArg (fun s => vcS Try.prog w0 qs15 (sub c15 [1, 1, 1, 1, 1, 1, 1, 0, 1, 0, 0, 1, 1, 0, 0, 1, 1, 0, 1, 0, 0]) s m (lq15_11111110100110011010 R x0 x0n x0c x7 x7n x7c x9 x11 x57 x57n x57c x58 x59 x63 x63n x63c x64 I1 E1_4 n1)) es) (cast (by kernel_rfl) (h_s n1 σ (vI (σ 10)) (vI (σ 65)) m hI))
def lq15_111111101001100111010 (R : Value → AM → Prop) (x0 : Option Addr) (x0n x0c : Nat) (x7 : Option Addr) (x7n x7c : Nat) (x9 : Nat) (x10 : Int) (x57 : Option Addr) (x57n x57c : Nat) (x58 : Int) (x59 : Int) (x75 : Option Addr) (x75n x75c : Nat) (x76 : Int) (I1 : Nat → Int → Int → AM → Prop) (E1_6 : Int → AM → Prop) (n1 : Nat) : Exit → Sg → AM → Prop
  | .normal, σ, m => σ 0 = .slice x0 x0n x0c ∧ σ 7 = .slice x7 x7n x7c ∧ σ 9 = .pointer (some ⟨x9, 0, none⟩) ∧ σ 10 = .int .i64 x10 ∧ σ 57 = .slice x57 x57n x57c ∧ σ 58 = .int .i64 x58 ∧ σ 59 = .int .i64 x59 ∧ σ 75 = .slice x75 x75n x75c ∧ σ 76 = .int .i64 x76 ∧ okI .i64 (σ 11) = true ∧ okI .i64 (σ 77) = true ∧ ∃ n' : Nat, n' < n1 ∧ I1 n' (vI (σ 11)) (vI (σ 77)) m
  | .exit id, σ, m => if id = 6 then σ 0 = .slice x0 x0n x0c ∧ σ 7 = .slice x7 x7n x7c ∧ σ 9 = .pointer (some ⟨x9, 0, none⟩) ∧ σ 10 = .int .i64 x10 ∧ σ 57 = .slice x57 x57n x57c ∧ σ 58 = .int .i64 x58 ∧ σ 59 = .int .i64 x59 ∧ σ 75 = .slice x75 x75n x75c ∧ σ 76 = .int .i64 x76 ∧ okI .i64 (σ 11) = true ∧ E1_6 (vI (σ 11)) m else False
  | .ret, σ, m => retQ Try.prog Try.f15 R .ret σ m
  | _, _, _ => False
theorem vl15_111111101001100111010 (w0 : World) (m : AM) (σ : Sg) (R : Value → AM → Prop) (n0 : Nat) (I0 : Nat → Int → AM → Prop) (E0_2 : AM → Prop) (x0 : Option Addr) (x0n x0c : Nat) (x7 : Option Addr) (x7n x7c : Nat) (x9 : Nat) (x10 : Int) (x57 : Option Addr) (x57n x57c : Nat) (x58 : Int) (x59 : Int) (x75 : Option Addr) (x75n x75c : Nat) (x76 : Int) (x11 : Int) (x77 : Int) (I1 : Nat → Int → Int → AM → Prop) (E1_6 : Int → AM → Prop) (N : Nat) (h0 : σ 0 = .slice x0 x0n x0c) (h7 : σ 7 = .slice x7 x7n x7c) (h9 : σ 9 = .pointer (some ⟨x9, 0, none⟩)) (h10 : σ 10 = .int .i64 x10) (h11 : σ 11 = .int .i64 x11) (h57 : σ 57 = .slice x57 x57n x57c) (h58 : σ 58 = .int .i64 x58) (h59 : σ 59 = .int .i64 x59) (h75 : σ 75 = .slice x75 x75n x75c) (h76 : σ 76 = .int .i64 x76) (h77 : σ 77 = .int .i64 x77)
 (h_0 : I1 N x11 x77 m)
 (h_s : ∀ (n1 : Nat) (σ : Sg) (x11 : Int) (x77 : Int) (m : AM), I1 n1 x11 x77 m → (
 IntKind.i64 = IntKind.i64 ∧ (bcase (decide ((x77 : Int) < x76)) (
 ((0 : Int) ≤ x77 ∧ x77 < ((x75n : Nat) : Int)) ∧ nilO x75 fun a75 =>
 ∃ i76 : Int, m.cell (a75.add ((x77 : Int).toNat * 5)) = some (.int .i64 i76) ∧ ∃ i77 : Int, m.cell ((a75.add ((x77 : Int).toNat * 5)).add 1) = some (.int .i64 i77) ∧ ∃ i78 : Int, m.cell ((a75.add ((x77 : Int).toNat * 5)).add 2) = some (.int .i64 i78) ∧ ∃ i79 : Int, m.cell ((a75.add ((x77 : Int).toNat * 5)).add 3) = some (.int .i64 i79) ∧ ∃ i80 : Int, m.cell ((a75.add ((x77 : Int).toNat * 5)).add 4) = some (.int .i64 i80) ∧ 
 ∀ b81 : Nat, w0.heap.size ≤ b81 → m b81 = none → let m82 := AM.upd m b81 (.cells #[.int .i64 0, .int .i64 0, .int .i64 0, .int .i64 0, .int .i64 0] 24);
 StC w0.heap.size m82 ⟨b81, 0, none⟩ (.int .i64 i76) fun m83 =>
 StC w0.heap.size m83 ⟨b81, 1, none⟩ (.int .i64 i77) fun m84 =>
 StC w0.heap.size m84 ⟨b81, 2, none⟩ (.int .i64 i78) fun m85 =>
 StC w0.heap.size m85 ⟨b81, 3, none⟩ (.int .i64 i79) fun m86 =>
 StC w0.heap.size m86 ⟨b81, 4, none⟩ (.int .i64 i80) fun m87 =>
 ∃ i88 : Int, m87.cell ⟨x9, 0, none⟩ = some (.int .i64 i88) ∧ ∃ i89 : Int, m87.cell ⟨x9, 1, none⟩ = some (.int .i64 i89) ∧ ∃ i90 : Int, m87.cell ⟨x9, 2, none⟩ = some (.int .i64 i90) ∧ ∃ i91 : Int, m87.cell ⟨x9, 3, none⟩ = some (.int .i64 i91) ∧ ∃ i92 : Int, m87.cell ⟨x9, 4, none⟩ = some (.int .i64 i92) ∧ 
 ∃ i93 : Int, m87.cell ⟨b81, 0, none⟩ = some (.int .i64 i93) ∧ ∃ i94 : Int, m87.cell ⟨b81, 1, none⟩ = some (.int .i64 i94) ∧ ∃ i95 : Int, m87.cell ⟨b81, 2, none⟩ = some (.int .i64 i95) ∧ ∃ i96 : Int, m87.cell ⟨b81, 3, none⟩ = some (.int .i64 i96) ∧ ∃ i97 : Int, m87.cell ⟨b81, 4, none⟩ = some (.int .i64 i97) ∧ 
 ∃ t98 : Bool, EqP Try.prog .eql 24 (.agg #[.int .i64 i88, .int .i64 i89, .int .i64 i90, .int .i64 i91, .int .i64 i92]) (.agg #[.int .i64 i93, .int .i64 i94, .int .i64 i95, .int .i64 i96, .int .i64 i97]) t98 ∧ (bcase t98 (
 IntKind.i64 = IntKind.i64 ∧ IntKind.i64 = IntKind.i64 ∧ (.slice x0 x0n x0c : Value) = .slice x0 x0n x0c ∧ (.slice x7 x7n x7c : Value) = .slice x7 x7n x7c ∧ (.pointer (some ⟨x9, 0, none⟩) : Value) = .pointer (some ⟨x9, 0, none⟩) ∧ (.int .i64 x10 : Value) = .int .i64 x10 ∧ (.slice x57 x57n x57c : Value) = .slice x57 x57n x57c ∧ (.int .i64 x58 : Value) = .int .i64 x58 ∧ (.int .i64 x59 : Value) = .int .i64 x59 ∧ (.slice x75 x75n x75c : Value) = .slice x75 x75n x75c ∧ (.int .i64 x76 : Value) = .int .i64 x76 ∧ true = true ∧ true = true ∧ ∃ n' : Nat, n' < n1 ∧ I1 n' (IntKind.wrap .i64 (x11 + 1)) (IntKind.wrap .i64 (x77 + 1)) m87) (
 IntKind.i64 = IntKind.i64 ∧ (.slice x0 x0n x0c : Value) = .slice x0 x0n x0c ∧ (.slice x7 x7n x7c : Value) = .slice x7 x7n x7c ∧ (.pointer (some ⟨x9, 0, none⟩) : Value) = .pointer (some ⟨x9, 0, none⟩) ∧ (.int .i64 x10 : Value) = .int .i64 x10 ∧ (.slice x57 x57n x57c : Value) = .slice x57 x57n x57c ∧ (.int .i64 x58 : Value) = .int .i64 x58 ∧ (.int .i64 x59 : Value) = .int .i64 x59 ∧ (.slice x75 x75n x75c : Value) = .slice x75 x75n x75c ∧ (.int .i64 x76 : Value) = .int .i64 x76 ∧ true = true ∧ true = true ∧ ∃ n' : Nat, n' < n1 ∧ I1 n' x11 (IntKind.wrap .i64 (x77 + 1)) m87))) (
 (.slice x0 x0n x0c : Value) = .slice x0 x0n x0c ∧ (.slice x7 x7n x7c : Value) = .slice x7 x7n x7c ∧ (.pointer (some ⟨x9, 0, none⟩) : Value) = .pointer (some ⟨x9, 0, none⟩) ∧ (.int .i64 x10 : Value) = .int .i64 x10 ∧ (.slice x57 x57n x57c : Value) = .slice x57 x57n x57c ∧ (.int .i64 x58 : Value) = .int .i64 x58 ∧ (.int .i64 x59 : Value) = .int .i64 x59 ∧ (.slice x75 x75n x75c : Value) = .slice x75 x75n x75c ∧ (.int .i64 x76 : Value) = .int .i64 x76 ∧ true = true ∧ E1_6 x11 m))))
 (h_e6 : ∀ (σ : Sg) (x11 : Int) (m : AM), E1_6 x11 m → (
 IntKind.i64 = IntKind.i64 ∧ (bcase (decide ((x11 : Int) < x10)) (
 (decide ((x11 : Int) < x10)) = true ∧ RetP R (.bool false) m) (
 ∃ i99 : Int, m.cell ⟨x9, 0, none⟩ = some (.int .i64 i99) ∧ ∃ i100 : Int, m.cell ⟨x9, 1, none⟩ = some (.int .i64 i100) ∧ ∃ i101 : Int, m.cell ⟨x9, 2, none⟩ = some (.int .i64 i101) ∧ ∃ i102 : Int, m.cell ⟨x9, 3, none⟩ = some (.int .i64 i102) ∧ ∃ i103 : Int, m.cell ⟨x9, 4, none⟩ = some (.int .i64 i103) ∧ 
 true = true ∧ ∃ t104 : Bool, EqP Try.prog .neq 24 (.agg #[.int .i64 i99, .int .i64 i100, .int .i64 i101, .int .i64 i102, .int .i64 i103]) (.agg #[.int .i64 0, .int .i64 0, .int .i64 0, .int .i64 0, .int .i64 0]) t104 ∧ (bcase t104 (
 IntKind.i64 = IntKind.i64 ∧ (bcase (bif decide ((x11 : Int) < x10) then true else bif t104 then (x11 : Int) != x10 else false) (
 RetP R (.bool false) m) (
 IntKind.i64 = IntKind.i64 ∧ (.slice x0 x0n x0c : Value) = .slice x0 x0n x0c ∧ (.slice x7 x7n x7c : Value) = .slice x7 x7n x7c ∧ (.slice x57 x57n x57c : Value) = .slice x57 x57n x57c ∧ (.int .i64 x58 : Value) = .int .i64 x58 ∧ true = true ∧ ∃ n' : Nat, n' < n0 ∧ I0 n' (IntKind.wrap .i64 (x59 + 1)) m))) (
 t104 = false ∧ (bcase (bif decide ((x11 : Int) < x10) then true else false) (
 RetP R (.bool false) m) (
 IntKind.i64 = IntKind.i64 ∧ (.slice x0 x0n x0c : Value) = .slice x0 x0n x0c ∧ (.slice x7 x7n x7c : Value) = .slice x7 x7n x7c ∧ (.slice x57 x57n x57c : Value) = .slice x57 x57n x57c ∧ (.int .i64 x58 : Value) = .int .i64 x58 ∧ true = true ∧ ∃ n' : Nat, n' < n0 ∧ I0 n' (IntKind.wrap .i64 (x59 + 1)) m)))))))) :
 vcS Try.prog w0 qs15 (sub c15 [1, 1, 1, 1, 1, 1, 1, 0, 1, 0, 0, 1, 1, 0, 0, 1, 1, 1, 0, 1, 0]) σ m (blockS 6 (thenS (fun σ m => vcS Try.prog w0 qs15 (sub c15 [1, 1, 1, 1, 1, 1, 1, 0, 1, 0, 0, 1, 1, 0, 0, 1, 1, 1, 1]) σ m (blockS 3 (thenS (fun σ m => vcS Try.prog w0 qs15 (sub c15 [1, 1, 1, 1, 1, 1, 1, 0, 1, 0, 0, 1, 1, 1]) σ m (lq15_1111111010 R x0 x0n x0c x7 x7n x7c x57 x57n x57c x58 I0 E0_2 n0)) (lq15_1111111010 R x0 x0n x0c x7 x7n x7c x57 x57n x57c x58 I0 E0_2 n0)))) (blockS 3 (thenS (fun σ m => vcS Try.prog w0 qs15 (sub c15 [1, 1, 1, 1, 1, 1, 1, 0, 1, 0, 0, 1, 1, 1]) σ m (lq15_1111111010 R x0 x0n x0c x7 x7n x7c x57 x57n x57c x58 I0 E0_2 n0)) (lq15_1111111010 R x0 x0n x0c x7 x7n x7c x57 x57n x57c x58 I0 E0_2 n0))))) := by
  rw [show sub c15 [1, 1, 1, 1, 1, 1, 1, 0, 1, 0, 0, 1, 1, 0, 0, 1, 1, 1, 0, 1, 0] = .loop (sub c15 [1, 1, 1, 1, 1, 1, 1, 0, 1, 0, 0, 1, 1, 0, 0, 1, 1, 1, 0, 1, 0, 0]) from by kernel_rfl]
  refine loopQ (fun n1 σ m => σ 0 = .slice x0 x0n x0c ∧ σ 7 = .slice x7 x7n x7c ∧ σ 9 = .pointer (some ⟨x9, 0, none⟩) ∧ σ 10 = .int .i64 x10 ∧ σ 57 = .slice x57 x57n x57c ∧ σ 58 = .int .i64 x58 ∧ σ 59 = .int .i64 x59 ∧ σ 75 = .slice x75 x75n x75c ∧ σ 76 = .int .i64 x76 ∧ okI .i64 (σ 11) = true ∧ okI .i64 (σ 77) = true ∧ I1 n1 (vI (σ 11)) (vI (σ 77)) m) N (fun n1 => (lq15_111111101001100111010 R x0 x0n x0c x7 x7n x7c x9 x10 x57 x57n x57c x58 x59 x75 x75n x75c x76 I1 E1_6 n1)) ⟨h0, h7, h9, h10, h57, h58, h59, h75, h76, (by rw [h11]; rfl), (by rw [h77]; rfl), (by rw [h11, h77]; exact h_0)⟩ ?_ ?_ ?_
  · rintro n1 σ m ⟨kk0, kk1, kk2, kk3, kk4, kk5, kk6, kk7, kk8, kk9, kk10, n', hlt, hI⟩; exact ⟨n', hlt, kk0, kk1, kk2, kk3, kk4, kk5, kk6, kk7, kk8, kk9, kk10, hI⟩
  · intro n1 e σ m hne h
    cases e with
    | normal => exact absurd rfl hne
    | ret => exact h
    | exit id =>
      by_cases e6 : id = 6
      · subst e6
        obtain ⟨kk0, kk1, kk2, kk3, kk4, kk5, kk6, kk7, kk8, kk9, hE⟩ := h
        have es : (upd (upd (upd (upd (upd (upd (upd (upd (upd (upd σ 0 (.slice x0 x0n x0c)) 7 (.slice x7 x7n x7c)) 9 (.pointer (some ⟨x9, 0, none⟩))) 10 (.int .i64 x10)) 57 (.slice x57 x57n x57c)) 58 (.int .i64 x58)) 59 (.int .i64 x59)) 75 (.slice x75 x75n x75c)) 76 (.int .i64 x76)) 11 (.int .i64 (vI (σ 11)))) = σ := by rw [upd_id kk0, upd_id kk1, upd_id kk2, upd_id kk3, upd_id kk4, upd_id kk5, upd_id kk6, upd_id kk7, upd_id kk8, upd_id (ok_int kk9)]
        exact cast (congrArg (fun s => (blockS 6 (thenS (fun σ m => vcS Try.prog w0 qs15 (sub c15 [1, 1, 1, 1, 1, 1, 1, 0, 1, 0, 0, 1, 1, 0, 0, 1, 1, 1, 1]) σ m (blockS 3 (thenS (fun σ m => vcS Try.prog w0 qs15 (sub c15 [1, 1, 1, 1, 1, 1, 1, 0, 1, 0, 0, 1, 1, 1]) σ m (lq15_1111111010 R x0 x0n x0c x7 x7n x7c x57 x57n x57c x58 I0 E0_2 n0)) (lq15_1111111010 R x0 x0n x0c x7 x7n x7c x57 x57n x57c x58 I0 E0_2 n0)))) (blockS 3 (thenS (fun σ m => vcS Try.prog w0 qs15 (sub c15 [1, 1, 1, 1, 1, 1, 1, 0, 1, 0, 0, 1, 1, 1]) σ m (lq15_1111111010 R x0 x0n x0c x7 x7n x7c x57 x57n x57c x58 I0 E0_2 n0)) (lq15_1111111010 R x0 x0n x0c x7 x7n x7c x57 x57n x57c x58 I0 E0_2 n0))))) (.exit 6) s m) es) (cast (by kernel_rfl) (h_e6 σ (vI (σ 11)) m hE))
      · replace h := (if_neg e6 : (if id = 6 then _ else _) = _).mp h
        exact False.elim h
    | _ => exact False.elim h
  · rintro n1 σ m ⟨kk0, kk1, kk2, kk3, kk4, kk5, kk6, kk7, kk8, kk9, kk10, hI⟩
    have es : (upd (upd (upd (upd (upd (upd (upd (upd (upd (upd (upd σ 0 (.slice x0 x0n x0c)) 7 (.slice x7 x7n x7c)) 9 (.pointer (some ⟨x9, 0, none⟩))) 10 (.int .i64 x10)) 11 (.int .i64 (vI (σ 11)))) 57 (.slice x57 x57n x57c)) 58 (.int .i64 x58)) 59 (.int .i64 x59)) 75 (.slice x75 x75n x75c)) 76 (.int .i64 x76)) 77 (.int .i64 (vI (σ 77)))) = σ := by rw [upd_id kk0, upd_id kk1, upd_id kk2, upd_id kk3, upd_id (ok_int kk9), upd_id kk4, upd_id kk5, upd_id kk6, upd_id kk7, upd_id kk8, upd_id (ok_int kk10)]
    exact cast (congrArg (fun s => vcS Try.prog w0 qs15 (sub c15 [1, 1, 1, 1, 1, 1, 1, 0, 1, 0, 0, 1, 1, 0, 0, 1, 1, 1, 0, 1, 0, 0]) s m (lq15_111111101001100111010 R x0 x0n x0c x7 x7n x7c x9 x10 x57 x57n x57c x58 x59 x75 x75n x75c x76 I1 E1_6 n1)) es) (cast (by kernel_rfl) (h_s n1 σ (vI (σ 11)) (vI (σ 77)) m hI))

/-! 16 delayslot/delayslotlaw11.SchedAlone -/
def qs16 : Nat → List (Nat × Nat) := fun i => match i with | _ => []
noncomputable def c16 : Code := bodyOf Try.f16
theorem cf16 (w0 : World) (m : AM) (x0_0 : Int) (x0_1 : Int) (x0_2 : Int) (x0_3 : Int) (x0_4 : Int) (R : Value → AM → Prop) (h :
 ∀ b1 : Nat, w0.heap.size ≤ b1 → m b1 = none → let m2 := AM.upd m b1 (.cells #[.int .i64 x0_0, .int .i64 x0_1, .int .i64 x0_2, .int .i64 x0_3, .int .i64 x0_4] 24);
 true = true ∧ ∀ b3 : Nat, w0.heap.size ≤ b3 → m2 b3 = none → let m4 := AM.upd m2 b3 (.cells #[.int .i64 0] 3);
 ∃ i5 : Int, m4.cell ⟨b1, 0, none⟩ = some (.int .i64 i5) ∧ ∃ i6 : Int, m4.cell ⟨b1, 1, none⟩ = some (.int .i64 i6) ∧ ∃ i7 : Int, m4.cell ⟨b1, 2, none⟩ = some (.int .i64 i7) ∧ ∃ i8 : Int, m4.cell ⟨b1, 3, none⟩ = some (.int .i64 i8) ∧ ∃ i9 : Int, m4.cell ⟨b1, 4, none⟩ = some (.int .i64 i9) ∧ 
 CallsA Try.prog w0 30 #[.agg #[.int .i64 i5, .int .i64 i6, .int .i64 i7, .int .i64 i8, .int .i64 i9]] m4 fun r11 m12 =>
 ∃ t10 : Bool, r11 = .bool t10 ∧ (bcase t10 (
 t10 = true ∧ true = true ∧ ∀ b13 : Nat, w0.heap.size ≤ b13 → m12 b13 = none → let m14 := AM.upd m12 b13 (.cells #[.int .i64 0, .int .i64 (-1)] 3);
 vcS Try.prog w0 qs16 (sub c16 [1, 1, 1]) (upd (upd (upd (upd (upd (upd (upd (upd (upd (upd (upd (upd (argS [.agg #[.int .i64 x0_0, .int .i64 x0_1, .int .i64 x0_2, .int .i64 x0_3, .int .i64 x0_4]]) 1 (.pointer (some ⟨b1, 0, none⟩))) 2 (.bool false)) 4 (.slice (some ⟨b3, 0, none⟩) 1 1)) 3 (.slice (some ⟨b3, 0, none⟩) 1 1)) 5 (.agg #[.int .i64 i5, .int .i64 i6, .int .i64 i7, .int .i64 i8, .int .i64 i9])) 6 (.bool t10)) 7 (.bool t10)) 8 (undef)) 9 (undef)) 10 (.bool true)) 11 (.slice (some ⟨b13, 0, none⟩) 2 2)) 3 (.slice (some ⟨b13, 0, none⟩) 2 2)) m14 (retQ Try.prog Try.f16 R)) (
 ∃ i15 : Int, m12.cell ⟨b1, 0, none⟩ = some (.int .i64 i15) ∧ ∃ i16 : Int, m12.cell ⟨b1, 1, none⟩ = some (.int .i64 i16) ∧ ∃ i17 : Int, m12.cell ⟨b1, 2, none⟩ = some (.int .i64 i17) ∧ ∃ i18 : Int, m12.cell ⟨b1, 3, none⟩ = some (.int .i64 i18) ∧ ∃ i19 : Int, m12.cell ⟨b1, 4, none⟩ = some (.int .i64 i19) ∧ 
 CallsA Try.prog w0 40 #[.agg #[.int .i64 i15, .int .i64 i16, .int .i64 i17, .int .i64 i18, .int .i64 i19]] m12 fun r21 m22 =>
 ∃ t20 : Bool, r21 = .bool t20 ∧ (bcase (bif t10 then true else t20) (
 true = true ∧ ∀ b23 : Nat, w0.heap.size ≤ b23 → m22 b23 = none → let m24 := AM.upd m22 b23 (.cells #[.int .i64 0, .int .i64 (-1)] 3);
 vcS Try.prog w0 qs16 (sub c16 [1, 1, 1]) (upd (upd (upd (upd (upd (upd (upd (upd (upd (upd (upd (upd (argS [.agg #[.int .i64 x0_0, .int .i64 x0_1, .int .i64 x0_2, .int .i64 x0_3, .int .i64 x0_4]]) 1 (.pointer (some ⟨b1, 0, none⟩))) 2 (.bool false)) 4 (.slice (some ⟨b3, 0, none⟩) 1 1)) 3 (.slice (some ⟨b3, 0, none⟩) 1 1)) 5 (.agg #[.int .i64 i5, .int .i64 i6, .int .i64 i7, .int .i64 i8, .int .i64 i9])) 6 (.bool t10)) 7 (.bool t10)) 8 (.agg #[.int .i64 i15, .int .i64 i16, .int .i64 i17, .int .i64 i18, .int .i64 i19])) 9 (.bool t20)) 10 (.bool (bif t10 then true else t20))) 11 (.slice (some ⟨b23, 0, none⟩) 2 2)) 3 (.slice (some ⟨b23, 0, none⟩) 2 2)) m24 (retQ Try.prog Try.f16 R)) (
 vcS Try.prog w0 qs16 (sub c16 [1, 1, 1]) (upd (upd (upd (upd (upd (upd (upd (upd (upd (upd (argS [.agg #[.int .i64 x0_0, .int .i64 x0_1, .int .i64 x0_2, .int .i64 x0_3, .int .i64 x0_4]]) 1 (.pointer (some ⟨b1, 0, none⟩))) 2 (.bool false)) 4 (.slice (some ⟨b3, 0, none⟩) 1 1)) 3 (.slice (some ⟨b3, 0, none⟩) 1 1)) 5 (.agg #[.int .i64 i5, .int .i64 i6, .int .i64 i7, .int .i64 i8, .int .i64 i9])) 6 (.bool t10)) 7 (.bool t10)) 8 (.agg #[.int .i64 i15, .int .i64 i16, .int .i64 i17, .int .i64 i18, .int .i64 i19])) 9 (.bool t20)) 10 (.bool (bif t10 then true else t20))) m22 (retQ Try.prog Try.f16 R)))))) : CallsA Try.prog w0 16 #[.agg #[.int .i64 x0_0, .int .i64 x0_1, .int .i64 x0_2, .int .i64 x0_3, .int .i64 x0_4]] m R :=
  callsA_of (c := c16) (args := [.agg #[.int .i64 x0_0, .int .i64 x0_1, .int .i64 x0_2, .int .i64 x0_3, .int .i64 x0_4]]) (by kernel_rfl) Try.func16 (by kernel_rfl) qs16 (by kernel_rfl) (by kernel_rfl) (cast (by kernel_rfl) h)
theorem vk16_111 (w0 : World) (m : AM) (σ : Sg) (R : Value → AM → Prop)  (x1 : Nat) (x3 : Option Addr) (x3n x3c : Nat) (h1 : σ 1 = .pointer (some ⟨x1, 0, none⟩)) (h3 : σ 3 = .slice x3 x3n x3c) (h :
 ∃ i25 : Int, m.cell ⟨x1, 0, none⟩ = some (.int .i64 i25) ∧ ∃ i26 : Int, m.cell ⟨x1, 1, none⟩ = some (.int .i64 i26) ∧ ∃ i27 : Int, m.cell ⟨x1, 2, none⟩ = some (.int .i64 i27) ∧ ∃ i28 : Int, m.cell ⟨x1, 3, none⟩ = some (.int .i64 i28) ∧ ∃ i29 : Int, m.cell ⟨x1, 4, none⟩ = some (.int .i64 i29) ∧ 
 true = true ∧ ∀ b30 : Nat, w0.heap.size ≤ b30 → m b30 = none → let m31 := AM.upd m b30 (.cells #[.int .i64 i25, .int .i64 i26, .int .i64 i27, .int .i64 i28, .int .i64 i29] 24);
 CallsA Try.prog w0 37 #[.slice (some ⟨b30, 0, none⟩) 1 1] m31 fun r35 m36 =>
 ∃ (A32 : Option Addr) (n33 c34 : Nat), r35 = .slice A32 n33 c34 ∧ CallsA Try.prog w0 33 #[.slice A32 n33 c34, .slice x3 x3n x3c] m36 fun r38 m39 =>
 ∃ t37 : Bool, r38 = .bool t37 ∧ (bcase t37 (
 ∃ i40 : Int, m39.cell ⟨x1, 0, none⟩ = some (.int .i64 i40) ∧ ∃ i41 : Int, m39.cell ⟨x1, 1, none⟩ = some (.int .i64 i41) ∧ ∃ i42 : Int, m39.cell ⟨x1, 2, none⟩ = some (.int .i64 i42) ∧ ∃ i43 : Int, m39.cell ⟨x1, 3, none⟩ = some (.int .i64 i43) ∧ ∃ i44 : Int, m39.cell ⟨x1, 4, none⟩ = some (.int .i64 i44) ∧ 
 true = true ∧ ∀ b45 : Nat, w0.heap.size ≤ b45 → m39 b45 = none → let m46 := AM.upd m39 b45 (.cells #[.int .i64 i40, .int .i64 i41, .int .i64 i42, .int .i64 i43, .int .i64 i44] 24);
 CallsA Try.prog w0 34 #[.slice (some ⟨b45, 0, none⟩) 1 1] m46 fun r50 m51 =>
 ∃ (A47 : Option Addr) (n48 c49 : Nat), r50 = .slice A47 n48 c49 ∧ true = true ∧ ∀ b52 : Nat, w0.heap.size ≤ b52 → m51 b52 = none → let m53 := AM.upd m51 b52 (.cells #[.int .i64 0] 3);
 CallsA Try.prog w0 33 #[.slice A47 n48 c49, .slice (some ⟨b52, 0, none⟩) 1 1] m53 fun r55 m56 =>
 ∃ t54 : Bool, r55 = .bool t54 ∧ (bcase (bif t37 then t54 else false) (
 CallsA Try.prog w0 32 #[] m56 fun r58 m59 =>
 ∃ t57 : Bool, r58 = .bool t57 ∧ RetP R (.bool (bif bif t37 then t54 else false then t57 else false)) m59) (
 (bif t37 then t54 else false) = false ∧ RetP R (.bool false) m56))) (
 t37 = false ∧ false = false ∧ RetP R (.bool false) m39))) :
 vcS Try.prog w0 qs16 (sub c16 [1, 1, 1]) σ m (retQ Try.prog Try.f16 R) := by
  have es0 : (upd (upd σ 1 (.pointer (some ⟨x1, 0, none⟩))) 3 (.slice x3 x3n x3c)) = σ := by rw [upd_id h1, upd_id h3]
  exact cast (congrArg (fun s => vcS Try.prog w0 qs16 (sub c16 [1, 1, 1]) s m (retQ Try.prog Try.f16 R)) es0) (cast (by kernel_rfl) h)
end Go.Proofs.Ytkfemiloehkmhaa.V
