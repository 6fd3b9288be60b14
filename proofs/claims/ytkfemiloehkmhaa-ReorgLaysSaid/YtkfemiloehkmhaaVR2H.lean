/- Ytkfemiloehkmhaa: a text of our own, by an AI agent: VR2H -/
import Derived.Test.YtkfemiloehkmhaaCoreA
import Derived.Test.YtkfemiloehkmhaaTabH
namespace Go.Proofs.Ytkfemiloehkmhaa.V
open Go Go.Alog Go.Proofs.Ytkfemiloehkmhaa.T
set_option linter.unusedVariables false
set_option maxRecDepth 100000

/-! 58 delayslot/delayslotref02.shape -/
def qs58 : Nat → List (Nat × Nat) := fun i => match i with | _ => []
noncomputable def c58 : Code := bodyOf Try.f58
theorem cf58 (w0 : World) (m : AM) (x0 : Int) (R : Value → AM → Prop) (h :
 IntKind.i64 = IntKind.i64 ∧ (bcase (decide ((x0 : Int) < 0)) (
 (decide ((x0 : Int) < 0)) = true ∧ RetP R (.int .i64 (-1)) m) (
 IntKind.i64 = IntKind.i64 ∧ (bcase (bif decide ((x0 : Int) < 0) then true else decide ((x0 : Int) > 20)) (
 RetP R (.int .i64 (-1)) m) (
 true = true ∧ ∀ b1 : Nat, w0.heap.size ≤ b1 → m b1 = none → let m2 := AM.upd m b1 (.cells #[.int .i64 0, .int .i64 7, .int .i64 7, .int .i64 7, .int .i64 7, .int .i64 7, .int .i64 7, .int .i64 7, .int .i64 7, .int .i64 7, .int .i64 11, .int .i64 9, .int .i64 11, .int .i64 11, .int .i64 11, .int .i64 11, .int .i64 11, .int .i64 8, .int .i64 8, .int .i64 1, .int .i64 8] 3);
 ((0 : Int) ≤ x0 ∧ x0 < ((21 : Nat) : Int)) ∧ nilO (some ⟨b1, 0, none⟩) fun a3 =>
 ∃ i4 : Int, m2.cell (a3.add ((x0 : Int).toNat * 1)) = some (.int .i64 i4) ∧ 
 RetP R (.int .i64 i4) m2))))) : CallsA Try.prog w0 58 #[.int .i64 x0] m R :=
  callsA_of (c := c58) (args := [.int .i64 x0]) (by kernel_rfl) Try.func58 (by kernel_rfl) qs58 (by kernel_rfl) (by kernel_rfl) (cast (by kernel_rfl) h)

/-! 31 delayslot/delayslotref02.Right -/
def qs31 : Nat → List (Nat × Nat) := fun i => match i with | _ => []
noncomputable def c31 : Code := bodyOf Try.f31
theorem cf31 (w0 : World) (m : AM) (x0_0 : Int) (x0_1 : Int) (x0_2 : Int) (x0_3 : Int) (x0_4 : Int) (R : Value → AM → Prop) (h :
 ∀ b1 : Nat, w0.heap.size ≤ b1 → m b1 = none → let m2 := AM.upd m b1 (.cells #[.int .i64 x0_0, .int .i64 x0_1, .int .i64 x0_2, .int .i64 x0_3, .int .i64 x0_4] 24);
 ∃ i3 : Int, m2.cell ⟨b1, 0, none⟩ = some (.int .i64 i3) ∧ 
 CallsA Try.prog w0 58 #[.int .i64 i3] m2 fun r5 m6 =>
 ∃ i4 : Int, r5 = .int .i64 i4 ∧ IntKind.i64 = IntKind.i64 ∧ (bcase (decide ((i4 : Int) < 0)) (
 RetP R (.bool false) m6) (
 ∃ i7 : Int, m6.cell ⟨b1, 1, none⟩ = some (.int .i64 i7) ∧ 
 ∃ i8 : Int, m6.cell ⟨b1, 2, none⟩ = some (.int .i64 i8) ∧ 
 ∃ i9 : Int, m6.cell ⟨b1, 3, none⟩ = some (.int .i64 i9) ∧ 
 true = true ∧ ∀ b10 : Nat, w0.heap.size ≤ b10 → m6 b10 = none → let m11 := AM.upd m6 b10 (.cells #[.int .i64 i7, .int .i64 i8, .int .i64 i9] 3);
 vcS Try.prog w0 qs31 (sub c31 [1, 1, 1, 1, 0, 1, 0]) (upd (upd (upd (upd (upd (upd (upd (upd (upd (upd (upd (upd (upd (upd (upd (upd (upd (argS [.agg #[.int .i64 x0_0, .int .i64 x0_1, .int .i64 x0_2, .int .i64 x0_3, .int .i64 x0_4]]) 1 (.pointer (some ⟨b1, 0, none⟩))) 2 (.bool false)) 8 (.pointer (some ⟨b1, 0, none⟩))) 9 (.int .i64 i3)) 10 (.int .i64 i4)) 3 (.int .i64 i4)) 11 (.int .i64 i4)) 12 (.bool (decide ((i4 : Int) < 0)))) 13 (.pointer (some ⟨b1, 1, none⟩))) 14 (.int .i64 i7)) 15 (.pointer (some ⟨b1, 2, none⟩))) 16 (.int .i64 i8)) 17 (.pointer (some ⟨b1, 3, none⟩))) 18 (.int .i64 i9)) 19 (.slice (some ⟨b10, 0, none⟩) 3 3)) 4 (.slice (some ⟨b10, 0, none⟩) 3 3)) 5 (.int .i64 0)) m11 (blockS 0 (thenS (fun σ m => vcS Try.prog w0 qs31 (sub c31 [1, 1, 1, 1, 1]) σ m (retQ Try.prog Try.f31 R)) (retQ Try.prog Try.f31 R)))))) : CallsA Try.prog w0 31 #[.agg #[.int .i64 x0_0, .int .i64 x0_1, .int .i64 x0_2, .int .i64 x0_3, .int .i64 x0_4]] m R :=
  callsA_of (c := c31) (args := [.agg #[.int .i64 x0_0, .int .i64 x0_1, .int .i64 x0_2, .int .i64 x0_3, .int .i64 x0_4]]) (by kernel_rfl) Try.func31 (by kernel_rfl) qs31 (by kernel_rfl) (by kernel_rfl) (cast (by kernel_rfl) h)
def lq31_1111010 (R : Value → AM → Prop) (x1 : Nat) (x4 : Option Addr) (x4n x4c : Nat) (I0 : Nat → Int → Int → AM → Prop) (E0_0 : Int → AM → Prop) (n0 : Nat) : Exit → Sg → AM → Prop
  | .normal, σ, m => σ 1 = .pointer (some ⟨x1, 0, none⟩) ∧ σ 4 = .slice x4 x4n x4c ∧ okI .i64 (σ 3) = true ∧ okI .i64 (σ 5) = true ∧ ∃ n' : Nat, n' < n0 ∧ I0 n' (vI (σ 3)) (vI (σ 5)) m
  | .exit id, σ, m => if id = 0 then σ 1 = .pointer (some ⟨x1, 0, none⟩) ∧ σ 4 = .slice x4 x4n x4c ∧ okI .i64 (σ 3) = true ∧ E0_0 (vI (σ 3)) m else False
  | .ret, σ, m => retQ Try.prog Try.f31 R .ret σ m
  | _, _, _ => False
theorem vl31_1111010 (w0 : World) (m : AM) (σ : Sg) (R : Value → AM → Prop)  (x1 : Nat) (x4 : Option Addr) (x4n x4c : Nat) (x3 : Int) (x5 : Int) (I0 : Nat → Int → Int → AM → Prop) (E0_0 : Int → AM → Prop) (N : Nat) (h1 : σ 1 = .pointer (some ⟨x1, 0, none⟩)) (h3 : σ 3 = .int .i64 x3) (h4 : σ 4 = .slice x4 x4n x4c) (h5 : σ 5 = .int .i64 x5)
 (h_0 : I0 N x3 x5 m)
 (h_s : ∀ (n0 : Nat) (σ : Sg) (x3 : Int) (x5 : Int) (m : AM), I0 n0 x3 x5 m → (
 IntKind.i64 = IntKind.i64 ∧ (bcase (decide ((x5 : Int) < 3)) (
 IntKind.i64 = IntKind.i64 ∧ (2 : Int) ≠ 0 ∧ IntKind.i64 = IntKind.i64 ∧ (bcase (((Int.tmod x3 2) : Int) == 0) (
 ((0 : Int) ≤ x5 ∧ x5 < ((x4n : Nat) : Int)) ∧ nilO x4 fun a12 =>
 ∃ i13 : Int, m.cell (a12.add ((x5 : Int).toNat * 1)) = some (.int .i64 i13) ∧ 
 IntKind.i64 = IntKind.i64 ∧ (bcase (bif ((Int.tmod x3 2) : Int) == 0 then (i13 : Int) != 0 else false) (
 (bif ((Int.tmod x3 2) : Int) == 0 then (i13 : Int) != 0 else false) = true ∧ true = true ∧ RetP R (.bool false) m) (
 ((0 : Int) ≤ x5 ∧ x5 < ((x4n : Nat) : Int)) ∧ nilO x4 fun a14 =>
 ∃ i15 : Int, m.cell (a14.add ((x5 : Int).toNat * 1)) = some (.int .i64 i15) ∧ 
 IntKind.i64 = IntKind.i64 ∧ (bcase (bif bif ((Int.tmod x3 2) : Int) == 0 then (i13 : Int) != 0 else false then true else decide ((i15 : Int) < 0)) (
 (bif bif ((Int.tmod x3 2) : Int) == 0 then (i13 : Int) != 0 else false then true else decide ((i15 : Int) < 0)) = true ∧ RetP R (.bool false) m) (
 ((0 : Int) ≤ x5 ∧ x5 < ((x4n : Nat) : Int)) ∧ nilO x4 fun a16 =>
 ∃ i17 : Int, m.cell (a16.add ((x5 : Int).toNat * 1)) = some (.int .i64 i17) ∧ 
 IntKind.i64 = IntKind.i64 ∧ (bcase (bif bif bif ((Int.tmod x3 2) : Int) == 0 then (i13 : Int) != 0 else false then true else decide ((i15 : Int) < 0) then true else decide ((i17 : Int) > 31)) (
 RetP R (.bool false) m) (
 IntKind.i64 = IntKind.i64 ∧ (2 : Int) ≠ 0 ∧ IntKind.i64 = IntKind.i64 ∧ (.pointer (some ⟨x1, 0, none⟩) : Value) = .pointer (some ⟨x1, 0, none⟩) ∧ (.slice x4 x4n x4c : Value) = .slice x4 x4n x4c ∧ true = true ∧ true = true ∧ ∃ n' : Nat, n' < n0 ∧ I0 n' (IntKind.wrap .i64 (Int.tdiv x3 2)) (IntKind.wrap .i64 (x5 + 1)) m))))))) (
 (((Int.tmod x3 2) : Int) == 0) = false ∧ ((0 : Int) ≤ x5 ∧ x5 < ((x4n : Nat) : Int)) ∧ nilO x4 fun a18 =>
 ∃ i19 : Int, m.cell (a18.add ((x5 : Int).toNat * 1)) = some (.int .i64 i19) ∧ 
 IntKind.i64 = IntKind.i64 ∧ (bcase (bif false then true else decide ((i19 : Int) < 0)) (
 (bif false then true else decide ((i19 : Int) < 0)) = true ∧ RetP R (.bool false) m) (
 ((0 : Int) ≤ x5 ∧ x5 < ((x4n : Nat) : Int)) ∧ nilO x4 fun a20 =>
 ∃ i21 : Int, m.cell (a20.add ((x5 : Int).toNat * 1)) = some (.int .i64 i21) ∧ 
 IntKind.i64 = IntKind.i64 ∧ (bcase (bif bif false then true else decide ((i19 : Int) < 0) then true else decide ((i21 : Int) > 31)) (
 RetP R (.bool false) m) (
 IntKind.i64 = IntKind.i64 ∧ (2 : Int) ≠ 0 ∧ IntKind.i64 = IntKind.i64 ∧ (.pointer (some ⟨x1, 0, none⟩) : Value) = .pointer (some ⟨x1, 0, none⟩) ∧ (.slice x4 x4n x4c : Value) = .slice x4 x4n x4c ∧ true = true ∧ true = true ∧ ∃ n' : Nat, n' < n0 ∧ I0 n' (IntKind.wrap .i64 (Int.tdiv x3 2)) (IntKind.wrap .i64 (x5 + 1)) m))))))) (
 (.pointer (some ⟨x1, 0, none⟩) : Value) = .pointer (some ⟨x1, 0, none⟩) ∧ (.slice x4 x4n x4c : Value) = .slice x4 x4n x4c ∧ true = true ∧ E0_0 x3 m))))
 (h_e0 : ∀ (σ : Sg) (x3 : Int) (m : AM), E0_0 x3 m → (
 ∃ i22 : Int, m.cell ⟨x1, 0, none⟩ = some (.int .i64 i22) ∧ 
 IntKind.i64 = IntKind.i64 ∧ (bcase ((i22 : Int) == 14) (
 ∃ i23 : Int, m.cell ⟨x1, 0, none⟩ = some (.int .i64 i23) ∧ 
 IntKind.i64 = IntKind.i64 ∧ (bcase ((i23 : Int) == 17) (
 ((i23 : Int) == 17) = true ∧ ∃ i24 : Int, m.cell ⟨x1, 0, none⟩ = some (.int .i64 i24) ∧ 
 IntKind.i64 = IntKind.i64 ∧ (bcase ((i24 : Int) == 20) (
 ∃ i25 : Int, m.cell ⟨x1, 4, none⟩ = some (.int .i64 i25) ∧ 
 IntKind.i64 = IntKind.i64 ∧ (bcase (decide ((i25 : Int) ≥ 0)) (
 ∃ i26 : Int, m.cell ⟨x1, 4, none⟩ = some (.int .i64 i26) ∧ 
 IntKind.i64 = IntKind.i64 ∧ (bcase (bif decide ((i25 : Int) ≥ 0) then decide ((i26 : Int) ≤ 2) else false) (
 IntKind.i64 = IntKind.i64 ∧ (bcase ((x3 : Int) == 1) (
 ((x3 : Int) == 1) = true ∧ RetP R (.bool (bif bif decide ((i25 : Int) ≥ 0) then decide ((i26 : Int) ≤ 2) else false then true else false)) m) (
 ∃ i27 : Int, m.cell ⟨x1, 4, none⟩ = some (.int .i64 i27) ∧ 
 IntKind.i64 = IntKind.i64 ∧ RetP R (.bool (bif bif decide ((i25 : Int) ≥ 0) then decide ((i26 : Int) ≤ 2) else false then bif (x3 : Int) == 1 then true else (i27 : Int) == 0 else false)) m))) (
 (bif decide ((i25 : Int) ≥ 0) then decide ((i26 : Int) ≤ 2) else false) = false ∧ RetP R (.bool false) m))) (
 (decide ((i25 : Int) ≥ 0)) = false ∧ false = false ∧ RetP R (.bool false) m))) (
 ∃ i28 : Int, m.cell ⟨x1, 4, none⟩ = some (.int .i64 i28) ∧ 
 IntKind.i64 = IntKind.i64 ∧ (bcase (decide ((i28 : Int) ≥ 0)) (
 ∃ i29 : Int, m.cell ⟨x1, 4, none⟩ = some (.int .i64 i29) ∧ 
 IntKind.i64 = IntKind.i64 ∧ (bcase (bif decide ((i28 : Int) ≥ 0) then decide ((i29 : Int) ≤ 4096) else false) (
 IntKind.i64 = IntKind.i64 ∧ (bcase ((x3 : Int) == 1) (
 ((x3 : Int) == 1) = true ∧ RetP R (.bool (bif bif decide ((i28 : Int) ≥ 0) then decide ((i29 : Int) ≤ 4096) else false then true else false)) m) (
 ∃ i30 : Int, m.cell ⟨x1, 4, none⟩ = some (.int .i64 i30) ∧ 
 IntKind.i64 = IntKind.i64 ∧ RetP R (.bool (bif bif decide ((i28 : Int) ≥ 0) then decide ((i29 : Int) ≤ 4096) else false then bif (x3 : Int) == 1 then true else (i30 : Int) == 0 else false)) m))) (
 (bif decide ((i28 : Int) ≥ 0) then decide ((i29 : Int) ≤ 4096) else false) = false ∧ RetP R (.bool false) m))) (
 (decide ((i28 : Int) ≥ 0)) = false ∧ false = false ∧ RetP R (.bool false) m))))) (
 ∃ i31 : Int, m.cell ⟨x1, 0, none⟩ = some (.int .i64 i31) ∧ 
 IntKind.i64 = IntKind.i64 ∧ (bcase (bif (i23 : Int) == 17 then true else (i31 : Int) == 18) (
 ∃ i32 : Int, m.cell ⟨x1, 0, none⟩ = some (.int .i64 i32) ∧ 
 IntKind.i64 = IntKind.i64 ∧ (bcase ((i32 : Int) == 20) (
 ∃ i33 : Int, m.cell ⟨x1, 4, none⟩ = some (.int .i64 i33) ∧ 
 IntKind.i64 = IntKind.i64 ∧ (bcase (decide ((i33 : Int) ≥ 0)) (
 ∃ i34 : Int, m.cell ⟨x1, 4, none⟩ = some (.int .i64 i34) ∧ 
 IntKind.i64 = IntKind.i64 ∧ (bcase (bif decide ((i33 : Int) ≥ 0) then decide ((i34 : Int) ≤ 2) else false) (
 IntKind.i64 = IntKind.i64 ∧ (bcase ((x3 : Int) == 1) (
 ((x3 : Int) == 1) = true ∧ RetP R (.bool (bif bif decide ((i33 : Int) ≥ 0) then decide ((i34 : Int) ≤ 2) else false then true else false)) m) (
 ∃ i35 : Int, m.cell ⟨x1, 4, none⟩ = some (.int .i64 i35) ∧ 
 IntKind.i64 = IntKind.i64 ∧ RetP R (.bool (bif bif decide ((i33 : Int) ≥ 0) then decide ((i34 : Int) ≤ 2) else false then bif (x3 : Int) == 1 then true else (i35 : Int) == 0 else false)) m))) (
 (bif decide ((i33 : Int) ≥ 0) then decide ((i34 : Int) ≤ 2) else false) = false ∧ RetP R (.bool false) m))) (
 (decide ((i33 : Int) ≥ 0)) = false ∧ false = false ∧ RetP R (.bool false) m))) (
 ∃ i36 : Int, m.cell ⟨x1, 4, none⟩ = some (.int .i64 i36) ∧ 
 IntKind.i64 = IntKind.i64 ∧ (bcase (decide ((i36 : Int) ≥ 0)) (
 ∃ i37 : Int, m.cell ⟨x1, 4, none⟩ = some (.int .i64 i37) ∧ 
 IntKind.i64 = IntKind.i64 ∧ (bcase (bif decide ((i36 : Int) ≥ 0) then decide ((i37 : Int) ≤ 4096) else false) (
 IntKind.i64 = IntKind.i64 ∧ (bcase ((x3 : Int) == 1) (
 ((x3 : Int) == 1) = true ∧ RetP R (.bool (bif bif decide ((i36 : Int) ≥ 0) then decide ((i37 : Int) ≤ 4096) else false then true else false)) m) (
 ∃ i38 : Int, m.cell ⟨x1, 4, none⟩ = some (.int .i64 i38) ∧ 
 IntKind.i64 = IntKind.i64 ∧ RetP R (.bool (bif bif decide ((i36 : Int) ≥ 0) then decide ((i37 : Int) ≤ 4096) else false then bif (x3 : Int) == 1 then true else (i38 : Int) == 0 else false)) m))) (
 (bif decide ((i36 : Int) ≥ 0) then decide ((i37 : Int) ≤ 4096) else false) = false ∧ RetP R (.bool false) m))) (
 (decide ((i36 : Int) ≥ 0)) = false ∧ false = false ∧ RetP R (.bool false) m))))) (
 ∃ i39 : Int, m.cell ⟨x1, 0, none⟩ = some (.int .i64 i39) ∧ 
 IntKind.i64 = IntKind.i64 ∧ (bcase ((i39 : Int) == 20) (
 ∃ i40 : Int, m.cell ⟨x1, 4, none⟩ = some (.int .i64 i40) ∧ 
 IntKind.i64 = IntKind.i64 ∧ (bcase (decide ((i40 : Int) ≥ 0)) (
 ∃ i41 : Int, m.cell ⟨x1, 4, none⟩ = some (.int .i64 i41) ∧ 
 IntKind.i64 = IntKind.i64 ∧ (bcase (bif decide ((i40 : Int) ≥ 0) then decide ((i41 : Int) ≤ 2) else false) (
 IntKind.i64 = IntKind.i64 ∧ (bcase ((x3 : Int) == 1) (
 ((x3 : Int) == 1) = true ∧ RetP R (.bool (bif bif decide ((i40 : Int) ≥ 0) then decide ((i41 : Int) ≤ 2) else false then true else false)) m) (
 ∃ i42 : Int, m.cell ⟨x1, 4, none⟩ = some (.int .i64 i42) ∧ 
 IntKind.i64 = IntKind.i64 ∧ RetP R (.bool (bif bif decide ((i40 : Int) ≥ 0) then decide ((i41 : Int) ≤ 2) else false then bif (x3 : Int) == 1 then true else (i42 : Int) == 0 else false)) m))) (
 (bif decide ((i40 : Int) ≥ 0) then decide ((i41 : Int) ≤ 2) else false) = false ∧ RetP R (.bool false) m))) (
 (decide ((i40 : Int) ≥ 0)) = false ∧ false = false ∧ RetP R (.bool false) m))) (
 ∃ i43 : Int, m.cell ⟨x1, 4, none⟩ = some (.int .i64 i43) ∧ 
 IntKind.i64 = IntKind.i64 ∧ (bcase (decide ((i43 : Int) ≥ 0)) (
 ∃ i44 : Int, m.cell ⟨x1, 4, none⟩ = some (.int .i64 i44) ∧ 
 IntKind.i64 = IntKind.i64 ∧ (bcase (bif decide ((i43 : Int) ≥ 0) then decide ((i44 : Int) ≤ 32767) else false) (
 IntKind.i64 = IntKind.i64 ∧ (bcase ((x3 : Int) == 1) (
 ((x3 : Int) == 1) = true ∧ RetP R (.bool (bif bif decide ((i43 : Int) ≥ 0) then decide ((i44 : Int) ≤ 32767) else false then true else false)) m) (
 ∃ i45 : Int, m.cell ⟨x1, 4, none⟩ = some (.int .i64 i45) ∧ 
 IntKind.i64 = IntKind.i64 ∧ RetP R (.bool (bif bif decide ((i43 : Int) ≥ 0) then decide ((i44 : Int) ≤ 32767) else false then bif (x3 : Int) == 1 then true else (i45 : Int) == 0 else false)) m))) (
 (bif decide ((i43 : Int) ≥ 0) then decide ((i44 : Int) ≤ 32767) else false) = false ∧ RetP R (.bool false) m))) (
 (decide ((i43 : Int) ≥ 0)) = false ∧ false = false ∧ RetP R (.bool false) m))))))))) (
 ∃ i46 : Int, m.cell ⟨x1, 0, none⟩ = some (.int .i64 i46) ∧ 
 IntKind.i64 = IntKind.i64 ∧ (bcase ((i46 : Int) == 17) (
 ((i46 : Int) == 17) = true ∧ ∃ i47 : Int, m.cell ⟨x1, 0, none⟩ = some (.int .i64 i47) ∧ 
 IntKind.i64 = IntKind.i64 ∧ (bcase ((i47 : Int) == 20) (
 ∃ i48 : Int, m.cell ⟨x1, 4, none⟩ = some (.int .i64 i48) ∧ 
 IntKind.i64 = IntKind.i64 ∧ (bcase (decide ((i48 : Int) ≥ 0)) (
 ∃ i49 : Int, m.cell ⟨x1, 4, none⟩ = some (.int .i64 i49) ∧ 
 IntKind.i64 = IntKind.i64 ∧ (bcase (bif decide ((i48 : Int) ≥ 0) then decide ((i49 : Int) ≤ 2) else false) (
 IntKind.i64 = IntKind.i64 ∧ (bcase ((x3 : Int) == 1) (
 ((x3 : Int) == 1) = true ∧ RetP R (.bool (bif bif decide ((i48 : Int) ≥ 0) then decide ((i49 : Int) ≤ 2) else false then true else false)) m) (
 ∃ i50 : Int, m.cell ⟨x1, 4, none⟩ = some (.int .i64 i50) ∧ 
 IntKind.i64 = IntKind.i64 ∧ RetP R (.bool (bif bif decide ((i48 : Int) ≥ 0) then decide ((i49 : Int) ≤ 2) else false then bif (x3 : Int) == 1 then true else (i50 : Int) == 0 else false)) m))) (
 (bif decide ((i48 : Int) ≥ 0) then decide ((i49 : Int) ≤ 2) else false) = false ∧ RetP R (.bool false) m))) (
 (decide ((i48 : Int) ≥ 0)) = false ∧ false = false ∧ RetP R (.bool false) m))) (
 ∃ i51 : Int, m.cell ⟨x1, 4, none⟩ = some (.int .i64 i51) ∧ 
 IntKind.i64 = IntKind.i64 ∧ (bcase (decide ((i51 : Int) ≥ 0)) (
 ∃ i52 : Int, m.cell ⟨x1, 4, none⟩ = some (.int .i64 i52) ∧ 
 IntKind.i64 = IntKind.i64 ∧ (bcase (bif decide ((i51 : Int) ≥ 0) then decide ((i52 : Int) ≤ 4096) else false) (
 IntKind.i64 = IntKind.i64 ∧ (bcase ((x3 : Int) == 1) (
 ((x3 : Int) == 1) = true ∧ RetP R (.bool (bif bif decide ((i51 : Int) ≥ 0) then decide ((i52 : Int) ≤ 4096) else false then true else false)) m) (
 ∃ i53 : Int, m.cell ⟨x1, 4, none⟩ = some (.int .i64 i53) ∧ 
 IntKind.i64 = IntKind.i64 ∧ RetP R (.bool (bif bif decide ((i51 : Int) ≥ 0) then decide ((i52 : Int) ≤ 4096) else false then bif (x3 : Int) == 1 then true else (i53 : Int) == 0 else false)) m))) (
 (bif decide ((i51 : Int) ≥ 0) then decide ((i52 : Int) ≤ 4096) else false) = false ∧ RetP R (.bool false) m))) (
 (decide ((i51 : Int) ≥ 0)) = false ∧ false = false ∧ RetP R (.bool false) m))))) (
 ∃ i54 : Int, m.cell ⟨x1, 0, none⟩ = some (.int .i64 i54) ∧ 
 IntKind.i64 = IntKind.i64 ∧ (bcase (bif (i46 : Int) == 17 then true else (i54 : Int) == 18) (
 ∃ i55 : Int, m.cell ⟨x1, 0, none⟩ = some (.int .i64 i55) ∧ 
 IntKind.i64 = IntKind.i64 ∧ (bcase ((i55 : Int) == 20) (
 ∃ i56 : Int, m.cell ⟨x1, 4, none⟩ = some (.int .i64 i56) ∧ 
 IntKind.i64 = IntKind.i64 ∧ (bcase (decide ((i56 : Int) ≥ 0)) (
 ∃ i57 : Int, m.cell ⟨x1, 4, none⟩ = some (.int .i64 i57) ∧ 
 IntKind.i64 = IntKind.i64 ∧ (bcase (bif decide ((i56 : Int) ≥ 0) then decide ((i57 : Int) ≤ 2) else false) (
 IntKind.i64 = IntKind.i64 ∧ (bcase ((x3 : Int) == 1) (
 ((x3 : Int) == 1) = true ∧ RetP R (.bool (bif bif decide ((i56 : Int) ≥ 0) then decide ((i57 : Int) ≤ 2) else false then true else false)) m) (
 ∃ i58 : Int, m.cell ⟨x1, 4, none⟩ = some (.int .i64 i58) ∧ 
 IntKind.i64 = IntKind.i64 ∧ RetP R (.bool (bif bif decide ((i56 : Int) ≥ 0) then decide ((i57 : Int) ≤ 2) else false then bif (x3 : Int) == 1 then true else (i58 : Int) == 0 else false)) m))) (
 (bif decide ((i56 : Int) ≥ 0) then decide ((i57 : Int) ≤ 2) else false) = false ∧ RetP R (.bool false) m))) (
 (decide ((i56 : Int) ≥ 0)) = false ∧ false = false ∧ RetP R (.bool false) m))) (
 ∃ i59 : Int, m.cell ⟨x1, 4, none⟩ = some (.int .i64 i59) ∧ 
 IntKind.i64 = IntKind.i64 ∧ (bcase (decide ((i59 : Int) ≥ 0)) (
 ∃ i60 : Int, m.cell ⟨x1, 4, none⟩ = some (.int .i64 i60) ∧ 
 IntKind.i64 = IntKind.i64 ∧ (bcase (bif decide ((i59 : Int) ≥ 0) then decide ((i60 : Int) ≤ 4096) else false) (
 IntKind.i64 = IntKind.i64 ∧ (bcase ((x3 : Int) == 1) (
 ((x3 : Int) == 1) = true ∧ RetP R (.bool (bif bif decide ((i59 : Int) ≥ 0) then decide ((i60 : Int) ≤ 4096) else false then true else false)) m) (
 ∃ i61 : Int, m.cell ⟨x1, 4, none⟩ = some (.int .i64 i61) ∧ 
 IntKind.i64 = IntKind.i64 ∧ RetP R (.bool (bif bif decide ((i59 : Int) ≥ 0) then decide ((i60 : Int) ≤ 4096) else false then bif (x3 : Int) == 1 then true else (i61 : Int) == 0 else false)) m))) (
 (bif decide ((i59 : Int) ≥ 0) then decide ((i60 : Int) ≤ 4096) else false) = false ∧ RetP R (.bool false) m))) (
 (decide ((i59 : Int) ≥ 0)) = false ∧ false = false ∧ RetP R (.bool false) m))))) (
 ∃ i62 : Int, m.cell ⟨x1, 0, none⟩ = some (.int .i64 i62) ∧ 
 IntKind.i64 = IntKind.i64 ∧ (bcase ((i62 : Int) == 20) (
 ∃ i63 : Int, m.cell ⟨x1, 4, none⟩ = some (.int .i64 i63) ∧ 
 IntKind.i64 = IntKind.i64 ∧ (bcase (decide ((i63 : Int) ≥ 0)) (
 ∃ i64 : Int, m.cell ⟨x1, 4, none⟩ = some (.int .i64 i64) ∧ 
 IntKind.i64 = IntKind.i64 ∧ (bcase (bif decide ((i63 : Int) ≥ 0) then decide ((i64 : Int) ≤ 2) else false) (
 IntKind.i64 = IntKind.i64 ∧ (bcase ((x3 : Int) == 1) (
 ((x3 : Int) == 1) = true ∧ RetP R (.bool (bif bif decide ((i63 : Int) ≥ 0) then decide ((i64 : Int) ≤ 2) else false then true else false)) m) (
 ∃ i65 : Int, m.cell ⟨x1, 4, none⟩ = some (.int .i64 i65) ∧ 
 IntKind.i64 = IntKind.i64 ∧ RetP R (.bool (bif bif decide ((i63 : Int) ≥ 0) then decide ((i64 : Int) ≤ 2) else false then bif (x3 : Int) == 1 then true else (i65 : Int) == 0 else false)) m))) (
 (bif decide ((i63 : Int) ≥ 0) then decide ((i64 : Int) ≤ 2) else false) = false ∧ RetP R (.bool false) m))) (
 (decide ((i63 : Int) ≥ 0)) = false ∧ false = false ∧ RetP R (.bool false) m))) (
 ∃ i66 : Int, m.cell ⟨x1, 4, none⟩ = some (.int .i64 i66) ∧ 
 IntKind.i64 = IntKind.i64 ∧ (bcase (decide ((i66 : Int) ≥ (-32768))) (
 ∃ i67 : Int, m.cell ⟨x1, 4, none⟩ = some (.int .i64 i67) ∧ 
 IntKind.i64 = IntKind.i64 ∧ (bcase (bif decide ((i66 : Int) ≥ (-32768)) then decide ((i67 : Int) ≤ 32767) else false) (
 IntKind.i64 = IntKind.i64 ∧ (bcase ((x3 : Int) == 1) (
 ((x3 : Int) == 1) = true ∧ RetP R (.bool (bif bif decide ((i66 : Int) ≥ (-32768)) then decide ((i67 : Int) ≤ 32767) else false then true else false)) m) (
 ∃ i68 : Int, m.cell ⟨x1, 4, none⟩ = some (.int .i64 i68) ∧ 
 IntKind.i64 = IntKind.i64 ∧ RetP R (.bool (bif bif decide ((i66 : Int) ≥ (-32768)) then decide ((i67 : Int) ≤ 32767) else false then bif (x3 : Int) == 1 then true else (i68 : Int) == 0 else false)) m))) (
 (bif decide ((i66 : Int) ≥ (-32768)) then decide ((i67 : Int) ≤ 32767) else false) = false ∧ RetP R (.bool false) m))) (
 (decide ((i66 : Int) ≥ (-32768))) = false ∧ false = false ∧ RetP R (.bool false) m)))))))))))) :
 vcS Try.prog w0 qs31 (sub c31 [1, 1, 1, 1, 0, 1, 0]) σ m (blockS 0 (thenS (fun σ m => vcS Try.prog w0 qs31 (sub c31 [1, 1, 1, 1, 1]) σ m (retQ Try.prog Try.f31 R)) (retQ Try.prog Try.f31 R))) := by
  rw [show sub c31 [1, 1, 1, 1, 0, 1, 0] = .loop (sub c31 [1, 1, 1, 1, 0, 1, 0, 0]) from by kernel_rfl]
  refine loopQ (fun n0 σ m => σ 1 = .pointer (some ⟨x1, 0, none⟩) ∧ σ 4 = .slice x4 x4n x4c ∧ okI .i64 (σ 3) = true ∧ okI .i64 (σ 5) = true ∧ I0 n0 (vI (σ 3)) (vI (σ 5)) m) N (fun n0 => (lq31_1111010 R x1 x4 x4n x4c I0 E0_0 n0)) ⟨h1, h4, (by rw [h3]; rfl), (by rw [h5]; rfl), (by rw [h3, h5]; exact h_0)⟩ ?_ ?_ ?_
  · rintro n0 σ m ⟨kk0, kk1, kk2, kk3, n', hlt, hI⟩; exact ⟨n', hlt, kk0, kk1, kk2, kk3, hI⟩
  · intro n0 e σ m hne h
    cases e with
    | normal => exact absurd rfl hne
    | ret => exact h
    | exit id =>
      by_cases e0 : id = 0
      · subst e0
        obtain ⟨kk0, kk1, kk2, hE⟩ := h
        have es : (upd (upd (upd σ 1 (.pointer (some ⟨x1, 0, none⟩))) 4 (.slice x4 x4n x4c)) 3 (.int .i64 (vI (σ 3)))) = σ := by rw [upd_id kk0, upd_id kk1, upd_id (ok_int kk2)]
        exact cast (congrArg (fun s => (blockS 0 (thenS (fun σ m => vcS Try.prog w0 qs31 (sub c31 [1, 1, 1, 1, 1]) σ m (retQ Try.prog Try.f31 R)) (retQ Try.prog Try.f31 R))) (.exit 0) s m) es) (cast (by kernel_rfl) (h_e0 σ (vI (σ 3)) m hE))
      · replace h := (if_neg e0 : (if id = 0 then _ else _) = _).mp h
        exact False.elim h
    | _ => exact False.elim h
  · rintro n0 σ m ⟨kk0, kk1, kk2, kk3, hI⟩
    have es : (upd (upd (upd (upd σ 1 (.pointer (some ⟨x1, 0, none⟩))) 3 (.int .i64 (vI (σ 3)))) 4 (.slice x4 x4n x4c)) 5 (.int .i64 (vI (σ 5)))) = σ := by rw [upd_id kk0, upd_id (ok_int kk2), upd_id kk1, upd_id (ok_int kk3)]
    exact cast (congrArg (fun s => vcS Try.prog w0 qs31 (sub c31 [1, 1, 1, 1, 0, 1, 0, 0]) s m (lq31_1111010 R x1 x4 x4n x4c I0 E0_0 n0)) es) (cast (by kernel_rfl) (h_s n0 σ (vI (σ 3)) (vI (σ 5)) m hI))
end Go.Proofs.Ytkfemiloehkmhaa.V

