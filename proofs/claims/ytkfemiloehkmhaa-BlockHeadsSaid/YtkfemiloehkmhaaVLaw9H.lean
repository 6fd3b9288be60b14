/- Ytkfemiloehkmhaa: a text of our own, by an AI agent: VLaw9H -/
import Derived.Test.YtkfemiloehkmhaaCoreA
import Derived.Test.YtkfemiloehkmhaaTabH
namespace Go.Proofs.Ytkfemiloehkmhaa.V
open Go Go.Alog Go.Proofs.Ytkfemiloehkmhaa.T
set_option linter.unusedVariables false
set_option maxRecDepth 100000

/-! 20 delayslot/delayslotlaw09.awake -/
def qs20 : Nat → List (Nat × Nat) := fun i => match i with | _ => []
noncomputable def c20 : Code := bodyOf Try.f20
theorem cf20 (w0 : World) (m : AM)  (R : Value → AM → Prop) (h :
 true = true ∧ true = true ∧ true = true ∧ true = true ∧ ∀ b1 : Nat, w0.heap.size ≤ b1 → m b1 = none → let m2 := AM.upd m b1 (.cells #[.int .i64 10, .int .i64 0, .int .i64 0, .int .i64 0, .int .i64 0, .int .i64 15, .int .i64 0, .int .i64 0, .int .i64 0, .int .i64 0, .int .i64 0, .int .i64 0, .int .i64 0, .int .i64 0, .int .i64 0] 24);
 CallsA Try.prog w0 27 #[.slice (some ⟨b1, 0, none⟩) 3 3] m2 fun r6 m7 =>
 ∃ (A3 : Option Addr) (n4 c5 : Nat), r6 = .slice A3 n4 c5 ∧ CallsA Try.prog w0 28 #[.slice (some ⟨b1, 0, none⟩) 3 3] m7 fun r11 m12 =>
 ∃ (A8 : Option Addr) (n9 c10 : Nat), r11 = .slice A8 n9 c10 ∧ IntKind.i64 = IntKind.i64 ∧ (bcase ((((n4 : Nat) : Int) : Int) == 2) (
 ((0 : Int) ≤ 0 ∧ 0 < ((n4 : Nat) : Int)) ∧ nilO A3 fun a13 =>
 ∃ i14 : Int, m12.cell (a13.add (0)) = some (.int .i64 i14) ∧ 
 IntKind.i64 = IntKind.i64 ∧ (bcase (bif (((n4 : Nat) : Int) : Int) == 2 then (i14 : Int) == 0 else false) (
 ((0 : Int) ≤ 1 ∧ 1 < ((n4 : Nat) : Int)) ∧ nilO A3 fun a15 =>
 ∃ i16 : Int, m12.cell (a15.add (1)) = some (.int .i64 i16) ∧ 
 IntKind.i64 = IntKind.i64 ∧ (bcase (bif bif (((n4 : Nat) : Int) : Int) == 2 then (i14 : Int) == 0 else false then (i16 : Int) == 2 else false) (
 IntKind.i64 = IntKind.i64 ∧ (bcase (bif bif bif (((n4 : Nat) : Int) : Int) == 2 then (i14 : Int) == 0 else false then (i16 : Int) == 2 else false then (((n9 : Nat) : Int) : Int) == 2 else false) (
 ((0 : Int) ≤ 1 ∧ 1 < ((n9 : Nat) : Int)) ∧ nilO A8 fun a17 =>
 ∃ i18 : Int, m12.cell (a17.add (2)) = some (.int .i64 i18) ∧ ∃ i19 : Int, m12.cell ((a17.add (2)).add 1) = some (.int .i64 i19) ∧ 
 true = true ∧ ∃ t20 : Bool, EqP Try.prog .eql 36 (.agg #[.int .i64 i18, .int .i64 i19]) (.agg #[.int .i64 2, .int .i64 3]) t20 ∧ (bcase (bif bif bif bif (((n4 : Nat) : Int) : Int) == 2 then (i14 : Int) == 0 else false then (i16 : Int) == 2 else false then (((n9 : Nat) : Int) : Int) == 2 else false then t20 else false) (
 CallsA Try.prog w0 23 #[.slice (some ⟨b1, 0, none⟩) 3 3] m12 fun r22 m23 =>
 ∃ t21 : Bool, r22 = .bool t21 ∧ (bcase (bif bif bif bif bif (((n4 : Nat) : Int) : Int) == 2 then (i14 : Int) == 0 else false then (i16 : Int) == 2 else false then (((n9 : Nat) : Int) : Int) == 2 else false then t20 else false then t21 else false) (
 CallsA Try.prog w0 25 #[.slice (some ⟨b1, 0, none⟩) 3 3] m23 fun r25 m26 =>
 ∃ t24 : Bool, r25 = .bool t24 ∧ RetP R (.bool (bif bif bif bif bif bif (((n4 : Nat) : Int) : Int) == 2 then (i14 : Int) == 0 else false then (i16 : Int) == 2 else false then (((n9 : Nat) : Int) : Int) == 2 else false then t20 else false then t21 else false then t24 else false)) m26) (
 (bif bif bif bif bif (((n4 : Nat) : Int) : Int) == 2 then (i14 : Int) == 0 else false then (i16 : Int) == 2 else false then (((n9 : Nat) : Int) : Int) == 2 else false then t20 else false then t21 else false) = false ∧ RetP R (.bool false) m23))) (
 (bif bif bif bif (((n4 : Nat) : Int) : Int) == 2 then (i14 : Int) == 0 else false then (i16 : Int) == 2 else false then (((n9 : Nat) : Int) : Int) == 2 else false then t20 else false) = false ∧ false = false ∧ RetP R (.bool false) m12))) (
 (bif bif bif (((n4 : Nat) : Int) : Int) == 2 then (i14 : Int) == 0 else false then (i16 : Int) == 2 else false then (((n9 : Nat) : Int) : Int) == 2 else false) = false ∧ false = false ∧ false = false ∧ RetP R (.bool false) m12))) (
 (bif bif (((n4 : Nat) : Int) : Int) == 2 then (i14 : Int) == 0 else false then (i16 : Int) == 2 else false) = false ∧ false = false ∧ false = false ∧ false = false ∧ RetP R (.bool false) m12))) (
 (bif (((n4 : Nat) : Int) : Int) == 2 then (i14 : Int) == 0 else false) = false ∧ false = false ∧ false = false ∧ false = false ∧ false = false ∧ RetP R (.bool false) m12))) (
 ((((n4 : Nat) : Int) : Int) == 2) = false ∧ false = false ∧ false = false ∧ false = false ∧ false = false ∧ false = false ∧ RetP R (.bool false) m12))) : CallsA Try.prog w0 20 #[] m R :=
  callsA_of (c := c20) (args := []) (by kernel_rfl) Try.func20 (by kernel_rfl) qs20 (by kernel_rfl) (by kernel_rfl) (cast (by kernel_rfl) h)

/-! 3 delayslot/delayslotlaw09.BlockFits -/
def qs3 : Nat → List (Nat × Nat) := fun i => match i with | _ => []
noncomputable def c3 : Code := bodyOf Try.f3
theorem cf3 (w0 : World) (m : AM) (x0 : Option Addr) (x0n x0c : Nat) (x1_0 : Int) (x1_1 : Int) (x1_2 : Int) (x1_3 : Int) (x1_4 : Int) (x2 : Int) (R : Value → AM → Prop) (h :
 ∀ b1 : Nat, w0.heap.size ≤ b1 → m b1 = none → let m2 := AM.upd m b1 (.cells #[.int .i64 x1_0, .int .i64 x1_1, .int .i64 x1_2, .int .i64 x1_3, .int .i64 x1_4] 24);
 IntKind.i64 = IntKind.i64 ∧ (bcase (decide ((((x0n : Nat) : Int) : Int) > 200)) (
 (decide ((((x0n : Nat) : Int) : Int) > 200)) = true ∧ true = true ∧ CallsA Try.prog w0 20 #[] m2 fun r4 m5 =>
 ∃ t3 : Bool, r4 = .bool t3 ∧ RetP R (.bool t3) m5) (
 IntKind.i64 = IntKind.i64 ∧ (bcase (bif decide ((((x0n : Nat) : Int) : Int) > 200) then true else decide ((x2 : Int) > 1048576)) (
 (bif decide ((((x0n : Nat) : Int) : Int) > 200) then true else decide ((x2 : Int) > 1048576)) = true ∧ CallsA Try.prog w0 20 #[] m2 fun r7 m8 =>
 ∃ t6 : Bool, r7 = .bool t6 ∧ RetP R (.bool t6) m8) (
 IntKind.i64 = IntKind.i64 ∧ (bcase (bif bif decide ((((x0n : Nat) : Int) : Int) > 200) then true else decide ((x2 : Int) > 1048576) then true else decide ((x2 : Int) < (-1048576))) (
 CallsA Try.prog w0 20 #[] m2 fun r10 m11 =>
 ∃ t9 : Bool, r10 = .bool t9 ∧ RetP R (.bool t9) m11) (
 ∃ i12 : Int, m2.cell ⟨b1, 0, none⟩ = some (.int .i64 i12) ∧ ∃ i13 : Int, m2.cell ⟨b1, 1, none⟩ = some (.int .i64 i13) ∧ ∃ i14 : Int, m2.cell ⟨b1, 2, none⟩ = some (.int .i64 i14) ∧ ∃ i15 : Int, m2.cell ⟨b1, 3, none⟩ = some (.int .i64 i15) ∧ ∃ i16 : Int, m2.cell ⟨b1, 4, none⟩ = some (.int .i64 i16) ∧ 
 CallsA Try.prog w0 21 #[.agg #[.int .i64 i12, .int .i64 i13, .int .i64 i14, .int .i64 i15, .int .i64 i16], .int .i64 x2] m2 fun r19 m20 =>
 ∃ i17 : Int, ∃ t18 : Bool, r19 = .tuple #[.int .i64 i17, .bool t18] ∧ ∃ i23 : Int, m20.cell ⟨b1, 0, none⟩ = some (.int .i64 i23) ∧ ∃ i24 : Int, m20.cell ⟨b1, 1, none⟩ = some (.int .i64 i24) ∧ ∃ i25 : Int, m20.cell ⟨b1, 2, none⟩ = some (.int .i64 i25) ∧ ∃ i26 : Int, m20.cell ⟨b1, 3, none⟩ = some (.int .i64 i26) ∧ ∃ i27 : Int, m20.cell ⟨b1, 4, none⟩ = some (.int .i64 i27) ∧ 
 CallsA Try.prog w0 22 #[.agg #[.int .i64 i23, .int .i64 i24, .int .i64 i25, .int .i64 i26, .int .i64 i27], .int .i64 x2] m20 fun r30 m31 =>
 ∃ i28 : Int, ∃ t29 : Bool, r30 = .tuple #[.int .i64 i28, .bool t29] ∧ IntKind.i64 = IntKind.i64 ∧ (bcase ((i17 : Int) == i28) (
 (bcase (bif (i17 : Int) == i28 then (t18 : Bool) == t29 else false) (
 CallsA Try.prog w0 23 #[.slice x0 x0n x0c] m31 fun r35 m36 =>
 ∃ t34 : Bool, r35 = .bool t34 ∧ CallsA Try.prog w0 24 #[.slice x0 x0n x0c] m36 fun r38 m39 =>
 ∃ t37 : Bool, r38 = .bool t37 ∧ (bcase (bif bif (i17 : Int) == i28 then (t18 : Bool) == t29 else false then (t34 : Bool) == t37 else false) (
 CallsA Try.prog w0 25 #[.slice x0 x0n x0c] m39 fun r41 m42 =>
 ∃ t40 : Bool, r41 = .bool t40 ∧ CallsA Try.prog w0 26 #[.slice x0 x0n x0c] m42 fun r44 m45 =>
 ∃ t43 : Bool, r44 = .bool t43 ∧ (bcase (bif bif bif (i17 : Int) == i28 then (t18 : Bool) == t29 else false then (t34 : Bool) == t37 else false then (t40 : Bool) == t43 else false) (
 CallsA Try.prog w0 20 #[] m45 fun r47 m48 =>
 ∃ t46 : Bool, r47 = .bool t46 ∧ RetP R (.bool (bif bif bif bif (i17 : Int) == i28 then (t18 : Bool) == t29 else false then (t34 : Bool) == t37 else false then (t40 : Bool) == t43 else false then t46 else false)) m48) (
 (bif bif bif (i17 : Int) == i28 then (t18 : Bool) == t29 else false then (t34 : Bool) == t37 else false then (t40 : Bool) == t43 else false) = false ∧ RetP R (.bool false) m45))) (
 (bif bif (i17 : Int) == i28 then (t18 : Bool) == t29 else false then (t34 : Bool) == t37 else false) = false ∧ false = false ∧ RetP R (.bool false) m39))) (
 (bif (i17 : Int) == i28 then (t18 : Bool) == t29 else false) = false ∧ false = false ∧ false = false ∧ RetP R (.bool false) m31))) (
 ((i17 : Int) == i28) = false ∧ false = false ∧ false = false ∧ false = false ∧ RetP R (.bool false) m31))))))))) : CallsA Try.prog w0 3 #[.slice x0 x0n x0c, .agg #[.int .i64 x1_0, .int .i64 x1_1, .int .i64 x1_2, .int .i64 x1_3, .int .i64 x1_4], .int .i64 x2] m R :=
  callsA_of (c := c3) (args := [.slice x0 x0n x0c, .agg #[.int .i64 x1_0, .int .i64 x1_1, .int .i64 x1_2, .int .i64 x1_3, .int .i64 x1_4], .int .i64 x2]) (by kernel_rfl) Try.func3 (by kernel_rfl) qs3 (by kernel_rfl) (by kernel_rfl) (cast (by kernel_rfl) h)

/-! 4 delayslot/delayslotlaw09.BlockHeads -/
def qs4 : Nat → List (Nat × Nat) := fun i => match i with | _ => []
noncomputable def c4 : Code := bodyOf Try.f4
theorem cf4 (w0 : World) (m : AM) (x0 : Option Addr) (x0n x0c : Nat) (R : Value → AM → Prop) (h :
 IntKind.i64 = IntKind.i64 ∧ (bcase (decide ((((x0n : Nat) : Int) : Int) > 200)) (
 CallsA Try.prog w0 20 #[] m fun r2 m3 =>
 ∃ t1 : Bool, r2 = .bool t1 ∧ RetP R (.bool t1) m3) (
 CallsA Try.prog w0 27 #[.slice x0 x0n x0c] m fun r7 m8 =>
 ∃ (A4 : Option Addr) (n5 c6 : Nat), r7 = .slice A4 n5 c6 ∧ CallsA Try.prog w0 28 #[.slice x0 x0n x0c] m8 fun r12 m13 =>
 ∃ (A9 : Option Addr) (n10 c11 : Nat), r12 = .slice A9 n10 c11 ∧ CallsA Try.prog w0 24 #[.slice x0 x0n x0c] m13 fun r15 m16 =>
 ∃ t14 : Bool, r15 = .bool t14 ∧ (bcase (!t14) (
 IntKind.i64 = IntKind.i64 ∧ IntKind.i64 = IntKind.i64 ∧ (bcase (((IntKind.wrap .i64 (((n5 : Nat) : Int) + ((n10 : Nat) : Int))) : Int) == 0) (
 CallsA Try.prog w0 20 #[] m16 fun r18 m19 =>
 ∃ t17 : Bool, r18 = .bool t17 ∧ RetP R (.bool (bif ((IntKind.wrap .i64 (((n5 : Nat) : Int) + ((n10 : Nat) : Int))) : Int) == 0 then t17 else false)) m19) (
 (((IntKind.wrap .i64 (((n5 : Nat) : Int) + ((n10 : Nat) : Int))) : Int) == 0) = false ∧ RetP R (.bool false) m16))) (
 vcS Try.prog w0 qs4 (sub c4 [1, 1, 1, 1, 1, 0, 1, 0]) (upd (upd (upd (upd (upd (upd (upd (upd (upd (upd (upd (upd (upd (upd (upd (upd (upd (argS [.slice x0 x0n x0c]) 2 (.bool false)) 7 (.slice x0 x0n x0c)) 8 (.int .i64 ((x0n : Nat) : Int))) 9 (.bool (decide ((((x0n : Nat) : Int) : Int) > 200)))) 11 (.slice x0 x0n x0c)) 12 (.slice A4 n5 c6)) 13 (.slice x0 x0n x0c)) 14 (.slice A9 n10 c11)) 3 (.slice A4 n5 c6)) 4 (.slice A9 n10 c11)) 15 (.slice x0 x0n x0c)) 16 (.bool t14)) 17 (.bool (!t14))) 5 (.int .i64 0)) 27 (.slice x0 x0n x0c)) 28 (.int .i64 ((x0n : Nat) : Int))) 29 (.int .i64 0)) m16 (blockS 0 (thenS (fun σ m => vcS Try.prog w0 qs4 (sub c4 [1, 1, 1, 1, 1, 1]) σ m (retQ Try.prog Try.f4 R)) (retQ Try.prog Try.f4 R)))))))) : CallsA Try.prog w0 4 #[.slice x0 x0n x0c] m R :=
  callsA_of (c := c4) (args := [.slice x0 x0n x0c]) (by kernel_rfl) Try.func4 (by kernel_rfl) qs4 (by kernel_rfl) (by kernel_rfl) (cast (by kernel_rfl) h)
def lq4_11111010 (R : Value → AM → Prop) (x0 : Option Addr) (x0n x0c : Nat) (x3 : Option Addr) (x3n x3c : Nat) (x4 : Option Addr) (x4n x4c : Nat) (x28 : Int) (I0 : Nat → Int → Int → AM → Prop) (E0_0 : Int → AM → Prop) (n0 : Nat) : Exit → Sg → AM → Prop
  | .normal, σ, m => σ 0 = .slice x0 x0n x0c ∧ σ 3 = .slice x3 x3n x3c ∧ σ 4 = .slice x4 x4n x4c ∧ σ 28 = .int .i64 x28 ∧ okI .i64 (σ 5) = true ∧ okI .i64 (σ 29) = true ∧ ∃ n' : Nat, n' < n0 ∧ I0 n' (vI (σ 5)) (vI (σ 29)) m
  | .exit id, σ, m => if id = 0 then σ 0 = .slice x0 x0n x0c ∧ σ 3 = .slice x3 x3n x3c ∧ σ 4 = .slice x4 x4n x4c ∧ σ 28 = .int .i64 x28 ∧ okI .i64 (σ 5) = true ∧ E0_0 (vI (σ 5)) m else False
  | .ret, σ, m => retQ Try.prog Try.f4 R .ret σ m
  | _, _, _ => False
theorem vl4_11111010 (w0 : World) (m : AM) (σ : Sg) (R : Value → AM → Prop)  (x0 : Option Addr) (x0n x0c : Nat) (x3 : Option Addr) (x3n x3c : Nat) (x4 : Option Addr) (x4n x4c : Nat) (x28 : Int) (x5 : Int) (x29 : Int) (I0 : Nat → Int → Int → AM → Prop) (E0_0 : Int → AM → Prop) (N : Nat) (h0 : σ 0 = .slice x0 x0n x0c) (h3 : σ 3 = .slice x3 x3n x3c) (h4 : σ 4 = .slice x4 x4n x4c) (h5 : σ 5 = .int .i64 x5) (h28 : σ 28 = .int .i64 x28) (h29 : σ 29 = .int .i64 x29)
 (h_0 : I0 N x5 x29 m)
 (h_s : ∀ (n0 : Nat) (σ : Sg) (x5 : Int) (x29 : Int) (m : AM), I0 n0 x5 x29 m → (
 IntKind.i64 = IntKind.i64 ∧ (bcase (decide ((x29 : Int) < x28)) (
 CallsA Try.prog w0 29 #[.slice x0 x0n x0c, .int .i64 x29] m fun r21 m22 =>
 ∃ t20 : Bool, r21 = .bool t20 ∧ (bcase (!t20) (
 IntKind.i64 = IntKind.i64 ∧ (.slice x0 x0n x0c : Value) = .slice x0 x0n x0c ∧ (.slice x3 x3n x3c : Value) = .slice x3 x3n x3c ∧ (.slice x4 x4n x4c : Value) = .slice x4 x4n x4c ∧ (.int .i64 x28 : Value) = .int .i64 x28 ∧ true = true ∧ true = true ∧ ∃ n' : Nat, n' < n0 ∧ I0 n' x5 (IntKind.wrap .i64 (x29 + 1)) m22) (
 IntKind.i64 = IntKind.i64 ∧ (bcase (decide ((x5 : Int) ≥ ((x3n : Nat) : Int))) (
 (decide ((x5 : Int) ≥ ((x3n : Nat) : Int))) = true ∧ true = true ∧ true = true ∧ true = true ∧ RetP R (.bool false) m22) (
 IntKind.i64 = IntKind.i64 ∧ (bcase (bif decide ((x5 : Int) ≥ ((x3n : Nat) : Int)) then true else decide ((x5 : Int) ≥ ((x4n : Nat) : Int))) (
 (bif decide ((x5 : Int) ≥ ((x3n : Nat) : Int)) then true else decide ((x5 : Int) ≥ ((x4n : Nat) : Int))) = true ∧ true = true ∧ true = true ∧ RetP R (.bool false) m22) (
 ((0 : Int) ≤ x5 ∧ x5 < ((x3n : Nat) : Int)) ∧ nilO x3 fun a23 =>
 ∃ i24 : Int, m22.cell (a23.add ((x5 : Int).toNat * 1)) = some (.int .i64 i24) ∧ 
 IntKind.i64 = IntKind.i64 ∧ (bcase (bif bif decide ((x5 : Int) ≥ ((x3n : Nat) : Int)) then true else decide ((x5 : Int) ≥ ((x4n : Nat) : Int)) then true else (i24 : Int) != x29) (
 (bif bif decide ((x5 : Int) ≥ ((x3n : Nat) : Int)) then true else decide ((x5 : Int) ≥ ((x4n : Nat) : Int)) then true else (i24 : Int) != x29) = true ∧ true = true ∧ RetP R (.bool false) m22) (
 ((0 : Int) ≤ x5 ∧ x5 < ((x4n : Nat) : Int)) ∧ nilO x4 fun a25 =>
 ∃ i26 : Int, m22.cell (a25.add ((x5 : Int).toNat * 2)) = some (.int .i64 i26) ∧ 
 IntKind.i64 = IntKind.i64 ∧ (bcase (bif bif bif decide ((x5 : Int) ≥ ((x3n : Nat) : Int)) then true else decide ((x5 : Int) ≥ ((x4n : Nat) : Int)) then true else (i24 : Int) != x29 then true else (i26 : Int) != x29) (
 (bif bif bif decide ((x5 : Int) ≥ ((x3n : Nat) : Int)) then true else decide ((x5 : Int) ≥ ((x4n : Nat) : Int)) then true else (i24 : Int) != x29 then true else (i26 : Int) != x29) = true ∧ RetP R (.bool false) m22) (
 IntKind.i64 = IntKind.i64 ∧ (bcase (decide ((x5 : Int) > 0)) (
 IntKind.i64 = IntKind.i64 ∧ ((0 : Int) ≤ (IntKind.wrap .i64 (x5 - 1)) ∧ (IntKind.wrap .i64 (x5 - 1)) < ((x4n : Nat) : Int)) ∧ nilO x4 fun a27 =>
 ∃ i28 : Int, m22.cell ((a27.add ((IntKind.wrap .i64 (x5 - 1) : Int).toNat * 2)).add 1) = some (.int .i64 i28) ∧ 
 IntKind.i64 = IntKind.i64 ∧ (bcase (bif bif bif bif decide ((x5 : Int) ≥ ((x3n : Nat) : Int)) then true else decide ((x5 : Int) ≥ ((x4n : Nat) : Int)) then true else (i24 : Int) != x29 then true else (i26 : Int) != x29 then true else bif decide ((x5 : Int) > 0) then (i28 : Int) != x29 else false) (
 RetP R (.bool false) m22) (
 IntKind.i64 = IntKind.i64 ∧ IntKind.i64 = IntKind.i64 ∧ (.slice x0 x0n x0c : Value) = .slice x0 x0n x0c ∧ (.slice x3 x3n x3c : Value) = .slice x3 x3n x3c ∧ (.slice x4 x4n x4c : Value) = .slice x4 x4n x4c ∧ (.int .i64 x28 : Value) = .int .i64 x28 ∧ true = true ∧ true = true ∧ ∃ n' : Nat, n' < n0 ∧ I0 n' (IntKind.wrap .i64 (x5 + 1)) (IntKind.wrap .i64 (x29 + 1)) m22))) (
 (decide ((x5 : Int) > 0)) = false ∧ (bcase (bif bif bif bif decide ((x5 : Int) ≥ ((x3n : Nat) : Int)) then true else decide ((x5 : Int) ≥ ((x4n : Nat) : Int)) then true else (i24 : Int) != x29 then true else (i26 : Int) != x29 then true else false) (
 RetP R (.bool false) m22) (
 IntKind.i64 = IntKind.i64 ∧ IntKind.i64 = IntKind.i64 ∧ (.slice x0 x0n x0c : Value) = .slice x0 x0n x0c ∧ (.slice x3 x3n x3c : Value) = .slice x3 x3n x3c ∧ (.slice x4 x4n x4c : Value) = .slice x4 x4n x4c ∧ (.int .i64 x28 : Value) = .int .i64 x28 ∧ true = true ∧ true = true ∧ ∃ n' : Nat, n' < n0 ∧ I0 n' (IntKind.wrap .i64 (x5 + 1)) (IntKind.wrap .i64 (x29 + 1)) m22))))))))))))))) (
 (.slice x0 x0n x0c : Value) = .slice x0 x0n x0c ∧ (.slice x3 x3n x3c : Value) = .slice x3 x3n x3c ∧ (.slice x4 x4n x4c : Value) = .slice x4 x4n x4c ∧ (.int .i64 x28 : Value) = .int .i64 x28 ∧ true = true ∧ E0_0 x5 m))))
 (h_e0 : ∀ (σ : Sg) (x5 : Int) (m : AM), E0_0 x5 m → (
 IntKind.i64 = IntKind.i64 ∧ (bcase ((x5 : Int) == ((x3n : Nat) : Int)) (
 IntKind.i64 = IntKind.i64 ∧ (bcase (bif (x5 : Int) == ((x3n : Nat) : Int) then (x5 : Int) == ((x4n : Nat) : Int) else false) (
 IntKind.i64 = IntKind.i64 ∧ (bcase ((x5 : Int) == 0) (
 ((x5 : Int) == 0) = true ∧ (bcase (bif bif (x5 : Int) == ((x3n : Nat) : Int) then (x5 : Int) == ((x4n : Nat) : Int) else false then true else false) (
 CallsA Try.prog w0 20 #[] m fun r30 m31 =>
 ∃ t29 : Bool, r30 = .bool t29 ∧ RetP R (.bool (bif bif bif (x5 : Int) == ((x3n : Nat) : Int) then (x5 : Int) == ((x4n : Nat) : Int) else false then true else false then t29 else false)) m31) (
 (bif bif (x5 : Int) == ((x3n : Nat) : Int) then (x5 : Int) == ((x4n : Nat) : Int) else false then true else false) = false ∧ RetP R (.bool false) m))) (
 IntKind.i64 = IntKind.i64 ∧ ((0 : Int) ≤ (IntKind.wrap .i64 (x5 - 1)) ∧ (IntKind.wrap .i64 (x5 - 1)) < ((x4n : Nat) : Int)) ∧ nilO x4 fun a32 =>
 ∃ i33 : Int, m.cell ((a32.add ((IntKind.wrap .i64 (x5 - 1) : Int).toNat * 2)).add 1) = some (.int .i64 i33) ∧ 
 IntKind.i64 = IntKind.i64 ∧ (bcase (bif bif (x5 : Int) == ((x3n : Nat) : Int) then (x5 : Int) == ((x4n : Nat) : Int) else false then bif (x5 : Int) == 0 then true else (i33 : Int) == ((x0n : Nat) : Int) else false) (
 CallsA Try.prog w0 20 #[] m fun r35 m36 =>
 ∃ t34 : Bool, r35 = .bool t34 ∧ RetP R (.bool (bif bif bif (x5 : Int) == ((x3n : Nat) : Int) then (x5 : Int) == ((x4n : Nat) : Int) else false then bif (x5 : Int) == 0 then true else (i33 : Int) == ((x0n : Nat) : Int) else false then t34 else false)) m36) (
 (bif bif (x5 : Int) == ((x3n : Nat) : Int) then (x5 : Int) == ((x4n : Nat) : Int) else false then bif (x5 : Int) == 0 then true else (i33 : Int) == ((x0n : Nat) : Int) else false) = false ∧ RetP R (.bool false) m))))) (
 (bif (x5 : Int) == ((x3n : Nat) : Int) then (x5 : Int) == ((x4n : Nat) : Int) else false) = false ∧ false = false ∧ RetP R (.bool false) m))) (
 ((x5 : Int) == ((x3n : Nat) : Int)) = false ∧ false = false ∧ false = false ∧ RetP R (.bool false) m)))) :
 vcS Try.prog w0 qs4 (sub c4 [1, 1, 1, 1, 1, 0, 1, 0]) σ m (blockS 0 (thenS (fun σ m => vcS Try.prog w0 qs4 (sub c4 [1, 1, 1, 1, 1, 1]) σ m (retQ Try.prog Try.f4 R)) (retQ Try.prog Try.f4 R))) := by
  rw [show sub c4 [1, 1, 1, 1, 1, 0, 1, 0] = .loop (sub c4 [1, 1, 1, 1, 1, 0, 1, 0, 0]) from by kernel_rfl]
  refine loopQ (fun n0 σ m => σ 0 = .slice x0 x0n x0c ∧ σ 3 = .slice x3 x3n x3c ∧ σ 4 = .slice x4 x4n x4c ∧ σ 28 = .int .i64 x28 ∧ okI .i64 (σ 5) = true ∧ okI .i64 (σ 29) = true ∧ I0 n0 (vI (σ 5)) (vI (σ 29)) m) N (fun n0 => (lq4_11111010 R x0 x0n x0c x3 x3n x3c x4 x4n x4c x28 I0 E0_0 n0)) ⟨h0, h3, h4, h28, (by rw [h5]; rfl), (by rw [h29]; rfl), (by rw [h5, h29]; exact h_0)⟩ ?_ ?_ ?_
  · rintro n0 σ m ⟨kk0, kk1, kk2, kk3, kk4, kk5, n', hlt, hI⟩; exact ⟨n', hlt, kk0, kk1, kk2, kk3, kk4, kk5, hI⟩
  · intro n0 e σ m hne h
    cases e with
    | normal => exact absurd rfl hne
    | ret => exact h
    | exit id =>
      by_cases e0 : id = 0
      · subst e0
        obtain ⟨kk0, kk1, kk2, kk3, kk4, hE⟩ := h
        have es : (upd (upd (upd (upd (upd σ 0 (.slice x0 x0n x0c)) 3 (.slice x3 x3n x3c)) 4 (.slice x4 x4n x4c)) 28 (.int .i64 x28)) 5 (.int .i64 (vI (σ 5)))) = σ := by rw [upd_id kk0, upd_id kk1, upd_id kk2, upd_id kk3, upd_id (ok_int kk4)]
        exact cast (congrArg (fun s => (blockS 0 (thenS (fun σ m => vcS Try.prog w0 qs4 (sub c4 [1, 1, 1, 1, 1, 1]) σ m (retQ Try.prog Try.f4 R)) (retQ Try.prog Try.f4 R))) (.exit 0) s m) es) (cast (by kernel_rfl) (h_e0 σ (vI (σ 5)) m hE))
      · replace h := (if_neg e0 : (if id = 0 then _ else _) = _).mp h
        exact False.elim h
    | _ => exact False.elim h
  · rintro n0 σ m ⟨kk0, kk1, kk2, kk3, kk4, kk5, hI⟩
    have es : (upd (upd (upd (upd (upd (upd σ 0 (.slice x0 x0n x0c)) 3 (.slice x3 x3n x3c)) 4 (.slice x4 x4n x4c)) 5 (.int .i64 (vI (σ 5)))) 28 (.int .i64 x28)) 29 (.int .i64 (vI (σ 29)))) = σ := by rw [upd_id kk0, upd_id kk1, upd_id kk2, upd_id (ok_int kk4), upd_id kk3, upd_id (ok_int kk5)]
    exact cast (congrArg (fun s => vcS Try.prog w0 qs4 (sub c4 [1, 1, 1, 1, 1, 0, 1, 0, 0]) s m (lq4_11111010 R x0 x0n x0c x3 x3n x3c x4 x4n x4c x28 I0 E0_0 n0)) es) (cast (by kernel_rfl) (h_s n0 σ (vI (σ 5)) (vI (σ 29)) m hI))

/-! 5 delayslot/delayslotlaw09.BlockWhole -/
def qs5 : Nat → List (Nat × Nat) := fun i => match i with | _ => []
noncomputable def c5 : Code := bodyOf Try.f5
theorem cf5 (w0 : World) (m : AM) (x0 : Option Addr) (x0n x0c : Nat) (R : Value → AM → Prop) (h :
 IntKind.i64 = IntKind.i64 ∧ (bcase (decide ((((x0n : Nat) : Int) : Int) > 200)) (
 (decide ((((x0n : Nat) : Int) : Int) > 200)) = true ∧ CallsA Try.prog w0 20 #[] m fun r2 m3 =>
 ∃ t1 : Bool, r2 = .bool t1 ∧ RetP R (.bool t1) m3) (
 CallsA Try.prog w0 23 #[.slice x0 x0n x0c] m fun r5 m6 =>
 ∃ t4 : Bool, r5 = .bool t4 ∧ (bcase (bif decide ((((x0n : Nat) : Int) : Int) > 200) then true else !t4) (
 CallsA Try.prog w0 20 #[] m6 fun r8 m9 =>
 ∃ t7 : Bool, r8 = .bool t7 ∧ RetP R (.bool t7) m9) (
 IntKind.i64 = IntKind.i64 ∧ ((0 : Int) ≤ (IntKind.wrap .i64 (((x0n : Nat) : Int) + 1)) ∧ ((IntKind.wrap .i64 (((x0n : Nat) : Int) + 1)) : Int) ≤ (IntKind.wrap .i64 (((x0n : Nat) : Int) + 1)) ∧ ((IntKind.wrap .i64 (((x0n : Nat) : Int) + 1)) : Int) ≤ 9223372036854775807 ∧ ((1 : Nat) : Int) * (IntKind.wrap .i64 (((x0n : Nat) : Int) + 1)) ≤ 281474976710656) ∧ ∀ b10 : Nat, w0.heap.size ≤ b10 → m6 b10 = none → let m11 := AM.upd m6 b10 (.cells (zeros [.bool false] (IntKind.wrap .i64 (((x0n : Nat) : Int) + 1) : Int).toNat).toArray 4);
 ((0 : Int) ≤ ((x0n : Nat) : Int) ∧ ((x0n : Nat) : Int) < (((IntKind.wrap .i64 (((x0n : Nat) : Int) + 1) : Int).toNat : Nat) : Int)) ∧ nilO (some ⟨b10, 0, none⟩) fun a12 =>
 StC w0.heap.size m11 (a12.add ((((x0n : Nat) : Int) : Int).toNat * 1)) (.bool true) fun m13 =>
 CallsA Try.prog w0 28 #[.slice x0 x0n x0c] m13 fun r17 m18 =>
 ∃ (A14 : Option Addr) (n15 c16 : Nat), r17 = .slice A14 n15 c16 ∧ vcS Try.prog w0 qs5 (sub c5 [1, 1, 1, 1, 1, 1, 0, 1, 0]) (upd (upd (upd (upd (upd (upd (upd (upd (upd (upd (upd (upd (upd (upd (upd (upd (upd (upd (upd (upd (upd (upd (upd (upd (upd (argS [.slice x0 x0n x0c]) 2 (.bool false)) 13 (.slice x0 x0n x0c)) 14 (.int .i64 ((x0n : Nat) : Int))) 15 (.bool (decide ((((x0n : Nat) : Int) : Int) > 200)))) 16 (.bool (decide ((((x0n : Nat) : Int) : Int) > 200)))) 17 (.slice x0 x0n x0c)) 18 (.bool t4)) 19 (.bool (!t4))) 20 (.bool (bif decide ((((x0n : Nat) : Int) : Int) > 200) then true else !t4))) 3 (.int .i64 0)) 22 (.slice x0 x0n x0c)) 23 (.int .i64 ((x0n : Nat) : Int))) 24 (.int .i64 (IntKind.wrap .i64 (((x0n : Nat) : Int) + 1)))) 25 (.slice (some ⟨b10, 0, none⟩) ((IntKind.wrap .i64 (((x0n : Nat) : Int) + 1) : Int).toNat) ((IntKind.wrap .i64 (((x0n : Nat) : Int) + 1) : Int).toNat))) 4 (.slice (some ⟨b10, 0, none⟩) ((IntKind.wrap .i64 (((x0n : Nat) : Int) + 1) : Int).toNat) ((IntKind.wrap .i64 (((x0n : Nat) : Int) + 1) : Int).toNat))) 26 (.slice (some ⟨b10, 0, none⟩) ((IntKind.wrap .i64 (((x0n : Nat) : Int) + 1) : Int).toNat) ((IntKind.wrap .i64 (((x0n : Nat) : Int) + 1) : Int).toNat))) 27 (.slice x0 x0n x0c)) 28 (.int .i64 ((x0n : Nat) : Int))) 29 (.pointer (some (a12.add ((((x0n : Nat) : Int) : Int).toNat * 1))))) 30 (.slice x0 x0n x0c)) 31 (.slice A14 n15 c16)) 5 (.slice A14 n15 c16)) 32 (.slice A14 n15 c16)) 33 (.int .i64 ((n15 : Nat) : Int))) 34 (.int .i64 0)) m18 (blockS 0 (thenS (fun σ m => vcS Try.prog w0 qs5 (sub c5 [1, 1, 1, 1, 1, 1, 1]) σ m (retQ Try.prog Try.f5 R)) (retQ Try.prog Try.f5 R)))))))) : CallsA Try.prog w0 5 #[.slice x0 x0n x0c] m R :=
  callsA_of (c := c5) (args := [.slice x0 x0n x0c]) (by kernel_rfl) Try.func5 (by kernel_rfl) qs5 (by kernel_rfl) (by kernel_rfl) (cast (by kernel_rfl) h)
def lq5_111111010 (R : Value → AM → Prop) (x0 : Option Addr) (x0n x0c : Nat) (x4 : Option Addr) (x4n x4c : Nat) (x32 : Option Addr) (x32n x32c : Nat) (x33 : Int) (I0 : Nat → Int → Int → AM → Prop) (E0_0 : Int → AM → Prop) (n0 : Nat) : Exit → Sg → AM → Prop
  | .normal, σ, m => σ 0 = .slice x0 x0n x0c ∧ σ 4 = .slice x4 x4n x4c ∧ σ 32 = .slice x32 x32n x32c ∧ σ 33 = .int .i64 x33 ∧ okI .i64 (σ 3) = true ∧ okI .i64 (σ 34) = true ∧ ∃ n' : Nat, n' < n0 ∧ I0 n' (vI (σ 3)) (vI (σ 34)) m
  | .exit id, σ, m => if id = 0 then σ 0 = .slice x0 x0n x0c ∧ σ 4 = .slice x4 x4n x4c ∧ σ 32 = .slice x32 x32n x32c ∧ σ 33 = .int .i64 x33 ∧ okI .i64 (σ 3) = true ∧ E0_0 (vI (σ 3)) m else False
  | .ret, σ, m => retQ Try.prog Try.f5 R .ret σ m
  | _, _, _ => False
theorem vl5_111111010 (w0 : World) (m : AM) (σ : Sg) (R : Value → AM → Prop)  (x0 : Option Addr) (x0n x0c : Nat) (x4 : Option Addr) (x4n x4c : Nat) (x32 : Option Addr) (x32n x32c : Nat) (x33 : Int) (x3 : Int) (x34 : Int) (I0 : Nat → Int → Int → AM → Prop) (E0_0 : Int → AM → Prop) (N : Nat) (h0 : σ 0 = .slice x0 x0n x0c) (h3 : σ 3 = .int .i64 x3) (h4 : σ 4 = .slice x4 x4n x4c) (h32 : σ 32 = .slice x32 x32n x32c) (h33 : σ 33 = .int .i64 x33) (h34 : σ 34 = .int .i64 x34)
 (h_0 : I0 N x3 x34 m)
 (h_s : ∀ (n0 : Nat) (σ : Sg) (x3 : Int) (x34 : Int) (m : AM), I0 n0 x3 x34 m → (
 IntKind.i64 = IntKind.i64 ∧ (bcase (decide ((x34 : Int) < x33)) (
 ((0 : Int) ≤ x34 ∧ x34 < ((x32n : Nat) : Int)) ∧ nilO x32 fun a19 =>
 ∃ i20 : Int, m.cell (a19.add ((x34 : Int).toNat * 2)) = some (.int .i64 i20) ∧ ∃ i21 : Int, m.cell ((a19.add ((x34 : Int).toNat * 2)).add 1) = some (.int .i64 i21) ∧ 
 ∀ b22 : Nat, w0.heap.size ≤ b22 → m b22 = none → let m23 := AM.upd m b22 (.cells #[.int .i64 0, .int .i64 0] 36);
 StC w0.heap.size m23 ⟨b22, 0, none⟩ (.int .i64 i20) fun m24 =>
 StC w0.heap.size m24 ⟨b22, 1, none⟩ (.int .i64 i21) fun m25 =>
 ∃ i26 : Int, m25.cell ⟨b22, 0, none⟩ = some (.int .i64 i26) ∧ 
 IntKind.i64 = IntKind.i64 ∧ (bcase ((i26 : Int) != x3) (
 ((i26 : Int) != x3) = true ∧ true = true ∧ RetP R (.bool false) m25) (
 ∃ i27 : Int, m25.cell ⟨b22, 1, none⟩ = some (.int .i64 i27) ∧ 
 ∃ i28 : Int, m25.cell ⟨b22, 0, none⟩ = some (.int .i64 i28) ∧ 
 IntKind.i64 = IntKind.i64 ∧ (bcase (bif (i26 : Int) != x3 then true else decide ((i27 : Int) ≤ i28)) (
 (bif (i26 : Int) != x3 then true else decide ((i27 : Int) ≤ i28)) = true ∧ RetP R (.bool false) m25) (
 ∃ i29 : Int, m25.cell ⟨b22, 1, none⟩ = some (.int .i64 i29) ∧ 
 IntKind.i64 = IntKind.i64 ∧ (bcase (bif bif (i26 : Int) != x3 then true else decide ((i27 : Int) ≤ i28) then true else decide ((i29 : Int) > ((x0n : Nat) : Int))) (
 RetP R (.bool false) m25) (
 ((0 : Int) ≤ x3 ∧ x3 < ((x4n : Nat) : Int)) ∧ nilO x4 fun a30 =>
 StC w0.heap.size m25 (a30.add ((x3 : Int).toNat * 1)) (.bool true) fun m31 =>
 ∃ i32 : Int, m31.cell ⟨b22, 0, none⟩ = some (.int .i64 i32) ∧ 
 vcS Try.prog w0 qs5 (sub c5 [1, 1, 1, 1, 1, 1, 0, 1, 0, 0, 1, 1, 0, 0, 1, 1, 1, 0, 1, 0]) (upd (upd (upd (upd (upd (upd (upd (upd (upd (upd (upd (upd (upd (upd (upd (upd (upd (upd (upd (upd (upd (upd (upd (upd (upd (upd (upd (upd (upd (upd (upd (upd (upd (upd σ 0 (.slice x0 x0n x0c)) 3 (.int .i64 x3)) 4 (.slice x4 x4n x4c)) 32 (.slice x32 x32n x32c)) 33 (.int .i64 x33)) 34 (.int .i64 x34)) 35 (.bool (decide ((x34 : Int) < x33)))) 36 (.pointer (some (a19.add ((x34 : Int).toNat * 2))))) 37 (.agg #[.int .i64 i20, .int .i64 i21])) 7 (.pointer (some ⟨b22, 0, none⟩))) 38 (.pointer (some ⟨b22, 0, none⟩))) 39 (.int .i64 i26)) 40 (.int .i64 x3)) 41 (.bool ((i26 : Int) != x3))) 42 (.bool ((i26 : Int) != x3))) 43 (.pointer (some ⟨b22, 1, none⟩))) 44 (.int .i64 i27)) 45 (.pointer (some ⟨b22, 0, none⟩))) 46 (.int .i64 i28)) 47 (.bool (decide ((i27 : Int) ≤ i28)))) 48 (.bool (bif (i26 : Int) != x3 then true else decide ((i27 : Int) ≤ i28)))) 49 (.bool (bif (i26 : Int) != x3 then true else decide ((i27 : Int) ≤ i28)))) 50 (.pointer (some ⟨b22, 1, none⟩))) 51 (.int .i64 i29)) 52 (.slice x0 x0n x0c)) 53 (.int .i64 ((x0n : Nat) : Int))) 54 (.bool (decide ((i29 : Int) > ((x0n : Nat) : Int))))) 55 (.bool (bif bif (i26 : Int) != x3 then true else decide ((i27 : Int) ≤ i28) then true else decide ((i29 : Int) > ((x0n : Nat) : Int))))) 56 (.slice x4 x4n x4c)) 57 (.int .i64 x3)) 58 (.pointer (some (a30.add ((x3 : Int).toNat * 1))))) 59 (.pointer (some ⟨b22, 0, none⟩))) 60 (.int .i64 i32)) 8 (.int .i64 i32)) m31 (blockS 2 (thenS (fun σ m => vcS Try.prog w0 qs5 (sub c5 [1, 1, 1, 1, 1, 1, 0, 1, 0, 0, 1, 1, 0, 0, 1, 1, 1, 1]) σ m (blockS 1 (thenS (fun σ m => vcS Try.prog w0 qs5 (sub c5 [1, 1, 1, 1, 1, 1, 0, 1, 0, 0, 1, 1, 1]) σ m (lq5_111111010 R x0 x0n x0c x4 x4n x4c x32 x32n x32c x33 I0 E0_0 n0)) (lq5_111111010 R x0 x0n x0c x4 x4n x4c x32 x32n x32c x33 I0 E0_0 n0)))) (blockS 1 (thenS (fun σ m => vcS Try.prog w0 qs5 (sub c5 [1, 1, 1, 1, 1, 1, 0, 1, 0, 0, 1, 1, 1]) σ m (lq5_111111010 R x0 x0n x0c x4 x4n x4c x32 x32n x32c x33 I0 E0_0 n0)) (lq5_111111010 R x0 x0n x0c x4 x4n x4c x32 x32n x32c x33 I0 E0_0 n0)))))))))))) (
 (.slice x0 x0n x0c : Value) = .slice x0 x0n x0c ∧ (.slice x4 x4n x4c : Value) = .slice x4 x4n x4c ∧ (.slice x32 x32n x32c : Value) = .slice x32 x32n x32c ∧ (.int .i64 x33 : Value) = .int .i64 x33 ∧ true = true ∧ E0_0 x3 m))))
 (h_e0 : ∀ (σ : Sg) (x3 : Int) (m : AM), E0_0 x3 m → (
 vcS Try.prog w0 qs5 (sub c5 [1, 1, 1, 1, 1, 1, 1, 0, 1, 0]) (upd (upd (upd (upd (upd (upd (upd (upd σ 0 (.slice x0 x0n x0c)) 4 (.slice x4 x4n x4c)) 32 (.slice x32 x32n x32c)) 33 (.int .i64 x33)) 3 (.int .i64 x3)) 76 (.slice x0 x0n x0c)) 77 (.int .i64 ((x0n : Nat) : Int))) 78 (.int .i64 0)) m (blockS 4 (thenS (fun σ m => vcS Try.prog w0 qs5 (sub c5 [1, 1, 1, 1, 1, 1, 1, 1]) σ m (retQ Try.prog Try.f5 R)) (retQ Try.prog Try.f5 R))))) :
 vcS Try.prog w0 qs5 (sub c5 [1, 1, 1, 1, 1, 1, 0, 1, 0]) σ m (blockS 0 (thenS (fun σ m => vcS Try.prog w0 qs5 (sub c5 [1, 1, 1, 1, 1, 1, 1]) σ m (retQ Try.prog Try.f5 R)) (retQ Try.prog Try.f5 R))) := by
  rw [show sub c5 [1, 1, 1, 1, 1, 1, 0, 1, 0] = .loop (sub c5 [1, 1, 1, 1, 1, 1, 0, 1, 0, 0]) from by kernel_rfl]
  refine loopQ (fun n0 σ m => σ 0 = .slice x0 x0n x0c ∧ σ 4 = .slice x4 x4n x4c ∧ σ 32 = .slice x32 x32n x32c ∧ σ 33 = .int .i64 x33 ∧ okI .i64 (σ 3) = true ∧ okI .i64 (σ 34) = true ∧ I0 n0 (vI (σ 3)) (vI (σ 34)) m) N (fun n0 => (lq5_111111010 R x0 x0n x0c x4 x4n x4c x32 x32n x32c x33 I0 E0_0 n0)) ⟨h0, h4, h32, h33, (by rw [h3]; rfl), (by rw [h34]; rfl), (by rw [h3, h34]; exact h_0)⟩ ?_ ?_ ?_
  · rintro n0 σ m ⟨kk0, kk1, kk2, kk3, kk4, kk5, n', hlt, hI⟩; exact ⟨n', hlt, kk0, kk1, kk2, kk3, kk4, kk5, hI⟩
  · intro n0 e σ m hne h
    cases e with
    | normal => exact absurd rfl hne
    | ret => exact h
    | exit id =>
      by_cases e0 : id = 0
      · subst e0
        obtain ⟨kk0, kk1, kk2, kk3, kk4, hE⟩ := h
        have es : (upd (upd (upd (upd (upd σ 0 (.slice x0 x0n x0c)) 4 (.slice x4 x4n x4c)) 32 (.slice x32 x32n x32c)) 33 (.int .i64 x33)) 3 (.int .i64 (vI (σ 3)))) = σ := by rw [upd_id kk0, upd_id kk1, upd_id kk2, upd_id kk3, upd_id (ok_int kk4)]
        exact cast (congrArg (fun s => (blockS 0 (thenS (fun σ m => vcS Try.prog w0 qs5 (sub c5 [1, 1, 1, 1, 1, 1, 1]) σ m (retQ Try.prog Try.f5 R)) (retQ Try.prog Try.f5 R))) (.exit 0) s m) es) (cast (by kernel_rfl) (h_e0 σ (vI (σ 3)) m hE))
      · replace h := (if_neg e0 : (if id = 0 then _ else _) = _).mp h
        exact False.elim h
    | _ => exact False.elim h
  · rintro n0 σ m ⟨kk0, kk1, kk2, kk3, kk4, kk5, hI⟩
    have es : (upd (upd (upd (upd (upd (upd σ 0 (.slice x0 x0n x0c)) 3 (.int .i64 (vI (σ 3)))) 4 (.slice x4 x4n x4c)) 32 (.slice x32 x32n x32c)) 33 (.int .i64 x33)) 34 (.int .i64 (vI (σ 34)))) = σ := by rw [upd_id kk0, upd_id (ok_int kk4), upd_id kk1, upd_id kk2, upd_id kk3, upd_id (ok_int kk5)]
    exact cast (congrArg (fun s => vcS Try.prog w0 qs5 (sub c5 [1, 1, 1, 1, 1, 1, 0, 1, 0, 0]) s m (lq5_111111010 R x0 x0n x0c x4 x4n x4c x32 x32n x32c x33 I0 E0_0 n0)) es) (cast (by kernel_rfl) (h_s n0 σ (vI (σ 3)) (vI (σ 34)) m hI))
def lq5_11111101001100111010 (R : Value → AM → Prop) (x0 : Option Addr) (x0n x0c : Nat) (x4 : Option Addr) (x4n x4c : Nat) (x7 : Nat) (x32 : Option Addr) (x32n x32c : Nat) (x33 : Int) (x34 : Int) (I1 : Nat → Int → AM → Prop) (E1_2 : AM → Prop) (n1 : Nat) : Exit → Sg → AM → Prop
  | .normal, σ, m => σ 0 = .slice x0 x0n x0c ∧ σ 4 = .slice x4 x4n x4c ∧ σ 7 = .pointer (some ⟨x7, 0, none⟩) ∧ σ 32 = .slice x32 x32n x32c ∧ σ 33 = .int .i64 x33 ∧ σ 34 = .int .i64 x34 ∧ okI .i64 (σ 8) = true ∧ ∃ n' : Nat, n' < n1 ∧ I1 n' (vI (σ 8)) m
  | .exit id, σ, m => if id = 2 then σ 0 = .slice x0 x0n x0c ∧ σ 4 = .slice x4 x4n x4c ∧ σ 7 = .pointer (some ⟨x7, 0, none⟩) ∧ σ 32 = .slice x32 x32n x32c ∧ σ 33 = .int .i64 x33 ∧ σ 34 = .int .i64 x34 ∧ E1_2  m else False
  | .ret, σ, m => retQ Try.prog Try.f5 R .ret σ m
  | _, _, _ => False
theorem vl5_11111101001100111010 (w0 : World) (m : AM) (σ : Sg) (R : Value → AM → Prop) (n0 : Nat) (I0 : Nat → Int → Int → AM → Prop) (E0_0 : Int → AM → Prop) (x0 : Option Addr) (x0n x0c : Nat) (x4 : Option Addr) (x4n x4c : Nat) (x7 : Nat) (x32 : Option Addr) (x32n x32c : Nat) (x33 : Int) (x34 : Int) (x8 : Int) (I1 : Nat → Int → AM → Prop) (E1_2 : AM → Prop) (N : Nat) (h0 : σ 0 = .slice x0 x0n x0c) (h4 : σ 4 = .slice x4 x4n x4c) (h7 : σ 7 = .pointer (some ⟨x7, 0, none⟩)) (h8 : σ 8 = .int .i64 x8) (h32 : σ 32 = .slice x32 x32n x32c) (h33 : σ 33 = .int .i64 x33) (h34 : σ 34 = .int .i64 x34)
 (h_0 : I1 N x8 m)
 (h_s : ∀ (n1 : Nat) (σ : Sg) (x8 : Int) (m : AM), I1 n1 x8 m → (
 ∃ i33 : Int, m.cell ⟨x7, 1, none⟩ = some (.int .i64 i33) ∧ 
 IntKind.i64 = IntKind.i64 ∧ IntKind.i64 = IntKind.i64 ∧ (bcase (decide ((x8 : Int) < (IntKind.wrap .i64 (i33 - 1)))) (
 ((0 : Int) ≤ x8 ∧ x8 < ((x0n : Nat) : Int)) ∧ nilO x0 fun a34 =>
 ∃ i35 : Int, m.cell (a34.add ((x8 : Int).toNat * 5)) = some (.int .i64 i35) ∧ ∃ i36 : Int, m.cell ((a34.add ((x8 : Int).toNat * 5)).add 1) = some (.int .i64 i36) ∧ ∃ i37 : Int, m.cell ((a34.add ((x8 : Int).toNat * 5)).add 2) = some (.int .i64 i37) ∧ ∃ i38 : Int, m.cell ((a34.add ((x8 : Int).toNat * 5)).add 3) = some (.int .i64 i38) ∧ ∃ i39 : Int, m.cell ((a34.add ((x8 : Int).toNat * 5)).add 4) = some (.int .i64 i39) ∧ 
 CallsA Try.prog w0 30 #[.agg #[.int .i64 i35, .int .i64 i36, .int .i64 i37, .int .i64 i38, .int .i64 i39]] m fun r41 m42 =>
 ∃ t40 : Bool, r41 = .bool t40 ∧ (bcase t40 (
 RetP R (.bool false) m42) (
 IntKind.i64 = IntKind.i64 ∧ (.slice x0 x0n x0c : Value) = .slice x0 x0n x0c ∧ (.slice x4 x4n x4c : Value) = .slice x4 x4n x4c ∧ (.pointer (some ⟨x7, 0, none⟩) : Value) = .pointer (some ⟨x7, 0, none⟩) ∧ (.slice x32 x32n x32c : Value) = .slice x32 x32n x32c ∧ (.int .i64 x33 : Value) = .int .i64 x33 ∧ (.int .i64 x34 : Value) = .int .i64 x34 ∧ true = true ∧ ∃ n' : Nat, n' < n1 ∧ I1 n' (IntKind.wrap .i64 (x8 + 1)) m42))) (
 (.slice x0 x0n x0c : Value) = .slice x0 x0n x0c ∧ (.slice x4 x4n x4c : Value) = .slice x4 x4n x4c ∧ (.pointer (some ⟨x7, 0, none⟩) : Value) = .pointer (some ⟨x7, 0, none⟩) ∧ (.slice x32 x32n x32c : Value) = .slice x32 x32n x32c ∧ (.int .i64 x33 : Value) = .int .i64 x33 ∧ (.int .i64 x34 : Value) = .int .i64 x34 ∧ E1_2  m))))
 (h_e2 : ∀ (σ : Sg)  (m : AM), E1_2  m → (
 ∃ i43 : Int, m.cell ⟨x7, 1, none⟩ = some (.int .i64 i43) ∧ 
 IntKind.i64 = IntKind.i64 ∧ (.slice x0 x0n x0c : Value) = .slice x0 x0n x0c ∧ (.slice x4 x4n x4c : Value) = .slice x4 x4n x4c ∧ (.slice x32 x32n x32c : Value) = .slice x32 x32n x32c ∧ (.int .i64 x33 : Value) = .int .i64 x33 ∧ true = true ∧ true = true ∧ ∃ n' : Nat, n' < n0 ∧ I0 n' i43 (IntKind.wrap .i64 (x34 + 1)) m)) :
 vcS Try.prog w0 qs5 (sub c5 [1, 1, 1, 1, 1, 1, 0, 1, 0, 0, 1, 1, 0, 0, 1, 1, 1, 0, 1, 0]) σ m (blockS 2 (thenS (fun σ m => vcS Try.prog w0 qs5 (sub c5 [1, 1, 1, 1, 1, 1, 0, 1, 0, 0, 1, 1, 0, 0, 1, 1, 1, 1]) σ m (blockS 1 (thenS (fun σ m => vcS Try.prog w0 qs5 (sub c5 [1, 1, 1, 1, 1, 1, 0, 1, 0, 0, 1, 1, 1]) σ m (lq5_111111010 R x0 x0n x0c x4 x4n x4c x32 x32n x32c x33 I0 E0_0 n0)) (lq5_111111010 R x0 x0n x0c x4 x4n x4c x32 x32n x32c x33 I0 E0_0 n0)))) (blockS 1 (thenS (fun σ m => vcS Try.prog w0 qs5 (sub c5 [1, 1, 1, 1, 1, 1, 0, 1, 0, 0, 1, 1, 1]) σ m (lq5_111111010 R x0 x0n x0c x4 x4n x4c x32 x32n x32c x33 I0 E0_0 n0)) (lq5_111111010 R x0 x0n x0c x4 x4n x4c x32 x32n x32c x33 I0 E0_0 n0))))) := by
  rw [show sub c5 [1, 1, 1, 1, 1, 1, 0, 1, 0, 0, 1, 1, 0, 0, 1, 1, 1, 0, 1, 0] = .loop (sub c5 [1, 1, 1, 1, 1, 1, 0, 1, 0, 0, 1, 1, 0, 0, 1, 1, 1, 0, 1, 0, 0]) from by kernel_rfl]
  refine loopQ (fun n1 σ m => σ 0 = .slice x0 x0n x0c ∧ σ 4 = .slice x4 x4n x4c ∧ σ 7 = .pointer (some ⟨x7, 0, none⟩) ∧ σ 32 = .slice x32 x32n x32c ∧ σ 33 = .int .i64 x33 ∧ σ 34 = .int .i64 x34 ∧ okI .i64 (σ 8) = true ∧ I1 n1 (vI (σ 8)) m) N (fun n1 => (lq5_11111101001100111010 R x0 x0n x0c x4 x4n x4c x7 x32 x32n x32c x33 x34 I1 E1_2 n1)) ⟨h0, h4, h7, h32, h33, h34, (by rw [h8]; rfl), (by rw [h8]; exact h_0)⟩ ?_ ?_ ?_
  · rintro n1 σ m ⟨kk0, kk1, kk2, kk3, kk4, kk5, kk6, n', hlt, hI⟩; exact ⟨n', hlt, kk0, kk1, kk2, kk3, kk4, kk5, kk6, hI⟩
  · intro n1 e σ m hne h
    cases e with
    | normal => exact absurd rfl hne
    | ret => exact h
    | exit id =>
      by_cases e2 : id = 2
      · subst e2
        obtain ⟨kk0, kk1, kk2, kk3, kk4, kk5, hE⟩ := h
        have es : (upd (upd (upd (upd (upd (upd σ 0 (.slice x0 x0n x0c)) 4 (.slice x4 x4n x4c)) 7 (.pointer (some ⟨x7, 0, none⟩))) 32 (.slice x32 x32n x32c)) 33 (.int .i64 x33)) 34 (.int .i64 x34)) = σ := by rw [upd_id kk0, upd_id kk1, upd_id kk2, upd_id kk3, upd_id kk4, upd_id kk5]
        exact cast (congrArg (fun s => (blockS 2 (thenS (fun σ m => vcS Try.prog w0 qs5 (sub c5 [1, 1, 1, 1, 1, 1, 0, 1, 0, 0, 1, 1, 0, 0, 1, 1, 1, 1]) σ m (blockS 1 (thenS (fun σ m => vcS Try.prog w0 qs5 (sub c5 [1, 1, 1, 1, 1, 1, 0, 1, 0, 0, 1, 1, 1]) σ m (lq5_111111010 R x0 x0n x0c x4 x4n x4c x32 x32n x32c x33 I0 E0_0 n0)) (lq5_111111010 R x0 x0n x0c x4 x4n x4c x32 x32n x32c x33 I0 E0_0 n0)))) (blockS 1 (thenS (fun σ m => vcS Try.prog w0 qs5 (sub c5 [1, 1, 1, 1, 1, 1, 0, 1, 0, 0, 1, 1, 1]) σ m (lq5_111111010 R x0 x0n x0c x4 x4n x4c x32 x32n x32c x33 I0 E0_0 n0)) (lq5_111111010 R x0 x0n x0c x4 x4n x4c x32 x32n x32c x33 I0 E0_0 n0))))) (.exit 2) s m) es) (cast (by kernel_rfl) (h_e2 σ  m hE))
      · replace h := (if_neg e2 : (if id = 2 then _ else _) = _).mp h
        exact False.elim h
    | _ => exact False.elim h
  · rintro n1 σ m ⟨kk0, kk1, kk2, kk3, kk4, kk5, kk6, hI⟩
    have es : (upd (upd (upd (upd (upd (upd (upd σ 0 (.slice x0 x0n x0c)) 4 (.slice x4 x4n x4c)) 7 (.pointer (some ⟨x7, 0, none⟩))) 8 (.int .i64 (vI (σ 8)))) 32 (.slice x32 x32n x32c)) 33 (.int .i64 x33)) 34 (.int .i64 x34)) = σ := by rw [upd_id kk0, upd_id kk1, upd_id kk2, upd_id (ok_int kk6), upd_id kk3, upd_id kk4, upd_id kk5]
    exact cast (congrArg (fun s => vcS Try.prog w0 qs5 (sub c5 [1, 1, 1, 1, 1, 1, 0, 1, 0, 0, 1, 1, 0, 0, 1, 1, 1, 0, 1, 0, 0]) s m (lq5_11111101001100111010 R x0 x0n x0c x4 x4n x4c x7 x32 x32n x32c x33 x34 I1 E1_2 n1)) es) (cast (by kernel_rfl) (h_s n1 σ (vI (σ 8)) m hI))
def lq5_1111111010 (R : Value → AM → Prop) (x0 : Option Addr) (x0n x0c : Nat) (x3 : Int) (x4 : Option Addr) (x4n x4c : Nat) (x76 : Option Addr) (x76n x76c : Nat) (x77 : Int) (I0 : Nat → Int → AM → Prop) (E0_4 : AM → Prop) (n0 : Nat) : Exit → Sg → AM → Prop
  | .normal, σ, m => σ 0 = .slice x0 x0n x0c ∧ σ 3 = .int .i64 x3 ∧ σ 4 = .slice x4 x4n x4c ∧ σ 76 = .slice x76 x76n x76c ∧ σ 77 = .int .i64 x77 ∧ okI .i64 (σ 78) = true ∧ ∃ n' : Nat, n' < n0 ∧ I0 n' (vI (σ 78)) m
  | .exit id, σ, m => if id = 4 then σ 0 = .slice x0 x0n x0c ∧ σ 3 = .int .i64 x3 ∧ σ 4 = .slice x4 x4n x4c ∧ σ 76 = .slice x76 x76n x76c ∧ σ 77 = .int .i64 x77 ∧ E0_4  m else False
  | .ret, σ, m => retQ Try.prog Try.f5 R .ret σ m
  | _, _, _ => False
theorem vl5_1111111010 (w0 : World) (m : AM) (σ : Sg) (R : Value → AM → Prop)  (x0 : Option Addr) (x0n x0c : Nat) (x3 : Int) (x4 : Option Addr) (x4n x4c : Nat) (x76 : Option Addr) (x76n x76c : Nat) (x77 : Int) (x78 : Int) (I0 : Nat → Int → AM → Prop) (E0_4 : AM → Prop) (N : Nat) (h0 : σ 0 = .slice x0 x0n x0c) (h3 : σ 3 = .int .i64 x3) (h4 : σ 4 = .slice x4 x4n x4c) (h76 : σ 76 = .slice x76 x76n x76c) (h77 : σ 77 = .int .i64 x77) (h78 : σ 78 = .int .i64 x78)
 (h_0 : I0 N x78 m)
 (h_s : ∀ (n0 : Nat) (σ : Sg) (x78 : Int) (m : AM), I0 n0 x78 m → (
 IntKind.i64 = IntKind.i64 ∧ (bcase (decide ((x78 : Int) < x77)) (
 ((0 : Int) ≤ x78 ∧ x78 < ((x76n : Nat) : Int)) ∧ nilO x76 fun a44 =>
 ∃ i45 : Int, m.cell (a44.add ((x78 : Int).toNat * 5)) = some (.int .i64 i45) ∧ ∃ i46 : Int, m.cell ((a44.add ((x78 : Int).toNat * 5)).add 1) = some (.int .i64 i46) ∧ ∃ i47 : Int, m.cell ((a44.add ((x78 : Int).toNat * 5)).add 2) = some (.int .i64 i47) ∧ ∃ i48 : Int, m.cell ((a44.add ((x78 : Int).toNat * 5)).add 3) = some (.int .i64 i48) ∧ ∃ i49 : Int, m.cell ((a44.add ((x78 : Int).toNat * 5)).add 4) = some (.int .i64 i49) ∧ 
 ∀ b50 : Nat, w0.heap.size ≤ b50 → m b50 = none → let m51 := AM.upd m b50 (.cells #[.int .i64 0, .int .i64 0, .int .i64 0, .int .i64 0, .int .i64 0] 24);
 StC w0.heap.size m51 ⟨b50, 0, none⟩ (.int .i64 i45) fun m52 =>
 StC w0.heap.size m52 ⟨b50, 1, none⟩ (.int .i64 i46) fun m53 =>
 StC w0.heap.size m53 ⟨b50, 2, none⟩ (.int .i64 i47) fun m54 =>
 StC w0.heap.size m54 ⟨b50, 3, none⟩ (.int .i64 i48) fun m55 =>
 StC w0.heap.size m55 ⟨b50, 4, none⟩ (.int .i64 i49) fun m56 =>
 ∃ i57 : Int, m56.cell ⟨b50, 0, none⟩ = some (.int .i64 i57) ∧ ∃ i58 : Int, m56.cell ⟨b50, 1, none⟩ = some (.int .i64 i58) ∧ ∃ i59 : Int, m56.cell ⟨b50, 2, none⟩ = some (.int .i64 i59) ∧ ∃ i60 : Int, m56.cell ⟨b50, 3, none⟩ = some (.int .i64 i60) ∧ ∃ i61 : Int, m56.cell ⟨b50, 4, none⟩ = some (.int .i64 i61) ∧ 
 CallsA Try.prog w0 21 #[.agg #[.int .i64 i57, .int .i64 i58, .int .i64 i59, .int .i64 i60, .int .i64 i61], .int .i64 x78] m56 fun r64 m65 =>
 ∃ i62 : Int, ∃ t63 : Bool, r64 = .tuple #[.int .i64 i62, .bool t63] ∧ (bcase t63 (
 IntKind.i64 = IntKind.i64 ∧ (bcase (decide ((i62 : Int) < 0)) (
 (decide ((i62 : Int) < 0)) = true ∧ true = true ∧ (bcase (bif t63 then true else false) (
 RetP R (.bool false) m65) (
 IntKind.i64 = IntKind.i64 ∧ (.slice x0 x0n x0c : Value) = .slice x0 x0n x0c ∧ (.int .i64 x3 : Value) = .int .i64 x3 ∧ (.slice x4 x4n x4c : Value) = .slice x4 x4n x4c ∧ (.slice x76 x76n x76c : Value) = .slice x76 x76n x76c ∧ (.int .i64 x77 : Value) = .int .i64 x77 ∧ true = true ∧ ∃ n' : Nat, n' < n0 ∧ I0 n' (IntKind.wrap .i64 (x78 + 1)) m65))) (
 IntKind.i64 = IntKind.i64 ∧ (bcase (bif decide ((i62 : Int) < 0) then true else decide ((i62 : Int) > ((x0n : Nat) : Int))) (
 (bif decide ((i62 : Int) < 0) then true else decide ((i62 : Int) > ((x0n : Nat) : Int))) = true ∧ (bcase (bif t63 then true else false) (
 RetP R (.bool false) m65) (
 IntKind.i64 = IntKind.i64 ∧ (.slice x0 x0n x0c : Value) = .slice x0 x0n x0c ∧ (.int .i64 x3 : Value) = .int .i64 x3 ∧ (.slice x4 x4n x4c : Value) = .slice x4 x4n x4c ∧ (.slice x76 x76n x76c : Value) = .slice x76 x76n x76c ∧ (.int .i64 x77 : Value) = .int .i64 x77 ∧ true = true ∧ ∃ n' : Nat, n' < n0 ∧ I0 n' (IntKind.wrap .i64 (x78 + 1)) m65))) (
 ((0 : Int) ≤ i62 ∧ i62 < ((x4n : Nat) : Int)) ∧ nilO x4 fun a68 =>
 ∃ t69 : Bool, m65.cell (a68.add ((i62 : Int).toNat * 1)) = some (.bool t69) ∧ 
 (bcase (bif t63 then bif bif decide ((i62 : Int) < 0) then true else decide ((i62 : Int) > ((x0n : Nat) : Int)) then true else !t69 else false) (
 RetP R (.bool false) m65) (
 IntKind.i64 = IntKind.i64 ∧ (.slice x0 x0n x0c : Value) = .slice x0 x0n x0c ∧ (.int .i64 x3 : Value) = .int .i64 x3 ∧ (.slice x4 x4n x4c : Value) = .slice x4 x4n x4c ∧ (.slice x76 x76n x76c : Value) = .slice x76 x76n x76c ∧ (.int .i64 x77 : Value) = .int .i64 x77 ∧ true = true ∧ ∃ n' : Nat, n' < n0 ∧ I0 n' (IntKind.wrap .i64 (x78 + 1)) m65))))))) (
 t63 = false ∧ IntKind.i64 = IntKind.i64 ∧ (.slice x0 x0n x0c : Value) = .slice x0 x0n x0c ∧ (.int .i64 x3 : Value) = .int .i64 x3 ∧ (.slice x4 x4n x4c : Value) = .slice x4 x4n x4c ∧ (.slice x76 x76n x76c : Value) = .slice x76 x76n x76c ∧ (.int .i64 x77 : Value) = .int .i64 x77 ∧ true = true ∧ ∃ n' : Nat, n' < n0 ∧ I0 n' (IntKind.wrap .i64 (x78 + 1)) m65))) (
 (.slice x0 x0n x0c : Value) = .slice x0 x0n x0c ∧ (.int .i64 x3 : Value) = .int .i64 x3 ∧ (.slice x4 x4n x4c : Value) = .slice x4 x4n x4c ∧ (.slice x76 x76n x76c : Value) = .slice x76 x76n x76c ∧ (.int .i64 x77 : Value) = .int .i64 x77 ∧ E0_4  m))))
 (h_e4 : ∀ (σ : Sg)  (m : AM), E0_4  m → (
 IntKind.i64 = IntKind.i64 ∧ (bcase ((x3 : Int) == ((x0n : Nat) : Int)) (
 CallsA Try.prog w0 20 #[] m fun r71 m72 =>
 ∃ t70 : Bool, r71 = .bool t70 ∧ RetP R (.bool (bif (x3 : Int) == ((x0n : Nat) : Int) then t70 else false)) m72) (
 ((x3 : Int) == ((x0n : Nat) : Int)) = false ∧ RetP R (.bool false) m)))) :
 vcS Try.prog w0 qs5 (sub c5 [1, 1, 1, 1, 1, 1, 1, 0, 1, 0]) σ m (blockS 4 (thenS (fun σ m => vcS Try.prog w0 qs5 (sub c5 [1, 1, 1, 1, 1, 1, 1, 1]) σ m (retQ Try.prog Try.f5 R)) (retQ Try.prog Try.f5 R))) := by
  rw [show sub c5 [1, 1, 1, 1, 1, 1, 1, 0, 1, 0] = .loop (sub c5 [1, 1, 1, 1, 1, 1, 1, 0, 1, 0, 0]) from by kernel_rfl]
  refine loopQ (fun n0 σ m => σ 0 = .slice x0 x0n x0c ∧ σ 3 = .int .i64 x3 ∧ σ 4 = .slice x4 x4n x4c ∧ σ 76 = .slice x76 x76n x76c ∧ σ 77 = .int .i64 x77 ∧ okI .i64 (σ 78) = true ∧ I0 n0 (vI (σ 78)) m) N (fun n0 => (lq5_1111111010 R x0 x0n x0c x3 x4 x4n x4c x76 x76n x76c x77 I0 E0_4 n0)) ⟨h0, h3, h4, h76, h77, (by rw [h78]; rfl), (by rw [h78]; exact h_0)⟩ ?_ ?_ ?_
  · rintro n0 σ m ⟨kk0, kk1, kk2, kk3, kk4, kk5, n', hlt, hI⟩; exact ⟨n', hlt, kk0, kk1, kk2, kk3, kk4, kk5, hI⟩
  · intro n0 e σ m hne h
    cases e with
    | normal => exact absurd rfl hne
    | ret => exact h
    | exit id =>
      by_cases e4 : id = 4
      · subst e4
        obtain ⟨kk0, kk1, kk2, kk3, kk4, hE⟩ := h
        have es : (upd (upd (upd (upd (upd σ 0 (.slice x0 x0n x0c)) 3 (.int .i64 x3)) 4 (.slice x4 x4n x4c)) 76 (.slice x76 x76n x76c)) 77 (.int .i64 x77)) = σ := by rw [upd_id kk0, upd_id kk1, upd_id kk2, upd_id kk3, upd_id kk4]
        exact cast (congrArg (fun s => (blockS 4 (thenS (fun σ m => vcS Try.prog w0 qs5 (sub c5 [1, 1, 1, 1, 1, 1, 1, 1]) σ m (retQ Try.prog Try.f5 R)) (retQ Try.prog Try.f5 R))) (.exit 4) s m) es) (cast (by kernel_rfl) (h_e4 σ  m hE))
      · replace h := (if_neg e4 : (if id = 4 then _ else _) = _).mp h
        exact False.elim h
    | _ => exact False.elim h
  · rintro n0 σ m ⟨kk0, kk1, kk2, kk3, kk4, kk5, hI⟩
    have es : (upd (upd (upd (upd (upd (upd σ 0 (.slice x0 x0n x0c)) 3 (.int .i64 x3)) 4 (.slice x4 x4n x4c)) 76 (.slice x76 x76n x76c)) 77 (.int .i64 x77)) 78 (.int .i64 (vI (σ 78)))) = σ := by rw [upd_id kk0, upd_id kk1, upd_id kk2, upd_id kk3, upd_id kk4, upd_id (ok_int kk5)]
    exact cast (congrArg (fun s => vcS Try.prog w0 qs5 (sub c5 [1, 1, 1, 1, 1, 1, 1, 0, 1, 0, 0]) s m (lq5_1111111010 R x0 x0n x0c x3 x4 x4n x4c x76 x76n x76c x77 I0 E0_4 n0)) es) (cast (by kernel_rfl) (h_s n0 σ (vI (σ 78)) m hI))

/-! 6 delayslot/delayslotlaw09.BlockNops -/
def qs6 : Nat → List (Nat × Nat) := fun i => match i with | _ => []
noncomputable def c6 : Code := bodyOf Try.f6
theorem cf6 (w0 : World) (m : AM) (x0 : Option Addr) (x0n x0c : Nat) (x1 : Int) (R : Value → AM → Prop) (h :
 IntKind.i64 = IntKind.i64 ∧ (bcase (decide ((((x0n : Nat) : Int) : Int) > 200)) (
 CallsA Try.prog w0 20 #[] m fun r2 m3 =>
 ∃ t1 : Bool, r2 = .bool t1 ∧ RetP R (.bool t1) m3) (
 IntKind.i64 = IntKind.i64 ∧ ((0 : Int) ≤ (IntKind.wrap .i64 (1 + (IntKind.wrap .i64 x1))) ∧ ((IntKind.wrap .i64 (1 + (IntKind.wrap .i64 x1))) : Int) ≤ (IntKind.wrap .i64 (1 + (IntKind.wrap .i64 x1))) ∧ ((IntKind.wrap .i64 (1 + (IntKind.wrap .i64 x1))) : Int) ≤ 9223372036854775807 ∧ ((40 : Nat) : Int) * (IntKind.wrap .i64 (1 + (IntKind.wrap .i64 x1))) ≤ 281474976710656) ∧ ∀ b4 : Nat, w0.heap.size ≤ b4 → m b4 = none → let m5 := AM.upd m b4 (.cells (zeros [.int .i64 0, .int .i64 0, .int .i64 0, .int .i64 0, .int .i64 0] (IntKind.wrap .i64 (1 + (IntKind.wrap .i64 x1)) : Int).toNat).toArray 24);
 CallsA Try.prog w0 27 #[.slice (some ⟨b4, 0, none⟩) ((IntKind.wrap .i64 (1 + (IntKind.wrap .i64 x1)) : Int).toNat) ((IntKind.wrap .i64 (1 + (IntKind.wrap .i64 x1)) : Int).toNat)] m5 fun r9 m10 =>
 ∃ (A6 : Option Addr) (n7 c8 : Nat), r9 = .slice A6 n7 c8 ∧ true = true ∧ ∀ b11 : Nat, w0.heap.size ≤ b11 → m10 b11 = none → let m12 := AM.upd m10 b11 (.cells #[] 24);
 awp Try.prog w0.heap.size (Builtin.append_ #[22, 22] 22 #[.slice (some ⟨b11, 0, none⟩) 0 0, .slice x0 x0n x0c]) m12 fun v13 m14 =>
 ∃ (A15 : Option Addr) (n16 c17 : Nat), v13 = .slice A15 n16 c17 ∧ true = true ∧ true = true ∧ ∀ b18 : Nat, w0.heap.size ≤ b18 → m14 b18 = none → let m19 := AM.upd m14 b18 (.cells #[.int .i64 0, .int .i64 0, .int .i64 0, .int .i64 0, .int .i64 0] 24);
 awp Try.prog w0.heap.size (Builtin.append_ #[22, 22] 22 #[.slice A15 n16 c17, .slice (some ⟨b18, 0, none⟩) 1 1]) m19 fun v20 m21 =>
 ∃ (A22 : Option Addr) (n23 c24 : Nat), v20 = .slice A22 n23 c24 ∧ CallsA Try.prog w0 27 #[.slice x0 x0n x0c] m21 fun r28 m29 =>
 ∃ (A25 : Option Addr) (n26 c27 : Nat), r28 = .slice A25 n26 c27 ∧ CallsA Try.prog w0 27 #[.slice A22 n23 c24] m29 fun r33 m34 =>
 ∃ (A30 : Option Addr) (n31 c32 : Nat), r33 = .slice A30 n31 c32 ∧ IntKind.i64 = IntKind.i64 ∧ (bcase ((((n7 : Nat) : Int) : Int) != 1) (
 ((((n7 : Nat) : Int) : Int) != 1) = true ∧ true = true ∧ RetP R (.bool false) m34) (
 ((0 : Int) ≤ 0 ∧ 0 < ((n7 : Nat) : Int)) ∧ nilO A6 fun a35 =>
 ∃ i36 : Int, m34.cell (a35.add (0)) = some (.int .i64 i36) ∧ 
 IntKind.i64 = IntKind.i64 ∧ (bcase (bif (((n7 : Nat) : Int) : Int) != 1 then true else (i36 : Int) != 0) (
 (bif (((n7 : Nat) : Int) : Int) != 1 then true else (i36 : Int) != 0) = true ∧ RetP R (.bool false) m34) (
 CallsA Try.prog w0 23 #[.slice x0 x0n x0c] m34 fun r38 m39 =>
 ∃ t37 : Bool, r38 = .bool t37 ∧ (bcase t37 (
 CallsA Try.prog w0 23 #[.slice A22 n23 c24] m39 fun r41 m42 =>
 ∃ t40 : Bool, r41 = .bool t40 ∧ (bcase (bif bif (((n7 : Nat) : Int) : Int) != 1 then true else (i36 : Int) != 0 then true else bif t37 then !t40 else false) (
 RetP R (.bool false) m42) (
 vcS Try.prog w0 qs6 (sub c6 [1, 1, 1, 1, 1, 1, 1]) (upd (upd (upd (upd (upd (upd (upd (upd (upd (upd (upd (upd (upd (upd (upd (upd (upd (upd (upd (upd (upd (upd (upd (upd (upd (upd (upd (upd (upd (upd (upd (upd (upd (upd (upd (upd (upd (upd (upd (upd (upd (upd (upd (argS [.slice x0 x0n x0c, .int .u8 x1]) 4 (.bool false)) 11 (.slice x0 x0n x0c)) 12 (.int .i64 ((x0n : Nat) : Int))) 13 (.bool (decide ((((x0n : Nat) : Int) : Int) > 200)))) 15 (.int .u8 x1)) 16 (.int .i64 (IntKind.wrap .i64 x1))) 17 (.int .i64 (IntKind.wrap .i64 (1 + (IntKind.wrap .i64 x1))))) 18 (.slice (some ⟨b4, 0, none⟩) ((IntKind.wrap .i64 (1 + (IntKind.wrap .i64 x1)) : Int).toNat) ((IntKind.wrap .i64 (1 + (IntKind.wrap .i64 x1)) : Int).toNat))) 5 (.slice (some ⟨b4, 0, none⟩) ((IntKind.wrap .i64 (1 + (IntKind.wrap .i64 x1)) : Int).toNat) ((IntKind.wrap .i64 (1 + (IntKind.wrap .i64 x1)) : Int).toNat))) 19 (.slice (some ⟨b4, 0, none⟩) ((IntKind.wrap .i64 (1 + (IntKind.wrap .i64 x1)) : Int).toNat) ((IntKind.wrap .i64 (1 + (IntKind.wrap .i64 x1)) : Int).toNat))) 20 (.slice A6 n7 c8)) 6 (.slice A6 n7 c8)) 21 (.slice (some ⟨b11, 0, none⟩) 0 0)) 22 (.slice x0 x0n x0c)) 23 (.slice A15 n16 c17)) 24 (.agg #[.int .i64 0, .int .i64 0, .int .i64 0, .int .i64 0, .int .i64 0])) 25 (.slice (some ⟨b18, 0, none⟩) 1 1)) 26 (.slice A22 n23 c24)) 7 (.slice A22 n23 c24)) 27 (.slice x0 x0n x0c)) 28 (.slice A25 n26 c27)) 29 (.slice A22 n23 c24)) 30 (.slice A30 n31 c32)) 8 (.slice A25 n26 c27)) 9 (.slice A30 n31 c32)) 31 (.slice A6 n7 c8)) 32 (.int .i64 ((n7 : Nat) : Int))) 33 (.bool ((((n7 : Nat) : Int) : Int) != 1))) 34 (.bool ((((n7 : Nat) : Int) : Int) != 1))) 35 (.slice A6 n7 c8)) 36 (.pointer (some (a35.add (0))))) 37 (.int .i64 i36)) 38 (.bool ((i36 : Int) != 0))) 39 (.bool (bif (((n7 : Nat) : Int) : Int) != 1 then true else (i36 : Int) != 0))) 40 (.bool (bif (((n7 : Nat) : Int) : Int) != 1 then true else (i36 : Int) != 0))) 41 (.slice x0 x0n x0c)) 42 (.bool t37)) 43 (.bool t37)) 44 (.slice A22 n23 c24)) 45 (.bool t40)) 46 (.bool (!t40))) 47 (.bool (bif t37 then !t40 else false))) 48 (.bool (bif bif (((n7 : Nat) : Int) : Int) != 1 then true else (i36 : Int) != 0 then true else bif t37 then !t40 else false))) m42 (retQ Try.prog Try.f6 R)))) (
 t37 = false ∧ (bcase (bif bif (((n7 : Nat) : Int) : Int) != 1 then true else (i36 : Int) != 0 then true else false) (
 RetP R (.bool false) m39) (
 vcS Try.prog w0 qs6 (sub c6 [1, 1, 1, 1, 1, 1, 1]) (upd (upd (upd (upd (upd (upd (upd (upd (upd (upd (upd (upd (upd (upd (upd (upd (upd (upd (upd (upd (upd (upd (upd (upd (upd (upd (upd (upd (upd (upd (upd (upd (upd (upd (upd (upd (upd (upd (upd (upd (upd (upd (upd (argS [.slice x0 x0n x0c, .int .u8 x1]) 4 (.bool false)) 11 (.slice x0 x0n x0c)) 12 (.int .i64 ((x0n : Nat) : Int))) 13 (.bool (decide ((((x0n : Nat) : Int) : Int) > 200)))) 15 (.int .u8 x1)) 16 (.int .i64 (IntKind.wrap .i64 x1))) 17 (.int .i64 (IntKind.wrap .i64 (1 + (IntKind.wrap .i64 x1))))) 18 (.slice (some ⟨b4, 0, none⟩) ((IntKind.wrap .i64 (1 + (IntKind.wrap .i64 x1)) : Int).toNat) ((IntKind.wrap .i64 (1 + (IntKind.wrap .i64 x1)) : Int).toNat))) 5 (.slice (some ⟨b4, 0, none⟩) ((IntKind.wrap .i64 (1 + (IntKind.wrap .i64 x1)) : Int).toNat) ((IntKind.wrap .i64 (1 + (IntKind.wrap .i64 x1)) : Int).toNat))) 19 (.slice (some ⟨b4, 0, none⟩) ((IntKind.wrap .i64 (1 + (IntKind.wrap .i64 x1)) : Int).toNat) ((IntKind.wrap .i64 (1 + (IntKind.wrap .i64 x1)) : Int).toNat))) 20 (.slice A6 n7 c8)) 6 (.slice A6 n7 c8)) 21 (.slice (some ⟨b11, 0, none⟩) 0 0)) 22 (.slice x0 x0n x0c)) 23 (.slice A15 n16 c17)) 24 (.agg #[.int .i64 0, .int .i64 0, .int .i64 0, .int .i64 0, .int .i64 0])) 25 (.slice (some ⟨b18, 0, none⟩) 1 1)) 26 (.slice A22 n23 c24)) 7 (.slice A22 n23 c24)) 27 (.slice x0 x0n x0c)) 28 (.slice A25 n26 c27)) 29 (.slice A22 n23 c24)) 30 (.slice A30 n31 c32)) 8 (.slice A25 n26 c27)) 9 (.slice A30 n31 c32)) 31 (.slice A6 n7 c8)) 32 (.int .i64 ((n7 : Nat) : Int))) 33 (.bool ((((n7 : Nat) : Int) : Int) != 1))) 34 (.bool ((((n7 : Nat) : Int) : Int) != 1))) 35 (.slice A6 n7 c8)) 36 (.pointer (some (a35.add (0))))) 37 (.int .i64 i36)) 38 (.bool ((i36 : Int) != 0))) 39 (.bool (bif (((n7 : Nat) : Int) : Int) != 1 then true else (i36 : Int) != 0))) 40 (.bool (bif (((n7 : Nat) : Int) : Int) != 1 then true else (i36 : Int) != 0))) 41 (.slice x0 x0n x0c)) 42 (.bool t37)) 43 (.bool t37)) 44 (undef)) 45 (undef)) 46 (undef)) 47 (.bool false)) 48 (.bool (bif bif (((n7 : Nat) : Int) : Int) != 1 then true else (i36 : Int) != 0 then true else false))) m39 (retQ Try.prog Try.f6 R)))))))))))) : CallsA Try.prog w0 6 #[.slice x0 x0n x0c, .int .u8 x1] m R :=
  callsA_of (c := c6) (args := [.slice x0 x0n x0c, .int .u8 x1]) (by kernel_rfl) Try.func6 (by kernel_rfl) qs6 (by kernel_rfl) (by kernel_rfl) (cast (by kernel_rfl) h)
theorem vk6_1111111 (w0 : World) (m : AM) (σ : Sg) (R : Value → AM → Prop)  (x0 : Option Addr) (x0n x0c : Nat) (x8 : Option Addr) (x8n x8c : Nat) (x9 : Option Addr) (x9n x9c : Nat) (h0 : σ 0 = .slice x0 x0n x0c) (h8 : σ 8 = .slice x8 x8n x8c) (h9 : σ 9 = .slice x9 x9n x9c) (h :
 CallsA Try.prog w0 23 #[.slice x0 x0n x0c] m fun r44 m45 =>
 ∃ t43 : Bool, r44 = .bool t43 ∧ (bcase (!t43) (
 (!t43) = true ∧ CallsA Try.prog w0 20 #[] m45 fun r47 m48 =>
 ∃ t46 : Bool, r47 = .bool t46 ∧ RetP R (.bool t46) m48) (
 IntKind.i64 = IntKind.i64 ∧ (bcase (bif !t43 then true else (((x0n : Nat) : Int) : Int) == 0) (
 CallsA Try.prog w0 20 #[] m45 fun r50 m51 =>
 ∃ t49 : Bool, r50 = .bool t49 ∧ RetP R (.bool t49) m51) (
 IntKind.i64 = IntKind.i64 ∧ (bcase (decide ((((x9n : Nat) : Int) : Int) < ((x8n : Nat) : Int))) (
 (decide ((((x9n : Nat) : Int) : Int) < ((x8n : Nat) : Int))) = true ∧ true = true ∧ RetP R (.bool false) m45) (
 IntKind.i64 = IntKind.i64 ∧ IntKind.i64 = IntKind.i64 ∧ (bcase (bif decide ((((x9n : Nat) : Int) : Int) < ((x8n : Nat) : Int)) then true else decide ((((x9n : Nat) : Int) : Int) > (IntKind.wrap .i64 (((x8n : Nat) : Int) + 1)))) (
 (bif decide ((((x9n : Nat) : Int) : Int) < ((x8n : Nat) : Int)) then true else decide ((((x9n : Nat) : Int) : Int) > (IntKind.wrap .i64 (((x8n : Nat) : Int) + 1)))) = true ∧ RetP R (.bool false) m45) (
 IntKind.i64 = IntKind.i64 ∧ (bcase (decide ((((x9n : Nat) : Int) : Int) > ((x8n : Nat) : Int))) (
 ((0 : Int) ≤ ((x8n : Nat) : Int) ∧ ((x8n : Nat) : Int) < ((x9n : Nat) : Int)) ∧ nilO x9 fun a52 =>
 ∃ i53 : Int, m45.cell (a52.add ((((x8n : Nat) : Int) : Int).toNat * 1)) = some (.int .i64 i53) ∧ 
 IntKind.i64 = IntKind.i64 ∧ (bcase (bif bif decide ((((x9n : Nat) : Int) : Int) < ((x8n : Nat) : Int)) then true else decide ((((x9n : Nat) : Int) : Int) > (IntKind.wrap .i64 (((x8n : Nat) : Int) + 1))) then true else bif decide ((((x9n : Nat) : Int) : Int) > ((x8n : Nat) : Int)) then (i53 : Int) != ((x0n : Nat) : Int) else false) (
 RetP R (.bool false) m45) (
 vcS Try.prog w0 qs6 (sub c6 [1, 1, 1, 1, 1, 1, 1, 1, 1, 0, 1, 0]) (upd (upd (upd (upd (upd (upd (upd (upd (upd (upd (upd (upd (upd (upd (upd (upd (upd (upd (upd (upd (upd (upd (upd (upd (upd (upd (upd (upd (upd (upd (upd (upd (upd (upd (upd (upd (upd (upd (upd (upd (upd (upd (upd (upd σ 0 (.slice x0 x0n x0c)) 8 (.slice x8 x8n x8c)) 9 (.slice x9 x9n x9c)) 49 (.slice x0 x0n x0c)) 50 (.bool t43)) 51 (.bool (!t43))) 52 (.bool (!t43))) 53 (.slice x0 x0n x0c)) 54 (.int .i64 ((x0n : Nat) : Int))) 55 (.bool ((((x0n : Nat) : Int) : Int) == 0))) 56 (.bool (bif !t43 then true else (((x0n : Nat) : Int) : Int) == 0))) 58 (.slice x9 x9n x9c)) 59 (.int .i64 ((x9n : Nat) : Int))) 60 (.slice x8 x8n x8c)) 61 (.int .i64 ((x8n : Nat) : Int))) 62 (.bool (decide ((((x9n : Nat) : Int) : Int) < ((x8n : Nat) : Int))))) 63 (.bool (decide ((((x9n : Nat) : Int) : Int) < ((x8n : Nat) : Int))))) 64 (.slice x9 x9n x9c)) 65 (.int .i64 ((x9n : Nat) : Int))) 66 (.slice x8 x8n x8c)) 67 (.int .i64 ((x8n : Nat) : Int))) 68 (.int .i64 (IntKind.wrap .i64 (((x8n : Nat) : Int) + 1)))) 69 (.bool (decide ((((x9n : Nat) : Int) : Int) > (IntKind.wrap .i64 (((x8n : Nat) : Int) + 1)))))) 70 (.bool (bif decide ((((x9n : Nat) : Int) : Int) < ((x8n : Nat) : Int)) then true else decide ((((x9n : Nat) : Int) : Int) > (IntKind.wrap .i64 (((x8n : Nat) : Int) + 1)))))) 71 (.bool (bif decide ((((x9n : Nat) : Int) : Int) < ((x8n : Nat) : Int)) then true else decide ((((x9n : Nat) : Int) : Int) > (IntKind.wrap .i64 (((x8n : Nat) : Int) + 1)))))) 72 (.slice x9 x9n x9c)) 73 (.int .i64 ((x9n : Nat) : Int))) 74 (.slice x8 x8n x8c)) 75 (.int .i64 ((x8n : Nat) : Int))) 76 (.bool (decide ((((x9n : Nat) : Int) : Int) > ((x8n : Nat) : Int))))) 77 (.bool (decide ((((x9n : Nat) : Int) : Int) > ((x8n : Nat) : Int))))) 78 (.slice x9 x9n x9c)) 79 (.slice x8 x8n x8c)) 80 (.int .i64 ((x8n : Nat) : Int))) 81 (.pointer (some (a52.add ((((x8n : Nat) : Int) : Int).toNat * 1))))) 82 (.int .i64 i53)) 83 (.slice x0 x0n x0c)) 84 (.int .i64 ((x0n : Nat) : Int))) 85 (.bool ((i53 : Int) != ((x0n : Nat) : Int)))) 86 (.bool (bif decide ((((x9n : Nat) : Int) : Int) > ((x8n : Nat) : Int)) then (i53 : Int) != ((x0n : Nat) : Int) else false))) 87 (.bool (bif bif decide ((((x9n : Nat) : Int) : Int) < ((x8n : Nat) : Int)) then true else decide ((((x9n : Nat) : Int) : Int) > (IntKind.wrap .i64 (((x8n : Nat) : Int) + 1))) then true else bif decide ((((x9n : Nat) : Int) : Int) > ((x8n : Nat) : Int)) then (i53 : Int) != ((x0n : Nat) : Int) else false))) 88 (.slice x8 x8n x8c)) 89 (.int .i64 ((x8n : Nat) : Int))) 90 (.int .i64 0)) m45 (blockS 0 (thenS (fun σ m => vcS Try.prog w0 qs6 (sub c6 [1, 1, 1, 1, 1, 1, 1, 1, 1, 1]) σ m (retQ Try.prog Try.f6 R)) (retQ Try.prog Try.f6 R)))))) (
 (decide ((((x9n : Nat) : Int) : Int) > ((x8n : Nat) : Int))) = false ∧ (bcase (bif bif decide ((((x9n : Nat) : Int) : Int) < ((x8n : Nat) : Int)) then true else decide ((((x9n : Nat) : Int) : Int) > (IntKind.wrap .i64 (((x8n : Nat) : Int) + 1))) then true else false) (
 RetP R (.bool false) m45) (
 vcS Try.prog w0 qs6 (sub c6 [1, 1, 1, 1, 1, 1, 1, 1, 1, 0, 1, 0]) (upd (upd (upd (upd (upd (upd (upd (upd (upd (upd (upd (upd (upd (upd (upd (upd (upd (upd (upd (upd (upd (upd (upd (upd (upd (upd (upd (upd (upd (upd (upd (upd (upd (upd (upd (upd (upd (upd (upd (upd (upd (upd (upd (upd σ 0 (.slice x0 x0n x0c)) 8 (.slice x8 x8n x8c)) 9 (.slice x9 x9n x9c)) 49 (.slice x0 x0n x0c)) 50 (.bool t43)) 51 (.bool (!t43))) 52 (.bool (!t43))) 53 (.slice x0 x0n x0c)) 54 (.int .i64 ((x0n : Nat) : Int))) 55 (.bool ((((x0n : Nat) : Int) : Int) == 0))) 56 (.bool (bif !t43 then true else (((x0n : Nat) : Int) : Int) == 0))) 58 (.slice x9 x9n x9c)) 59 (.int .i64 ((x9n : Nat) : Int))) 60 (.slice x8 x8n x8c)) 61 (.int .i64 ((x8n : Nat) : Int))) 62 (.bool (decide ((((x9n : Nat) : Int) : Int) < ((x8n : Nat) : Int))))) 63 (.bool (decide ((((x9n : Nat) : Int) : Int) < ((x8n : Nat) : Int))))) 64 (.slice x9 x9n x9c)) 65 (.int .i64 ((x9n : Nat) : Int))) 66 (.slice x8 x8n x8c)) 67 (.int .i64 ((x8n : Nat) : Int))) 68 (.int .i64 (IntKind.wrap .i64 (((x8n : Nat) : Int) + 1)))) 69 (.bool (decide ((((x9n : Nat) : Int) : Int) > (IntKind.wrap .i64 (((x8n : Nat) : Int) + 1)))))) 70 (.bool (bif decide ((((x9n : Nat) : Int) : Int) < ((x8n : Nat) : Int)) then true else decide ((((x9n : Nat) : Int) : Int) > (IntKind.wrap .i64 (((x8n : Nat) : Int) + 1)))))) 71 (.bool (bif decide ((((x9n : Nat) : Int) : Int) < ((x8n : Nat) : Int)) then true else decide ((((x9n : Nat) : Int) : Int) > (IntKind.wrap .i64 (((x8n : Nat) : Int) + 1)))))) 72 (.slice x9 x9n x9c)) 73 (.int .i64 ((x9n : Nat) : Int))) 74 (.slice x8 x8n x8c)) 75 (.int .i64 ((x8n : Nat) : Int))) 76 (.bool (decide ((((x9n : Nat) : Int) : Int) > ((x8n : Nat) : Int))))) 77 (.bool (decide ((((x9n : Nat) : Int) : Int) > ((x8n : Nat) : Int))))) 78 (undef)) 79 (undef)) 80 (undef)) 81 (undef)) 82 (undef)) 83 (undef)) 84 (undef)) 85 (undef)) 86 (.bool false)) 87 (.bool (bif bif decide ((((x9n : Nat) : Int) : Int) < ((x8n : Nat) : Int)) then true else decide ((((x9n : Nat) : Int) : Int) > (IntKind.wrap .i64 (((x8n : Nat) : Int) + 1))) then true else false))) 88 (.slice x8 x8n x8c)) 89 (.int .i64 ((x8n : Nat) : Int))) 90 (.int .i64 0)) m45 (blockS 0 (thenS (fun σ m => vcS Try.prog w0 qs6 (sub c6 [1, 1, 1, 1, 1, 1, 1, 1, 1, 1]) σ m (retQ Try.prog Try.f6 R)) (retQ Try.prog Try.f6 R)))))))))))))))) :
 vcS Try.prog w0 qs6 (sub c6 [1, 1, 1, 1, 1, 1, 1]) σ m (retQ Try.prog Try.f6 R) := by
  have es0 : (upd (upd (upd σ 0 (.slice x0 x0n x0c)) 8 (.slice x8 x8n x8c)) 9 (.slice x9 x9n x9c)) = σ := by rw [upd_id h0, upd_id h8, upd_id h9]
  exact cast (congrArg (fun s => vcS Try.prog w0 qs6 (sub c6 [1, 1, 1, 1, 1, 1, 1]) s m (retQ Try.prog Try.f6 R)) es0) (cast (by kernel_rfl) h)
def lq6_111111111010 (R : Value → AM → Prop) (x8 : Option Addr) (x8n x8c : Nat) (x9 : Option Addr) (x9n x9c : Nat) (x89 : Int) (I0 : Nat → Int → AM → Prop) (E0_0 : AM → Prop) (n0 : Nat) : Exit → Sg → AM → Prop
  | .normal, σ, m => σ 8 = .slice x8 x8n x8c ∧ σ 9 = .slice x9 x9n x9c ∧ σ 89 = .int .i64 x89 ∧ okI .i64 (σ 90) = true ∧ ∃ n' : Nat, n' < n0 ∧ I0 n' (vI (σ 90)) m
  | .exit id, σ, m => if id = 0 then σ 8 = .slice x8 x8n x8c ∧ σ 9 = .slice x9 x9n x9c ∧ σ 89 = .int .i64 x89 ∧ E0_0  m else False
  | .ret, σ, m => retQ Try.prog Try.f6 R .ret σ m
  | _, _, _ => False
theorem vl6_111111111010 (w0 : World) (m : AM) (σ : Sg) (R : Value → AM → Prop)  (x8 : Option Addr) (x8n x8c : Nat) (x9 : Option Addr) (x9n x9c : Nat) (x89 : Int) (x90 : Int) (I0 : Nat → Int → AM → Prop) (E0_0 : AM → Prop) (N : Nat) (h8 : σ 8 = .slice x8 x8n x8c) (h9 : σ 9 = .slice x9 x9n x9c) (h89 : σ 89 = .int .i64 x89) (h90 : σ 90 = .int .i64 x90)
 (h_0 : I0 N x90 m)
 (h_s : ∀ (n0 : Nat) (σ : Sg) (x90 : Int) (m : AM), I0 n0 x90 m → (
 IntKind.i64 = IntKind.i64 ∧ (bcase (decide ((x90 : Int) < x89)) (
 ((0 : Int) ≤ x90 ∧ x90 < ((x8n : Nat) : Int)) ∧ nilO x8 fun a54 =>
 ∃ i55 : Int, m.cell (a54.add ((x90 : Int).toNat * 1)) = some (.int .i64 i55) ∧ 
 ((0 : Int) ≤ x90 ∧ x90 < ((x9n : Nat) : Int)) ∧ nilO x9 fun a56 =>
 ∃ i57 : Int, m.cell (a56.add ((x90 : Int).toNat * 1)) = some (.int .i64 i57) ∧ 
 IntKind.i64 = IntKind.i64 ∧ (bcase ((i55 : Int) != i57) (
 RetP R (.bool false) m) (
 IntKind.i64 = IntKind.i64 ∧ (.slice x8 x8n x8c : Value) = .slice x8 x8n x8c ∧ (.slice x9 x9n x9c : Value) = .slice x9 x9n x9c ∧ (.int .i64 x89 : Value) = .int .i64 x89 ∧ true = true ∧ ∃ n' : Nat, n' < n0 ∧ I0 n' (IntKind.wrap .i64 (x90 + 1)) m))) (
 (.slice x8 x8n x8c : Value) = .slice x8 x8n x8c ∧ (.slice x9 x9n x9c : Value) = .slice x9 x9n x9c ∧ (.int .i64 x89 : Value) = .int .i64 x89 ∧ E0_0  m))))
 (h_e0 : ∀ (σ : Sg)  (m : AM), E0_0  m → (
 CallsA Try.prog w0 20 #[] m fun r59 m60 =>
 ∃ t58 : Bool, r59 = .bool t58 ∧ RetP R (.bool t58) m60)) :
 vcS Try.prog w0 qs6 (sub c6 [1, 1, 1, 1, 1, 1, 1, 1, 1, 0, 1, 0]) σ m (blockS 0 (thenS (fun σ m => vcS Try.prog w0 qs6 (sub c6 [1, 1, 1, 1, 1, 1, 1, 1, 1, 1]) σ m (retQ Try.prog Try.f6 R)) (retQ Try.prog Try.f6 R))) := by
  rw [show sub c6 [1, 1, 1, 1, 1, 1, 1, 1, 1, 0, 1, 0] = .loop (sub c6 [1, 1, 1, 1, 1, 1, 1, 1, 1, 0, 1, 0, 0]) from by kernel_rfl]
  refine loopQ (fun n0 σ m => σ 8 = .slice x8 x8n x8c ∧ σ 9 = .slice x9 x9n x9c ∧ σ 89 = .int .i64 x89 ∧ okI .i64 (σ 90) = true ∧ I0 n0 (vI (σ 90)) m) N (fun n0 => (lq6_111111111010 R x8 x8n x8c x9 x9n x9c x89 I0 E0_0 n0)) ⟨h8, h9, h89, (by rw [h90]; rfl), (by rw [h90]; exact h_0)⟩ ?_ ?_ ?_
  · rintro n0 σ m ⟨kk0, kk1, kk2, kk3, n', hlt, hI⟩; exact ⟨n', hlt, kk0, kk1, kk2, kk3, hI⟩
  · intro n0 e σ m hne h
    cases e with
    | normal => exact absurd rfl hne
    | ret => exact h
    | exit id =>
      by_cases e0 : id = 0
      · subst e0
        obtain ⟨kk0, kk1, kk2, hE⟩ := h
        have es : (upd (upd (upd σ 8 (.slice x8 x8n x8c)) 9 (.slice x9 x9n x9c)) 89 (.int .i64 x89)) = σ := by rw [upd_id kk0, upd_id kk1, upd_id kk2]
        exact cast (congrArg (fun s => (blockS 0 (thenS (fun σ m => vcS Try.prog w0 qs6 (sub c6 [1, 1, 1, 1, 1, 1, 1, 1, 1, 1]) σ m (retQ Try.prog Try.f6 R)) (retQ Try.prog Try.f6 R))) (.exit 0) s m) es) (cast (by kernel_rfl) (h_e0 σ  m hE))
      · replace h := (if_neg e0 : (if id = 0 then _ else _) = _).mp h
        exact False.elim h
    | _ => exact False.elim h
  · rintro n0 σ m ⟨kk0, kk1, kk2, kk3, hI⟩
    have es : (upd (upd (upd (upd σ 8 (.slice x8 x8n x8c)) 9 (.slice x9 x9n x9c)) 89 (.int .i64 x89)) 90 (.int .i64 (vI (σ 90)))) = σ := by rw [upd_id kk0, upd_id kk1, upd_id kk2, upd_id (ok_int kk3)]
    exact cast (congrArg (fun s => vcS Try.prog w0 qs6 (sub c6 [1, 1, 1, 1, 1, 1, 1, 1, 1, 0, 1, 0, 0]) s m (lq6_111111111010 R x8 x8n x8c x9 x9n x9c x89 I0 E0_0 n0)) es) (cast (by kernel_rfl) (h_s n0 σ (vI (σ 90)) m hI))

/-! 7 delayslot/delayslotlaw09.BlockStrict -/
def qs7 : Nat → List (Nat × Nat) := fun i => match i with | _ => []
noncomputable def c7 : Code := bodyOf Try.f7
theorem cf7 (w0 : World) (m : AM) (x0 : Option Addr) (x0n x0c : Nat) (x1 : Int) (R : Value → AM → Prop) (h :
 IntKind.i64 = IntKind.i64 ∧ (bcase (decide ((((x0n : Nat) : Int) : Int) > 200)) (
 CallsA Try.prog w0 20 #[] m fun r2 m3 =>
 ∃ t1 : Bool, r2 = .bool t1 ∧ RetP R (.bool t1) m3) (
 true = true ∧ ∀ b4 : Nat, w0.heap.size ≤ b4 → m b4 = none → let m5 := AM.upd m b4 (.cells #[] 24);
 awp Try.prog w0.heap.size (Builtin.append_ #[22, 22] 22 #[.slice (some ⟨b4, 0, none⟩) 0 0, .slice x0 x0n x0c]) m5 fun v6 m7 =>
 ∃ (A8 : Option Addr) (n9 c10 : Nat), v6 = .slice A8 n9 c10 ∧ IntKind.u8 = IntKind.u8 ∧ (9 : Int) ≠ 0 ∧ IntKind.i64 = IntKind.i64 ∧ true = true ∧ true = true ∧ ∀ b11 : Nat, w0.heap.size ≤ b11 → m7 b11 = none → let m12 := AM.upd m7 b11 (.cells #[.int .i64 (IntKind.wrap .i64 (1 + (IntKind.wrap .i64 (Int.tmod x1 9)))), .int .i64 31, .int .i64 0, .int .i64 0, .int .i64 0] 24);
 awp Try.prog w0.heap.size (Builtin.append_ #[22, 22] 22 #[.slice A8 n9 c10, .slice (some ⟨b11, 0, none⟩) 1 1]) m12 fun v13 m14 =>
 ∃ (A15 : Option Addr) (n16 c17 : Nat), v13 = .slice A15 n16 c17 ∧ CallsA Try.prog w0 25 #[.slice x0 x0n x0c] m14 fun r19 m20 =>
 ∃ t18 : Bool, r19 = .bool t18 ∧ (bcase (!t18) (
 (!t18) = true ∧ CallsA Try.prog w0 25 #[.slice A15 n16 c17] m20 fun r22 m23 =>
 ∃ t21 : Bool, r22 = .bool t21 ∧ (bcase (bif true then !t21 else false) (
 CallsA Try.prog w0 20 #[] m23 fun r25 m26 =>
 ∃ t24 : Bool, r25 = .bool t24 ∧ RetP R (.bool (bif bif true then !t21 else false then t24 else false)) m26) (
 (bif true then !t21 else false) = false ∧ RetP R (.bool false) m23))) (
 CallsA Try.prog w0 23 #[.slice x0 x0n x0c] m20 fun r28 m29 =>
 ∃ t27 : Bool, r28 = .bool t27 ∧ (bcase (bif !t18 then true else t27) (
 CallsA Try.prog w0 25 #[.slice A15 n16 c17] m29 fun r31 m32 =>
 ∃ t30 : Bool, r31 = .bool t30 ∧ (bcase (bif bif !t18 then true else t27 then !t30 else false) (
 CallsA Try.prog w0 20 #[] m32 fun r34 m35 =>
 ∃ t33 : Bool, r34 = .bool t33 ∧ RetP R (.bool (bif bif bif !t18 then true else t27 then !t30 else false then t33 else false)) m35) (
 (bif bif !t18 then true else t27 then !t30 else false) = false ∧ RetP R (.bool false) m32))) (
 (bif !t18 then true else t27) = false ∧ false = false ∧ RetP R (.bool false) m29))))))) : CallsA Try.prog w0 7 #[.slice x0 x0n x0c, .int .u8 x1] m R :=
  callsA_of (c := c7) (args := [.slice x0 x0n x0c, .int .u8 x1]) (by kernel_rfl) Try.func7 (by kernel_rfl) qs7 (by kernel_rfl) (by kernel_rfl) (cast (by kernel_rfl) h)

/-! 8 delayslot/delayslotlaw09.BlockCut -/
def qs8 : Nat → List (Nat × Nat) := fun i => match i with | _ => []
noncomputable def c8 : Code := bodyOf Try.f8
theorem cf8 (w0 : World) (m : AM) (x0 : Int) (x1 : Int) (R : Value → AM → Prop) (h :
 IntKind.u8 = IntKind.u8 ∧ (100 : Int) ≠ 0 ∧ IntKind.i64 = IntKind.i64 ∧ IntKind.i64 = IntKind.i64 ∧ IntKind.i64 = IntKind.i64 ∧ ((IntKind.wrap .i64 ((IntKind.wrap .i64 (2 + (IntKind.wrap .i64 (Int.tmod x0 100)))) - 1)) : Int) ≠ 0 ∧ ((0 : Int) ≤ (IntKind.wrap .i64 (2 + (IntKind.wrap .i64 (Int.tmod x0 100)))) ∧ ((IntKind.wrap .i64 (2 + (IntKind.wrap .i64 (Int.tmod x0 100)))) : Int) ≤ (IntKind.wrap .i64 (2 + (IntKind.wrap .i64 (Int.tmod x0 100)))) ∧ ((IntKind.wrap .i64 (2 + (IntKind.wrap .i64 (Int.tmod x0 100)))) : Int) ≤ 9223372036854775807 ∧ ((40 : Nat) : Int) * (IntKind.wrap .i64 (2 + (IntKind.wrap .i64 (Int.tmod x0 100)))) ≤ 281474976710656) ∧ ∀ b1 : Nat, w0.heap.size ≤ b1 → m b1 = none → let m2 := AM.upd m b1 (.cells (zeros [.int .i64 0, .int .i64 0, .int .i64 0, .int .i64 0, .int .i64 0] (IntKind.wrap .i64 (2 + (IntKind.wrap .i64 (Int.tmod x0 100))) : Int).toNat).toArray 24);
 true = true ∧ ((0 : Int) ≤ (Int.tmod (IntKind.wrap .i64 x1) (IntKind.wrap .i64 ((IntKind.wrap .i64 (2 + (IntKind.wrap .i64 (Int.tmod x0 100)))) - 1))) ∧ (Int.tmod (IntKind.wrap .i64 x1) (IntKind.wrap .i64 ((IntKind.wrap .i64 (2 + (IntKind.wrap .i64 (Int.tmod x0 100)))) - 1))) < (((IntKind.wrap .i64 (2 + (IntKind.wrap .i64 (Int.tmod x0 100))) : Int).toNat : Nat) : Int)) ∧ nilO (some ⟨b1, 0, none⟩) fun a3 =>
 StC w0.heap.size m2 (a3.add ((Int.tmod (IntKind.wrap .i64 x1) (IntKind.wrap .i64 ((IntKind.wrap .i64 (2 + (IntKind.wrap .i64 (Int.tmod x0 100)))) - 1)) : Int).toNat * 5)) (.int .i64 15) fun m4 =>
 StC w0.heap.size m4 ((a3.add ((Int.tmod (IntKind.wrap .i64 x1) (IntKind.wrap .i64 ((IntKind.wrap .i64 (2 + (IntKind.wrap .i64 (Int.tmod x0 100)))) - 1)) : Int).toNat * 5)).add 1) (.int .i64 0) fun m5 =>
 StC w0.heap.size m5 ((a3.add ((Int.tmod (IntKind.wrap .i64 x1) (IntKind.wrap .i64 ((IntKind.wrap .i64 (2 + (IntKind.wrap .i64 (Int.tmod x0 100)))) - 1)) : Int).toNat * 5)).add 2) (.int .i64 0) fun m6 =>
 StC w0.heap.size m6 ((a3.add ((Int.tmod (IntKind.wrap .i64 x1) (IntKind.wrap .i64 ((IntKind.wrap .i64 (2 + (IntKind.wrap .i64 (Int.tmod x0 100)))) - 1)) : Int).toNat * 5)).add 3) (.int .i64 0) fun m7 =>
 StC w0.heap.size m7 ((a3.add ((Int.tmod (IntKind.wrap .i64 x1) (IntKind.wrap .i64 ((IntKind.wrap .i64 (2 + (IntKind.wrap .i64 (Int.tmod x0 100)))) - 1)) : Int).toNat * 5)).add 4) (.int .i64 0) fun m8 =>
 CallsA Try.prog w0 28 #[.slice (some ⟨b1, 0, none⟩) ((IntKind.wrap .i64 (2 + (IntKind.wrap .i64 (Int.tmod x0 100))) : Int).toNat) ((IntKind.wrap .i64 (2 + (IntKind.wrap .i64 (Int.tmod x0 100))) : Int).toNat)] m8 fun r12 m13 =>
 ∃ (A9 : Option Addr) (n10 c11 : Nat), r12 = .slice A9 n10 c11 ∧ ((0 : Int) ≤ (Int.tmod (IntKind.wrap .i64 x1) (IntKind.wrap .i64 ((IntKind.wrap .i64 (2 + (IntKind.wrap .i64 (Int.tmod x0 100)))) - 1))) ∧ (Int.tmod (IntKind.wrap .i64 x1) (IntKind.wrap .i64 ((IntKind.wrap .i64 (2 + (IntKind.wrap .i64 (Int.tmod x0 100)))) - 1))) < (((IntKind.wrap .i64 (2 + (IntKind.wrap .i64 (Int.tmod x0 100))) : Int).toNat : Nat) : Int)) ∧ nilO (some ⟨b1, 0, none⟩) fun a14 =>
 ∃ i15 : Int, m13.cell (a14.add ((Int.tmod (IntKind.wrap .i64 x1) (IntKind.wrap .i64 ((IntKind.wrap .i64 (2 + (IntKind.wrap .i64 (Int.tmod x0 100)))) - 1)) : Int).toNat * 5)) = some (.int .i64 i15) ∧ ∃ i16 : Int, m13.cell ((a14.add ((Int.tmod (IntKind.wrap .i64 x1) (IntKind.wrap .i64 ((IntKind.wrap .i64 (2 + (IntKind.wrap .i64 (Int.tmod x0 100)))) - 1)) : Int).toNat * 5)).add 1) = some (.int .i64 i16) ∧ ∃ i17 : Int, m13.cell ((a14.add ((Int.tmod (IntKind.wrap .i64 x1) (IntKind.wrap .i64 ((IntKind.wrap .i64 (2 + (IntKind.wrap .i64 (Int.tmod x0 100)))) - 1)) : Int).toNat * 5)).add 2) = some (.int .i64 i17) ∧ ∃ i18 : Int, m13.cell ((a14.add ((Int.tmod (IntKind.wrap .i64 x1) (IntKind.wrap .i64 ((IntKind.wrap .i64 (2 + (IntKind.wrap .i64 (Int.tmod x0 100)))) - 1)) : Int).toNat * 5)).add 3) = some (.int .i64 i18) ∧ ∃ i19 : Int, m13.cell ((a14.add ((Int.tmod (IntKind.wrap .i64 x1) (IntKind.wrap .i64 ((IntKind.wrap .i64 (2 + (IntKind.wrap .i64 (Int.tmod x0 100)))) - 1)) : Int).toNat * 5)).add 4) = some (.int .i64 i19) ∧ 
 CallsA Try.prog w0 21 #[.agg #[.int .i64 i15, .int .i64 i16, .int .i64 i17, .int .i64 i18, .int .i64 i19], .int .i64 (Int.tmod (IntKind.wrap .i64 x1) (IntKind.wrap .i64 ((IntKind.wrap .i64 (2 + (IntKind.wrap .i64 (Int.tmod x0 100)))) - 1)))] m13 fun r22 m23 =>
 ∃ i20 : Int, ∃ t21 : Bool, r22 = .tuple #[.int .i64 i20, .bool t21] ∧ IntKind.i64 = IntKind.i64 ∧ (bcase ((((n10 : Nat) : Int) : Int) == 2) (
 ((0 : Int) ≤ 0 ∧ 0 < ((n10 : Nat) : Int)) ∧ nilO A9 fun a26 =>
 ∃ i27 : Int, m23.cell (a26.add (0)) = some (.int .i64 i27) ∧ ∃ i28 : Int, m23.cell ((a26.add (0)).add 1) = some (.int .i64 i28) ∧ 
 IntKind.i64 = IntKind.i64 ∧ true = true ∧ ∃ t29 : Bool, EqP Try.prog .eql 36 (.agg #[.int .i64 i27, .int .i64 i28]) (.agg #[.int .i64 0, .int .i64 (IntKind.wrap .i64 ((Int.tmod (IntKind.wrap .i64 x1) (IntKind.wrap .i64 ((IntKind.wrap .i64 (2 + (IntKind.wrap .i64 (Int.tmod x0 100)))) - 1))) + 1))]) t29 ∧ (bcase (bif (((n10 : Nat) : Int) : Int) == 2 then t29 else false) (
 ((0 : Int) ≤ 1 ∧ 1 < ((n10 : Nat) : Int)) ∧ nilO A9 fun a30 =>
 ∃ i31 : Int, m23.cell (a30.add (2)) = some (.int .i64 i31) ∧ ∃ i32 : Int, m23.cell ((a30.add (2)).add 1) = some (.int .i64 i32) ∧ 
 IntKind.i64 = IntKind.i64 ∧ true = true ∧ ∃ t33 : Bool, EqP Try.prog .eql 36 (.agg #[.int .i64 i31, .int .i64 i32]) (.agg #[.int .i64 (IntKind.wrap .i64 ((Int.tmod (IntKind.wrap .i64 x1) (IntKind.wrap .i64 ((IntKind.wrap .i64 (2 + (IntKind.wrap .i64 (Int.tmod x0 100)))) - 1))) + 1)), .int .i64 (IntKind.wrap .i64 (2 + (IntKind.wrap .i64 (Int.tmod x0 100))))]) t33 ∧ (bcase (bif bif (((n10 : Nat) : Int) : Int) == 2 then t29 else false then t33 else false) (
 IntKind.i64 = IntKind.i64 ∧ IntKind.i64 = IntKind.i64 ∧ (bcase (bif bif bif (((n10 : Nat) : Int) : Int) == 2 then t29 else false then t33 else false then (i20 : Int) == (IntKind.wrap .i64 ((Int.tmod (IntKind.wrap .i64 x1) (IntKind.wrap .i64 ((IntKind.wrap .i64 (2 + (IntKind.wrap .i64 (Int.tmod x0 100)))) - 1))) + 1)) else false) (
 (bcase (bif bif bif bif (((n10 : Nat) : Int) : Int) == 2 then t29 else false then t33 else false then (i20 : Int) == (IntKind.wrap .i64 ((Int.tmod (IntKind.wrap .i64 x1) (IntKind.wrap .i64 ((IntKind.wrap .i64 (2 + (IntKind.wrap .i64 (Int.tmod x0 100)))) - 1))) + 1)) else false then t21 else false) (
 CallsA Try.prog w0 20 #[] m23 fun r35 m36 =>
 ∃ t34 : Bool, r35 = .bool t34 ∧ RetP R (.bool (bif bif bif bif bif (((n10 : Nat) : Int) : Int) == 2 then t29 else false then t33 else false then (i20 : Int) == (IntKind.wrap .i64 ((Int.tmod (IntKind.wrap .i64 x1) (IntKind.wrap .i64 ((IntKind.wrap .i64 (2 + (IntKind.wrap .i64 (Int.tmod x0 100)))) - 1))) + 1)) else false then t21 else false then t34 else false)) m36) (
 (bif bif bif bif (((n10 : Nat) : Int) : Int) == 2 then t29 else false then t33 else false then (i20 : Int) == (IntKind.wrap .i64 ((Int.tmod (IntKind.wrap .i64 x1) (IntKind.wrap .i64 ((IntKind.wrap .i64 (2 + (IntKind.wrap .i64 (Int.tmod x0 100)))) - 1))) + 1)) else false then t21 else false) = false ∧ RetP R (.bool false) m23))) (
 (bif bif bif (((n10 : Nat) : Int) : Int) == 2 then t29 else false then t33 else false then (i20 : Int) == (IntKind.wrap .i64 ((Int.tmod (IntKind.wrap .i64 x1) (IntKind.wrap .i64 ((IntKind.wrap .i64 (2 + (IntKind.wrap .i64 (Int.tmod x0 100)))) - 1))) + 1)) else false) = false ∧ false = false ∧ RetP R (.bool false) m23))) (
 (bif bif (((n10 : Nat) : Int) : Int) == 2 then t29 else false then t33 else false) = false ∧ false = false ∧ false = false ∧ RetP R (.bool false) m23))) (
 (bif (((n10 : Nat) : Int) : Int) == 2 then t29 else false) = false ∧ false = false ∧ false = false ∧ false = false ∧ RetP R (.bool false) m23))) (
 ((((n10 : Nat) : Int) : Int) == 2) = false ∧ false = false ∧ false = false ∧ false = false ∧ false = false ∧ RetP R (.bool false) m23))) : CallsA Try.prog w0 8 #[.int .u8 x0, .int .u8 x1] m R :=
  callsA_of (c := c8) (args := [.int .u8 x0, .int .u8 x1]) (by kernel_rfl) Try.func8 (by kernel_rfl) qs8 (by kernel_rfl) (by kernel_rfl) (cast (by kernel_rfl) h)

/-! 9 delayslot/delayslotlaw09.BlockTargets -/
def qs9 : Nat → List (Nat × Nat) := fun i => match i with | _ => []
noncomputable def c9 : Code := bodyOf Try.f9
theorem cf9 (w0 : World) (m : AM) (x0_0 : Int) (x0_1 : Int) (x0_2 : Int) (x0_3 : Int) (x0_4 : Int) (x1 : Int) (R : Value → AM → Prop) (h :
 ∀ b1 : Nat, w0.heap.size ≤ b1 → m b1 = none → let m2 := AM.upd m b1 (.cells #[.int .i64 x0_0, .int .i64 x0_1, .int .i64 x0_2, .int .i64 x0_3, .int .i64 x0_4] 24);
 ∃ i3 : Int, m2.cell ⟨b1, 0, none⟩ = some (.int .i64 i3) ∧ ∃ i4 : Int, m2.cell ⟨b1, 1, none⟩ = some (.int .i64 i4) ∧ ∃ i5 : Int, m2.cell ⟨b1, 2, none⟩ = some (.int .i64 i5) ∧ ∃ i6 : Int, m2.cell ⟨b1, 3, none⟩ = some (.int .i64 i6) ∧ ∃ i7 : Int, m2.cell ⟨b1, 4, none⟩ = some (.int .i64 i7) ∧ 
 CallsA Try.prog w0 21 #[.agg #[.int .i64 i3, .int .i64 i4, .int .i64 i5, .int .i64 i6, .int .i64 i7], .int .i64 (IntKind.wrap .i64 x1)] m2 fun r10 m11 =>
 ∃ i8 : Int, ∃ t9 : Bool, r10 = .tuple #[.int .i64 i8, .bool t9] ∧ ∃ i14 : Int, m11.cell ⟨b1, 0, none⟩ = some (.int .i64 i14) ∧ ∃ i15 : Int, m11.cell ⟨b1, 1, none⟩ = some (.int .i64 i15) ∧ ∃ i16 : Int, m11.cell ⟨b1, 2, none⟩ = some (.int .i64 i16) ∧ ∃ i17 : Int, m11.cell ⟨b1, 3, none⟩ = some (.int .i64 i17) ∧ ∃ i18 : Int, m11.cell ⟨b1, 4, none⟩ = some (.int .i64 i18) ∧ 
 CallsA Try.prog w0 31 #[.agg #[.int .i64 i14, .int .i64 i15, .int .i64 i16, .int .i64 i17, .int .i64 i18]] m11 fun r20 m21 =>
 ∃ t19 : Bool, r20 = .bool t19 ∧ (bcase (!t19) (
 IntKind.i64 = IntKind.i64 ∧ (bcase ((i8 : Int) == 0) (
 (bcase (bif (i8 : Int) == 0 then !t9 else false) (
 CallsA Try.prog w0 20 #[] m21 fun r23 m24 =>
 ∃ t22 : Bool, r23 = .bool t22 ∧ RetP R (.bool (bif bif (i8 : Int) == 0 then !t9 else false then t22 else false)) m24) (
 (bif (i8 : Int) == 0 then !t9 else false) = false ∧ RetP R (.bool false) m21))) (
 ((i8 : Int) == 0) = false ∧ false = false ∧ RetP R (.bool false) m21))) (
 ∃ i25 : Int, m21.cell ⟨b1, 0, none⟩ = some (.int .i64 i25) ∧ 
 IntKind.i64 = IntKind.i64 ∧ (bcase ((i25 : Int) == 15) (
 (bcase ((i25 : Int) == 15) (
 IntKind.i64 = IntKind.i64 ∧ ∃ i26 : Int, m21.cell ⟨b1, 4, none⟩ = some (.int .i64 i26) ∧ 
 IntKind.i64 = IntKind.i64 ∧ IntKind.i64 = IntKind.i64 ∧ (bcase ((i8 : Int) == (IntKind.wrap .i64 ((IntKind.wrap .i64 ((IntKind.wrap .i64 x1) + 1)) + i26))) (
 (bcase (bif (i8 : Int) == (IntKind.wrap .i64 ((IntKind.wrap .i64 ((IntKind.wrap .i64 x1) + 1)) + i26)) then t9 else false) (
 CallsA Try.prog w0 20 #[] m21 fun r28 m29 =>
 ∃ t27 : Bool, r28 = .bool t27 ∧ RetP R (.bool (bif bif (i8 : Int) == (IntKind.wrap .i64 ((IntKind.wrap .i64 ((IntKind.wrap .i64 x1) + 1)) + i26)) then t9 else false then t27 else false)) m29) (
 (bif (i8 : Int) == (IntKind.wrap .i64 ((IntKind.wrap .i64 ((IntKind.wrap .i64 x1) + 1)) + i26)) then t9 else false) = false ∧ RetP R (.bool false) m21))) (
 ((i8 : Int) == (IntKind.wrap .i64 ((IntKind.wrap .i64 ((IntKind.wrap .i64 x1) + 1)) + i26))) = false ∧ false = false ∧ RetP R (.bool false) m21))) (
 IntKind.i64 = IntKind.i64 ∧ (bcase ((i25 : Int) == 17) (
 (bcase ((i25 : Int) == 17) (
 ∃ i30 : Int, m21.cell ⟨b1, 4, none⟩ = some (.int .i64 i30) ∧ 
 IntKind.i64 = IntKind.i64 ∧ (bcase ((i8 : Int) == i30) (
 (bcase (bif (i8 : Int) == i30 then t9 else false) (
 CallsA Try.prog w0 20 #[] m21 fun r32 m33 =>
 ∃ t31 : Bool, r32 = .bool t31 ∧ RetP R (.bool (bif bif (i8 : Int) == i30 then t9 else false then t31 else false)) m33) (
 (bif (i8 : Int) == i30 then t9 else false) = false ∧ RetP R (.bool false) m21))) (
 ((i8 : Int) == i30) = false ∧ false = false ∧ RetP R (.bool false) m21))) (
 IntKind.i64 = IntKind.i64 ∧ (bcase ((i8 : Int) == 0) (
 (bcase (bif (i8 : Int) == 0 then !t9 else false) (
 CallsA Try.prog w0 20 #[] m21 fun r35 m36 =>
 ∃ t34 : Bool, r35 = .bool t34 ∧ RetP R (.bool (bif bif (i8 : Int) == 0 then !t9 else false then t34 else false)) m36) (
 (bif (i8 : Int) == 0 then !t9 else false) = false ∧ RetP R (.bool false) m21))) (
 ((i8 : Int) == 0) = false ∧ false = false ∧ RetP R (.bool false) m21))))) (
 IntKind.i64 = IntKind.i64 ∧ (bcase ((i25 : Int) == 18) (
 ∃ i37 : Int, m21.cell ⟨b1, 4, none⟩ = some (.int .i64 i37) ∧ 
 IntKind.i64 = IntKind.i64 ∧ (bcase ((i8 : Int) == i37) (
 (bcase (bif (i8 : Int) == i37 then t9 else false) (
 CallsA Try.prog w0 20 #[] m21 fun r39 m40 =>
 ∃ t38 : Bool, r39 = .bool t38 ∧ RetP R (.bool (bif bif (i8 : Int) == i37 then t9 else false then t38 else false)) m40) (
 (bif (i8 : Int) == i37 then t9 else false) = false ∧ RetP R (.bool false) m21))) (
 ((i8 : Int) == i37) = false ∧ false = false ∧ RetP R (.bool false) m21))) (
 IntKind.i64 = IntKind.i64 ∧ (bcase ((i8 : Int) == 0) (
 (bcase (bif (i8 : Int) == 0 then !t9 else false) (
 CallsA Try.prog w0 20 #[] m21 fun r42 m43 =>
 ∃ t41 : Bool, r42 = .bool t41 ∧ RetP R (.bool (bif bif (i8 : Int) == 0 then !t9 else false then t41 else false)) m43) (
 (bif (i8 : Int) == 0 then !t9 else false) = false ∧ RetP R (.bool false) m21))) (
 ((i8 : Int) == 0) = false ∧ false = false ∧ RetP R (.bool false) m21))))))))) (
 IntKind.i64 = IntKind.i64 ∧ (bcase ((i25 : Int) == 16) (
 IntKind.i64 = IntKind.i64 ∧ ∃ i44 : Int, m21.cell ⟨b1, 4, none⟩ = some (.int .i64 i44) ∧ 
 IntKind.i64 = IntKind.i64 ∧ IntKind.i64 = IntKind.i64 ∧ (bcase ((i8 : Int) == (IntKind.wrap .i64 ((IntKind.wrap .i64 ((IntKind.wrap .i64 x1) + 1)) + i44))) (
 (bcase (bif (i8 : Int) == (IntKind.wrap .i64 ((IntKind.wrap .i64 ((IntKind.wrap .i64 x1) + 1)) + i44)) then t9 else false) (
 CallsA Try.prog w0 20 #[] m21 fun r46 m47 =>
 ∃ t45 : Bool, r46 = .bool t45 ∧ RetP R (.bool (bif bif (i8 : Int) == (IntKind.wrap .i64 ((IntKind.wrap .i64 ((IntKind.wrap .i64 x1) + 1)) + i44)) then t9 else false then t45 else false)) m47) (
 (bif (i8 : Int) == (IntKind.wrap .i64 ((IntKind.wrap .i64 ((IntKind.wrap .i64 x1) + 1)) + i44)) then t9 else false) = false ∧ RetP R (.bool false) m21))) (
 ((i8 : Int) == (IntKind.wrap .i64 ((IntKind.wrap .i64 ((IntKind.wrap .i64 x1) + 1)) + i44))) = false ∧ false = false ∧ RetP R (.bool false) m21))) (
 IntKind.i64 = IntKind.i64 ∧ (bcase ((i25 : Int) == 17) (
 (bcase ((i25 : Int) == 17) (
 ∃ i48 : Int, m21.cell ⟨b1, 4, none⟩ = some (.int .i64 i48) ∧ 
 IntKind.i64 = IntKind.i64 ∧ (bcase ((i8 : Int) == i48) (
 (bcase (bif (i8 : Int) == i48 then t9 else false) (
 CallsA Try.prog w0 20 #[] m21 fun r50 m51 =>
 ∃ t49 : Bool, r50 = .bool t49 ∧ RetP R (.bool (bif bif (i8 : Int) == i48 then t9 else false then t49 else false)) m51) (
 (bif (i8 : Int) == i48 then t9 else false) = false ∧ RetP R (.bool false) m21))) (
 ((i8 : Int) == i48) = false ∧ false = false ∧ RetP R (.bool false) m21))) (
 IntKind.i64 = IntKind.i64 ∧ (bcase ((i8 : Int) == 0) (
 (bcase (bif (i8 : Int) == 0 then !t9 else false) (
 CallsA Try.prog w0 20 #[] m21 fun r53 m54 =>
 ∃ t52 : Bool, r53 = .bool t52 ∧ RetP R (.bool (bif bif (i8 : Int) == 0 then !t9 else false then t52 else false)) m54) (
 (bif (i8 : Int) == 0 then !t9 else false) = false ∧ RetP R (.bool false) m21))) (
 ((i8 : Int) == 0) = false ∧ false = false ∧ RetP R (.bool false) m21))))) (
 IntKind.i64 = IntKind.i64 ∧ (bcase ((i25 : Int) == 18) (
 ∃ i55 : Int, m21.cell ⟨b1, 4, none⟩ = some (.int .i64 i55) ∧ 
 IntKind.i64 = IntKind.i64 ∧ (bcase ((i8 : Int) == i55) (
 (bcase (bif (i8 : Int) == i55 then t9 else false) (
 CallsA Try.prog w0 20 #[] m21 fun r57 m58 =>
 ∃ t56 : Bool, r57 = .bool t56 ∧ RetP R (.bool (bif bif (i8 : Int) == i55 then t9 else false then t56 else false)) m58) (
 (bif (i8 : Int) == i55 then t9 else false) = false ∧ RetP R (.bool false) m21))) (
 ((i8 : Int) == i55) = false ∧ false = false ∧ RetP R (.bool false) m21))) (
 IntKind.i64 = IntKind.i64 ∧ (bcase ((i8 : Int) == 0) (
 (bcase (bif (i8 : Int) == 0 then !t9 else false) (
 CallsA Try.prog w0 20 #[] m21 fun r60 m61 =>
 ∃ t59 : Bool, r60 = .bool t59 ∧ RetP R (.bool (bif bif (i8 : Int) == 0 then !t9 else false then t59 else false)) m61) (
 (bif (i8 : Int) == 0 then !t9 else false) = false ∧ RetP R (.bool false) m21))) (
 ((i8 : Int) == 0) = false ∧ false = false ∧ RetP R (.bool false) m21))))))))))))) : CallsA Try.prog w0 9 #[.agg #[.int .i64 x0_0, .int .i64 x0_1, .int .i64 x0_2, .int .i64 x0_3, .int .i64 x0_4], .int .u16 x1] m R :=
  callsA_of (c := c9) (args := [.agg #[.int .i64 x0_0, .int .i64 x0_1, .int .i64 x0_2, .int .i64 x0_3, .int .i64 x0_4], .int .u16 x1]) (by kernel_rfl) Try.func9 (by kernel_rfl) qs9 (by kernel_rfl) (by kernel_rfl) (cast (by kernel_rfl) h)
end Go.Proofs.Ytkfemiloehkmhaa.V
