/- Ytkfemiloehkmhaa: a text of our own, by an AI agent: VLaw13H -/
import Derived.Test.YtkfemiloehkmhaaCoreA
import Derived.Test.YtkfemiloehkmhaaTabH
namespace Go.Proofs.Ytkfemiloehkmhaa.V
open Go Go.Alog Go.Proofs.Ytkfemiloehkmhaa.T
set_option linter.unusedVariables false
set_option maxRecDepth 100000

/-! 42 delayslot/delayslotlaw13.awake -/
def qs42 : Nat → List (Nat × Nat) := fun i => match i with | _ => []
noncomputable def c42 : Code := bodyOf Try.f42
theorem cf42 (w0 : World) (m : AM)  (R : Value → AM → Prop) (h :
 true = true ∧ true = true ∧ true = true ∧ ∀ b1 : Nat, w0.heap.size ≤ b1 → m b1 = none → let m2 := AM.upd m b1 (.cells #[.int .i64 10, .int .i64 4, .int .i64 0, .int .i64 0, .int .i64 7, .int .i64 17, .int .i64 0, .int .i64 0, .int .i64 0, .int .i64 2] 24);
 CallsA Try.prog w0 43 #[.slice (some ⟨b1, 0, none⟩) 2 2] m2 fun r10 m11 =>
 ∃ (A3 : Option Addr) (n4 c5 : Nat), ∃ (A6 : Option Addr) (n7 c8 : Nat), ∃ i9 : Int, r10 = .tuple #[.slice A3 n4 c5, .slice A6 n7 c8, .int .i64 i9] ∧ IntKind.i64 = IntKind.i64 ∧ (bcase ((i9 : Int) == 0) (
 IntKind.i64 = IntKind.i64 ∧ (bcase (bif (i9 : Int) == 0 then (((n4 : Nat) : Int) : Int) == 2 else false) (
 ((0 : Int) ≤ 0 ∧ 0 < ((n4 : Nat) : Int)) ∧ nilO A3 fun a15 =>
 ∃ i16 : Int, m11.cell (a15.add (0)) = some (.int .i64 i16) ∧ ∃ i17 : Int, m11.cell ((a15.add (0)).add 1) = some (.int .i64 i17) ∧ ∃ i18 : Int, m11.cell ((a15.add (0)).add 2) = some (.int .i64 i18) ∧ ∃ i19 : Int, m11.cell ((a15.add (0)).add 3) = some (.int .i64 i19) ∧ ∃ i20 : Int, m11.cell ((a15.add (0)).add 4) = some (.int .i64 i20) ∧ 
 true = true ∧ ∃ t21 : Bool, EqP Try.prog .eql 24 (.agg #[.int .i64 i16, .int .i64 i17, .int .i64 i18, .int .i64 i19, .int .i64 i20]) (.agg #[.int .i64 17, .int .i64 0, .int .i64 0, .int .i64 0, .int .i64 2]) t21 ∧ (bcase (bif bif (i9 : Int) == 0 then (((n4 : Nat) : Int) : Int) == 2 else false then t21 else false) (
 ((0 : Int) ≤ 1 ∧ 1 < ((n4 : Nat) : Int)) ∧ nilO A3 fun a22 =>
 ∃ i23 : Int, m11.cell ((a22.add (5)).add 4) = some (.int .i64 i23) ∧ 
 IntKind.i64 = IntKind.i64 ∧ (bcase (bif bif bif (i9 : Int) == 0 then (((n4 : Nat) : Int) : Int) == 2 else false then t21 else false then (i23 : Int) == 7 else false) (
 true = true ∧ ∀ b24 : Nat, w0.heap.size ≤ b24 → m11 b24 = none → let m25 := AM.upd m11 b24 (.cells #[.int .i64 0, .int .i64 2] 3);
 CallsA Try.prog w0 33 #[.slice A6 n7 c8, .slice (some ⟨b24, 0, none⟩) 2 2] m25 fun r27 m28 =>
 ∃ t26 : Bool, r27 = .bool t26 ∧ RetP R (.bool (bif bif bif bif (i9 : Int) == 0 then (((n4 : Nat) : Int) : Int) == 2 else false then t21 else false then (i23 : Int) == 7 else false then t26 else false)) m28) (
 (bif bif bif (i9 : Int) == 0 then (((n4 : Nat) : Int) : Int) == 2 else false then t21 else false then (i23 : Int) == 7 else false) = false ∧ RetP R (.bool false) m11))) (
 (bif bif (i9 : Int) == 0 then (((n4 : Nat) : Int) : Int) == 2 else false then t21 else false) = false ∧ false = false ∧ RetP R (.bool false) m11))) (
 (bif (i9 : Int) == 0 then (((n4 : Nat) : Int) : Int) == 2 else false) = false ∧ false = false ∧ false = false ∧ RetP R (.bool false) m11))) (
 ((i9 : Int) == 0) = false ∧ false = false ∧ false = false ∧ false = false ∧ RetP R (.bool false) m11))) : CallsA Try.prog w0 42 #[] m R :=
  callsA_of (c := c42) (args := []) (by kernel_rfl) Try.func42 (by kernel_rfl) qs42 (by kernel_rfl) (by kernel_rfl) (cast (by kernel_rfl) h)

/-! 17 delayslot/delayslotlaw13.ReorgLays -/
def qs17 : Nat → List (Nat × Nat) := fun i => match i with | _ => []
noncomputable def c17 : Code := bodyOf Try.f17
theorem cf17 (w0 : World) (m : AM) (x0 : Option Addr) (x0n x0c : Nat) (R : Value → AM → Prop) (h :
 IntKind.i64 = IntKind.i64 ∧ (bcase (decide ((((x0n : Nat) : Int) : Int) > 60)) (
 CallsA Try.prog w0 42 #[] m fun r2 m3 =>
 ∃ t1 : Bool, r2 = .bool t1 ∧ RetP R (.bool t1) m3) (
 CallsA Try.prog w0 43 #[.slice x0 x0n x0c] m fun r11 m12 =>
 ∃ (A4 : Option Addr) (n5 c6 : Nat), ∃ (A7 : Option Addr) (n8 c9 : Nat), ∃ i10 : Int, r11 = .tuple #[.slice A4 n5 c6, .slice A7 n8 c9, .int .i64 i10] ∧ CallsA Try.prog w0 44 #[.slice x0 x0n x0c] m12 fun r23 m24 =>
 ∃ (A16 : Option Addr) (n17 c18 : Nat), ∃ (A19 : Option Addr) (n20 c21 : Nat), ∃ i22 : Int, r23 = .tuple #[.slice A16 n17 c18, .slice A19 n20 c21, .int .i64 i22] ∧ IntKind.i64 = IntKind.i64 ∧ (bcase ((i10 : Int) != i22) (
 ((i10 : Int) != i22) = true ∧ true = true ∧ RetP R (.bool false) m24) (
 IntKind.i64 = IntKind.i64 ∧ (bcase (bif (i10 : Int) != i22 then true else (((n5 : Nat) : Int) : Int) != ((n17 : Nat) : Int)) (
 (bif (i10 : Int) != i22 then true else (((n5 : Nat) : Int) : Int) != ((n17 : Nat) : Int)) = true ∧ RetP R (.bool false) m24) (
 CallsA Try.prog w0 33 #[.slice A7 n8 c9, .slice A19 n20 c21] m24 fun r29 m30 =>
 ∃ t28 : Bool, r29 = .bool t28 ∧ (bcase (bif bif (i10 : Int) != i22 then true else (((n5 : Nat) : Int) : Int) != ((n17 : Nat) : Int) then true else !t28) (
 RetP R (.bool false) m30) (
 vcS Try.prog w0 qs17 (sub c17 [1, 1, 1, 1, 1, 0, 1, 0]) (upd (upd (upd (upd (upd (upd (upd (upd (upd (upd (upd (upd (upd (upd (upd (upd (upd (upd (upd (upd (upd (upd (upd (upd (upd (upd (upd (upd (upd (upd (upd (upd (upd (upd (upd (upd (upd (upd (upd (upd (upd (argS [.slice x0 x0n x0c]) 2 (.bool false)) 10 (.slice x0 x0n x0c)) 11 (.int .i64 ((x0n : Nat) : Int))) 12 (.bool (decide ((((x0n : Nat) : Int) : Int) > 60)))) 15 (.slice x0 x0n x0c)) 16 (.tuple #[.slice A4 n5 c6, .slice A7 n8 c9, .int .i64 i10])) 14 (.tuple #[.slice A4 n5 c6, .slice A7 n8 c9, .int .i64 i10])) 17 (.slice A4 n5 c6)) 18 (.slice A7 n8 c9)) 19 (.int .i64 i10)) 3 (.slice A4 n5 c6)) 4 (.slice A7 n8 c9)) 5 (.int .i64 i10)) 21 (.slice x0 x0n x0c)) 22 (.tuple #[.slice A16 n17 c18, .slice A19 n20 c21, .int .i64 i22])) 20 (.tuple #[.slice A16 n17 c18, .slice A19 n20 c21, .int .i64 i22])) 23 (.slice A16 n17 c18)) 24 (.slice A19 n20 c21)) 25 (.int .i64 i22)) 6 (.slice A16 n17 c18)) 7 (.slice A19 n20 c21)) 8 (.int .i64 i22)) 26 (.int .i64 i10)) 27 (.int .i64 i22)) 28 (.bool ((i10 : Int) != i22))) 29 (.bool ((i10 : Int) != i22))) 30 (.slice A4 n5 c6)) 31 (.int .i64 ((n5 : Nat) : Int))) 32 (.slice A16 n17 c18)) 33 (.int .i64 ((n17 : Nat) : Int))) 34 (.bool ((((n5 : Nat) : Int) : Int) != ((n17 : Nat) : Int)))) 35 (.bool (bif (i10 : Int) != i22 then true else (((n5 : Nat) : Int) : Int) != ((n17 : Nat) : Int)))) 36 (.bool (bif (i10 : Int) != i22 then true else (((n5 : Nat) : Int) : Int) != ((n17 : Nat) : Int)))) 37 (.slice A7 n8 c9)) 38 (.slice A19 n20 c21)) 39 (.bool t28)) 40 (.bool (!t28))) 41 (.bool (bif bif (i10 : Int) != i22 then true else (((n5 : Nat) : Int) : Int) != ((n17 : Nat) : Int) then true else !t28))) 42 (.slice A4 n5 c6)) 43 (.int .i64 ((n5 : Nat) : Int))) 44 (.int .i64 0)) m30 (blockS 0 (thenS (fun σ m => vcS Try.prog w0 qs17 (sub c17 [1, 1, 1, 1, 1, 1]) σ m (retQ Try.prog Try.f17 R)) (retQ Try.prog Try.f17 R)))))))))))) : CallsA Try.prog w0 17 #[.slice x0 x0n x0c] m R :=
  callsA_of (c := c17) (args := [.slice x0 x0n x0c]) (by kernel_rfl) Try.func17 (by kernel_rfl) qs17 (by kernel_rfl) (by kernel_rfl) (cast (by kernel_rfl) h)
def lq17_11111010 (R : Value → AM → Prop) (x3 : Option Addr) (x3n x3c : Nat) (x6 : Option Addr) (x6n x6c : Nat) (x43 : Int) (I0 : Nat → Int → AM → Prop) (E0_0 : AM → Prop) (n0 : Nat) : Exit → Sg → AM → Prop
  | .normal, σ, m => σ 3 = .slice x3 x3n x3c ∧ σ 6 = .slice x6 x6n x6c ∧ σ 43 = .int .i64 x43 ∧ okI .i64 (σ 44) = true ∧ ∃ n' : Nat, n' < n0 ∧ I0 n' (vI (σ 44)) m
  | .exit id, σ, m => if id = 0 then σ 3 = .slice x3 x3n x3c ∧ σ 6 = .slice x6 x6n x6c ∧ σ 43 = .int .i64 x43 ∧ E0_0  m else False
  | .ret, σ, m => retQ Try.prog Try.f17 R .ret σ m
  | _, _, _ => False
theorem vl17_11111010 (w0 : World) (m : AM) (σ : Sg) (R : Value → AM → Prop)  (x3 : Option Addr) (x3n x3c : Nat) (x6 : Option Addr) (x6n x6c : Nat) (x43 : Int) (x44 : Int) (I0 : Nat → Int → AM → Prop) (E0_0 : AM → Prop) (N : Nat) (h3 : σ 3 = .slice x3 x3n x3c) (h6 : σ 6 = .slice x6 x6n x6c) (h43 : σ 43 = .int .i64 x43) (h44 : σ 44 = .int .i64 x44)
 (h_0 : I0 N x44 m)
 (h_s : ∀ (n0 : Nat) (σ : Sg) (x44 : Int) (m : AM), I0 n0 x44 m → (
 IntKind.i64 = IntKind.i64 ∧ (bcase (decide ((x44 : Int) < x43)) (
 ((0 : Int) ≤ x44 ∧ x44 < ((x3n : Nat) : Int)) ∧ nilO x3 fun a31 =>
 ∃ i32 : Int, m.cell (a31.add ((x44 : Int).toNat * 5)) = some (.int .i64 i32) ∧ ∃ i33 : Int, m.cell ((a31.add ((x44 : Int).toNat * 5)).add 1) = some (.int .i64 i33) ∧ ∃ i34 : Int, m.cell ((a31.add ((x44 : Int).toNat * 5)).add 2) = some (.int .i64 i34) ∧ ∃ i35 : Int, m.cell ((a31.add ((x44 : Int).toNat * 5)).add 3) = some (.int .i64 i35) ∧ ∃ i36 : Int, m.cell ((a31.add ((x44 : Int).toNat * 5)).add 4) = some (.int .i64 i36) ∧ 
 ((0 : Int) ≤ x44 ∧ x44 < ((x6n : Nat) : Int)) ∧ nilO x6 fun a37 =>
 ∃ i38 : Int, m.cell (a37.add ((x44 : Int).toNat * 5)) = some (.int .i64 i38) ∧ ∃ i39 : Int, m.cell ((a37.add ((x44 : Int).toNat * 5)).add 1) = some (.int .i64 i39) ∧ ∃ i40 : Int, m.cell ((a37.add ((x44 : Int).toNat * 5)).add 2) = some (.int .i64 i40) ∧ ∃ i41 : Int, m.cell ((a37.add ((x44 : Int).toNat * 5)).add 3) = some (.int .i64 i41) ∧ ∃ i42 : Int, m.cell ((a37.add ((x44 : Int).toNat * 5)).add 4) = some (.int .i64 i42) ∧ 
 ∃ t43 : Bool, EqP Try.prog .neq 24 (.agg #[.int .i64 i32, .int .i64 i33, .int .i64 i34, .int .i64 i35, .int .i64 i36]) (.agg #[.int .i64 i38, .int .i64 i39, .int .i64 i40, .int .i64 i41, .int .i64 i42]) t43 ∧ (bcase t43 (
 RetP R (.bool false) m) (
 IntKind.i64 = IntKind.i64 ∧ (.slice x3 x3n x3c : Value) = .slice x3 x3n x3c ∧ (.slice x6 x6n x6c : Value) = .slice x6 x6n x6c ∧ (.int .i64 x43 : Value) = .int .i64 x43 ∧ true = true ∧ ∃ n' : Nat, n' < n0 ∧ I0 n' (IntKind.wrap .i64 (x44 + 1)) m))) (
 (.slice x3 x3n x3c : Value) = .slice x3 x3n x3c ∧ (.slice x6 x6n x6c : Value) = .slice x6 x6n x6c ∧ (.int .i64 x43 : Value) = .int .i64 x43 ∧ E0_0  m))))
 (h_e0 : ∀ (σ : Sg)  (m : AM), E0_0  m → (
 CallsA Try.prog w0 42 #[] m fun r45 m46 =>
 ∃ t44 : Bool, r45 = .bool t44 ∧ RetP R (.bool t44) m46)) :
 vcS Try.prog w0 qs17 (sub c17 [1, 1, 1, 1, 1, 0, 1, 0]) σ m (blockS 0 (thenS (fun σ m => vcS Try.prog w0 qs17 (sub c17 [1, 1, 1, 1, 1, 1]) σ m (retQ Try.prog Try.f17 R)) (retQ Try.prog Try.f17 R))) := by
  rw [show sub c17 [1, 1, 1, 1, 1, 0, 1, 0] = .loop (sub c17 [1, 1, 1, 1, 1, 0, 1, 0, 0]) from by kernel_rfl]
  refine loopQ (fun n0 σ m => σ 3 = .slice x3 x3n x3c ∧ σ 6 = .slice x6 x6n x6c ∧ σ 43 = .int .i64 x43 ∧ okI .i64 (σ 44) = true ∧ I0 n0 (vI (σ 44)) m) N (fun n0 => (lq17_11111010 R x3 x3n x3c x6 x6n x6c x43 I0 E0_0 n0)) ⟨h3, h6, h43, (by rw [h44]; rfl), (by rw [h44]; exact h_0)⟩ ?_ ?_ ?_
  · rintro n0 σ m ⟨kk0, kk1, kk2, kk3, n', hlt, hI⟩; exact ⟨n', hlt, kk0, kk1, kk2, kk3, hI⟩
  · intro n0 e σ m hne h
    cases e with
    | normal => exact absurd rfl hne
    | ret => exact h
    | exit id =>
      by_cases e0 : id = 0
      · subst e0
        obtain ⟨kk0, kk1, kk2, hE⟩ := h
        have es : (upd (upd (upd σ 3 (.slice x3 x3n x3c)) 6 (.slice x6 x6n x6c)) 43 (.int .i64 x43)) = σ := by rw [upd_id kk0, upd_id kk1, upd_id kk2]
        exact cast (congrArg (fun s => (blockS 0 (thenS (fun σ m => vcS Try.prog w0 qs17 (sub c17 [1, 1, 1, 1, 1, 1]) σ m (retQ Try.prog Try.f17 R)) (retQ Try.prog Try.f17 R))) (.exit 0) s m) es) (cast (by kernel_rfl) (h_e0 σ  m hE))
      · replace h := (if_neg e0 : (if id = 0 then _ else _) = _).mp h
        exact False.elim h
    | _ => exact False.elim h
  · rintro n0 σ m ⟨kk0, kk1, kk2, kk3, hI⟩
    have es : (upd (upd (upd (upd σ 3 (.slice x3 x3n x3c)) 6 (.slice x6 x6n x6c)) 43 (.int .i64 x43)) 44 (.int .i64 (vI (σ 44)))) = σ := by rw [upd_id kk0, upd_id kk1, upd_id kk2, upd_id (ok_int kk3)]
    exact cast (congrArg (fun s => vcS Try.prog w0 qs17 (sub c17 [1, 1, 1, 1, 1, 0, 1, 0, 0]) s m (lq17_11111010 R x3 x3n x3c x6 x6n x6c x43 I0 E0_0 n0)) es) (cast (by kernel_rfl) (h_s n0 σ (vI (σ 44)) m hI))
end Go.Proofs.Ytkfemiloehkmhaa.V

