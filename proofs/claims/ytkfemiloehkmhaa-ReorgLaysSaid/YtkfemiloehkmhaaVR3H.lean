/- Ytkfemiloehkmhaa: a text of our own, by an AI agent: VR3H -/
import Derived.Test.YtkfemiloehkmhaaCoreA
import Derived.Test.YtkfemiloehkmhaaTabH
namespace Go.Proofs.Ytkfemiloehkmhaa.V
open Go Go.Alog Go.Proofs.Ytkfemiloehkmhaa.T
set_option linter.unusedVariables false
set_option maxRecDepth 100000

/-! 49 delayslot/delayslotref03.Reads -/
def qs49 : Nat → List (Nat × Nat) := fun i => match i with | _ => []
noncomputable def c49 : Code := bodyOf Try.f49
theorem cf49 (w0 : World) (m : AM) (x0_0 : Int) (x0_1 : Int) (x0_2 : Int) (x0_3 : Int) (x0_4 : Int) (x1 : Int) (R : Value → AM → Prop) (h :
 ∀ b1 : Nat, w0.heap.size ≤ b1 → m b1 = none → let m2 := AM.upd m b1 (.cells #[.int .i64 x0_0, .int .i64 x0_1, .int .i64 x0_2, .int .i64 x0_3, .int .i64 x0_4] 24);
 ∃ i3 : Int, m2.cell ⟨b1, 0, none⟩ = some (.int .i64 i3) ∧ ∃ i4 : Int, m2.cell ⟨b1, 1, none⟩ = some (.int .i64 i4) ∧ ∃ i5 : Int, m2.cell ⟨b1, 2, none⟩ = some (.int .i64 i5) ∧ ∃ i6 : Int, m2.cell ⟨b1, 3, none⟩ = some (.int .i64 i6) ∧ ∃ i7 : Int, m2.cell ⟨b1, 4, none⟩ = some (.int .i64 i7) ∧ 
 CallsA Try.prog w0 31 #[.agg #[.int .i64 i3, .int .i64 i4, .int .i64 i5, .int .i64 i6, .int .i64 i7]] m2 fun r9 m10 =>
 ∃ t8 : Bool, r9 = .bool t8 ∧ (bcase (!t8) (
 (!t8) = true ∧ true = true ∧ RetP R (.bool false) m10) (
 IntKind.i64 = IntKind.i64 ∧ (bcase (bif !t8 then true else decide ((x1 : Int) < 1)) (
 (bif !t8 then true else decide ((x1 : Int) < 1)) = true ∧ RetP R (.bool false) m10) (
 IntKind.i64 = IntKind.i64 ∧ (bcase (bif bif !t8 then true else decide ((x1 : Int) < 1) then true else decide ((x1 : Int) > 31)) (
 RetP R (.bool false) m10) (
 ∃ i11 : Int, m10.cell ⟨b1, 1, none⟩ = some (.int .i64 i11) ∧ 
 IntKind.i64 = IntKind.i64 ∧ ∃ i12 : Int, m10.cell ⟨b1, 2, none⟩ = some (.int .i64 i12) ∧ 
 IntKind.i64 = IntKind.i64 ∧ ∃ i13 : Int, m10.cell ⟨b1, 3, none⟩ = some (.int .i64 i13) ∧ 
 IntKind.i64 = IntKind.i64 ∧ ∃ i14 : Int, m10.cell ⟨b1, 0, none⟩ = some (.int .i64 i14) ∧ 
 IntKind.i64 = IntKind.i64 ∧ (bcase ((i14 : Int) == 1) (
 vcS Try.prog w0 qs49 (sub c49 [1, 1, 1, 0, 1, 0, 1]) (upd (upd (upd (upd (upd (upd (upd (upd (upd (upd (upd (upd (upd (upd (upd (upd (upd (upd (upd (upd (upd (upd (upd (upd (upd (upd (upd (upd (upd (upd (upd (upd (argS [.agg #[.int .i64 x0_0, .int .i64 x0_1, .int .i64 x0_2, .int .i64 x0_3, .int .i64 x0_4], .int .i64 x1]) 2 (.pointer (some ⟨b1, 0, none⟩))) 4 (.bool false)) 8 (.agg #[.int .i64 i3, .int .i64 i4, .int .i64 i5, .int .i64 i6, .int .i64 i7])) 9 (.bool t8)) 10 (.bool (!t8))) 11 (.bool (!t8))) 12 (.int .i64 x1)) 13 (.bool (decide ((x1 : Int) < 1)))) 14 (.bool (bif !t8 then true else decide ((x1 : Int) < 1)))) 15 (.bool (bif !t8 then true else decide ((x1 : Int) < 1)))) 16 (.int .i64 x1)) 17 (.bool (decide ((x1 : Int) > 31)))) 18 (.bool (bif bif !t8 then true else decide ((x1 : Int) < 1) then true else decide ((x1 : Int) > 31)))) 19 (.pointer (some ⟨b1, 1, none⟩))) 20 (.int .i64 i11)) 21 (.int .i64 x1)) 22 (.bool ((i11 : Int) == x1))) 23 (.pointer (some ⟨b1, 2, none⟩))) 24 (.int .i64 i12)) 25 (.int .i64 x1)) 26 (.bool ((i12 : Int) == x1))) 27 (.pointer (some ⟨b1, 3, none⟩))) 28 (.int .i64 i13)) 29 (.int .i64 x1)) 30 (.bool ((i13 : Int) == x1))) 5 (.bool ((i11 : Int) == x1))) 6 (.bool ((i12 : Int) == x1))) 7 (.bool ((i13 : Int) == x1))) 31 (.pointer (some ⟨b1, 0, none⟩))) 32 (.int .i64 i14)) 34 (.bool ((i14 : Int) == 1))) 33 (.bool ((i14 : Int) == 1))) m10 (blockS 0 (thenS (fun σ m => vcS Try.prog w0 qs49 (sub c49 [1, 1, 1, 1]) σ m (retQ Try.prog Try.f49 R)) (retQ Try.prog Try.f49 R)))) (
 IntKind.i64 = IntKind.i64 ∧ (bcase ((i14 : Int) == 2) (
 vcS Try.prog w0 qs49 (sub c49 [1, 1, 1, 0, 1, 0, 1]) (upd (upd (upd (upd (upd (upd (upd (upd (upd (upd (upd (upd (upd (upd (upd (upd (upd (upd (upd (upd (upd (upd (upd (upd (upd (upd (upd (upd (upd (upd (upd (upd (upd (upd (argS [.agg #[.int .i64 x0_0, .int .i64 x0_1, .int .i64 x0_2, .int .i64 x0_3, .int .i64 x0_4], .int .i64 x1]) 2 (.pointer (some ⟨b1, 0, none⟩))) 4 (.bool false)) 8 (.agg #[.int .i64 i3, .int .i64 i4, .int .i64 i5, .int .i64 i6, .int .i64 i7])) 9 (.bool t8)) 10 (.bool (!t8))) 11 (.bool (!t8))) 12 (.int .i64 x1)) 13 (.bool (decide ((x1 : Int) < 1)))) 14 (.bool (bif !t8 then true else decide ((x1 : Int) < 1)))) 15 (.bool (bif !t8 then true else decide ((x1 : Int) < 1)))) 16 (.int .i64 x1)) 17 (.bool (decide ((x1 : Int) > 31)))) 18 (.bool (bif bif !t8 then true else decide ((x1 : Int) < 1) then true else decide ((x1 : Int) > 31)))) 19 (.pointer (some ⟨b1, 1, none⟩))) 20 (.int .i64 i11)) 21 (.int .i64 x1)) 22 (.bool ((i11 : Int) == x1))) 23 (.pointer (some ⟨b1, 2, none⟩))) 24 (.int .i64 i12)) 25 (.int .i64 x1)) 26 (.bool ((i12 : Int) == x1))) 27 (.pointer (some ⟨b1, 3, none⟩))) 28 (.int .i64 i13)) 29 (.int .i64 x1)) 30 (.bool ((i13 : Int) == x1))) 5 (.bool ((i11 : Int) == x1))) 6 (.bool ((i12 : Int) == x1))) 7 (.bool ((i13 : Int) == x1))) 31 (.pointer (some ⟨b1, 0, none⟩))) 32 (.int .i64 i14)) 34 (.bool ((i14 : Int) == 1))) 33 (.bool ((i14 : Int) == 1))) 35 (.bool ((i14 : Int) == 2))) 33 (.bool ((i14 : Int) == 2))) m10 (blockS 0 (thenS (fun σ m => vcS Try.prog w0 qs49 (sub c49 [1, 1, 1, 1]) σ m (retQ Try.prog Try.f49 R)) (retQ Try.prog Try.f49 R)))) (
 IntKind.i64 = IntKind.i64 ∧ (bcase ((i14 : Int) == 3) (
 vcS Try.prog w0 qs49 (sub c49 [1, 1, 1, 0, 1, 0, 1]) (upd (upd (upd (upd (upd (upd (upd (upd (upd (upd (upd (upd (upd (upd (upd (upd (upd (upd (upd (upd (upd (upd (upd (upd (upd (upd (upd (upd (upd (upd (upd (upd (upd (upd (upd (upd (argS [.agg #[.int .i64 x0_0, .int .i64 x0_1, .int .i64 x0_2, .int .i64 x0_3, .int .i64 x0_4], .int .i64 x1]) 2 (.pointer (some ⟨b1, 0, none⟩))) 4 (.bool false)) 8 (.agg #[.int .i64 i3, .int .i64 i4, .int .i64 i5, .int .i64 i6, .int .i64 i7])) 9 (.bool t8)) 10 (.bool (!t8))) 11 (.bool (!t8))) 12 (.int .i64 x1)) 13 (.bool (decide ((x1 : Int) < 1)))) 14 (.bool (bif !t8 then true else decide ((x1 : Int) < 1)))) 15 (.bool (bif !t8 then true else decide ((x1 : Int) < 1)))) 16 (.int .i64 x1)) 17 (.bool (decide ((x1 : Int) > 31)))) 18 (.bool (bif bif !t8 then true else decide ((x1 : Int) < 1) then true else decide ((x1 : Int) > 31)))) 19 (.pointer (some ⟨b1, 1, none⟩))) 20 (.int .i64 i11)) 21 (.int .i64 x1)) 22 (.bool ((i11 : Int) == x1))) 23 (.pointer (some ⟨b1, 2, none⟩))) 24 (.int .i64 i12)) 25 (.int .i64 x1)) 26 (.bool ((i12 : Int) == x1))) 27 (.pointer (some ⟨b1, 3, none⟩))) 28 (.int .i64 i13)) 29 (.int .i64 x1)) 30 (.bool ((i13 : Int) == x1))) 5 (.bool ((i11 : Int) == x1))) 6 (.bool ((i12 : Int) == x1))) 7 (.bool ((i13 : Int) == x1))) 31 (.pointer (some ⟨b1, 0, none⟩))) 32 (.int .i64 i14)) 34 (.bool ((i14 : Int) == 1))) 33 (.bool ((i14 : Int) == 1))) 35 (.bool ((i14 : Int) == 2))) 33 (.bool ((i14 : Int) == 2))) 36 (.bool ((i14 : Int) == 3))) 33 (.bool ((i14 : Int) == 3))) m10 (blockS 0 (thenS (fun σ m => vcS Try.prog w0 qs49 (sub c49 [1, 1, 1, 1]) σ m (retQ Try.prog Try.f49 R)) (retQ Try.prog Try.f49 R)))) (
 IntKind.i64 = IntKind.i64 ∧ (bcase ((i14 : Int) == 4) (
 vcS Try.prog w0 qs49 (sub c49 [1, 1, 1, 0, 1, 0, 1]) (upd (upd (upd (upd (upd (upd (upd (upd (upd (upd (upd (upd (upd (upd (upd (upd (upd (upd (upd (upd (upd (upd (upd (upd (upd (upd (upd (upd (upd (upd (upd (upd (upd (upd (upd (upd (upd (upd (argS [.agg #[.int .i64 x0_0, .int .i64 x0_1, .int .i64 x0_2, .int .i64 x0_3, .int .i64 x0_4], .int .i64 x1]) 2 (.pointer (some ⟨b1, 0, none⟩))) 4 (.bool false)) 8 (.agg #[.int .i64 i3, .int .i64 i4, .int .i64 i5, .int .i64 i6, .int .i64 i7])) 9 (.bool t8)) 10 (.bool (!t8))) 11 (.bool (!t8))) 12 (.int .i64 x1)) 13 (.bool (decide ((x1 : Int) < 1)))) 14 (.bool (bif !t8 then true else decide ((x1 : Int) < 1)))) 15 (.bool (bif !t8 then true else decide ((x1 : Int) < 1)))) 16 (.int .i64 x1)) 17 (.bool (decide ((x1 : Int) > 31)))) 18 (.bool (bif bif !t8 then true else decide ((x1 : Int) < 1) then true else decide ((x1 : Int) > 31)))) 19 (.pointer (some ⟨b1, 1, none⟩))) 20 (.int .i64 i11)) 21 (.int .i64 x1)) 22 (.bool ((i11 : Int) == x1))) 23 (.pointer (some ⟨b1, 2, none⟩))) 24 (.int .i64 i12)) 25 (.int .i64 x1)) 26 (.bool ((i12 : Int) == x1))) 27 (.pointer (some ⟨b1, 3, none⟩))) 28 (.int .i64 i13)) 29 (.int .i64 x1)) 30 (.bool ((i13 : Int) == x1))) 5 (.bool ((i11 : Int) == x1))) 6 (.bool ((i12 : Int) == x1))) 7 (.bool ((i13 : Int) == x1))) 31 (.pointer (some ⟨b1, 0, none⟩))) 32 (.int .i64 i14)) 34 (.bool ((i14 : Int) == 1))) 33 (.bool ((i14 : Int) == 1))) 35 (.bool ((i14 : Int) == 2))) 33 (.bool ((i14 : Int) == 2))) 36 (.bool ((i14 : Int) == 3))) 33 (.bool ((i14 : Int) == 3))) 37 (.bool ((i14 : Int) == 4))) 33 (.bool ((i14 : Int) == 4))) m10 (blockS 0 (thenS (fun σ m => vcS Try.prog w0 qs49 (sub c49 [1, 1, 1, 1]) σ m (retQ Try.prog Try.f49 R)) (retQ Try.prog Try.f49 R)))) (
 IntKind.i64 = IntKind.i64 ∧ (bcase ((i14 : Int) == 5) (
 vcS Try.prog w0 qs49 (sub c49 [1, 1, 1, 0, 1, 0, 1]) (upd (upd (upd (upd (upd (upd (upd (upd (upd (upd (upd (upd (upd (upd (upd (upd (upd (upd (upd (upd (upd (upd (upd (upd (upd (upd (upd (upd (upd (upd (upd (upd (upd (upd (upd (upd (upd (upd (upd (upd (argS [.agg #[.int .i64 x0_0, .int .i64 x0_1, .int .i64 x0_2, .int .i64 x0_3, .int .i64 x0_4], .int .i64 x1]) 2 (.pointer (some ⟨b1, 0, none⟩))) 4 (.bool false)) 8 (.agg #[.int .i64 i3, .int .i64 i4, .int .i64 i5, .int .i64 i6, .int .i64 i7])) 9 (.bool t8)) 10 (.bool (!t8))) 11 (.bool (!t8))) 12 (.int .i64 x1)) 13 (.bool (decide ((x1 : Int) < 1)))) 14 (.bool (bif !t8 then true else decide ((x1 : Int) < 1)))) 15 (.bool (bif !t8 then true else decide ((x1 : Int) < 1)))) 16 (.int .i64 x1)) 17 (.bool (decide ((x1 : Int) > 31)))) 18 (.bool (bif bif !t8 then true else decide ((x1 : Int) < 1) then true else decide ((x1 : Int) > 31)))) 19 (.pointer (some ⟨b1, 1, none⟩))) 20 (.int .i64 i11)) 21 (.int .i64 x1)) 22 (.bool ((i11 : Int) == x1))) 23 (.pointer (some ⟨b1, 2, none⟩))) 24 (.int .i64 i12)) 25 (.int .i64 x1)) 26 (.bool ((i12 : Int) == x1))) 27 (.pointer (some ⟨b1, 3, none⟩))) 28 (.int .i64 i13)) 29 (.int .i64 x1)) 30 (.bool ((i13 : Int) == x1))) 5 (.bool ((i11 : Int) == x1))) 6 (.bool ((i12 : Int) == x1))) 7 (.bool ((i13 : Int) == x1))) 31 (.pointer (some ⟨b1, 0, none⟩))) 32 (.int .i64 i14)) 34 (.bool ((i14 : Int) == 1))) 33 (.bool ((i14 : Int) == 1))) 35 (.bool ((i14 : Int) == 2))) 33 (.bool ((i14 : Int) == 2))) 36 (.bool ((i14 : Int) == 3))) 33 (.bool ((i14 : Int) == 3))) 37 (.bool ((i14 : Int) == 4))) 33 (.bool ((i14 : Int) == 4))) 38 (.bool ((i14 : Int) == 5))) 33 (.bool ((i14 : Int) == 5))) m10 (blockS 0 (thenS (fun σ m => vcS Try.prog w0 qs49 (sub c49 [1, 1, 1, 1]) σ m (retQ Try.prog Try.f49 R)) (retQ Try.prog Try.f49 R)))) (
 IntKind.i64 = IntKind.i64 ∧ (bcase ((i14 : Int) == 6) (
 vcS Try.prog w0 qs49 (sub c49 [1, 1, 1, 0, 1, 0, 1]) (upd (upd (upd (upd (upd (upd (upd (upd (upd (upd (upd (upd (upd (upd (upd (upd (upd (upd (upd (upd (upd (upd (upd (upd (upd (upd (upd (upd (upd (upd (upd (upd (upd (upd (upd (upd (upd (upd (upd (upd (upd (upd (argS [.agg #[.int .i64 x0_0, .int .i64 x0_1, .int .i64 x0_2, .int .i64 x0_3, .int .i64 x0_4], .int .i64 x1]) 2 (.pointer (some ⟨b1, 0, none⟩))) 4 (.bool false)) 8 (.agg #[.int .i64 i3, .int .i64 i4, .int .i64 i5, .int .i64 i6, .int .i64 i7])) 9 (.bool t8)) 10 (.bool (!t8))) 11 (.bool (!t8))) 12 (.int .i64 x1)) 13 (.bool (decide ((x1 : Int) < 1)))) 14 (.bool (bif !t8 then true else decide ((x1 : Int) < 1)))) 15 (.bool (bif !t8 then true else decide ((x1 : Int) < 1)))) 16 (.int .i64 x1)) 17 (.bool (decide ((x1 : Int) > 31)))) 18 (.bool (bif bif !t8 then true else decide ((x1 : Int) < 1) then true else decide ((x1 : Int) > 31)))) 19 (.pointer (some ⟨b1, 1, none⟩))) 20 (.int .i64 i11)) 21 (.int .i64 x1)) 22 (.bool ((i11 : Int) == x1))) 23 (.pointer (some ⟨b1, 2, none⟩))) 24 (.int .i64 i12)) 25 (.int .i64 x1)) 26 (.bool ((i12 : Int) == x1))) 27 (.pointer (some ⟨b1, 3, none⟩))) 28 (.int .i64 i13)) 29 (.int .i64 x1)) 30 (.bool ((i13 : Int) == x1))) 5 (.bool ((i11 : Int) == x1))) 6 (.bool ((i12 : Int) == x1))) 7 (.bool ((i13 : Int) == x1))) 31 (.pointer (some ⟨b1, 0, none⟩))) 32 (.int .i64 i14)) 34 (.bool ((i14 : Int) == 1))) 33 (.bool ((i14 : Int) == 1))) 35 (.bool ((i14 : Int) == 2))) 33 (.bool ((i14 : Int) == 2))) 36 (.bool ((i14 : Int) == 3))) 33 (.bool ((i14 : Int) == 3))) 37 (.bool ((i14 : Int) == 4))) 33 (.bool ((i14 : Int) == 4))) 38 (.bool ((i14 : Int) == 5))) 33 (.bool ((i14 : Int) == 5))) 39 (.bool ((i14 : Int) == 6))) 33 (.bool ((i14 : Int) == 6))) m10 (blockS 0 (thenS (fun σ m => vcS Try.prog w0 qs49 (sub c49 [1, 1, 1, 1]) σ m (retQ Try.prog Try.f49 R)) (retQ Try.prog Try.f49 R)))) (
 IntKind.i64 = IntKind.i64 ∧ (bcase ((i14 : Int) == 7) (
 vcS Try.prog w0 qs49 (sub c49 [1, 1, 1, 0, 1, 0, 1]) (upd (upd (upd (upd (upd (upd (upd (upd (upd (upd (upd (upd (upd (upd (upd (upd (upd (upd (upd (upd (upd (upd (upd (upd (upd (upd (upd (upd (upd (upd (upd (upd (upd (upd (upd (upd (upd (upd (upd (upd (upd (upd (upd (upd (argS [.agg #[.int .i64 x0_0, .int .i64 x0_1, .int .i64 x0_2, .int .i64 x0_3, .int .i64 x0_4], .int .i64 x1]) 2 (.pointer (some ⟨b1, 0, none⟩))) 4 (.bool false)) 8 (.agg #[.int .i64 i3, .int .i64 i4, .int .i64 i5, .int .i64 i6, .int .i64 i7])) 9 (.bool t8)) 10 (.bool (!t8))) 11 (.bool (!t8))) 12 (.int .i64 x1)) 13 (.bool (decide ((x1 : Int) < 1)))) 14 (.bool (bif !t8 then true else decide ((x1 : Int) < 1)))) 15 (.bool (bif !t8 then true else decide ((x1 : Int) < 1)))) 16 (.int .i64 x1)) 17 (.bool (decide ((x1 : Int) > 31)))) 18 (.bool (bif bif !t8 then true else decide ((x1 : Int) < 1) then true else decide ((x1 : Int) > 31)))) 19 (.pointer (some ⟨b1, 1, none⟩))) 20 (.int .i64 i11)) 21 (.int .i64 x1)) 22 (.bool ((i11 : Int) == x1))) 23 (.pointer (some ⟨b1, 2, none⟩))) 24 (.int .i64 i12)) 25 (.int .i64 x1)) 26 (.bool ((i12 : Int) == x1))) 27 (.pointer (some ⟨b1, 3, none⟩))) 28 (.int .i64 i13)) 29 (.int .i64 x1)) 30 (.bool ((i13 : Int) == x1))) 5 (.bool ((i11 : Int) == x1))) 6 (.bool ((i12 : Int) == x1))) 7 (.bool ((i13 : Int) == x1))) 31 (.pointer (some ⟨b1, 0, none⟩))) 32 (.int .i64 i14)) 34 (.bool ((i14 : Int) == 1))) 33 (.bool ((i14 : Int) == 1))) 35 (.bool ((i14 : Int) == 2))) 33 (.bool ((i14 : Int) == 2))) 36 (.bool ((i14 : Int) == 3))) 33 (.bool ((i14 : Int) == 3))) 37 (.bool ((i14 : Int) == 4))) 33 (.bool ((i14 : Int) == 4))) 38 (.bool ((i14 : Int) == 5))) 33 (.bool ((i14 : Int) == 5))) 39 (.bool ((i14 : Int) == 6))) 33 (.bool ((i14 : Int) == 6))) 40 (.bool ((i14 : Int) == 7))) 33 (.bool ((i14 : Int) == 7))) m10 (blockS 0 (thenS (fun σ m => vcS Try.prog w0 qs49 (sub c49 [1, 1, 1, 1]) σ m (retQ Try.prog Try.f49 R)) (retQ Try.prog Try.f49 R)))) (
 IntKind.i64 = IntKind.i64 ∧ (bcase ((i14 : Int) == 8) (
 vcS Try.prog w0 qs49 (sub c49 [1, 1, 1, 0, 1, 0, 1]) (upd (upd (upd (upd (upd (upd (upd (upd (upd (upd (upd (upd (upd (upd (upd (upd (upd (upd (upd (upd (upd (upd (upd (upd (upd (upd (upd (upd (upd (upd (upd (upd (upd (upd (upd (upd (upd (upd (upd (upd (upd (upd (upd (upd (upd (upd (argS [.agg #[.int .i64 x0_0, .int .i64 x0_1, .int .i64 x0_2, .int .i64 x0_3, .int .i64 x0_4], .int .i64 x1]) 2 (.pointer (some ⟨b1, 0, none⟩))) 4 (.bool false)) 8 (.agg #[.int .i64 i3, .int .i64 i4, .int .i64 i5, .int .i64 i6, .int .i64 i7])) 9 (.bool t8)) 10 (.bool (!t8))) 11 (.bool (!t8))) 12 (.int .i64 x1)) 13 (.bool (decide ((x1 : Int) < 1)))) 14 (.bool (bif !t8 then true else decide ((x1 : Int) < 1)))) 15 (.bool (bif !t8 then true else decide ((x1 : Int) < 1)))) 16 (.int .i64 x1)) 17 (.bool (decide ((x1 : Int) > 31)))) 18 (.bool (bif bif !t8 then true else decide ((x1 : Int) < 1) then true else decide ((x1 : Int) > 31)))) 19 (.pointer (some ⟨b1, 1, none⟩))) 20 (.int .i64 i11)) 21 (.int .i64 x1)) 22 (.bool ((i11 : Int) == x1))) 23 (.pointer (some ⟨b1, 2, none⟩))) 24 (.int .i64 i12)) 25 (.int .i64 x1)) 26 (.bool ((i12 : Int) == x1))) 27 (.pointer (some ⟨b1, 3, none⟩))) 28 (.int .i64 i13)) 29 (.int .i64 x1)) 30 (.bool ((i13 : Int) == x1))) 5 (.bool ((i11 : Int) == x1))) 6 (.bool ((i12 : Int) == x1))) 7 (.bool ((i13 : Int) == x1))) 31 (.pointer (some ⟨b1, 0, none⟩))) 32 (.int .i64 i14)) 34 (.bool ((i14 : Int) == 1))) 33 (.bool ((i14 : Int) == 1))) 35 (.bool ((i14 : Int) == 2))) 33 (.bool ((i14 : Int) == 2))) 36 (.bool ((i14 : Int) == 3))) 33 (.bool ((i14 : Int) == 3))) 37 (.bool ((i14 : Int) == 4))) 33 (.bool ((i14 : Int) == 4))) 38 (.bool ((i14 : Int) == 5))) 33 (.bool ((i14 : Int) == 5))) 39 (.bool ((i14 : Int) == 6))) 33 (.bool ((i14 : Int) == 6))) 40 (.bool ((i14 : Int) == 7))) 33 (.bool ((i14 : Int) == 7))) 41 (.bool ((i14 : Int) == 8))) 33 (.bool ((i14 : Int) == 8))) m10 (blockS 0 (thenS (fun σ m => vcS Try.prog w0 qs49 (sub c49 [1, 1, 1, 1]) σ m (retQ Try.prog Try.f49 R)) (retQ Try.prog Try.f49 R)))) (
 IntKind.i64 = IntKind.i64 ∧ vcS Try.prog w0 qs49 (sub c49 [1, 1, 1, 0, 1, 0, 1]) (upd (upd (upd (upd (upd (upd (upd (upd (upd (upd (upd (upd (upd (upd (upd (upd (upd (upd (upd (upd (upd (upd (upd (upd (upd (upd (upd (upd (upd (upd (upd (upd (upd (upd (upd (upd (upd (upd (upd (upd (upd (upd (upd (upd (upd (upd (upd (upd (argS [.agg #[.int .i64 x0_0, .int .i64 x0_1, .int .i64 x0_2, .int .i64 x0_3, .int .i64 x0_4], .int .i64 x1]) 2 (.pointer (some ⟨b1, 0, none⟩))) 4 (.bool false)) 8 (.agg #[.int .i64 i3, .int .i64 i4, .int .i64 i5, .int .i64 i6, .int .i64 i7])) 9 (.bool t8)) 10 (.bool (!t8))) 11 (.bool (!t8))) 12 (.int .i64 x1)) 13 (.bool (decide ((x1 : Int) < 1)))) 14 (.bool (bif !t8 then true else decide ((x1 : Int) < 1)))) 15 (.bool (bif !t8 then true else decide ((x1 : Int) < 1)))) 16 (.int .i64 x1)) 17 (.bool (decide ((x1 : Int) > 31)))) 18 (.bool (bif bif !t8 then true else decide ((x1 : Int) < 1) then true else decide ((x1 : Int) > 31)))) 19 (.pointer (some ⟨b1, 1, none⟩))) 20 (.int .i64 i11)) 21 (.int .i64 x1)) 22 (.bool ((i11 : Int) == x1))) 23 (.pointer (some ⟨b1, 2, none⟩))) 24 (.int .i64 i12)) 25 (.int .i64 x1)) 26 (.bool ((i12 : Int) == x1))) 27 (.pointer (some ⟨b1, 3, none⟩))) 28 (.int .i64 i13)) 29 (.int .i64 x1)) 30 (.bool ((i13 : Int) == x1))) 5 (.bool ((i11 : Int) == x1))) 6 (.bool ((i12 : Int) == x1))) 7 (.bool ((i13 : Int) == x1))) 31 (.pointer (some ⟨b1, 0, none⟩))) 32 (.int .i64 i14)) 34 (.bool ((i14 : Int) == 1))) 33 (.bool ((i14 : Int) == 1))) 35 (.bool ((i14 : Int) == 2))) 33 (.bool ((i14 : Int) == 2))) 36 (.bool ((i14 : Int) == 3))) 33 (.bool ((i14 : Int) == 3))) 37 (.bool ((i14 : Int) == 4))) 33 (.bool ((i14 : Int) == 4))) 38 (.bool ((i14 : Int) == 5))) 33 (.bool ((i14 : Int) == 5))) 39 (.bool ((i14 : Int) == 6))) 33 (.bool ((i14 : Int) == 6))) 40 (.bool ((i14 : Int) == 7))) 33 (.bool ((i14 : Int) == 7))) 41 (.bool ((i14 : Int) == 8))) 33 (.bool ((i14 : Int) == 8))) 42 (.bool ((i14 : Int) == 9))) 33 (.bool ((i14 : Int) == 9))) m10 (blockS 0 (thenS (fun σ m => vcS Try.prog w0 qs49 (sub c49 [1, 1, 1, 1]) σ m (retQ Try.prog Try.f49 R)) (retQ Try.prog Try.f49 R)))))))))))))))))))))))))) : CallsA Try.prog w0 49 #[.agg #[.int .i64 x0_0, .int .i64 x0_1, .int .i64 x0_2, .int .i64 x0_3, .int .i64 x0_4], .int .i64 x1] m R :=
  callsA_of (c := c49) (args := [.agg #[.int .i64 x0_0, .int .i64 x0_1, .int .i64 x0_2, .int .i64 x0_3, .int .i64 x0_4], .int .i64 x1]) (by kernel_rfl) Try.func49 (by kernel_rfl) qs49 (by kernel_rfl) (by kernel_rfl) (cast (by kernel_rfl) h)
theorem vk49_1110101 (w0 : World) (m : AM) (σ : Sg) (R : Value → AM → Prop)  (x1 : Int) (x2 : Nat) (x5 : Bool) (x6 : Bool) (x7 : Bool) (x32 : Int) (x33 : Bool) (h1 : σ 1 = .int .i64 x1) (h2 : σ 2 = .pointer (some ⟨x2, 0, none⟩)) (h5 : σ 5 = .bool x5) (h6 : σ 6 = .bool x6) (h7 : σ 7 = .bool x7) (h32 : σ 32 = .int .i64 x32) (h33 : σ 33 = .bool x33) (h :
 (bcase x33 (
 (bcase x6 (
 x6 = true ∧ RetP R (.bool true) m) (
 RetP R (.bool (bif x6 then true else x7)) m))) (
 IntKind.i64 = IntKind.i64 ∧ (bcase ((x32 : Int) == 10) (
 vcS Try.prog w0 qs49 (sub c49 [1, 1, 1, 0, 1, 0, 1, 1, 1]) (upd (upd (upd (upd (upd (upd (upd (upd (upd σ 1 (.int .i64 x1)) 2 (.pointer (some ⟨x2, 0, none⟩))) 5 (.bool x5)) 6 (.bool x6)) 7 (.bool x7)) 32 (.int .i64 x32)) 33 (.bool x33)) 48 (.bool ((x32 : Int) == 10))) 47 (.bool ((x32 : Int) == 10))) m (blockS 0 (thenS (fun σ m => vcS Try.prog w0 qs49 (sub c49 [1, 1, 1, 1]) σ m (retQ Try.prog Try.f49 R)) (retQ Try.prog Try.f49 R)))) (
 IntKind.i64 = IntKind.i64 ∧ vcS Try.prog w0 qs49 (sub c49 [1, 1, 1, 0, 1, 0, 1, 1, 1]) (upd (upd (upd (upd (upd (upd (upd (upd (upd (upd (upd σ 1 (.int .i64 x1)) 2 (.pointer (some ⟨x2, 0, none⟩))) 5 (.bool x5)) 6 (.bool x6)) 7 (.bool x7)) 32 (.int .i64 x32)) 33 (.bool x33)) 48 (.bool ((x32 : Int) == 10))) 47 (.bool ((x32 : Int) == 10))) 49 (.bool ((x32 : Int) == 12))) 47 (.bool ((x32 : Int) == 12))) m (blockS 0 (thenS (fun σ m => vcS Try.prog w0 qs49 (sub c49 [1, 1, 1, 1]) σ m (retQ Try.prog Try.f49 R)) (retQ Try.prog Try.f49 R)))))))) :
 vcS Try.prog w0 qs49 (sub c49 [1, 1, 1, 0, 1, 0, 1]) σ m (blockS 0 (thenS (fun σ m => vcS Try.prog w0 qs49 (sub c49 [1, 1, 1, 1]) σ m (retQ Try.prog Try.f49 R)) (retQ Try.prog Try.f49 R))) := by
  have es0 : (upd (upd (upd (upd (upd (upd (upd σ 1 (.int .i64 x1)) 2 (.pointer (some ⟨x2, 0, none⟩))) 5 (.bool x5)) 6 (.bool x6)) 7 (.bool x7)) 32 (.int .i64 x32)) 33 (.bool x33)) = σ := by rw [upd_id h1, upd_id h2, upd_id h5, upd_id h6, upd_id h7, upd_id h32, upd_id h33]
  exact cast (congrArg (fun s => vcS Try.prog w0 qs49 (sub c49 [1, 1, 1, 0, 1, 0, 1]) s m (blockS 0 (thenS (fun σ m => vcS Try.prog w0 qs49 (sub c49 [1, 1, 1, 1]) σ m (retQ Try.prog Try.f49 R)) (retQ Try.prog Try.f49 R)))) es0) (cast (by kernel_rfl) h)
theorem vk49_111010111 (w0 : World) (m : AM) (σ : Sg) (R : Value → AM → Prop)  (x1 : Int) (x2 : Nat) (x5 : Bool) (x6 : Bool) (x32 : Int) (x47 : Bool) (h1 : σ 1 = .int .i64 x1) (h2 : σ 2 = .pointer (some ⟨x2, 0, none⟩)) (h5 : σ 5 = .bool x5) (h6 : σ 6 = .bool x6) (h32 : σ 32 = .int .i64 x32) (h47 : σ 47 = .bool x47) (h :
 (bcase x47 (
 RetP R (.bool x6) m) (
 IntKind.i64 = IntKind.i64 ∧ (bcase ((x32 : Int) == 13) (
 (bcase ((x32 : Int) == 13) (
 (bcase x5 (
 x5 = true ∧ RetP R (.bool true) m) (
 RetP R (.bool (bif x5 then true else x6)) m))) (
 IntKind.i64 = IntKind.i64 ∧ (bcase ((x32 : Int) == 14) (
 (bcase ((x32 : Int) == 14) (
 RetP R (.bool x5) m) (
 IntKind.i64 = IntKind.i64 ∧ (bcase ((x32 : Int) == 20) (
 ∃ i15 : Int, m.cell ⟨x2, 4, none⟩ = some (.int .i64 i15) ∧ 
 IntKind.i64 = IntKind.i64 ∧ (bcase ((i15 : Int) == 2) (
 IntKind.i64 = IntKind.i64 ∧ RetP R (.bool (bif (i15 : Int) == 2 then (x1 : Int) == 4 else false)) m) (
 ((i15 : Int) == 2) = false ∧ RetP R (.bool false) m))) (
 RetP R (.bool false) m))))) (
 IntKind.i64 = IntKind.i64 ∧ (bcase ((x32 : Int) == 19) (
 RetP R (.bool x5) m) (
 IntKind.i64 = IntKind.i64 ∧ (bcase ((x32 : Int) == 20) (
 ∃ i16 : Int, m.cell ⟨x2, 4, none⟩ = some (.int .i64 i16) ∧ 
 IntKind.i64 = IntKind.i64 ∧ (bcase ((i16 : Int) == 2) (
 IntKind.i64 = IntKind.i64 ∧ RetP R (.bool (bif (i16 : Int) == 2 then (x1 : Int) == 4 else false)) m) (
 ((i16 : Int) == 2) = false ∧ RetP R (.bool false) m))) (
 RetP R (.bool false) m))))))))) (
 IntKind.i64 = IntKind.i64 ∧ (bcase ((x32 : Int) == 15) (
 (bcase ((x32 : Int) == 15) (
 (bcase x5 (
 x5 = true ∧ RetP R (.bool true) m) (
 RetP R (.bool (bif x5 then true else x6)) m))) (
 IntKind.i64 = IntKind.i64 ∧ (bcase ((x32 : Int) == 14) (
 (bcase ((x32 : Int) == 14) (
 RetP R (.bool x5) m) (
 IntKind.i64 = IntKind.i64 ∧ (bcase ((x32 : Int) == 20) (
 ∃ i17 : Int, m.cell ⟨x2, 4, none⟩ = some (.int .i64 i17) ∧ 
 IntKind.i64 = IntKind.i64 ∧ (bcase ((i17 : Int) == 2) (
 IntKind.i64 = IntKind.i64 ∧ RetP R (.bool (bif (i17 : Int) == 2 then (x1 : Int) == 4 else false)) m) (
 ((i17 : Int) == 2) = false ∧ RetP R (.bool false) m))) (
 RetP R (.bool false) m))))) (
 IntKind.i64 = IntKind.i64 ∧ (bcase ((x32 : Int) == 19) (
 RetP R (.bool x5) m) (
 IntKind.i64 = IntKind.i64 ∧ (bcase ((x32 : Int) == 20) (
 ∃ i18 : Int, m.cell ⟨x2, 4, none⟩ = some (.int .i64 i18) ∧ 
 IntKind.i64 = IntKind.i64 ∧ (bcase ((i18 : Int) == 2) (
 IntKind.i64 = IntKind.i64 ∧ RetP R (.bool (bif (i18 : Int) == 2 then (x1 : Int) == 4 else false)) m) (
 ((i18 : Int) == 2) = false ∧ RetP R (.bool false) m))) (
 RetP R (.bool false) m))))))))) (
 IntKind.i64 = IntKind.i64 ∧ (bcase ((x32 : Int) == 16) (
 (bcase x5 (
 x5 = true ∧ RetP R (.bool true) m) (
 RetP R (.bool (bif x5 then true else x6)) m))) (
 IntKind.i64 = IntKind.i64 ∧ (bcase ((x32 : Int) == 14) (
 (bcase ((x32 : Int) == 14) (
 RetP R (.bool x5) m) (
 IntKind.i64 = IntKind.i64 ∧ (bcase ((x32 : Int) == 20) (
 ∃ i19 : Int, m.cell ⟨x2, 4, none⟩ = some (.int .i64 i19) ∧ 
 IntKind.i64 = IntKind.i64 ∧ (bcase ((i19 : Int) == 2) (
 IntKind.i64 = IntKind.i64 ∧ RetP R (.bool (bif (i19 : Int) == 2 then (x1 : Int) == 4 else false)) m) (
 ((i19 : Int) == 2) = false ∧ RetP R (.bool false) m))) (
 RetP R (.bool false) m))))) (
 IntKind.i64 = IntKind.i64 ∧ (bcase ((x32 : Int) == 19) (
 RetP R (.bool x5) m) (
 IntKind.i64 = IntKind.i64 ∧ (bcase ((x32 : Int) == 20) (
 ∃ i20 : Int, m.cell ⟨x2, 4, none⟩ = some (.int .i64 i20) ∧ 
 IntKind.i64 = IntKind.i64 ∧ (bcase ((i20 : Int) == 2) (
 IntKind.i64 = IntKind.i64 ∧ RetP R (.bool (bif (i20 : Int) == 2 then (x1 : Int) == 4 else false)) m) (
 ((i20 : Int) == 2) = false ∧ RetP R (.bool false) m))) (
 RetP R (.bool false) m))))))))))))))) :
 vcS Try.prog w0 qs49 (sub c49 [1, 1, 1, 0, 1, 0, 1, 1, 1]) σ m (blockS 0 (thenS (fun σ m => vcS Try.prog w0 qs49 (sub c49 [1, 1, 1, 1]) σ m (retQ Try.prog Try.f49 R)) (retQ Try.prog Try.f49 R))) := by
  have es0 : (upd (upd (upd (upd (upd (upd σ 1 (.int .i64 x1)) 2 (.pointer (some ⟨x2, 0, none⟩))) 5 (.bool x5)) 6 (.bool x6)) 32 (.int .i64 x32)) 47 (.bool x47)) = σ := by rw [upd_id h1, upd_id h2, upd_id h5, upd_id h6, upd_id h32, upd_id h47]
  exact cast (congrArg (fun s => vcS Try.prog w0 qs49 (sub c49 [1, 1, 1, 0, 1, 0, 1, 1, 1]) s m (blockS 0 (thenS (fun σ m => vcS Try.prog w0 qs49 (sub c49 [1, 1, 1, 1]) σ m (retQ Try.prog Try.f49 R)) (retQ Try.prog Try.f49 R)))) es0) (cast (by kernel_rfl) h)

/-! 50 delayslot/delayslotref03.Writes -/
def qs50 : Nat → List (Nat × Nat) := fun i => match i with | _ => []
noncomputable def c50 : Code := bodyOf Try.f50
theorem cf50 (w0 : World) (m : AM) (x0_0 : Int) (x0_1 : Int) (x0_2 : Int) (x0_3 : Int) (x0_4 : Int) (R : Value → AM → Prop) (h :
 ∀ b1 : Nat, w0.heap.size ≤ b1 → m b1 = none → let m2 := AM.upd m b1 (.cells #[.int .i64 x0_0, .int .i64 x0_1, .int .i64 x0_2, .int .i64 x0_3, .int .i64 x0_4] 24);
 ∃ i3 : Int, m2.cell ⟨b1, 0, none⟩ = some (.int .i64 i3) ∧ ∃ i4 : Int, m2.cell ⟨b1, 1, none⟩ = some (.int .i64 i4) ∧ ∃ i5 : Int, m2.cell ⟨b1, 2, none⟩ = some (.int .i64 i5) ∧ ∃ i6 : Int, m2.cell ⟨b1, 3, none⟩ = some (.int .i64 i6) ∧ ∃ i7 : Int, m2.cell ⟨b1, 4, none⟩ = some (.int .i64 i7) ∧ 
 CallsA Try.prog w0 31 #[.agg #[.int .i64 i3, .int .i64 i4, .int .i64 i5, .int .i64 i6, .int .i64 i7]] m2 fun r9 m10 =>
 ∃ t8 : Bool, r9 = .bool t8 ∧ (bcase (!t8) (
 RetP R (.int .i64 0) m10) (
 ∃ i11 : Int, m10.cell ⟨b1, 0, none⟩ = some (.int .i64 i11) ∧ 
 IntKind.i64 = IntKind.i64 ∧ (bcase (decide ((i11 : Int) > 0)) (
 ∃ i12 : Int, m10.cell ⟨b1, 0, none⟩ = some (.int .i64 i12) ∧ 
 IntKind.i64 = IntKind.i64 ∧ (bcase (bif decide ((i11 : Int) > 0) then decide ((i12 : Int) < 13) else false) (
 ∃ i13 : Int, m10.cell ⟨b1, 1, none⟩ = some (.int .i64 i13) ∧ 
 RetP R (.int .i64 i13) m10) (
 ∃ i14 : Int, m10.cell ⟨b1, 0, none⟩ = some (.int .i64 i14) ∧ 
 IntKind.i64 = IntKind.i64 ∧ (bcase ((i14 : Int) == 18) (
 RetP R (.int .i64 31) m10) (
 ∃ i15 : Int, m10.cell ⟨b1, 0, none⟩ = some (.int .i64 i15) ∧ 
 IntKind.i64 = IntKind.i64 ∧ (bcase ((i15 : Int) == 20) (
 ∃ i16 : Int, m10.cell ⟨b1, 4, none⟩ = some (.int .i64 i16) ∧ 
 IntKind.i64 = IntKind.i64 ∧ (bcase (bif (i15 : Int) == 20 then (i16 : Int) == 1 else false) (
 RetP R (.int .i64 4) m10) (
 RetP R (.int .i64 0) m10))) (
 ((i15 : Int) == 20) = false ∧ RetP R (.int .i64 0) m10))))))) (
 (decide ((i11 : Int) > 0)) = false ∧ ∃ i17 : Int, m10.cell ⟨b1, 0, none⟩ = some (.int .i64 i17) ∧ 
 IntKind.i64 = IntKind.i64 ∧ (bcase ((i17 : Int) == 18) (
 RetP R (.int .i64 31) m10) (
 ∃ i18 : Int, m10.cell ⟨b1, 0, none⟩ = some (.int .i64 i18) ∧ 
 IntKind.i64 = IntKind.i64 ∧ (bcase ((i18 : Int) == 20) (
 ∃ i19 : Int, m10.cell ⟨b1, 4, none⟩ = some (.int .i64 i19) ∧ 
 IntKind.i64 = IntKind.i64 ∧ (bcase (bif (i18 : Int) == 20 then (i19 : Int) == 1 else false) (
 RetP R (.int .i64 4) m10) (
 RetP R (.int .i64 0) m10))) (
 ((i18 : Int) == 20) = false ∧ RetP R (.int .i64 0) m10))))))))) : CallsA Try.prog w0 50 #[.agg #[.int .i64 x0_0, .int .i64 x0_1, .int .i64 x0_2, .int .i64 x0_3, .int .i64 x0_4]] m R :=
  callsA_of (c := c50) (args := [.agg #[.int .i64 x0_0, .int .i64 x0_1, .int .i64 x0_2, .int .i64 x0_3, .int .i64 x0_4]]) (by kernel_rfl) Try.func50 (by kernel_rfl) qs50 (by kernel_rfl) (by kernel_rfl) (cast (by kernel_rfl) h)

/-! 72 delayslot/delayslotref03.Acts -/
def qs72 : Nat → List (Nat × Nat) := fun i => match i with | _ => []
noncomputable def c72 : Code := bodyOf Try.f72
theorem cf72 (w0 : World) (m : AM) (x0_0 : Int) (x0_1 : Int) (x0_2 : Int) (x0_3 : Int) (x0_4 : Int) (R : Value → AM → Prop) (h :
 ∀ b1 : Nat, w0.heap.size ≤ b1 → m b1 = none → let m2 := AM.upd m b1 (.cells #[.int .i64 x0_0, .int .i64 x0_1, .int .i64 x0_2, .int .i64 x0_3, .int .i64 x0_4] 24);
 ∃ i3 : Int, m2.cell ⟨b1, 0, none⟩ = some (.int .i64 i3) ∧ 
 ∃ i4 : Int, m2.cell ⟨b1, 0, none⟩ = some (.int .i64 i4) ∧ ∃ i5 : Int, m2.cell ⟨b1, 1, none⟩ = some (.int .i64 i5) ∧ ∃ i6 : Int, m2.cell ⟨b1, 2, none⟩ = some (.int .i64 i6) ∧ ∃ i7 : Int, m2.cell ⟨b1, 3, none⟩ = some (.int .i64 i7) ∧ ∃ i8 : Int, m2.cell ⟨b1, 4, none⟩ = some (.int .i64 i8) ∧ 
 CallsA Try.prog w0 31 #[.agg #[.int .i64 i4, .int .i64 i5, .int .i64 i6, .int .i64 i7, .int .i64 i8]] m2 fun r10 m11 =>
 ∃ t9 : Bool, r10 = .bool t9 ∧ (bcase t9 (
 IntKind.i64 = IntKind.i64 ∧ (bcase ((i3 : Int) == 4) (
 ((i3 : Int) == 4) = true ∧ true = true ∧ true = true ∧ true = true ∧ true = true ∧ RetP R (.bool (bif t9 then true else false)) m11) (
 IntKind.i64 = IntKind.i64 ∧ (bcase (bif (i3 : Int) == 4 then true else (i3 : Int) == 5) (
 (bif (i3 : Int) == 4 then true else (i3 : Int) == 5) = true ∧ true = true ∧ true = true ∧ true = true ∧ RetP R (.bool (bif t9 then true else false)) m11) (
 IntKind.i64 = IntKind.i64 ∧ (bcase (bif bif (i3 : Int) == 4 then true else (i3 : Int) == 5 then true else (i3 : Int) == 12) (
 (bif bif (i3 : Int) == 4 then true else (i3 : Int) == 5 then true else (i3 : Int) == 12) = true ∧ true = true ∧ true = true ∧ RetP R (.bool (bif t9 then true else false)) m11) (
 IntKind.i64 = IntKind.i64 ∧ (bcase (bif bif bif (i3 : Int) == 4 then true else (i3 : Int) == 5 then true else (i3 : Int) == 12 then true else (i3 : Int) == 13) (
 (bif bif bif (i3 : Int) == 4 then true else (i3 : Int) == 5 then true else (i3 : Int) == 12 then true else (i3 : Int) == 13) = true ∧ true = true ∧ RetP R (.bool (bif t9 then true else false)) m11) (
 IntKind.i64 = IntKind.i64 ∧ (bcase (bif bif bif bif (i3 : Int) == 4 then true else (i3 : Int) == 5 then true else (i3 : Int) == 12 then true else (i3 : Int) == 13 then true else (i3 : Int) == 14) (
 (bif bif bif bif (i3 : Int) == 4 then true else (i3 : Int) == 5 then true else (i3 : Int) == 12 then true else (i3 : Int) == 13 then true else (i3 : Int) == 14) = true ∧ RetP R (.bool (bif t9 then true else false)) m11) (
 IntKind.i64 = IntKind.i64 ∧ RetP R (.bool (bif t9 then bif bif bif bif bif (i3 : Int) == 4 then true else (i3 : Int) == 5 then true else (i3 : Int) == 12 then true else (i3 : Int) == 13 then true else (i3 : Int) == 14 then true else (i3 : Int) == 20 else false)) m11))))))))))) (
 t9 = false ∧ RetP R (.bool false) m11))) : CallsA Try.prog w0 72 #[.agg #[.int .i64 x0_0, .int .i64 x0_1, .int .i64 x0_2, .int .i64 x0_3, .int .i64 x0_4]] m R :=
  callsA_of (c := c72) (args := [.agg #[.int .i64 x0_0, .int .i64 x0_1, .int .i64 x0_2, .int .i64 x0_3, .int .i64 x0_4]]) (by kernel_rfl) Try.func72 (by kernel_rfl) qs72 (by kernel_rfl) (by kernel_rfl) (cast (by kernel_rfl) h)

/-! 30 delayslot/delayslotref03.Goes -/
def qs30 : Nat → List (Nat × Nat) := fun i => match i with | _ => []
noncomputable def c30 : Code := bodyOf Try.f30
theorem cf30 (w0 : World) (m : AM) (x0_0 : Int) (x0_1 : Int) (x0_2 : Int) (x0_3 : Int) (x0_4 : Int) (R : Value → AM → Prop) (h :
 ∀ b1 : Nat, w0.heap.size ≤ b1 → m b1 = none → let m2 := AM.upd m b1 (.cells #[.int .i64 x0_0, .int .i64 x0_1, .int .i64 x0_2, .int .i64 x0_3, .int .i64 x0_4] 24);
 ∃ i3 : Int, m2.cell ⟨b1, 0, none⟩ = some (.int .i64 i3) ∧ ∃ i4 : Int, m2.cell ⟨b1, 1, none⟩ = some (.int .i64 i4) ∧ ∃ i5 : Int, m2.cell ⟨b1, 2, none⟩ = some (.int .i64 i5) ∧ ∃ i6 : Int, m2.cell ⟨b1, 3, none⟩ = some (.int .i64 i6) ∧ ∃ i7 : Int, m2.cell ⟨b1, 4, none⟩ = some (.int .i64 i7) ∧ 
 CallsA Try.prog w0 31 #[.agg #[.int .i64 i3, .int .i64 i4, .int .i64 i5, .int .i64 i6, .int .i64 i7]] m2 fun r9 m10 =>
 ∃ t8 : Bool, r9 = .bool t8 ∧ (bcase t8 (
 ∃ i11 : Int, m10.cell ⟨b1, 0, none⟩ = some (.int .i64 i11) ∧ 
 IntKind.i64 = IntKind.i64 ∧ (bcase (bif t8 then decide ((i11 : Int) > 14) else false) (
 ∃ i12 : Int, m10.cell ⟨b1, 0, none⟩ = some (.int .i64 i12) ∧ 
 IntKind.i64 = IntKind.i64 ∧ RetP R (.bool (bif bif t8 then decide ((i11 : Int) > 14) else false then decide ((i12 : Int) < 20) else false)) m10) (
 (bif t8 then decide ((i11 : Int) > 14) else false) = false ∧ RetP R (.bool false) m10))) (
 t8 = false ∧ false = false ∧ RetP R (.bool false) m10))) : CallsA Try.prog w0 30 #[.agg #[.int .i64 x0_0, .int .i64 x0_1, .int .i64 x0_2, .int .i64 x0_3, .int .i64 x0_4]] m R :=
  callsA_of (c := c30) (args := [.agg #[.int .i64 x0_0, .int .i64 x0_1, .int .i64 x0_2, .int .i64 x0_3, .int .i64 x0_4]]) (by kernel_rfl) Try.func30 (by kernel_rfl) qs30 (by kernel_rfl) (by kernel_rfl) (cast (by kernel_rfl) h)

/-! 40 delayslot/delayslotref03.Late -/
def qs40 : Nat → List (Nat × Nat) := fun i => match i with | _ => []
noncomputable def c40 : Code := bodyOf Try.f40
theorem cf40 (w0 : World) (m : AM) (x0_0 : Int) (x0_1 : Int) (x0_2 : Int) (x0_3 : Int) (x0_4 : Int) (R : Value → AM → Prop) (h :
 ∀ b1 : Nat, w0.heap.size ≤ b1 → m b1 = none → let m2 := AM.upd m b1 (.cells #[.int .i64 x0_0, .int .i64 x0_1, .int .i64 x0_2, .int .i64 x0_3, .int .i64 x0_4] 24);
 ∃ i3 : Int, m2.cell ⟨b1, 0, none⟩ = some (.int .i64 i3) ∧ ∃ i4 : Int, m2.cell ⟨b1, 1, none⟩ = some (.int .i64 i4) ∧ ∃ i5 : Int, m2.cell ⟨b1, 2, none⟩ = some (.int .i64 i5) ∧ ∃ i6 : Int, m2.cell ⟨b1, 3, none⟩ = some (.int .i64 i6) ∧ ∃ i7 : Int, m2.cell ⟨b1, 4, none⟩ = some (.int .i64 i7) ∧ 
 CallsA Try.prog w0 31 #[.agg #[.int .i64 i3, .int .i64 i4, .int .i64 i5, .int .i64 i6, .int .i64 i7]] m2 fun r9 m10 =>
 ∃ t8 : Bool, r9 = .bool t8 ∧ (bcase t8 (
 ∃ i11 : Int, m10.cell ⟨b1, 0, none⟩ = some (.int .i64 i11) ∧ 
 IntKind.i64 = IntKind.i64 ∧ (bcase ((i11 : Int) == 12) (
 ((i11 : Int) == 12) = true ∧ RetP R (.bool (bif t8 then true else false)) m10) (
 ∃ i12 : Int, m10.cell ⟨b1, 0, none⟩ = some (.int .i64 i12) ∧ 
 IntKind.i64 = IntKind.i64 ∧ (bcase ((i12 : Int) == 20) (
 ∃ i13 : Int, m10.cell ⟨b1, 4, none⟩ = some (.int .i64 i13) ∧ 
 IntKind.i64 = IntKind.i64 ∧ RetP R (.bool (bif t8 then bif (i11 : Int) == 12 then true else bif (i12 : Int) == 20 then (i13 : Int) == 1 else false else false)) m10) (
 ((i12 : Int) == 20) = false ∧ RetP R (.bool (bif t8 then bif (i11 : Int) == 12 then true else false else false)) m10))))) (
 t8 = false ∧ RetP R (.bool false) m10))) : CallsA Try.prog w0 40 #[.agg #[.int .i64 x0_0, .int .i64 x0_1, .int .i64 x0_2, .int .i64 x0_3, .int .i64 x0_4]] m R :=
  callsA_of (c := c40) (args := [.agg #[.int .i64 x0_0, .int .i64 x0_1, .int .i64 x0_2, .int .i64 x0_3, .int .i64 x0_4]]) (by kernel_rfl) Try.func40 (by kernel_rfl) qs40 (by kernel_rfl) (by kernel_rfl) (cast (by kernel_rfl) h)
end Go.Proofs.Ytkfemiloehkmhaa.V

