/- YtkfemiloehkmhaaGreat: a text of our own, by an AI agent: VLaw13aY -/
import Derived.Test.YtkfemiloehkmhaaGreatCoreA
import Derived.Test.YtkfemiloehkmhaaGreatTabY
namespace Go.Proofs.YtkfemiloehkmhaaGreat.V
open Go Go.Alog Go.Proofs.YtkfemiloehkmhaaGreat.T
set_option linter.unusedVariables false
set_option maxRecDepth 100000

def qs5:Nat→List (Nat × Nat):=fun i=>match i with | _=>[]
noncomputable def c5:Code:=bodyOf Tryz.f5
theorem cf5 (w0:World) (m:AM)  (R:Value→AM→Prop) (h :
 true=true∧true=true∧true=true∧∀ b1:Nat,w0.heap.size≤b1→m b1=none→let m2:=AM.upd m b1 (.cells #[.int .i64 10,.int .i64 4,.int .i64 0,.int .i64 0,.int .i64 7,.int .i64 17,.int .i64 0,.int .i64 0,.int .i64 0,.int .i64 2] 36);
 CallsA Tryz.prog w0 6 #[.slice (some ⟨b1,0,none⟩) 2 2] m2 fun r10 m11 =>
 ∃ (A3:Option Addr) (n4 c5:Nat),∃ (A6:Option Addr) (n7 c8:Nat),∃ i9:Int,r10=.tuple #[.slice A3 n4 c5,.slice A6 n7 c8,.int .i64 i9]∧KI_∧(bcase ((i9:Int) == 0) (
 KI_∧(bcase (bif (i9:Int) == 0 then (((n4:Nat):Int):Int) == 2 else false) (
 ((0:Int)≤0∧0<((n4:Nat):Int))∧nilO A3 fun a15 =>
 LA_ m11 (a15.add (0)) fun i16=>LA_ m11 ((a15.add (0)).add 1) fun i17=>LA_ m11 ((a15.add (0)).add 2) fun i18=>LA_ m11 ((a15.add (0)).add 3) fun i19=>LA_ m11 ((a15.add (0)).add 4) fun i20 => 
 true=true∧∃ t21:Bool,EqP Tryz.prog .eql 36 (.agg #[.int .i64 i16,.int .i64 i17,.int .i64 i18,.int .i64 i19,.int .i64 i20]) (.agg #[.int .i64 17,.int .i64 0,.int .i64 0,.int .i64 0,.int .i64 2]) t21∧(bcase (bif bif (i9:Int) == 0 then (((n4:Nat):Int):Int) == 2 else false then t21 else false) (
 ((0:Int)≤1∧1<((n4:Nat):Int))∧nilO A3 fun a22 =>
 LA_ m11 ((a22.add (5)).add 4) fun i23 => 
 KI_∧(bcase (bif bif bif (i9:Int) == 0 then (((n4:Nat):Int):Int) == 2 else false then t21 else false then (i23:Int) == 7 else false) (
 true=true∧∀ b24:Nat,w0.heap.size≤b24→m11 b24=none→let m25:=AM.upd m11 b24 (.cells #[.int .i64 0,.int .i64 2] 3);
 CallsA Tryz.prog w0 13 #[.slice A6 n7 c8,.slice (some ⟨b24,0,none⟩) 2 2] m25 fun r27 m28 =>
 ∃ t26:Bool,r27=.bool t26∧RetP R (.bool (bif bif bif bif (i9:Int) == 0 then (((n4:Nat):Int):Int) == 2 else false then t21 else false then (i23:Int) == 7 else false then t26 else false)) m28) (
 (bif bif bif (i9:Int) == 0 then (((n4:Nat):Int):Int) == 2 else false then t21 else false then (i23:Int) == 7 else false)=false∧RetP R (.bool false) m11))) (
 (bif bif (i9:Int) == 0 then (((n4:Nat):Int):Int) == 2 else false then t21 else false)=false∧false=false∧RetP R (.bool false) m11))) (
 (bif (i9:Int) == 0 then (((n4:Nat):Int):Int) == 2 else false)=false∧false=false∧false=false∧RetP R (.bool false) m11))) (
 ((i9:Int) == 0)=false∧false=false∧false=false∧false=false∧RetP R (.bool false) m11))):CallsA Tryz.prog w0 5 #[] m R :=
  callsA_of (c:=c5) (args:=[]) (by kernel_rfl) Tryz.func5 (by kernel_rfl) qs5 (by kernel_rfl) (by kernel_rfl) (cast (by kernel_rfl) h)
end Go.Proofs.YtkfemiloehkmhaaGreat.V

