/- YtkfemiloehkmhaaGreat: a text of our own, by an AI agent: VLaw13rY -/
import Derived.Test.YtkfemiloehkmhaaGreatCoreA
import Derived.Test.YtkfemiloehkmhaaGreatTabY
namespace Go.Proofs.YtkfemiloehkmhaaGreat.V
open Go Go.Alog Go.Proofs.YtkfemiloehkmhaaGreat.T
set_option linter.unusedVariables false
set_option maxRecDepth 100000

def qs3:Nat→List (Nat × Nat):=fun i=>match i with | _=>[]
noncomputable def c3:Code:=bodyOf Tryz.f3
theorem cf3 (w0:World) (m:AM) (x0:Option Addr) (x0n x0c:Nat) (x1:Int) (x2:Option Addr) (x2n x2c:Nat) (x3:Int) (R:Value→AM→Prop) (h :
 KI_∧(bcase (decide ((((x0n:Nat):Int):Int)>60)) (
 (decide ((((x0n:Nat):Int):Int)>60))=true∧true=true∧true=true∧true=true∧true=true∧CallsA Tryz.prog w0 5 #[] m fun r2 m3 =>
 ∃ t1:Bool,r2=.bool t1∧RetP R (.bool t1) m3) (
 CallsA Tryz.prog w0 4 #[.slice x0 x0n x0c] m fun r5 m6 =>
 ∃ t4:Bool,r5=.bool t4∧(bcase (bif decide ((((x0n:Nat):Int):Int)>60) then true else !t4) (
 (bif decide ((((x0n:Nat):Int):Int)>60) then true else !t4)=true∧true=true∧true=true∧true=true∧CallsA Tryz.prog w0 5 #[] m6 fun r8 m9 =>
 ∃ t7:Bool,r8=.bool t7∧RetP R (.bool t7) m9) (
 KI_∧(bcase (bif bif decide ((((x0n:Nat):Int):Int)>60) then true else !t4 then true else decide ((x1:Int)<0)) (
 (bif bif decide ((((x0n:Nat):Int):Int)>60) then true else !t4 then true else decide ((x1:Int)<0))=true∧true=true∧true=true∧CallsA Tryz.prog w0 5 #[] m6 fun r11 m12 =>
 ∃ t10:Bool,r11=.bool t10∧RetP R (.bool t10) m12) (
 KI_∧(bcase (bif bif bif decide ((((x0n:Nat):Int):Int)>60) then true else !t4 then true else decide ((x1:Int)<0) then true else decide ((x1:Int)>300)) (
 (bif bif bif decide ((((x0n:Nat):Int):Int)>60) then true else !t4 then true else decide ((x1:Int)<0) then true else decide ((x1:Int)>300))=true∧true=true∧CallsA Tryz.prog w0 5 #[] m6 fun r14 m15 =>
 ∃ t13:Bool,r14=.bool t13∧RetP R (.bool t13) m15) (
 KI_∧(bcase (bif bif bif bif decide ((((x0n:Nat):Int):Int)>60) then true else !t4 then true else decide ((x1:Int)<0) then true else decide ((x1:Int)>300) then true else decide ((((x2n:Nat):Int):Int)>100)) (
 (bif bif bif bif decide ((((x0n:Nat):Int):Int)>60) then true else !t4 then true else decide ((x1:Int)<0) then true else decide ((x1:Int)>300) then true else decide ((((x2n:Nat):Int):Int)>100))=true∧CallsA Tryz.prog w0 5 #[] m6 fun r17 m18 =>
 ∃ t16:Bool,r17=.bool t16∧RetP R (.bool t16) m18) (
 KI_∧(bcase (bif bif bif bif bif decide ((((x0n:Nat):Int):Int)>60) then true else !t4 then true else decide ((x1:Int)<0) then true else decide ((x1:Int)>300) then true else decide ((((x2n:Nat):Int):Int)>100) then true else decide ((x3:Int)>300)) (
 CallsA Tryz.prog w0 5 #[] m6 fun r20 m21 =>
 ∃ t19:Bool,r20=.bool t19∧RetP R (.bool t19) m21) (
 CallsA Tryz.prog w0 6 #[.slice x0 x0n x0c] m6 fun r29 m30 =>
 ∃ (A22:Option Addr) (n23 c24:Nat),∃ (A25:Option Addr) (n26 c27:Nat),∃ i28:Int,r29=.tuple #[.slice A22 n23 c24,.slice A25 n26 c27,.int .i64 i28]∧CallsA Tryz.prog w0 7 #[.slice x0 x0n x0c,.int .i64 x1,.slice x2 x2n x2c,.int .i64 x3] m30 fun r42 m43 =>
 ∃ i34:Int,∃ i35:Int,∃ (A36:Option Addr) (n37 c38:Nat),∃ (A39:Option Addr) (n40 c41:Nat),r42=.agg #[.int .i64 i34,.int .i64 i35,.slice A36 n37 c38,.slice A39 n40 c41]∧∀ b44:Nat,w0.heap.size≤b44→m43 b44=none→let m45:=AM.upd m43 b44 (.cells #[.int .i64 0,.int .i64 0,.slice none 0 0,.slice none 0 0] 30);
 SI_ w0.heap.size m45 b44 0 i34 fun m46 =>
 SI_ w0.heap.size m46 b44 1 i35 fun m47 =>
 StC w0.heap.size m47 ⟨b44,2,none⟩ (.slice A36 n37 c38) fun m48 =>
 StC w0.heap.size m48 ⟨b44,3,none⟩ (.slice A39 n40 c41) fun m49 =>
 KI_∧(bcase ((i28:Int) != 0) (
 ((i28:Int) != 0)=true∧CallsA Tryz.prog w0 5 #[] m49 fun r51 m52 =>
 ∃ t50:Bool,r51=.bool t50∧RetP R (.bool t50) m52) (
 LI_ m49 b44 0 fun i53 => 
 KI_∧(bcase (bif (i28:Int) != 0 then true else (i53:Int) == 0) (
 CallsA Tryz.prog w0 5 #[] m49 fun r55 m56 =>
 ∃ t54:Bool,r55=.bool t54∧RetP R (.bool t54) m56) (
 LI_ m49 b44 1 fun i57 => 
 KI_∧KI_∧KI_∧KI_∧CallsA Tryz.prog w0 8 #[.slice A22 n23 c24,.int .i64 x1,.slice x2 x2n x2c,.int .i64 (IntKind.wrap .i64 ((IntKind.wrap .i64 ((IntKind.wrap .i64 (3*i57))+(IntKind.wrap .i64 (2*((x0n:Nat):Int)))))+10))] m49 fun r66 m67 =>
 ∃ i58:Int,∃ i59:Int,∃ (A60:Option Addr) (n61 c62:Nat),∃ (A63:Option Addr) (n64 c65:Nat),r66=.agg #[.int .i64 i58,.int .i64 i59,.slice A60 n61 c62,.slice A63 n64 c65]∧∀ b68:Nat,w0.heap.size≤b68→m67 b68=none→let m69:=AM.upd m67 b68 (.cells #[.int .i64 0,.int .i64 0,.slice none 0 0,.slice none 0 0] 30);
 SI_ w0.heap.size m69 b68 0 i58 fun m70 =>
 SI_ w0.heap.size m70 b68 1 i59 fun m71 =>
 StC w0.heap.size m71 ⟨b68,2,none⟩ (.slice A60 n61 c62) fun m72 =>
 StC w0.heap.size m72 ⟨b68,3,none⟩ (.slice A63 n64 c65) fun m73 =>
 LI_ m73 b68 1 fun i74 => 
 SI_ w0.heap.size m73 b44 1 i74 fun m75 =>
 LI_ m75 b44 0 fun i76=>LI_ m75 b44 1 fun i77=>∃ (A78:Option Addr) (n79 c80:Nat),m75.cell ⟨b44,2,none⟩=some (.slice A78 n79 c80)∧∃ (A81:Option Addr) (n82 c83:Nat),m75.cell ⟨b44,3,none⟩=some (.slice A81 n82 c83) ∧ 
 LI_ m75 b68 0 fun i84=>LI_ m75 b68 1 fun i85=>∃ (A86:Option Addr) (n87 c88:Nat),m75.cell ⟨b68,2,none⟩=some (.slice A86 n87 c88)∧∃ (A89:Option Addr) (n90 c91:Nat),m75.cell ⟨b68,3,none⟩=some (.slice A89 n90 c91) ∧ 
 CallsA Tryz.prog w0 9 #[.agg #[.int .i64 i76,.int .i64 i77,.slice A78 n79 c80,.slice A81 n82 c83],.agg #[.int .i64 i84,.int .i64 i85,.slice A86 n87 c88,.slice A89 n90 c91]] m75 fun r93 m94 =>
 ∃ t92:Bool,r93=.bool t92∧(bcase t92 (
 CallsA Tryz.prog w0 5 #[] m94 fun r96 m97 =>
 ∃ t95:Bool,r96=.bool t95∧RetP R (.bool (bif t92 then t95 else false)) m97) (
 t92=false∧RetP R (.bool false) m94))))))))))))))))))):CallsA Tryz.prog w0 3 #[.slice x0 x0n x0c,.int .i64 x1,.slice x2 x2n x2c,.int .i64 x3] m R :=
  callsA_of (c:=c3) (args:=[.slice x0 x0n x0c,.int .i64 x1,.slice x2 x2n x2c,.int .i64 x3]) (by kernel_rfl) Tryz.func3 (by kernel_rfl) qs3 (by kernel_rfl) (by kernel_rfl) (cast (by kernel_rfl) h)
end Go.Proofs.YtkfemiloehkmhaaGreat.V

