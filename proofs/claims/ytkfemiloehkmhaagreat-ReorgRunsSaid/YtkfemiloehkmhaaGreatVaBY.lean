/- YtkfemiloehkmhaaGreat: a text of our own, by an AI agent: VaBY -/
import Derived.Test.YtkfemiloehkmhaaGreatCoreA
import Derived.Test.YtkfemiloehkmhaaGreatTabY
namespace Go.Proofs.YtkfemiloehkmhaaGreat.V
open Go Go.Alog Go.Proofs.YtkfemiloehkmhaaGreat.T
set_option linter.unusedVariables false
set_option maxRecDepth 100000

def qs54:Nat→List (Nat × Nat):=fun i=>match i with | _=>[]
noncomputable def c54:Code:=bodyOf Tryz.f54
theorem cf54 (w0:World) (m:AM) (x0:Int) (R:Value→AM→Prop) (h :
 RetP R (.int .i64 (IntKind.wrap .i64 (IntKind.wrap .i32 x0))) m):CallsA Tryz.prog w0 54 #[.int .i64 x0] m R :=
  callsA_of (c:=c54) (args:=[.int .i64 x0]) (by kernel_rfl) Tryz.func54 (by kernel_rfl) qs54 (by kernel_rfl) (by kernel_rfl) (cast (by kernel_rfl) h)

def qs51:Nat→List (Nat × Nat):=fun i=>match i with | _=>[]
noncomputable def c51:Code:=bodyOf Tryz.f51
theorem cf51 (w0:World) (m:AM) (x0:Int) (x1:Int) (R:Value→AM→Prop) (h :
 KI_∧CallsA Tryz.prog w0 54 #[.int .i64 (IntKind.wrap .i64 (x0+x1))] m fun r2 m3 =>
 ∃ i1:Int,r2=.int .i64 i1∧RetP R (.int .i64 i1) m3):CallsA Tryz.prog w0 51 #[.int .i64 x0,.int .i64 x1] m R :=
  callsA_of (c:=c51) (args:=[.int .i64 x0,.int .i64 x1]) (by kernel_rfl) Tryz.func51 (by kernel_rfl) qs51 (by kernel_rfl) (by kernel_rfl) (cast (by kernel_rfl) h)

def qs56:Nat→List (Nat × Nat):=fun i=>match i with | _=>[]
noncomputable def c56:Code:=bodyOf Tryz.f56
theorem cf56 (w0:World) (m:AM) (x0:Int) (x1:Int) (R:Value→AM→Prop) (h :
 CallsA Tryz.prog w0 54 #[.int .i64 x0] m fun r2 m3 =>
 ∃ i1:Int,r2=.int .i64 i1∧CallsA Tryz.prog w0 54 #[.int .i64 x1] m3 fun r5 m6 =>
 ∃ i4:Int,r5=.int .i64 i4∧KI_∧(bcase ((i4:Int) == 0) (
 RetP R (.tuple #[.int .i64 0,.int .i64 0,.bool false]) m6) (
 KI_∧(i4:Int)≠0∧CallsA Tryz.prog w0 54 #[.int .i64 (IntKind.wrap .i64 (Int.tdiv i1 i4))] m6 fun r8 m9 =>
 ∃ i7:Int,r8=.int .i64 i7∧KI_∧(i4:Int)≠0∧RetP R (.tuple #[.int .i64 i7,.int .i64 (Int.tmod i1 i4),.bool true]) m9))):CallsA Tryz.prog w0 56 #[.int .i64 x0,.int .i64 x1] m R :=
  callsA_of (c:=c56) (args:=[.int .i64 x0,.int .i64 x1]) (by kernel_rfl) Tryz.func56 (by kernel_rfl) qs56 (by kernel_rfl) (by kernel_rfl) (cast (by kernel_rfl) h)

def qs49:Nat→List (Nat × Nat):=fun i=>match i with | _=>[]
noncomputable def c49:Code:=bodyOf Tryz.f49
theorem cf49 (w0:World) (m:AM) (x0:Int) (x1:Int) (R:Value→AM→Prop) (h :
 KI_∧(bcase (decide ((x1:Int)<1)) (
 (decide ((x1:Int)<1))=true∧RetP R (.bool false) m) (
 KI_∧(bcase (bif decide ((x1:Int)<1) then true else decide ((x1:Int)>62)) (
 RetP R (.bool false) m) (
 KI_∧(0:Int)≤(IntKind.wrap .i64 (x1-1))∧KI_∧(bcase (decide ((x0:Int)≥(IntKind.wrap .i64 (0-(IntKind.wrap .i64 (1*2 ^ (min ((IntKind.wrap .i64 (x1-1)):Int).toNat (IntKind.bits .i64)))))))) (
 KI_∧RetP R (.bool (bif decide ((x0:Int)≥(IntKind.wrap .i64 (0-(IntKind.wrap .i64 (1*2 ^ (min ((IntKind.wrap .i64 (x1-1)):Int).toNat (IntKind.bits .i64))))))) then decide ((x0:Int)<(IntKind.wrap .i64 (1*2 ^ (min ((IntKind.wrap .i64 (x1-1)):Int).toNat (IntKind.bits .i64))))) else false)) m) (
 (decide ((x0:Int)≥(IntKind.wrap .i64 (0-(IntKind.wrap .i64 (1*2 ^ (min ((IntKind.wrap .i64 (x1-1)):Int).toNat (IntKind.bits .i64))))))))=false∧RetP R (.bool false) m))))))):CallsA Tryz.prog w0 49 #[.int .i64 x0,.int .i64 x1] m R :=
  callsA_of (c:=c49) (args:=[.int .i64 x0,.int .i64 x1]) (by kernel_rfl) Tryz.func49 (by kernel_rfl) qs49 (by kernel_rfl) (by kernel_rfl) (cast (by kernel_rfl) h)
end Go.Proofs.YtkfemiloehkmhaaGreat.V

namespace Go.Proofs.YtkfemiloehkmhaaGreat.V
open Go Go.Alog Go.Proofs.YtkfemiloehkmhaaGreat.T
set_option linter.unusedVariables false
set_option maxRecDepth 100000

def qs42:Nat→List (Nat × Nat):=fun i=>match i with | _=>[]
noncomputable def c42:Code:=bodyOf Tryz.f42
theorem cf42 (w0:World) (m:AM) (x0:Int) (R:Value→AM→Prop) (h :
 KI_∧(bcase (decide ((x0:Int)<0)) (
 (decide ((x0:Int)<0))=true∧RetP R (.int .i64 (-1)) m) (
 KI_∧(bcase (bif decide ((x0:Int)<0) then true else decide ((x0:Int)>20)) (
 RetP R (.int .i64 (-1)) m) (
 true=true∧∀ b1:Nat,w0.heap.size≤b1→m b1=none→let m2:=AM.upd m b1 (.cells #[.int .i64 0,.int .i64 7,.int .i64 7,.int .i64 7,.int .i64 7,.int .i64 7,.int .i64 7,.int .i64 7,.int .i64 7,.int .i64 7,.int .i64 11,.int .i64 9,.int .i64 11,.int .i64 11,.int .i64 11,.int .i64 11,.int .i64 11,.int .i64 8,.int .i64 8,.int .i64 1,.int .i64 8] 3);
 ((0:Int)≤x0∧x0<((21:Nat):Int))∧nilO (some ⟨b1,0,none⟩) fun a3 =>
 LA_ m2 (a3.add ((x0:Int).toNat*1)) fun i4 => 
 RetP R (.int .i64 i4) m2))))):CallsA Tryz.prog w0 42 #[.int .i64 x0] m R :=
  callsA_of (c:=c42) (args:=[.int .i64 x0]) (by kernel_rfl) Tryz.func42 (by kernel_rfl) qs42 (by kernel_rfl) (by kernel_rfl) (cast (by kernel_rfl) h)

def qs24:Nat→List (Nat × Nat):=fun i=>match i with | _=>[]
noncomputable def c24:Code:=bodyOf Tryz.f24
theorem cf24 (w0:World) (m:AM) (x0_0:Int) (x0_1:Int) (x0_2:Int) (x0_3:Int) (x0_4:Int) (R:Value→AM→Prop) (h :
 ∀ b1:Nat,w0.heap.size≤b1→m b1=none→let m2:=AM.upd m b1 (.cells #[.int .i64 x0_0,.int .i64 x0_1,.int .i64 x0_2,.int .i64 x0_3,.int .i64 x0_4] 36);
 LI_ m2 b1 0 fun i3 => 
 CallsA Tryz.prog w0 42 #[.int .i64 i3] m2 fun r5 m6 =>
 ∃ i4:Int,r5=.int .i64 i4∧KI_∧(bcase (decide ((i4:Int)<0)) (
 RetP R (.bool false) m6) (
 LI_ m6 b1 1 fun i7 => 
 LI_ m6 b1 2 fun i8 => 
 LI_ m6 b1 3 fun i9 => 
 true=true∧∀ b10:Nat,w0.heap.size≤b10→m6 b10=none→let m11:=AM.upd m6 b10 (.cells #[.int .i64 i7,.int .i64 i8,.int .i64 i9] 3);
 vcS Tryz.prog w0 qs24 (sub c24 [1,1,1,1,0,1,0]) (upd (upd (upd (upd (upd (upd (upd (upd (upd (upd (upd (upd (upd (upd (upd (upd (upd (argS [.agg #[.int .i64 x0_0,.int .i64 x0_1,.int .i64 x0_2,.int .i64 x0_3,.int .i64 x0_4]]) 1 (pt_ b1)) 2 (.bool false)) 8 (pt_ b1)) 9 (.int .i64 i3)) 10 (.int .i64 i4)) 3 (.int .i64 i4)) 11 (.int .i64 i4)) 12 (.bool (decide ((i4:Int)<0)))) 13 (.pointer (some ⟨b1,1,none⟩))) 14 (.int .i64 i7)) 15 (.pointer (some ⟨b1,2,none⟩))) 16 (.int .i64 i8)) 17 (.pointer (some ⟨b1,3,none⟩))) 18 (.int .i64 i9)) 19 (.slice (some ⟨b10,0,none⟩) 3 3)) 4 (.slice (some ⟨b10,0,none⟩) 3 3)) 5 (.int .i64 0)) m11 (blockS 0 (thenS (fun σ m=>vcS Tryz.prog w0 qs24 (sub c24 [1,1,1,1,1]) σ m (retQ Tryz.prog Tryz.f24 R)) (retQ Tryz.prog Tryz.f24 R)))))):CallsA Tryz.prog w0 24 #[.agg #[.int .i64 x0_0,.int .i64 x0_1,.int .i64 x0_2,.int .i64 x0_3,.int .i64 x0_4]] m R :=
  callsA_of (c:=c24) (args:=[.agg #[.int .i64 x0_0,.int .i64 x0_1,.int .i64 x0_2,.int .i64 x0_3,.int .i64 x0_4]]) (by kernel_rfl) Tryz.func24 (by kernel_rfl) qs24 (by kernel_rfl) (by kernel_rfl) (cast (by kernel_rfl) h)
def lq24_1111010 (R:Value→AM→Prop) (x1:Nat) (x4:Option Addr) (x4n x4c:Nat) (I0:Nat→Int→Int→AM→Prop) (E0_0:Int→AM→Prop) (n0:Nat):Exit→Sg→AM→Prop
 | .normal,σ,m=>σ 1=.pointer (some ⟨x1,0,none⟩)∧σ 4=.slice x4 x4n x4c∧okI .i64 (σ 3)=true∧okI .i64 (σ 5)=true∧∃ n':Nat,n'<n0∧I0 n' (vI (σ 3)) (vI (σ 5)) m
 | .exit id,σ,m=>if id=0 then σ 1=.pointer (some ⟨x1,0,none⟩)∧σ 4=.slice x4 x4n x4c∧okI .i64 (σ 3)=true∧E0_0 (vI (σ 3)) m else False
 | .ret,σ,m=>retQ Tryz.prog Tryz.f24 R .ret σ m
 | _,_,_=>False
theorem vl24_1111010 (w0:World) (m:AM) (σ:Sg) (R:Value→AM→Prop)  (x1:Nat) (x4:Option Addr) (x4n x4c:Nat) (x3:Int) (x5:Int) (I0:Nat→Int→Int→AM→Prop) (E0_0:Int→AM→Prop) (N:Nat) (h1:σ 1=.pointer (some ⟨x1,0,none⟩)) (h3:σ 3=.int .i64 x3) (h4:σ 4=.slice x4 x4n x4c) (h5:σ 5=.int .i64 x5)
 (h_0:I0 N x3 x5 m)
 (h_s:∀ (n0:Nat) (σ:Sg) (x3:Int) (x5:Int) (m:AM),I0 n0 x3 x5 m→(
 KI_∧(bcase (decide ((x5:Int)<3)) (
 KI_∧(2:Int)≠0∧KI_∧(bcase (((Int.tmod x3 2):Int) == 0) (
 ((0:Int)≤x5∧x5<((x4n:Nat):Int))∧nilO x4 fun a12 =>
 LA_ m (a12.add ((x5:Int).toNat*1)) fun i13 => 
 KI_∧(bcase (bif ((Int.tmod x3 2):Int) == 0 then (i13:Int) != 0 else false) (
 (bif ((Int.tmod x3 2):Int) == 0 then (i13:Int) != 0 else false)=true∧true=true∧RetP R (.bool false) m) (
 ((0:Int)≤x5∧x5<((x4n:Nat):Int))∧nilO x4 fun a14 =>
 LA_ m (a14.add ((x5:Int).toNat*1)) fun i15 => 
 KI_∧(bcase (bif bif ((Int.tmod x3 2):Int) == 0 then (i13:Int) != 0 else false then true else decide ((i15:Int)<0)) (
 (bif bif ((Int.tmod x3 2):Int) == 0 then (i13:Int) != 0 else false then true else decide ((i15:Int)<0))=true∧RetP R (.bool false) m) (
 ((0:Int)≤x5∧x5<((x4n:Nat):Int))∧nilO x4 fun a16 =>
 LA_ m (a16.add ((x5:Int).toNat*1)) fun i17 => 
 KI_∧(bcase (bif bif bif ((Int.tmod x3 2):Int) == 0 then (i13:Int) != 0 else false then true else decide ((i15:Int)<0) then true else decide ((i17:Int)>31)) (
 RetP R (.bool false) m) (
 KI_∧(2:Int)≠0∧KI_∧(.pointer (some ⟨x1,0,none⟩):Value)=.pointer (some ⟨x1,0,none⟩)∧(.slice x4 x4n x4c:Value)=.slice x4 x4n x4c∧true=true∧true=true∧∃ n':Nat,n'<n0∧I0 n' (IntKind.wrap .i64 (Int.tdiv x3 2)) (IntKind.wrap .i64 (x5+1)) m))))))) (
 (((Int.tmod x3 2):Int) == 0)=false∧((0:Int)≤x5∧x5<((x4n:Nat):Int))∧nilO x4 fun a18 =>
 LA_ m (a18.add ((x5:Int).toNat*1)) fun i19 => 
 KI_∧(bcase (bif false then true else decide ((i19:Int)<0)) (
 (bif false then true else decide ((i19:Int)<0))=true∧RetP R (.bool false) m) (
 ((0:Int)≤x5∧x5<((x4n:Nat):Int))∧nilO x4 fun a20 =>
 LA_ m (a20.add ((x5:Int).toNat*1)) fun i21 => 
 KI_∧(bcase (bif bif false then true else decide ((i19:Int)<0) then true else decide ((i21:Int)>31)) (
 RetP R (.bool false) m) (
 KI_∧(2:Int)≠0∧KI_∧(.pointer (some ⟨x1,0,none⟩):Value)=.pointer (some ⟨x1,0,none⟩)∧(.slice x4 x4n x4c:Value)=.slice x4 x4n x4c∧true=true∧true=true∧∃ n':Nat,n'<n0∧I0 n' (IntKind.wrap .i64 (Int.tdiv x3 2)) (IntKind.wrap .i64 (x5+1)) m))))))) (
 (.pointer (some ⟨x1,0,none⟩):Value)=.pointer (some ⟨x1,0,none⟩)∧(.slice x4 x4n x4c:Value)=.slice x4 x4n x4c∧true=true∧E0_0 x3 m))))
 (h_e0:∀ (σ:Sg) (x3:Int) (m:AM),E0_0 x3 m→(
 LI_ m x1 0 fun i22 => 
 KI_∧(bcase ((i22:Int) == 14) (
 LI_ m x1 0 fun i23 => 
 KI_∧(bcase ((i23:Int) == 17) (
 ((i23:Int) == 17)=true∧LI_ m x1 0 fun i24 => 
 KI_∧(bcase ((i24:Int) == 20) (
 LI_ m x1 4 fun i25 => 
 KI_∧(bcase (decide ((i25:Int)≥0)) (
 LI_ m x1 4 fun i26 => 
 KI_∧(bcase (bif decide ((i25:Int)≥0) then decide ((i26:Int)≤2) else false) (
 KI_∧(bcase ((x3:Int) == 1) (
 ((x3:Int) == 1)=true∧RetP R (.bool (bif bif decide ((i25:Int)≥0) then decide ((i26:Int)≤2) else false then true else false)) m) (
 LI_ m x1 4 fun i27 => 
 KI_∧RetP R (.bool (bif bif decide ((i25:Int)≥0) then decide ((i26:Int)≤2) else false then bif (x3:Int) == 1 then true else (i27:Int) == 0 else false)) m))) (
 (bif decide ((i25:Int)≥0) then decide ((i26:Int)≤2) else false)=false∧RetP R (.bool false) m))) (
 (decide ((i25:Int)≥0))=false∧false=false∧RetP R (.bool false) m))) (
 LI_ m x1 4 fun i28 => 
 KI_∧(bcase (decide ((i28:Int)≥0)) (
 LI_ m x1 4 fun i29 => 
 KI_∧(bcase (bif decide ((i28:Int)≥0) then decide ((i29:Int)≤4096) else false) (
 KI_∧(bcase ((x3:Int) == 1) (
 ((x3:Int) == 1)=true∧RetP R (.bool (bif bif decide ((i28:Int)≥0) then decide ((i29:Int)≤4096) else false then true else false)) m) (
 LI_ m x1 4 fun i30 => 
 KI_∧RetP R (.bool (bif bif decide ((i28:Int)≥0) then decide ((i29:Int)≤4096) else false then bif (x3:Int) == 1 then true else (i30:Int) == 0 else false)) m))) (
 (bif decide ((i28:Int)≥0) then decide ((i29:Int)≤4096) else false)=false∧RetP R (.bool false) m))) (
 (decide ((i28:Int)≥0))=false∧false=false∧RetP R (.bool false) m))))) (
 LI_ m x1 0 fun i31 => 
 KI_∧(bcase (bif (i23:Int) == 17 then true else (i31:Int) == 18) (
 LI_ m x1 0 fun i32 => 
 KI_∧(bcase ((i32:Int) == 20) (
 LI_ m x1 4 fun i33 => 
 KI_∧(bcase (decide ((i33:Int)≥0)) (
 LI_ m x1 4 fun i34 => 
 KI_∧(bcase (bif decide ((i33:Int)≥0) then decide ((i34:Int)≤2) else false) (
 KI_∧(bcase ((x3:Int) == 1) (
 ((x3:Int) == 1)=true∧RetP R (.bool (bif bif decide ((i33:Int)≥0) then decide ((i34:Int)≤2) else false then true else false)) m) (
 LI_ m x1 4 fun i35 => 
 KI_∧RetP R (.bool (bif bif decide ((i33:Int)≥0) then decide ((i34:Int)≤2) else false then bif (x3:Int) == 1 then true else (i35:Int) == 0 else false)) m))) (
 (bif decide ((i33:Int)≥0) then decide ((i34:Int)≤2) else false)=false∧RetP R (.bool false) m))) (
 (decide ((i33:Int)≥0))=false∧false=false∧RetP R (.bool false) m))) (
 LI_ m x1 4 fun i36 => 
 KI_∧(bcase (decide ((i36:Int)≥0)) (
 LI_ m x1 4 fun i37 => 
 KI_∧(bcase (bif decide ((i36:Int)≥0) then decide ((i37:Int)≤4096) else false) (
 KI_∧(bcase ((x3:Int) == 1) (
 ((x3:Int) == 1)=true∧RetP R (.bool (bif bif decide ((i36:Int)≥0) then decide ((i37:Int)≤4096) else false then true else false)) m) (
 LI_ m x1 4 fun i38 => 
 KI_∧RetP R (.bool (bif bif decide ((i36:Int)≥0) then decide ((i37:Int)≤4096) else false then bif (x3:Int) == 1 then true else (i38:Int) == 0 else false)) m))) (
 (bif decide ((i36:Int)≥0) then decide ((i37:Int)≤4096) else false)=false∧RetP R (.bool false) m))) (
 (decide ((i36:Int)≥0))=false∧false=false∧RetP R (.bool false) m))))) (
 LI_ m x1 0 fun i39 => 
 KI_∧(bcase ((i39:Int) == 20) (
 LI_ m x1 4 fun i40 => 
 KI_∧(bcase (decide ((i40:Int)≥0)) (
 LI_ m x1 4 fun i41 => 
 KI_∧(bcase (bif decide ((i40:Int)≥0) then decide ((i41:Int)≤2) else false) (
 KI_∧(bcase ((x3:Int) == 1) (
 ((x3:Int) == 1)=true∧RetP R (.bool (bif bif decide ((i40:Int)≥0) then decide ((i41:Int)≤2) else false then true else false)) m) (
 LI_ m x1 4 fun i42 => 
 KI_∧RetP R (.bool (bif bif decide ((i40:Int)≥0) then decide ((i41:Int)≤2) else false then bif (x3:Int) == 1 then true else (i42:Int) == 0 else false)) m))) (
 (bif decide ((i40:Int)≥0) then decide ((i41:Int)≤2) else false)=false∧RetP R (.bool false) m))) (
 (decide ((i40:Int)≥0))=false∧false=false∧RetP R (.bool false) m))) (
 LI_ m x1 4 fun i43 => 
 KI_∧(bcase (decide ((i43:Int)≥0)) (
 LI_ m x1 4 fun i44 => 
 KI_∧(bcase (bif decide ((i43:Int)≥0) then decide ((i44:Int)≤32767) else false) (
 KI_∧(bcase ((x3:Int) == 1) (
 ((x3:Int) == 1)=true∧RetP R (.bool (bif bif decide ((i43:Int)≥0) then decide ((i44:Int)≤32767) else false then true else false)) m) (
 LI_ m x1 4 fun i45 => 
 KI_∧RetP R (.bool (bif bif decide ((i43:Int)≥0) then decide ((i44:Int)≤32767) else false then bif (x3:Int) == 1 then true else (i45:Int) == 0 else false)) m))) (
 (bif decide ((i43:Int)≥0) then decide ((i44:Int)≤32767) else false)=false∧RetP R (.bool false) m))) (
 (decide ((i43:Int)≥0))=false∧false=false∧RetP R (.bool false) m))))))))) (
 LI_ m x1 0 fun i46 => 
 KI_∧(bcase ((i46:Int) == 17) (
 ((i46:Int) == 17)=true∧LI_ m x1 0 fun i47 => 
 KI_∧(bcase ((i47:Int) == 20) (
 LI_ m x1 4 fun i48 => 
 KI_∧(bcase (decide ((i48:Int)≥0)) (
 LI_ m x1 4 fun i49 => 
 KI_∧(bcase (bif decide ((i48:Int)≥0) then decide ((i49:Int)≤2) else false) (
 KI_∧(bcase ((x3:Int) == 1) (
 ((x3:Int) == 1)=true∧RetP R (.bool (bif bif decide ((i48:Int)≥0) then decide ((i49:Int)≤2) else false then true else false)) m) (
 LI_ m x1 4 fun i50 => 
 KI_∧RetP R (.bool (bif bif decide ((i48:Int)≥0) then decide ((i49:Int)≤2) else false then bif (x3:Int) == 1 then true else (i50:Int) == 0 else false)) m))) (
 (bif decide ((i48:Int)≥0) then decide ((i49:Int)≤2) else false)=false∧RetP R (.bool false) m))) (
 (decide ((i48:Int)≥0))=false∧false=false∧RetP R (.bool false) m))) (
 LI_ m x1 4 fun i51 => 
 KI_∧(bcase (decide ((i51:Int)≥0)) (
 LI_ m x1 4 fun i52 => 
 KI_∧(bcase (bif decide ((i51:Int)≥0) then decide ((i52:Int)≤4096) else false) (
 KI_∧(bcase ((x3:Int) == 1) (
 ((x3:Int) == 1)=true∧RetP R (.bool (bif bif decide ((i51:Int)≥0) then decide ((i52:Int)≤4096) else false then true else false)) m) (
 LI_ m x1 4 fun i53 => 
 KI_∧RetP R (.bool (bif bif decide ((i51:Int)≥0) then decide ((i52:Int)≤4096) else false then bif (x3:Int) == 1 then true else (i53:Int) == 0 else false)) m))) (
 (bif decide ((i51:Int)≥0) then decide ((i52:Int)≤4096) else false)=false∧RetP R (.bool false) m))) (
 (decide ((i51:Int)≥0))=false∧false=false∧RetP R (.bool false) m))))) (
 LI_ m x1 0 fun i54 => 
 KI_∧(bcase (bif (i46:Int) == 17 then true else (i54:Int) == 18) (
 LI_ m x1 0 fun i55 => 
 KI_∧(bcase ((i55:Int) == 20) (
 LI_ m x1 4 fun i56 => 
 KI_∧(bcase (decide ((i56:Int)≥0)) (
 LI_ m x1 4 fun i57 => 
 KI_∧(bcase (bif decide ((i56:Int)≥0) then decide ((i57:Int)≤2) else false) (
 KI_∧(bcase ((x3:Int) == 1) (
 ((x3:Int) == 1)=true∧RetP R (.bool (bif bif decide ((i56:Int)≥0) then decide ((i57:Int)≤2) else false then true else false)) m) (
 LI_ m x1 4 fun i58 => 
 KI_∧RetP R (.bool (bif bif decide ((i56:Int)≥0) then decide ((i57:Int)≤2) else false then bif (x3:Int) == 1 then true else (i58:Int) == 0 else false)) m))) (
 (bif decide ((i56:Int)≥0) then decide ((i57:Int)≤2) else false)=false∧RetP R (.bool false) m))) (
 (decide ((i56:Int)≥0))=false∧false=false∧RetP R (.bool false) m))) (
 LI_ m x1 4 fun i59 => 
 KI_∧(bcase (decide ((i59:Int)≥0)) (
 LI_ m x1 4 fun i60 => 
 KI_∧(bcase (bif decide ((i59:Int)≥0) then decide ((i60:Int)≤4096) else false) (
 KI_∧(bcase ((x3:Int) == 1) (
 ((x3:Int) == 1)=true∧RetP R (.bool (bif bif decide ((i59:Int)≥0) then decide ((i60:Int)≤4096) else false then true else false)) m) (
 LI_ m x1 4 fun i61 => 
 KI_∧RetP R (.bool (bif bif decide ((i59:Int)≥0) then decide ((i60:Int)≤4096) else false then bif (x3:Int) == 1 then true else (i61:Int) == 0 else false)) m))) (
 (bif decide ((i59:Int)≥0) then decide ((i60:Int)≤4096) else false)=false∧RetP R (.bool false) m))) (
 (decide ((i59:Int)≥0))=false∧false=false∧RetP R (.bool false) m))))) (
 LI_ m x1 0 fun i62 => 
 KI_∧(bcase ((i62:Int) == 20) (
 LI_ m x1 4 fun i63 => 
 KI_∧(bcase (decide ((i63:Int)≥0)) (
 LI_ m x1 4 fun i64 => 
 KI_∧(bcase (bif decide ((i63:Int)≥0) then decide ((i64:Int)≤2) else false) (
 KI_∧(bcase ((x3:Int) == 1) (
 ((x3:Int) == 1)=true∧RetP R (.bool (bif bif decide ((i63:Int)≥0) then decide ((i64:Int)≤2) else false then true else false)) m) (
 LI_ m x1 4 fun i65 => 
 KI_∧RetP R (.bool (bif bif decide ((i63:Int)≥0) then decide ((i64:Int)≤2) else false then bif (x3:Int) == 1 then true else (i65:Int) == 0 else false)) m))) (
 (bif decide ((i63:Int)≥0) then decide ((i64:Int)≤2) else false)=false∧RetP R (.bool false) m))) (
 (decide ((i63:Int)≥0))=false∧false=false∧RetP R (.bool false) m))) (
 LI_ m x1 4 fun i66 => 
 KI_∧(bcase (decide ((i66:Int)≥(-32768))) (
 LI_ m x1 4 fun i67 => 
 KI_∧(bcase (bif decide ((i66:Int)≥(-32768)) then decide ((i67:Int)≤32767) else false) (
 KI_∧(bcase ((x3:Int) == 1) (
 ((x3:Int) == 1)=true∧RetP R (.bool (bif bif decide ((i66:Int)≥(-32768)) then decide ((i67:Int)≤32767) else false then true else false)) m) (
 LI_ m x1 4 fun i68 => 
 KI_∧RetP R (.bool (bif bif decide ((i66:Int)≥(-32768)) then decide ((i67:Int)≤32767) else false then bif (x3:Int) == 1 then true else (i68:Int) == 0 else false)) m))) (
 (bif decide ((i66:Int)≥(-32768)) then decide ((i67:Int)≤32767) else false)=false∧RetP R (.bool false) m))) (
 (decide ((i66:Int)≥(-32768)))=false∧false=false∧RetP R (.bool false) m)))))))))))) :
 vcS Tryz.prog w0 qs24 (sub c24 [1,1,1,1,0,1,0]) σ m (blockS 0 (thenS (fun σ m=>vcS Tryz.prog w0 qs24 (sub c24 [1,1,1,1,1]) σ m (retQ Tryz.prog Tryz.f24 R)) (retQ Tryz.prog Tryz.f24 R))):=by
  rw [show sub c24 [1,1,1,1,0,1,0]=.loop (sub c24 [1,1,1,1,0,1,0,0]) from by kernel_rfl]
  refine loopQ (fun n0 σ m=>σ 1=.pointer (some ⟨x1,0,none⟩)∧σ 4=.slice x4 x4n x4c∧okI .i64 (σ 3)=true∧okI .i64 (σ 5)=true∧I0 n0 (vI (σ 3)) (vI (σ 5)) m) N (fun n0=>(lq24_1111010 R x1 x4 x4n x4c I0 E0_0 n0)) ⟨h1,h4,(by rw [h3]; rfl),(by rw [h5]; rfl),(by rw [h3,h5]; exact h_0)⟩ ?_ ?_ ?_
  · rintro n0 σ m ⟨kk0,kk1,kk2,kk3,n',hlt,hI⟩; exact ⟨n',hlt,kk0,kk1,kk2,kk3,hI⟩
  · intro n0 e σ m hne h
    cases e with
    | normal=>exact absurd rfl hne
    | ret=>exact h
    | exit id =>
      by_cases e0:id=0
      · subst e0
        obtain ⟨kk0,kk1,kk2,hE⟩:=h
        have es:(upd (upd (upd σ 1 (pt_ x1)) 4 (.slice x4 x4n x4c)) 3 (.int .i64 (vI (σ 3))))=σ:=by rw [upd_id kk0,upd_id kk1,upd_id (ok_int kk2)]
        exact cast (congrArg (fun s=>(blockS 0 (thenS (fun σ m=>vcS Tryz.prog w0 qs24 (sub c24 [1,1,1,1,1]) σ m (retQ Tryz.prog Tryz.f24 R)) (retQ Tryz.prog Tryz.f24 R))) (.exit 0) s m) es) (cast (by kernel_rfl) (h_e0 σ (vI (σ 3)) m hE))
      · replace h:=(if_neg e0:(if id=0 then _ else _)=_).mp h
        exact False.elim h
    | _=>exact False.elim h
  · rintro n0 σ m ⟨kk0,kk1,kk2,kk3,hI⟩
    have es:(upd (upd (upd (upd σ 1 (pt_ x1)) 3 (.int .i64 (vI (σ 3)))) 4 (.slice x4 x4n x4c)) 5 (.int .i64 (vI (σ 5))))=σ:=by rw [upd_id kk0,upd_id (ok_int kk2),upd_id kk1,upd_id (ok_int kk3)]
    exact cast (congrArg (fun s=>vcS Tryz.prog w0 qs24 (sub c24 [1,1,1,1,0,1,0,0]) s m (lq24_1111010 R x1 x4 x4n x4c I0 E0_0 n0)) es) (cast (by kernel_rfl) (h_s n0 σ (vI (σ 3)) (vI (σ 5)) m hI))
end Go.Proofs.YtkfemiloehkmhaaGreat.V

namespace Go.Proofs.YtkfemiloehkmhaaGreat.V
open Go Go.Alog Go.Proofs.YtkfemiloehkmhaaGreat.T
set_option linter.unusedVariables false
set_option maxRecDepth 100000

def qs29:Nat→List (Nat × Nat):=fun i=>match i with | _=>[]
noncomputable def c29:Code:=bodyOf Tryz.f29
theorem cf29 (w0:World) (m:AM) (x0:Int) (R:Value→AM→Prop) (h :
 ∀ b1:Nat,w0.heap.size≤b1→m b1=none→let m2:=AM.upd m b1 (.cells #[.bool false,.bool false,.bool false,.bool false] 69);
 KI_∧(bcase ((x0:Int) == 0) (
 true=true∧StC w0.heap.size m2 ⟨b1,0,none⟩ (.bool false) fun m3 =>
 StC w0.heap.size m3 ⟨b1,1,none⟩ (.bool false) fun m4 =>
 StC w0.heap.size m4 ⟨b1,2,none⟩ (.bool false) fun m5 =>
 StC w0.heap.size m5 ⟨b1,3,none⟩ (.bool false) fun m6 =>
 LB_ m6 b1 0 fun t7=>LB_ m6 b1 1 fun t8=>LB_ m6 b1 2 fun t9=>LB_ m6 b1 3 fun t10=>RetP R (.tuple #[.agg #[.bool t7,.bool t8,.bool t9,.bool t10],.bool true]) m6) (
 KI_∧(bcase ((x0:Int) == 1) (
 vcS Tryz.prog w0 qs29 (sub c29 [1,0,1,0,1,1,1]) (upd (upd (upd (upd (upd (upd (upd (argS [.int .i64 x0]) 2 (pt_ b1)) 3 (.bool false)) 4 (.int .i64 x0)) 6 (.bool ((x0:Int) == 0))) 5 (.bool ((x0:Int) == 0))) 9 (.bool ((x0:Int) == 1))) 8 (.bool ((x0:Int) == 1))) m2 (blockS 0 (thenS (fun σ m=>vcS Tryz.prog w0 qs29 (sub c29 [1,1]) σ m (retQ Tryz.prog Tryz.f29 R)) (retQ Tryz.prog Tryz.f29 R)))) (
 KI_∧(bcase ((x0:Int) == 2) (
 vcS Tryz.prog w0 qs29 (sub c29 [1,0,1,0,1,1,1]) (upd (upd (upd (upd (upd (upd (upd (upd (upd (argS [.int .i64 x0]) 2 (pt_ b1)) 3 (.bool false)) 4 (.int .i64 x0)) 6 (.bool ((x0:Int) == 0))) 5 (.bool ((x0:Int) == 0))) 9 (.bool ((x0:Int) == 1))) 8 (.bool ((x0:Int) == 1))) 10 (.bool ((x0:Int) == 2))) 8 (.bool ((x0:Int) == 2))) m2 (blockS 0 (thenS (fun σ m=>vcS Tryz.prog w0 qs29 (sub c29 [1,1]) σ m (retQ Tryz.prog Tryz.f29 R)) (retQ Tryz.prog Tryz.f29 R)))) (
 KI_∧(bcase ((x0:Int) == 3) (
 vcS Tryz.prog w0 qs29 (sub c29 [1,0,1,0,1,1,1]) (upd (upd (upd (upd (upd (upd (upd (upd (upd (upd (upd (argS [.int .i64 x0]) 2 (pt_ b1)) 3 (.bool false)) 4 (.int .i64 x0)) 6 (.bool ((x0:Int) == 0))) 5 (.bool ((x0:Int) == 0))) 9 (.bool ((x0:Int) == 1))) 8 (.bool ((x0:Int) == 1))) 10 (.bool ((x0:Int) == 2))) 8 (.bool ((x0:Int) == 2))) 11 (.bool ((x0:Int) == 3))) 8 (.bool ((x0:Int) == 3))) m2 (blockS 0 (thenS (fun σ m=>vcS Tryz.prog w0 qs29 (sub c29 [1,1]) σ m (retQ Tryz.prog Tryz.f29 R)) (retQ Tryz.prog Tryz.f29 R)))) (
 KI_∧(bcase ((x0:Int) == 4) (
 vcS Tryz.prog w0 qs29 (sub c29 [1,0,1,0,1,1,1]) (upd (upd (upd (upd (upd (upd (upd (upd (upd (upd (upd (upd (upd (argS [.int .i64 x0]) 2 (pt_ b1)) 3 (.bool false)) 4 (.int .i64 x0)) 6 (.bool ((x0:Int) == 0))) 5 (.bool ((x0:Int) == 0))) 9 (.bool ((x0:Int) == 1))) 8 (.bool ((x0:Int) == 1))) 10 (.bool ((x0:Int) == 2))) 8 (.bool ((x0:Int) == 2))) 11 (.bool ((x0:Int) == 3))) 8 (.bool ((x0:Int) == 3))) 12 (.bool ((x0:Int) == 4))) 8 (.bool ((x0:Int) == 4))) m2 (blockS 0 (thenS (fun σ m=>vcS Tryz.prog w0 qs29 (sub c29 [1,1]) σ m (retQ Tryz.prog Tryz.f29 R)) (retQ Tryz.prog Tryz.f29 R)))) (
 KI_∧(bcase ((x0:Int) == 5) (
 vcS Tryz.prog w0 qs29 (sub c29 [1,0,1,0,1,1,1]) (upd (upd (upd (upd (upd (upd (upd (upd (upd (upd (upd (upd (upd (upd (upd (argS [.int .i64 x0]) 2 (pt_ b1)) 3 (.bool false)) 4 (.int .i64 x0)) 6 (.bool ((x0:Int) == 0))) 5 (.bool ((x0:Int) == 0))) 9 (.bool ((x0:Int) == 1))) 8 (.bool ((x0:Int) == 1))) 10 (.bool ((x0:Int) == 2))) 8 (.bool ((x0:Int) == 2))) 11 (.bool ((x0:Int) == 3))) 8 (.bool ((x0:Int) == 3))) 12 (.bool ((x0:Int) == 4))) 8 (.bool ((x0:Int) == 4))) 13 (.bool ((x0:Int) == 5))) 8 (.bool ((x0:Int) == 5))) m2 (blockS 0 (thenS (fun σ m=>vcS Tryz.prog w0 qs29 (sub c29 [1,1]) σ m (retQ Tryz.prog Tryz.f29 R)) (retQ Tryz.prog Tryz.f29 R)))) (
 KI_∧(bcase ((x0:Int) == 6) (
 vcS Tryz.prog w0 qs29 (sub c29 [1,0,1,0,1,1,1]) (upd (upd (upd (upd (upd (upd (upd (upd (upd (upd (upd (upd (upd (upd (upd (upd (upd (argS [.int .i64 x0]) 2 (pt_ b1)) 3 (.bool false)) 4 (.int .i64 x0)) 6 (.bool ((x0:Int) == 0))) 5 (.bool ((x0:Int) == 0))) 9 (.bool ((x0:Int) == 1))) 8 (.bool ((x0:Int) == 1))) 10 (.bool ((x0:Int) == 2))) 8 (.bool ((x0:Int) == 2))) 11 (.bool ((x0:Int) == 3))) 8 (.bool ((x0:Int) == 3))) 12 (.bool ((x0:Int) == 4))) 8 (.bool ((x0:Int) == 4))) 13 (.bool ((x0:Int) == 5))) 8 (.bool ((x0:Int) == 5))) 14 (.bool ((x0:Int) == 6))) 8 (.bool ((x0:Int) == 6))) m2 (blockS 0 (thenS (fun σ m=>vcS Tryz.prog w0 qs29 (sub c29 [1,1]) σ m (retQ Tryz.prog Tryz.f29 R)) (retQ Tryz.prog Tryz.f29 R)))) (
 KI_∧(bcase ((x0:Int) == 7) (
 vcS Tryz.prog w0 qs29 (sub c29 [1,0,1,0,1,1,1]) (upd (upd (upd (upd (upd (upd (upd (upd (upd (upd (upd (upd (upd (upd (upd (upd (upd (upd (upd (argS [.int .i64 x0]) 2 (pt_ b1)) 3 (.bool false)) 4 (.int .i64 x0)) 6 (.bool ((x0:Int) == 0))) 5 (.bool ((x0:Int) == 0))) 9 (.bool ((x0:Int) == 1))) 8 (.bool ((x0:Int) == 1))) 10 (.bool ((x0:Int) == 2))) 8 (.bool ((x0:Int) == 2))) 11 (.bool ((x0:Int) == 3))) 8 (.bool ((x0:Int) == 3))) 12 (.bool ((x0:Int) == 4))) 8 (.bool ((x0:Int) == 4))) 13 (.bool ((x0:Int) == 5))) 8 (.bool ((x0:Int) == 5))) 14 (.bool ((x0:Int) == 6))) 8 (.bool ((x0:Int) == 6))) 15 (.bool ((x0:Int) == 7))) 8 (.bool ((x0:Int) == 7))) m2 (blockS 0 (thenS (fun σ m=>vcS Tryz.prog w0 qs29 (sub c29 [1,1]) σ m (retQ Tryz.prog Tryz.f29 R)) (retQ Tryz.prog Tryz.f29 R)))) (
 KI_∧(bcase ((x0:Int) == 8) (
 vcS Tryz.prog w0 qs29 (sub c29 [1,0,1,0,1,1,1]) (upd (upd (upd (upd (upd (upd (upd (upd (upd (upd (upd (upd (upd (upd (upd (upd (upd (upd (upd (upd (upd (argS [.int .i64 x0]) 2 (pt_ b1)) 3 (.bool false)) 4 (.int .i64 x0)) 6 (.bool ((x0:Int) == 0))) 5 (.bool ((x0:Int) == 0))) 9 (.bool ((x0:Int) == 1))) 8 (.bool ((x0:Int) == 1))) 10 (.bool ((x0:Int) == 2))) 8 (.bool ((x0:Int) == 2))) 11 (.bool ((x0:Int) == 3))) 8 (.bool ((x0:Int) == 3))) 12 (.bool ((x0:Int) == 4))) 8 (.bool ((x0:Int) == 4))) 13 (.bool ((x0:Int) == 5))) 8 (.bool ((x0:Int) == 5))) 14 (.bool ((x0:Int) == 6))) 8 (.bool ((x0:Int) == 6))) 15 (.bool ((x0:Int) == 7))) 8 (.bool ((x0:Int) == 7))) 16 (.bool ((x0:Int) == 8))) 8 (.bool ((x0:Int) == 8))) m2 (blockS 0 (thenS (fun σ m=>vcS Tryz.prog w0 qs29 (sub c29 [1,1]) σ m (retQ Tryz.prog Tryz.f29 R)) (retQ Tryz.prog Tryz.f29 R)))) (
 KI_∧vcS Tryz.prog w0 qs29 (sub c29 [1,0,1,0,1,1,1]) (upd (upd (upd (upd (upd (upd (upd (upd (upd (upd (upd (upd (upd (upd (upd (upd (upd (upd (upd (upd (upd (upd (upd (argS [.int .i64 x0]) 2 (pt_ b1)) 3 (.bool false)) 4 (.int .i64 x0)) 6 (.bool ((x0:Int) == 0))) 5 (.bool ((x0:Int) == 0))) 9 (.bool ((x0:Int) == 1))) 8 (.bool ((x0:Int) == 1))) 10 (.bool ((x0:Int) == 2))) 8 (.bool ((x0:Int) == 2))) 11 (.bool ((x0:Int) == 3))) 8 (.bool ((x0:Int) == 3))) 12 (.bool ((x0:Int) == 4))) 8 (.bool ((x0:Int) == 4))) 13 (.bool ((x0:Int) == 5))) 8 (.bool ((x0:Int) == 5))) 14 (.bool ((x0:Int) == 6))) 8 (.bool ((x0:Int) == 6))) 15 (.bool ((x0:Int) == 7))) 8 (.bool ((x0:Int) == 7))) 16 (.bool ((x0:Int) == 8))) 8 (.bool ((x0:Int) == 8))) 17 (.bool ((x0:Int) == 9))) 8 (.bool ((x0:Int) == 9))) m2 (blockS 0 (thenS (fun σ m=>vcS Tryz.prog w0 qs29 (sub c29 [1,1]) σ m (retQ Tryz.prog Tryz.f29 R)) (retQ Tryz.prog Tryz.f29 R)))))))))))))))))))))):CallsA Tryz.prog w0 29 #[.int .i64 x0] m R :=
  callsA_of (c:=c29) (args:=[.int .i64 x0]) (by kernel_rfl) Tryz.func29 (by kernel_rfl) qs29 (by kernel_rfl) (by kernel_rfl) (cast (by kernel_rfl) h)
theorem vk29_1010111 (w0:World) (m:AM) (σ:Sg) (R:Value→AM→Prop)  (x2:Nat) (x4:Int) (x8:Bool) (h2:σ 2=.pointer (some ⟨x2,0,none⟩)) (h4:σ 4=.int .i64 x4) (h8:σ 8=.bool x8) (h :
 (bcase x8 (
 true=true∧StC w0.heap.size m ⟨x2,0,none⟩ (.bool true) fun m11 =>
 StC w0.heap.size m11 ⟨x2,1,none⟩ (.bool true) fun m12 =>
 StC w0.heap.size m12 ⟨x2,2,none⟩ (.bool true) fun m13 =>
 StC w0.heap.size m13 ⟨x2,3,none⟩ (.bool false) fun m14 =>
 LB_ m14 x2 0 fun t15=>LB_ m14 x2 1 fun t16=>LB_ m14 x2 2 fun t17=>LB_ m14 x2 3 fun t18=>RetP R (.tuple #[.agg #[.bool t15,.bool t16,.bool t17,.bool t18],.bool true]) m14) (
 KI_∧(bcase ((x4:Int) == 10) (
 vcS Tryz.prog w0 qs29 (sub c29 [1,0,1,0,1,1,1,1,1]) (upd (upd (upd (upd (upd σ 2 (pt_ x2)) 4 (.int .i64 x4)) 8 (.bool x8)) 20 (.bool ((x4:Int) == 10))) 19 (.bool ((x4:Int) == 10))) m (blockS 0 (thenS (fun σ m=>vcS Tryz.prog w0 qs29 (sub c29 [1,1]) σ m (retQ Tryz.prog Tryz.f29 R)) (retQ Tryz.prog Tryz.f29 R)))) (
 KI_∧(bcase ((x4:Int) == 12) (
 vcS Tryz.prog w0 qs29 (sub c29 [1,0,1,0,1,1,1,1,1]) (upd (upd (upd (upd (upd (upd (upd σ 2 (pt_ x2)) 4 (.int .i64 x4)) 8 (.bool x8)) 20 (.bool ((x4:Int) == 10))) 19 (.bool ((x4:Int) == 10))) 21 (.bool ((x4:Int) == 12))) 19 (.bool ((x4:Int) == 12))) m (blockS 0 (thenS (fun σ m=>vcS Tryz.prog w0 qs29 (sub c29 [1,1]) σ m (retQ Tryz.prog Tryz.f29 R)) (retQ Tryz.prog Tryz.f29 R)))) (
 KI_∧(bcase ((x4:Int) == 13) (
 vcS Tryz.prog w0 qs29 (sub c29 [1,0,1,0,1,1,1,1,1]) (upd (upd (upd (upd (upd (upd (upd (upd (upd σ 2 (pt_ x2)) 4 (.int .i64 x4)) 8 (.bool x8)) 20 (.bool ((x4:Int) == 10))) 19 (.bool ((x4:Int) == 10))) 21 (.bool ((x4:Int) == 12))) 19 (.bool ((x4:Int) == 12))) 22 (.bool ((x4:Int) == 13))) 19 (.bool ((x4:Int) == 13))) m (blockS 0 (thenS (fun σ m=>vcS Tryz.prog w0 qs29 (sub c29 [1,1]) σ m (retQ Tryz.prog Tryz.f29 R)) (retQ Tryz.prog Tryz.f29 R)))) (
 KI_∧(bcase ((x4:Int) == 15) (
 vcS Tryz.prog w0 qs29 (sub c29 [1,0,1,0,1,1,1,1,1]) (upd (upd (upd (upd (upd (upd (upd (upd (upd (upd (upd σ 2 (pt_ x2)) 4 (.int .i64 x4)) 8 (.bool x8)) 20 (.bool ((x4:Int) == 10))) 19 (.bool ((x4:Int) == 10))) 21 (.bool ((x4:Int) == 12))) 19 (.bool ((x4:Int) == 12))) 22 (.bool ((x4:Int) == 13))) 19 (.bool ((x4:Int) == 13))) 23 (.bool ((x4:Int) == 15))) 19 (.bool ((x4:Int) == 15))) m (blockS 0 (thenS (fun σ m=>vcS Tryz.prog w0 qs29 (sub c29 [1,1]) σ m (retQ Tryz.prog Tryz.f29 R)) (retQ Tryz.prog Tryz.f29 R)))) (
 KI_∧(bcase ((x4:Int) == 16) (
 vcS Tryz.prog w0 qs29 (sub c29 [1,0,1,0,1,1,1,1,1]) (upd (upd (upd (upd (upd (upd (upd (upd (upd (upd (upd (upd (upd σ 2 (pt_ x2)) 4 (.int .i64 x4)) 8 (.bool x8)) 20 (.bool ((x4:Int) == 10))) 19 (.bool ((x4:Int) == 10))) 21 (.bool ((x4:Int) == 12))) 19 (.bool ((x4:Int) == 12))) 22 (.bool ((x4:Int) == 13))) 19 (.bool ((x4:Int) == 13))) 23 (.bool ((x4:Int) == 15))) 19 (.bool ((x4:Int) == 15))) 24 (.bool ((x4:Int) == 16))) 19 (.bool ((x4:Int) == 16))) m (blockS 0 (thenS (fun σ m=>vcS Tryz.prog w0 qs29 (sub c29 [1,1]) σ m (retQ Tryz.prog Tryz.f29 R)) (retQ Tryz.prog Tryz.f29 R)))) (
 KI_∧vcS Tryz.prog w0 qs29 (sub c29 [1,0,1,0,1,1,1,1,1]) (upd (upd (upd (upd (upd (upd (upd (upd (upd (upd (upd (upd (upd (upd (upd σ 2 (pt_ x2)) 4 (.int .i64 x4)) 8 (.bool x8)) 20 (.bool ((x4:Int) == 10))) 19 (.bool ((x4:Int) == 10))) 21 (.bool ((x4:Int) == 12))) 19 (.bool ((x4:Int) == 12))) 22 (.bool ((x4:Int) == 13))) 19 (.bool ((x4:Int) == 13))) 23 (.bool ((x4:Int) == 15))) 19 (.bool ((x4:Int) == 15))) 24 (.bool ((x4:Int) == 16))) 19 (.bool ((x4:Int) == 16))) 25 (.bool ((x4:Int) == 14))) 19 (.bool ((x4:Int) == 14))) m (blockS 0 (thenS (fun σ m=>vcS Tryz.prog w0 qs29 (sub c29 [1,1]) σ m (retQ Tryz.prog Tryz.f29 R)) (retQ Tryz.prog Tryz.f29 R)))))))))))))))) :
 vcS Tryz.prog w0 qs29 (sub c29 [1,0,1,0,1,1,1]) σ m (blockS 0 (thenS (fun σ m=>vcS Tryz.prog w0 qs29 (sub c29 [1,1]) σ m (retQ Tryz.prog Tryz.f29 R)) (retQ Tryz.prog Tryz.f29 R))):=by
  have es0:(upd (upd (upd σ 2 (pt_ x2)) 4 (.int .i64 x4)) 8 (.bool x8))=σ:=by rw [upd_id h2,upd_id h4,upd_id h8]
  exact cast (congrArg (fun s=>vcS Tryz.prog w0 qs29 (sub c29 [1,0,1,0,1,1,1]) s m (blockS 0 (thenS (fun σ m=>vcS Tryz.prog w0 qs29 (sub c29 [1,1]) σ m (retQ Tryz.prog Tryz.f29 R)) (retQ Tryz.prog Tryz.f29 R)))) es0) (cast (by kernel_rfl) h)
theorem vk29_101011111 (w0:World) (m:AM) (σ:Sg) (R:Value→AM→Prop)  (x2:Nat) (x4:Int) (x19:Bool) (h2:σ 2=.pointer (some ⟨x2,0,none⟩)) (h4:σ 4=.int .i64 x4) (h19:σ 19=.bool x19) (h :
 (bcase x19 (
 true=true∧StC w0.heap.size m ⟨x2,0,none⟩ (.bool true) fun m19 =>
 StC w0.heap.size m19 ⟨x2,1,none⟩ (.bool true) fun m20 =>
 StC w0.heap.size m20 ⟨x2,2,none⟩ (.bool false) fun m21 =>
 StC w0.heap.size m21 ⟨x2,3,none⟩ (.bool true) fun m22 =>
 LB_ m22 x2 0 fun t23=>LB_ m22 x2 1 fun t24=>LB_ m22 x2 2 fun t25=>LB_ m22 x2 3 fun t26=>RetP R (.tuple #[.agg #[.bool t23,.bool t24,.bool t25,.bool t26],.bool true]) m22) (
 KI_∧(bcase ((x4:Int) == 11) (
 true=true∧StC w0.heap.size m ⟨x2,0,none⟩ (.bool true) fun m27 =>
 StC w0.heap.size m27 ⟨x2,1,none⟩ (.bool false) fun m28 =>
 StC w0.heap.size m28 ⟨x2,2,none⟩ (.bool false) fun m29 =>
 StC w0.heap.size m29 ⟨x2,3,none⟩ (.bool true) fun m30 =>
 LB_ m30 x2 0 fun t31=>LB_ m30 x2 1 fun t32=>LB_ m30 x2 2 fun t33=>LB_ m30 x2 3 fun t34=>RetP R (.tuple #[.agg #[.bool t31,.bool t32,.bool t33,.bool t34],.bool true]) m30) (
 KI_∧(bcase ((x4:Int) == 17) (
 vcS Tryz.prog w0 qs29 (sub c29 [1,0,1,0,1,1,1,1,1,1,1,1,1]) (upd (upd (upd (upd (upd (upd (upd σ 2 (pt_ x2)) 4 (.int .i64 x4)) 19 (.bool x19)) 28 (.bool ((x4:Int) == 11))) 27 (.bool ((x4:Int) == 11))) 31 (.bool ((x4:Int) == 17))) 30 (.bool ((x4:Int) == 17))) m (blockS 0 (thenS (fun σ m=>vcS Tryz.prog w0 qs29 (sub c29 [1,1]) σ m (retQ Tryz.prog Tryz.f29 R)) (retQ Tryz.prog Tryz.f29 R)))) (
 KI_∧(bcase ((x4:Int) == 18) (
 vcS Tryz.prog w0 qs29 (sub c29 [1,0,1,0,1,1,1,1,1,1,1,1,1]) (upd (upd (upd (upd (upd (upd (upd (upd (upd σ 2 (pt_ x2)) 4 (.int .i64 x4)) 19 (.bool x19)) 28 (.bool ((x4:Int) == 11))) 27 (.bool ((x4:Int) == 11))) 31 (.bool ((x4:Int) == 17))) 30 (.bool ((x4:Int) == 17))) 32 (.bool ((x4:Int) == 18))) 30 (.bool ((x4:Int) == 18))) m (blockS 0 (thenS (fun σ m=>vcS Tryz.prog w0 qs29 (sub c29 [1,1]) σ m (retQ Tryz.prog Tryz.f29 R)) (retQ Tryz.prog Tryz.f29 R)))) (
 KI_∧vcS Tryz.prog w0 qs29 (sub c29 [1,0,1,0,1,1,1,1,1,1,1,1,1]) (upd (upd (upd (upd (upd (upd (upd (upd (upd (upd (upd σ 2 (pt_ x2)) 4 (.int .i64 x4)) 19 (.bool x19)) 28 (.bool ((x4:Int) == 11))) 27 (.bool ((x4:Int) == 11))) 31 (.bool ((x4:Int) == 17))) 30 (.bool ((x4:Int) == 17))) 32 (.bool ((x4:Int) == 18))) 30 (.bool ((x4:Int) == 18))) 33 (.bool ((x4:Int) == 20))) 30 (.bool ((x4:Int) == 20))) m (blockS 0 (thenS (fun σ m=>vcS Tryz.prog w0 qs29 (sub c29 [1,1]) σ m (retQ Tryz.prog Tryz.f29 R)) (retQ Tryz.prog Tryz.f29 R)))))))))))) :
 vcS Tryz.prog w0 qs29 (sub c29 [1,0,1,0,1,1,1,1,1]) σ m (blockS 0 (thenS (fun σ m=>vcS Tryz.prog w0 qs29 (sub c29 [1,1]) σ m (retQ Tryz.prog Tryz.f29 R)) (retQ Tryz.prog Tryz.f29 R))):=by
  have es0:(upd (upd (upd σ 2 (pt_ x2)) 4 (.int .i64 x4)) 19 (.bool x19))=σ:=by rw [upd_id h2,upd_id h4,upd_id h19]
  exact cast (congrArg (fun s=>vcS Tryz.prog w0 qs29 (sub c29 [1,0,1,0,1,1,1,1,1]) s m (blockS 0 (thenS (fun σ m=>vcS Tryz.prog w0 qs29 (sub c29 [1,1]) σ m (retQ Tryz.prog Tryz.f29 R)) (retQ Tryz.prog Tryz.f29 R)))) es0) (cast (by kernel_rfl) h)
theorem vk29_1010111111111 (w0:World) (m:AM) (σ:Sg) (R:Value→AM→Prop)  (x2:Nat) (x4:Int) (x30:Bool) (h2:σ 2=.pointer (some ⟨x2,0,none⟩)) (h4:σ 4=.int .i64 x4) (h30:σ 30=.bool x30) (h :
 (bcase x30 (
 true=true∧StC w0.heap.size m ⟨x2,0,none⟩ (.bool false) fun m35 =>
 StC w0.heap.size m35 ⟨x2,1,none⟩ (.bool false) fun m36 =>
 StC w0.heap.size m36 ⟨x2,2,none⟩ (.bool false) fun m37 =>
 StC w0.heap.size m37 ⟨x2,3,none⟩ (.bool true) fun m38 =>
 LB_ m38 x2 0 fun t39=>LB_ m38 x2 1 fun t40=>LB_ m38 x2 2 fun t41=>LB_ m38 x2 3 fun t42=>RetP R (.tuple #[.agg #[.bool t39,.bool t40,.bool t41,.bool t42],.bool true]) m38) (
 KI_∧(bcase ((x4:Int) == 19) (
 true=true∧StC w0.heap.size m ⟨x2,0,none⟩ (.bool true) fun m43 =>
 StC w0.heap.size m43 ⟨x2,1,none⟩ (.bool false) fun m44 =>
 StC w0.heap.size m44 ⟨x2,2,none⟩ (.bool false) fun m45 =>
 StC w0.heap.size m45 ⟨x2,3,none⟩ (.bool false) fun m46 =>
 LB_ m46 x2 0 fun t47=>LB_ m46 x2 1 fun t48=>LB_ m46 x2 2 fun t49=>LB_ m46 x2 3 fun t50=>RetP R (.tuple #[.agg #[.bool t47,.bool t48,.bool t49,.bool t50],.bool true]) m46) (
 vcS Tryz.prog w0 qs29 (sub c29 [1,1]) (upd (upd (upd (upd (upd σ 2 (pt_ x2)) 4 (.int .i64 x4)) 30 (.bool x30)) 36 (.bool ((x4:Int) == 19))) 35 (.bool ((x4:Int) == 19))) m (retQ Tryz.prog Tryz.f29 R)))))) :
 vcS Tryz.prog w0 qs29 (sub c29 [1,0,1,0,1,1,1,1,1,1,1,1,1]) σ m (blockS 0 (thenS (fun σ m=>vcS Tryz.prog w0 qs29 (sub c29 [1,1]) σ m (retQ Tryz.prog Tryz.f29 R)) (retQ Tryz.prog Tryz.f29 R))):=by
  have es0:(upd (upd (upd σ 2 (pt_ x2)) 4 (.int .i64 x4)) 30 (.bool x30))=σ:=by rw [upd_id h2,upd_id h4,upd_id h30]
  exact cast (congrArg (fun s=>vcS Tryz.prog w0 qs29 (sub c29 [1,0,1,0,1,1,1,1,1,1,1,1,1]) s m (blockS 0 (thenS (fun σ m=>vcS Tryz.prog w0 qs29 (sub c29 [1,1]) σ m (retQ Tryz.prog Tryz.f29 R)) (retQ Tryz.prog Tryz.f29 R)))) es0) (cast (by kernel_rfl) h)
theorem vk29_11 (w0:World) (m:AM) (σ:Sg) (R:Value→AM→Prop)  (x2:Nat) (h2:σ 2=.pointer (some ⟨x2,0,none⟩)) (h :
 true=true∧StC w0.heap.size m ⟨x2,0,none⟩ (.bool false) fun m51 =>
 StC w0.heap.size m51 ⟨x2,1,none⟩ (.bool false) fun m52 =>
 StC w0.heap.size m52 ⟨x2,2,none⟩ (.bool false) fun m53 =>
 StC w0.heap.size m53 ⟨x2,3,none⟩ (.bool false) fun m54 =>
 LB_ m54 x2 0 fun t55=>LB_ m54 x2 1 fun t56=>LB_ m54 x2 2 fun t57=>LB_ m54 x2 3 fun t58=>RetP R (.tuple #[.agg #[.bool t55,.bool t56,.bool t57,.bool t58],.bool false]) m54) :
 vcS Tryz.prog w0 qs29 (sub c29 [1,1]) σ m (retQ Tryz.prog Tryz.f29 R):=by
  have es0:(upd σ 2 (pt_ x2))=σ:=by rw [upd_id h2]
  exact cast (congrArg (fun s=>vcS Tryz.prog w0 qs29 (sub c29 [1,1]) s m (retQ Tryz.prog Tryz.f29 R)) es0) (cast (by kernel_rfl) h)

def qs30:Nat→List (Nat × Nat):=fun i=>match i with | _=>[]
noncomputable def c30:Code:=bodyOf Tryz.f30
theorem cf30 (w0:World) (m:AM) (x0:Int) (x1:Bool) (R:Value→AM→Prop) (h :
 KI_∧(bcase ((x0:Int) == 0) (
 ((x0:Int) == 0)=true∧RetP R (.bool true) m) (
 (bcase x1 (
 KI_∧(bcase (bif x1 then decide ((x0:Int)>0) else false) (
 KI_∧RetP R (.bool (bif (x0:Int) == 0 then true else bif bif x1 then decide ((x0:Int)>0) else false then decide ((x0:Int)<32) else false)) m) (
 (bif x1 then decide ((x0:Int)>0) else false)=false∧RetP R (.bool (bif (x0:Int) == 0 then true else false)) m))) (
 x1=false∧false=false∧RetP R (.bool (bif (x0:Int) == 0 then true else false)) m))))):CallsA Tryz.prog w0 30 #[.int .i64 x0,.bool x1] m R :=
  callsA_of (c:=c30) (args:=[.int .i64 x0,.bool x1]) (by kernel_rfl) Tryz.func30 (by kernel_rfl) qs30 (by kernel_rfl) (by kernel_rfl) (cast (by kernel_rfl) h)

def qs31:Nat→List (Nat × Nat):=fun i=>match i with | _=>[]
noncomputable def c31:Code:=bodyOf Tryz.f31
theorem cf31 (w0:World) (m:AM) (x0:Int) (x1:Int) (R:Value→AM→Prop) (h :
 KI_∧(bcase ((x0:Int) == 17) (
 (bcase ((x0:Int) == 17) (
 KI_∧(bcase (decide ((x1:Int)≥0)) (
 KI_∧RetP R (.bool (bif decide ((x1:Int)≥0) then decide ((x1:Int)≤4096) else false)) m) (
 (decide ((x1:Int)≥0))=false∧RetP R (.bool false) m))) (
 KI_∧(bcase ((x0:Int) == 20) (
 KI_∧(bcase (decide ((x1:Int)≥0)) (
 KI_∧RetP R (.bool (bif decide ((x1:Int)≥0) then decide ((x1:Int)≤2) else false)) m) (
 (decide ((x1:Int)≥0))=false∧RetP R (.bool false) m))) (
 KI_∧(bcase ((x0:Int) == 14) (
 KI_∧(bcase (decide ((x1:Int)≥0)) (
 CallsA Tryz.prog w0 49 #[.int .i64 x1,.int .i64 16] m fun r2 m3 =>
 ∃ t1:Bool,r2=.bool t1∧RetP R (.bool (bif decide ((x1:Int)≥0) then t1 else false)) m3) (
 (decide ((x1:Int)≥0))=false∧RetP R (.bool false) m))) (
 CallsA Tryz.prog w0 49 #[.int .i64 x1,.int .i64 16] m fun r5 m6 =>
 ∃ t4:Bool,r5=.bool t4∧RetP R (.bool t4) m6))))))) (
 KI_∧(bcase ((x0:Int) == 18) (
 KI_∧(bcase (decide ((x1:Int)≥0)) (
 KI_∧RetP R (.bool (bif decide ((x1:Int)≥0) then decide ((x1:Int)≤4096) else false)) m) (
 (decide ((x1:Int)≥0))=false∧RetP R (.bool false) m))) (
 KI_∧(bcase ((x0:Int) == 20) (
 KI_∧(bcase (decide ((x1:Int)≥0)) (
 KI_∧RetP R (.bool (bif decide ((x1:Int)≥0) then decide ((x1:Int)≤2) else false)) m) (
 (decide ((x1:Int)≥0))=false∧RetP R (.bool false) m))) (
 KI_∧(bcase ((x0:Int) == 14) (
 KI_∧(bcase (decide ((x1:Int)≥0)) (
 CallsA Tryz.prog w0 49 #[.int .i64 x1,.int .i64 16] m fun r8 m9 =>
 ∃ t7:Bool,r8=.bool t7∧RetP R (.bool (bif decide ((x1:Int)≥0) then t7 else false)) m9) (
 (decide ((x1:Int)≥0))=false∧RetP R (.bool false) m))) (
 CallsA Tryz.prog w0 49 #[.int .i64 x1,.int .i64 16] m fun r11 m12 =>
 ∃ t10:Bool,r11=.bool t10∧RetP R (.bool t10) m12))))))))):CallsA Tryz.prog w0 31 #[.int .i64 x0,.int .i64 x1] m R :=
  callsA_of (c:=c31) (args:=[.int .i64 x0,.int .i64 x1]) (by kernel_rfl) Tryz.func31 (by kernel_rfl) qs31 (by kernel_rfl) (by kernel_rfl) (cast (by kernel_rfl) h)

def qs17:Nat→List (Nat × Nat):=fun i=>match i with | _=>[]
noncomputable def c17:Code:=bodyOf Tryz.f17
theorem cf17 (w0:World) (m:AM) (x0_0:Int) (x0_1:Int) (x0_2:Int) (x0_3:Int) (x0_4:Int) (R:Value→AM→Prop) (h :
 ∀ b1:Nat,w0.heap.size≤b1→m b1=none→let m2:=AM.upd m b1 (.cells #[.int .i64 x0_0,.int .i64 x0_1,.int .i64 x0_2,.int .i64 x0_3,.int .i64 x0_4] 36);
 LI_ m2 b1 0 fun i3 => 
 CallsA Tryz.prog w0 29 #[.int .i64 i3] m2 fun r9 m10 =>
 ∃ t4:Bool,∃ t5:Bool,∃ t6:Bool,∃ t7:Bool,∃ t8:Bool,r9=.tuple #[.agg #[.bool t4,.bool t5,.bool t6,.bool t7],.bool t8]∧∀ b13:Nat,w0.heap.size≤b13→m10 b13=none→let m14:=AM.upd m10 b13 (.cells #[.bool false,.bool false,.bool false,.bool false] 69);
 StC w0.heap.size m14 ⟨b13,0,none⟩ (.bool t4) fun m15 =>
 StC w0.heap.size m15 ⟨b13,1,none⟩ (.bool t5) fun m16 =>
 StC w0.heap.size m16 ⟨b13,2,none⟩ (.bool t6) fun m17 =>
 StC w0.heap.size m17 ⟨b13,3,none⟩ (.bool t7) fun m18 =>
 (bcase t8 (
 LI_ m18 b1 1 fun i19 => 
 LB_ m18 b13 0 fun t20 => 
 CallsA Tryz.prog w0 30 #[.int .i64 i19,.bool t20] m18 fun r22 m23 =>
 ∃ t21:Bool,r22=.bool t21∧(bcase (bif t8 then t21 else false) (
 LI_ m23 b1 2 fun i24 => 
 LB_ m23 b13 1 fun t25 => 
 CallsA Tryz.prog w0 30 #[.int .i64 i24,.bool t25] m23 fun r27 m28 =>
 ∃ t26:Bool,r27=.bool t26∧(bcase (bif bif t8 then t21 else false then t26 else false) (
 LI_ m28 b1 3 fun i29 => 
 LB_ m28 b13 2 fun t30 => 
 CallsA Tryz.prog w0 30 #[.int .i64 i29,.bool t30] m28 fun r32 m33 =>
 ∃ t31:Bool,r32=.bool t31∧(bcase (bif bif bif t8 then t21 else false then t26 else false then t31 else false) (
 LI_ m33 b1 4 fun i34 => 
 KI_∧(bcase ((i34:Int) == 0) (
 ((i34:Int) == 0)=true∧RetP R (.bool (bif bif bif bif t8 then t21 else false then t26 else false then t31 else false then true else false)) m33) (
 LB_ m33 b13 3 fun t35 => 
 (bcase t35 (
 LI_ m33 b1 0 fun i36 => 
 LI_ m33 b1 4 fun i37 => 
 CallsA Tryz.prog w0 31 #[.int .i64 i36,.int .i64 i37] m33 fun r39 m40 =>
 ∃ t38:Bool,r39=.bool t38∧RetP R (.bool (bif bif bif bif t8 then t21 else false then t26 else false then t31 else false then bif (i34:Int) == 0 then true else bif t35 then t38 else false else false)) m40) (
 t35=false∧RetP R (.bool (bif bif bif bif t8 then t21 else false then t26 else false then t31 else false then bif (i34:Int) == 0 then true else false else false)) m33))))) (
 (bif bif bif t8 then t21 else false then t26 else false then t31 else false)=false∧RetP R (.bool false) m33))) (
 (bif bif t8 then t21 else false then t26 else false)=false∧false=false∧RetP R (.bool false) m28))) (
 (bif t8 then t21 else false)=false∧false=false∧false=false∧RetP R (.bool false) m23))) (
 t8=false∧false=false∧false=false∧false=false∧RetP R (.bool false) m18))):CallsA Tryz.prog w0 17 #[.agg #[.int .i64 x0_0,.int .i64 x0_1,.int .i64 x0_2,.int .i64 x0_3,.int .i64 x0_4]] m R :=
  callsA_of (c:=c17) (args:=[.agg #[.int .i64 x0_0,.int .i64 x0_1,.int .i64 x0_2,.int .i64 x0_3,.int .i64 x0_4]]) (by kernel_rfl) Tryz.func17 (by kernel_rfl) qs17 (by kernel_rfl) (by kernel_rfl) (cast (by kernel_rfl) h)
end Go.Proofs.YtkfemiloehkmhaaGreat.V

namespace Go.Proofs.YtkfemiloehkmhaaGreat.V
open Go Go.Alog Go.Proofs.YtkfemiloehkmhaaGreat.T
set_option linter.unusedVariables false
set_option maxRecDepth 100000

def qs18:Nat→List (Nat × Nat):=fun i=>match i with | _=>[]
noncomputable def c18:Code:=bodyOf Tryz.f18
theorem cf18 (w0:World) (m:AM) (x0:Int) (R:Value→AM→Prop) (h :
 KI_∧(bcase (decide ((x0:Int)<0)) (
 (decide ((x0:Int)<0))=true∧RetP R (.pointer none) m) (
 KI_∧(bcase (bif decide ((x0:Int)<0) then true else decide ((x0:Int)>32000)) (
 RetP R (.pointer none) m) (
 ((0:Int)≤x0∧(x0:Int)≤x0∧(x0:Int)≤9223372036854775807∧((8:Nat):Int)*x0≤281474976710656)∧∀ b1:Nat,w0.heap.size≤b1→m b1=none→let m2:=AM.upd m b1 (.cells (zeros [.int .i64 0] (x0:Int).toNat).toArray 3);
 true=true∧∀ b3:Nat,w0.heap.size≤b3→m2 b3=none→let m4:=AM.upd m2 b3 (.cells #[.slice (some ⟨b1,0,none⟩) ((x0:Int).toNat) ((x0:Int).toNat)] 75);
 RetP R (pt_ b3) m4))))):CallsA Tryz.prog w0 18 #[.int .i64 x0] m R :=
  callsA_of (c:=c18) (args:=[.int .i64 x0]) (by kernel_rfl) Tryz.func18 (by kernel_rfl) qs18 (by kernel_rfl) (by kernel_rfl) (cast (by kernel_rfl) h)

def qs74:Nat→List (Nat × Nat):=fun i=>match i with | _=>[]
noncomputable def c74:Code:=bodyOf Tryz.f74
theorem cf74 (w0:World) (m:AM) (x0:Nat) (x1:Int) (R:Value→AM→Prop) (h :
 (bcase (!(Option.isNone (some (⟨x0,0,none⟩:Addr)))) (
 KI_∧(bcase (bif !(Option.isNone (some (⟨x0,0,none⟩:Addr))) then decide ((x1:Int)≥0) else false) (
 ∃ (A1:Option Addr) (n2 c3:Nat),m.cell ⟨x0,0,none⟩=some (.slice A1 n2 c3) ∧ 
 KI_∧RetP R (.bool (bif bif !(Option.isNone (some (⟨x0,0,none⟩:Addr))) then decide ((x1:Int)≥0) else false then decide ((x1:Int)<((n2:Nat):Int)) else false)) m) (
 (bif !(Option.isNone (some (⟨x0,0,none⟩:Addr))) then decide ((x1:Int)≥0) else false)=false∧RetP R (.bool false) m))) (
 (!(Option.isNone (some (⟨x0,0,none⟩:Addr))))=false∧false=false∧RetP R (.bool false) m))):CallsA Tryz.prog w0 74 #[pt_ x0,.int .i64 x1] m R :=
  callsA_of (c:=c74) (args:=[pt_ x0,.int .i64 x1]) (by kernel_rfl) Tryz.func74 (by kernel_rfl) qs74 (by kernel_rfl) (by kernel_rfl) (cast (by kernel_rfl) h)

def qs50:Nat→List (Nat × Nat):=fun i=>match i with | _=>[]
noncomputable def c50:Code:=bodyOf Tryz.f50
theorem cf50 (w0:World) (m:AM) (x0:Nat) (x1:Int) (R:Value→AM→Prop) (h :
 CallsA Tryz.prog w0 74 #[pt_ x0,.int .i64 x1] m fun r2 m3 =>
 ∃ t1:Bool,r2=.bool t1∧(bcase (!t1) (
 RetP R (.tuple #[.int .i64 0,.bool false]) m3) (
 ∃ (A4:Option Addr) (n5 c6:Nat),m3.cell ⟨x0,0,none⟩=some (.slice A4 n5 c6) ∧ 
 ((0:Int)≤x1∧x1<((n5:Nat):Int))∧nilO A4 fun a7 =>
 LA_ m3 (a7.add ((x1:Int).toNat*1)) fun i8 => 
 RetP R (.tuple #[.int .i64 i8,.bool true]) m3))):CallsA Tryz.prog w0 50 #[pt_ x0,.int .i64 x1] m R :=
  callsA_of (c:=c50) (args:=[pt_ x0,.int .i64 x1]) (by kernel_rfl) Tryz.func50 (by kernel_rfl) qs50 (by kernel_rfl) (by kernel_rfl) (cast (by kernel_rfl) h)

def qs52:Nat→List (Nat × Nat):=fun i=>match i with | 1000003=>[(0,0)] | _=>[]
noncomputable def c52:Code:=bodyOf Tryz.f52
theorem cf52 (w0:World) (m:AM) (x0:Nat) (x1:Int) (x2:Int) (R:Value→AM→Prop) (h :
 CallsA Tryz.prog w0 74 #[pt_ x0,.int .i64 x1] m fun r2 m3 =>
 ∃ t1:Bool,r2=.bool t1∧(bcase (!t1) (
 RetP R (.bool false) m3) (
 vcS Tryz.prog w0 qs52 (sub c52 [1,1,0]) (upd (upd (upd (upd (upd (argS [pt_ x0,.int .i64 x1,.int .i64 x2]) 6 (.bool false)) 7 (pt_ x0)) 8 (.int .i64 x1)) 9 (.bool t1)) 10 (.bool (!t1))) m3 (thenS (fun σ m=>vcS Tryz.prog w0 qs52 (sub c52 [1,1,1]) σ m (retQ Tryz.prog Tryz.f52 R)) (retQ Tryz.prog Tryz.f52 R))))):CallsA Tryz.prog w0 52 #[pt_ x0,.int .i64 x1,.int .i64 x2] m R :=
  callsA_of (c:=c52) (args:=[pt_ x0,.int .i64 x1,.int .i64 x2]) (by kernel_rfl) Tryz.func52 (by kernel_rfl) qs52 (by kernel_rfl) (by kernel_rfl) (cast (by kernel_rfl) h)
theorem vr52_110 (w0:World) (m:AM) (σ:Sg) (R:Value→AM→Prop)  (x0:Nat) (x1:Int) (x2:Int) (K:AM→Prop) (h0:σ 0=.pointer (some ⟨x0,0,none⟩)) (h1:σ 1=.int .i64 x1) (h2:σ 2=.int .i64 x2)
 (h_t : 
 (∃ (A4:Option Addr) (n5 c6:Nat),m.cell ⟨x0,0,none⟩=some (.slice A4 n5 c6) ∧ 
 CallsA Tryz.prog w0 54 #[.int .i64 x2] m fun r8 m9 =>
 ∃ i7:Int,r8=.int .i64 i7∧((0:Int)≤x1∧x1<((n5:Nat):Int))∧nilO A4 fun a10 =>
 StC w0.heap.size m9 (a10.add ((x1:Int).toNat*1)) (.int .i64 i7) fun m11 =>
 true=true∧K  m11) ∧
 (CallsA Tryz.prog w0 54 #[.int .i64 x2] m fun r13 m14 =>
 ∃ i12:Int,r13=.int .i64 i12∧∃ (A15:Option Addr) (n16 c17:Nat),m14.cell ⟨x0,0,none⟩=some (.slice A15 n16 c17) ∧ 
 ((0:Int)≤x1∧x1<((n16:Nat):Int))∧nilO A15 fun a18 =>
 StC w0.heap.size m14 (a18.add ((x1:Int).toNat*1)) (.int .i64 i12) fun m19 =>
 true=true∧K  m19))
 (h_k:∀ (σ:Sg)  (m:AM),K  m→(
 RetP R (.bool true) m)) :
 vcS Tryz.prog w0 qs52 (sub c52 [1,1,0]) σ m (thenS (fun σ m=>vcS Tryz.prog w0 qs52 (sub c52 [1,1,1]) σ m (retQ Tryz.prog Tryz.f52 R)) (retQ Tryz.prog Tryz.f52 R)):=by
  have es0:(upd (upd (upd σ 0 (pt_ x0)) 1 (.int .i64 x1)) 2 (.int .i64 x2))=σ:=by rw [upd_id h0,upd_id h1,upd_id h2]
  refine vcS_cut (Q0:=(fun σ m=>K  m)) (by kernel_rfl) (cast (congrArg (fun s=>trC Tryz.prog w0 qs52 (sub c52 [1,1,0]) s m (fun σ m=>K  m)) es0) (cast (by kernel_rfl) h_t)) ?_
  intro σ m hK
  have es:σ=σ:=by rfl
  exact cast (congrArg (fun s=>(thenS (fun σ m=>vcS Tryz.prog w0 qs52 (sub c52 [1,1,1]) σ m (retQ Tryz.prog Tryz.f52 R)) (retQ Tryz.prog Tryz.f52 R)) .normal s m) es) (cast (by kernel_rfl) (h_k σ  m hK))

def qs36:Nat→List (Nat × Nat):=fun i=>match i with | _=>[]
noncomputable def c36:Code:=bodyOf Tryz.f36
theorem cf36 (w0:World) (m:AM) (x0:Nat) (R:Value→AM→Prop) (h :
 (bcase (Option.isNone (some (⟨x0,0,none⟩:Addr))) (
 RetP R (.slice none 0 0) m) (
 ∃ (A1:Option Addr) (n2 c3:Nat),m.cell ⟨x0,0,none⟩=some (.slice A1 n2 c3) ∧ 
 CallsA Tryz.prog w0 19 #[.slice A1 n2 c3] m fun r7 m8 =>
 ∃ (A4:Option Addr) (n5 c6:Nat),r7=.slice A4 n5 c6∧RetP R (.slice A4 n5 c6) m8))):CallsA Tryz.prog w0 36 #[pt_ x0] m R :=
  callsA_of (c:=c36) (args:=[pt_ x0]) (by kernel_rfl) Tryz.func36 (by kernel_rfl) qs36 (by kernel_rfl) (by kernel_rfl) (cast (by kernel_rfl) h)

def qs21:Nat→List (Nat × Nat):=fun i=>match i with | _=>[]
noncomputable def c21:Code:=bodyOf Tryz.f21
theorem cf21 (w0:World) (m:AM) (x0:Nat) (R:Value→AM→Prop) (h :
 CallsA Tryz.prog w0 36 #[pt_ x0] m fun r4 m5 =>
 ∃ (A1:Option Addr) (n2 c3:Nat),r4=.slice A1 n2 c3∧vcS Tryz.prog w0 qs21 (sub c21 [1,1,0,0]) (upd (upd (upd (upd (argS [pt_ x0]) 2 (.slice none 0 0)) 4 (pt_ x0)) 5 (.slice A1 n2 c3)) 3 (.slice A1 n2 c3)) m5 (blockS 0 (thenS (fun σ m=>vcS Tryz.prog w0 qs21 (sub c21 [1,1,1]) σ m (retQ Tryz.prog Tryz.f21 R)) (retQ Tryz.prog Tryz.f21 R)))):CallsA Tryz.prog w0 21 #[pt_ x0] m R :=
  callsA_of (c:=c21) (args:=[pt_ x0]) (by kernel_rfl) Tryz.func21 (by kernel_rfl) qs21 (by kernel_rfl) (by kernel_rfl) (cast (by kernel_rfl) h)
def lq21_1100 (R:Value→AM→Prop)  (I0:Nat→Option Addr→Nat→Nat→AM→Prop) (E0_0:Option Addr→Nat→Nat→AM→Prop) (n0:Nat):Exit→Sg→AM→Prop
 | .normal,σ,m=>okS (σ 3)=true∧∃ n':Nat,n'<n0∧I0 n' (vSA (σ 3)) (vSN (σ 3)) (vSC (σ 3)) m
 | .exit id,σ,m=>if id=0 then okS (σ 3)=true∧E0_0 (vSA (σ 3)) (vSN (σ 3)) (vSC (σ 3)) m else False
 | .ret,σ,m=>retQ Tryz.prog Tryz.f21 R .ret σ m
 | _,_,_=>False
theorem vl21_1100 (w0:World) (m:AM) (σ:Sg) (R:Value→AM→Prop)   (x3:Option Addr) (x3n x3c:Nat) (I0:Nat→Option Addr→Nat→Nat→AM→Prop) (E0_0:Option Addr→Nat→Nat→AM→Prop) (N:Nat) (h3:σ 3=.slice x3 x3n x3c)
 (h_0:I0 N x3 x3n x3c m)
 (h_s:∀ (n0:Nat) (σ:Sg) (x3:Option Addr) (x3n:Nat) (x3c:Nat) (m:AM),I0 n0 x3 x3n x3c m→(
 KI_∧(bcase (decide ((((x3n:Nat):Int):Int)>0)) (
 KI_∧((0:Int)≤(IntKind.wrap .i64 (((x3n:Nat):Int)-1))∧(IntKind.wrap .i64 (((x3n:Nat):Int)-1))<((x3n:Nat):Int))∧nilO x3 fun a6 =>
 ∃ i7:Int,m.cell (a6.add ((IntKind.wrap .i64 (((x3n:Nat):Int)-1):Int).toNat*1))=some (.int .i64 i7) ∧ 
 KI_∧(bcase (bif decide ((((x3n:Nat):Int):Int)>0) then (i7:Int) == 0 else false) (
 KI_∧(0:Int)≤(IntKind.wrap .i64 (((x3n:Nat):Int)-1))∧((IntKind.wrap .i64 (((x3n:Nat):Int)-1):Int).toNat)≤x3c∧0≤((IntKind.wrap .i64 (((x3n:Nat):Int)-1):Int).toNat) ∧
 true=true∧∃ n':Nat,n'<n0∧I0 n' (if x3c=0 then x3 else Option.map (fun x=>Addr.add x (0*1)) x3) (((IntKind.wrap .i64 (((x3n:Nat):Int)-1):Int).toNat)-0) (x3c-0) m) (
 true=true∧E0_0 x3 x3n x3c m))) (
 (decide ((((x3n:Nat):Int):Int)>0))=false∧true=true∧E0_0 x3 x3n x3c m))))
 (h_e0:∀ (σ:Sg) (x3:Option Addr) (x3n:Nat) (x3c:Nat) (m:AM),E0_0 x3 x3n x3c m→(
 RetP R (.slice x3 x3n x3c) m)) :
 vcS Tryz.prog w0 qs21 (sub c21 [1,1,0,0]) σ m (blockS 0 (thenS (fun σ m=>vcS Tryz.prog w0 qs21 (sub c21 [1,1,1]) σ m (retQ Tryz.prog Tryz.f21 R)) (retQ Tryz.prog Tryz.f21 R))):=by
  rw [show sub c21 [1,1,0,0]=.loop (sub c21 [1,1,0,0,0]) from by kernel_rfl]
  refine loopQ (fun n0 σ m=>okS (σ 3)=true∧I0 n0 (vSA (σ 3)) (vSN (σ 3)) (vSC (σ 3)) m) N (fun n0=>(lq21_1100 R  I0 E0_0 n0)) ⟨(by rw [h3]; rfl),(by rw [h3]; exact h_0)⟩ ?_ ?_ ?_
  · rintro n0 σ m ⟨kk0,n',hlt,hI⟩; exact ⟨n',hlt,kk0,hI⟩
  · intro n0 e σ m hne h
    cases e with
    | normal=>exact absurd rfl hne
    | ret=>exact h
    | exit id =>
      by_cases e0:id=0
      · subst e0
        obtain ⟨kk0,hE⟩:=h
        have es:(upd σ 3 (.slice (vSA (σ 3)) (vSN (σ 3)) (vSC (σ 3))))=σ:=by rw [upd_id (ok_slice kk0)]
        exact cast (congrArg (fun s=>(blockS 0 (thenS (fun σ m=>vcS Tryz.prog w0 qs21 (sub c21 [1,1,1]) σ m (retQ Tryz.prog Tryz.f21 R)) (retQ Tryz.prog Tryz.f21 R))) (.exit 0) s m) es) (cast (by kernel_rfl) (h_e0 σ (vSA (σ 3)) (vSN (σ 3)) (vSC (σ 3)) m hE))
      · replace h:=(if_neg e0:(if id=0 then _ else _)=_).mp h
        exact False.elim h
    | _=>exact False.elim h
  · rintro n0 σ m ⟨kk0,hI⟩
    have es:(upd σ 3 (.slice (vSA (σ 3)) (vSN (σ 3)) (vSC (σ 3))))=σ:=by rw [upd_id (ok_slice kk0)]
    exact cast (congrArg (fun s=>vcS Tryz.prog w0 qs21 (sub c21 [1,1,0,0,0]) s m (lq21_1100 R  I0 E0_0 n0)) es) (cast (by kernel_rfl) (h_s n0 σ (vSA (σ 3)) (vSN (σ 3)) (vSC (σ 3)) m hI))

def qs19:Nat→List (Nat × Nat):=fun i=>match i with | _=>[]
noncomputable def c19:Code:=bodyOf Tryz.f19
theorem cf19 (w0:World) (m:AM) (x0:Option Addr) (x0n x0c:Nat) (R:Value→AM→Prop) (h :
 (bcase (Option.isNone x0) (
 RetP R (.slice none 0 0) m) (
 true=true∧∀ b1:Nat,w0.heap.size≤b1→m b1=none→let m2:=AM.upd m b1 (.cells #[] 3);
 awp Tryz.prog w0.heap.size (Builtin.append_ #[23,23] 23 #[.slice (some ⟨b1,0,none⟩) 0 0,.slice x0 x0n x0c]) m2 fun v3 m4 =>
 ∃ (A5:Option Addr) (n6 c7:Nat),v3=.slice A5 n6 c7∧RetP R (.slice A5 n6 c7) m4))):CallsA Tryz.prog w0 19 #[.slice x0 x0n x0c] m R :=
  callsA_of (c:=c19) (args:=[.slice x0 x0n x0c]) (by kernel_rfl) Tryz.func19 (by kernel_rfl) qs19 (by kernel_rfl) (by kernel_rfl) (cast (by kernel_rfl) h)
end Go.Proofs.YtkfemiloehkmhaaGreat.V

namespace Go.Proofs.YtkfemiloehkmhaaGreat.V
open Go Go.Alog Go.Proofs.YtkfemiloehkmhaaGreat.T
set_option linter.unusedVariables false
set_option maxRecDepth 100000

def qs76:Nat→List (Nat × Nat):=fun i=>match i with | 1000011=>[(0,0)] | 1000014=>[(0,0)] | _=>[]
noncomputable def c76:Code:=bodyOf Tryz.f76
theorem cf76 (w0:World) (m:AM) (x0_0:Int) (x0_1:Int) (x0_2:Int) (x0_3:Int) (x0_4:Int) (R:Value→AM→Prop) (h :
 ∀ b1:Nat,w0.heap.size≤b1→m b1=none→let m2:=AM.upd m b1 (.cells #[.int .i64 x0_0,.int .i64 x0_1,.int .i64 x0_2,.int .i64 x0_3,.int .i64 x0_4] 36);
 LI_ m2 b1 0 fun i3 => 
 KI_∧(bcase ((i3:Int) == 1) (
 vcS Tryz.prog w0 qs76 (sub c76 [1,0,1,0,1]) (upd (upd (upd (upd (upd (upd (upd (argS [.agg #[.int .i64 x0_0,.int .i64 x0_1,.int .i64 x0_2,.int .i64 x0_3,.int .i64 x0_4]]) 1 (pt_ b1)) 2 (.slice none 0 0)) 3 (.int .i64 0)) 4 (pt_ b1)) 5 (.int .i64 i3)) 7 (.bool ((i3:Int) == 1))) 6 (.bool ((i3:Int) == 1))) m2 (blockS 0 (thenS (fun σ m=>vcS Tryz.prog w0 qs76 (sub c76 [1,1]) σ m (retQ Tryz.prog Tryz.f76 R)) (retQ Tryz.prog Tryz.f76 R)))) (
 KI_∧(bcase ((i3:Int) == 2) (
 vcS Tryz.prog w0 qs76 (sub c76 [1,0,1,0,1]) (upd (upd (upd (upd (upd (upd (upd (upd (upd (argS [.agg #[.int .i64 x0_0,.int .i64 x0_1,.int .i64 x0_2,.int .i64 x0_3,.int .i64 x0_4]]) 1 (pt_ b1)) 2 (.slice none 0 0)) 3 (.int .i64 0)) 4 (pt_ b1)) 5 (.int .i64 i3)) 7 (.bool ((i3:Int) == 1))) 6 (.bool ((i3:Int) == 1))) 8 (.bool ((i3:Int) == 2))) 6 (.bool ((i3:Int) == 2))) m2 (blockS 0 (thenS (fun σ m=>vcS Tryz.prog w0 qs76 (sub c76 [1,1]) σ m (retQ Tryz.prog Tryz.f76 R)) (retQ Tryz.prog Tryz.f76 R)))) (
 KI_∧(bcase ((i3:Int) == 3) (
 vcS Tryz.prog w0 qs76 (sub c76 [1,0,1,0,1]) (upd (upd (upd (upd (upd (upd (upd (upd (upd (upd (upd (argS [.agg #[.int .i64 x0_0,.int .i64 x0_1,.int .i64 x0_2,.int .i64 x0_3,.int .i64 x0_4]]) 1 (pt_ b1)) 2 (.slice none 0 0)) 3 (.int .i64 0)) 4 (pt_ b1)) 5 (.int .i64 i3)) 7 (.bool ((i3:Int) == 1))) 6 (.bool ((i3:Int) == 1))) 8 (.bool ((i3:Int) == 2))) 6 (.bool ((i3:Int) == 2))) 9 (.bool ((i3:Int) == 3))) 6 (.bool ((i3:Int) == 3))) m2 (blockS 0 (thenS (fun σ m=>vcS Tryz.prog w0 qs76 (sub c76 [1,1]) σ m (retQ Tryz.prog Tryz.f76 R)) (retQ Tryz.prog Tryz.f76 R)))) (
 KI_∧(bcase ((i3:Int) == 4) (
 vcS Tryz.prog w0 qs76 (sub c76 [1,0,1,0,1]) (upd (upd (upd (upd (upd (upd (upd (upd (upd (upd (upd (upd (upd (argS [.agg #[.int .i64 x0_0,.int .i64 x0_1,.int .i64 x0_2,.int .i64 x0_3,.int .i64 x0_4]]) 1 (pt_ b1)) 2 (.slice none 0 0)) 3 (.int .i64 0)) 4 (pt_ b1)) 5 (.int .i64 i3)) 7 (.bool ((i3:Int) == 1))) 6 (.bool ((i3:Int) == 1))) 8 (.bool ((i3:Int) == 2))) 6 (.bool ((i3:Int) == 2))) 9 (.bool ((i3:Int) == 3))) 6 (.bool ((i3:Int) == 3))) 10 (.bool ((i3:Int) == 4))) 6 (.bool ((i3:Int) == 4))) m2 (blockS 0 (thenS (fun σ m=>vcS Tryz.prog w0 qs76 (sub c76 [1,1]) σ m (retQ Tryz.prog Tryz.f76 R)) (retQ Tryz.prog Tryz.f76 R)))) (
 KI_∧(bcase ((i3:Int) == 5) (
 vcS Tryz.prog w0 qs76 (sub c76 [1,0,1,0,1]) (upd (upd (upd (upd (upd (upd (upd (upd (upd (upd (upd (upd (upd (upd (upd (argS [.agg #[.int .i64 x0_0,.int .i64 x0_1,.int .i64 x0_2,.int .i64 x0_3,.int .i64 x0_4]]) 1 (pt_ b1)) 2 (.slice none 0 0)) 3 (.int .i64 0)) 4 (pt_ b1)) 5 (.int .i64 i3)) 7 (.bool ((i3:Int) == 1))) 6 (.bool ((i3:Int) == 1))) 8 (.bool ((i3:Int) == 2))) 6 (.bool ((i3:Int) == 2))) 9 (.bool ((i3:Int) == 3))) 6 (.bool ((i3:Int) == 3))) 10 (.bool ((i3:Int) == 4))) 6 (.bool ((i3:Int) == 4))) 11 (.bool ((i3:Int) == 5))) 6 (.bool ((i3:Int) == 5))) m2 (blockS 0 (thenS (fun σ m=>vcS Tryz.prog w0 qs76 (sub c76 [1,1]) σ m (retQ Tryz.prog Tryz.f76 R)) (retQ Tryz.prog Tryz.f76 R)))) (
 KI_∧(bcase ((i3:Int) == 6) (
 vcS Tryz.prog w0 qs76 (sub c76 [1,0,1,0,1]) (upd (upd (upd (upd (upd (upd (upd (upd (upd (upd (upd (upd (upd (upd (upd (upd (upd (argS [.agg #[.int .i64 x0_0,.int .i64 x0_1,.int .i64 x0_2,.int .i64 x0_3,.int .i64 x0_4]]) 1 (pt_ b1)) 2 (.slice none 0 0)) 3 (.int .i64 0)) 4 (pt_ b1)) 5 (.int .i64 i3)) 7 (.bool ((i3:Int) == 1))) 6 (.bool ((i3:Int) == 1))) 8 (.bool ((i3:Int) == 2))) 6 (.bool ((i3:Int) == 2))) 9 (.bool ((i3:Int) == 3))) 6 (.bool ((i3:Int) == 3))) 10 (.bool ((i3:Int) == 4))) 6 (.bool ((i3:Int) == 4))) 11 (.bool ((i3:Int) == 5))) 6 (.bool ((i3:Int) == 5))) 12 (.bool ((i3:Int) == 6))) 6 (.bool ((i3:Int) == 6))) m2 (blockS 0 (thenS (fun σ m=>vcS Tryz.prog w0 qs76 (sub c76 [1,1]) σ m (retQ Tryz.prog Tryz.f76 R)) (retQ Tryz.prog Tryz.f76 R)))) (
 KI_∧(bcase ((i3:Int) == 7) (
 vcS Tryz.prog w0 qs76 (sub c76 [1,0,1,0,1]) (upd (upd (upd (upd (upd (upd (upd (upd (upd (upd (upd (upd (upd (upd (upd (upd (upd (upd (upd (argS [.agg #[.int .i64 x0_0,.int .i64 x0_1,.int .i64 x0_2,.int .i64 x0_3,.int .i64 x0_4]]) 1 (pt_ b1)) 2 (.slice none 0 0)) 3 (.int .i64 0)) 4 (pt_ b1)) 5 (.int .i64 i3)) 7 (.bool ((i3:Int) == 1))) 6 (.bool ((i3:Int) == 1))) 8 (.bool ((i3:Int) == 2))) 6 (.bool ((i3:Int) == 2))) 9 (.bool ((i3:Int) == 3))) 6 (.bool ((i3:Int) == 3))) 10 (.bool ((i3:Int) == 4))) 6 (.bool ((i3:Int) == 4))) 11 (.bool ((i3:Int) == 5))) 6 (.bool ((i3:Int) == 5))) 12 (.bool ((i3:Int) == 6))) 6 (.bool ((i3:Int) == 6))) 13 (.bool ((i3:Int) == 7))) 6 (.bool ((i3:Int) == 7))) m2 (blockS 0 (thenS (fun σ m=>vcS Tryz.prog w0 qs76 (sub c76 [1,1]) σ m (retQ Tryz.prog Tryz.f76 R)) (retQ Tryz.prog Tryz.f76 R)))) (
 KI_∧(bcase ((i3:Int) == 8) (
 vcS Tryz.prog w0 qs76 (sub c76 [1,0,1,0,1]) (upd (upd (upd (upd (upd (upd (upd (upd (upd (upd (upd (upd (upd (upd (upd (upd (upd (upd (upd (upd (upd (argS [.agg #[.int .i64 x0_0,.int .i64 x0_1,.int .i64 x0_2,.int .i64 x0_3,.int .i64 x0_4]]) 1 (pt_ b1)) 2 (.slice none 0 0)) 3 (.int .i64 0)) 4 (pt_ b1)) 5 (.int .i64 i3)) 7 (.bool ((i3:Int) == 1))) 6 (.bool ((i3:Int) == 1))) 8 (.bool ((i3:Int) == 2))) 6 (.bool ((i3:Int) == 2))) 9 (.bool ((i3:Int) == 3))) 6 (.bool ((i3:Int) == 3))) 10 (.bool ((i3:Int) == 4))) 6 (.bool ((i3:Int) == 4))) 11 (.bool ((i3:Int) == 5))) 6 (.bool ((i3:Int) == 5))) 12 (.bool ((i3:Int) == 6))) 6 (.bool ((i3:Int) == 6))) 13 (.bool ((i3:Int) == 7))) 6 (.bool ((i3:Int) == 7))) 14 (.bool ((i3:Int) == 8))) 6 (.bool ((i3:Int) == 8))) m2 (blockS 0 (thenS (fun σ m=>vcS Tryz.prog w0 qs76 (sub c76 [1,1]) σ m (retQ Tryz.prog Tryz.f76 R)) (retQ Tryz.prog Tryz.f76 R)))) (
 KI_∧vcS Tryz.prog w0 qs76 (sub c76 [1,0,1,0,1]) (upd (upd (upd (upd (upd (upd (upd (upd (upd (upd (upd (upd (upd (upd (upd (upd (upd (upd (upd (upd (upd (upd (upd (argS [.agg #[.int .i64 x0_0,.int .i64 x0_1,.int .i64 x0_2,.int .i64 x0_3,.int .i64 x0_4]]) 1 (pt_ b1)) 2 (.slice none 0 0)) 3 (.int .i64 0)) 4 (pt_ b1)) 5 (.int .i64 i3)) 7 (.bool ((i3:Int) == 1))) 6 (.bool ((i3:Int) == 1))) 8 (.bool ((i3:Int) == 2))) 6 (.bool ((i3:Int) == 2))) 9 (.bool ((i3:Int) == 3))) 6 (.bool ((i3:Int) == 3))) 10 (.bool ((i3:Int) == 4))) 6 (.bool ((i3:Int) == 4))) 11 (.bool ((i3:Int) == 5))) 6 (.bool ((i3:Int) == 5))) 12 (.bool ((i3:Int) == 6))) 6 (.bool ((i3:Int) == 6))) 13 (.bool ((i3:Int) == 7))) 6 (.bool ((i3:Int) == 7))) 14 (.bool ((i3:Int) == 8))) 6 (.bool ((i3:Int) == 8))) 15 (.bool ((i3:Int) == 9))) 6 (.bool ((i3:Int) == 9))) m2 (blockS 0 (thenS (fun σ m=>vcS Tryz.prog w0 qs76 (sub c76 [1,1]) σ m (retQ Tryz.prog Tryz.f76 R)) (retQ Tryz.prog Tryz.f76 R)))))))))))))))))))):CallsA Tryz.prog w0 76 #[.agg #[.int .i64 x0_0,.int .i64 x0_1,.int .i64 x0_2,.int .i64 x0_3,.int .i64 x0_4]] m R :=
  callsA_of (c:=c76) (args:=[.agg #[.int .i64 x0_0,.int .i64 x0_1,.int .i64 x0_2,.int .i64 x0_3,.int .i64 x0_4]]) (by kernel_rfl) Tryz.func76 (by kernel_rfl) qs76 (by kernel_rfl) (by kernel_rfl) (cast (by kernel_rfl) h)
theorem vk76_10101 (w0:World) (m:AM) (σ:Sg) (R:Value→AM→Prop)  (x1:Nat) (x5:Int) (x6:Bool) (h1:σ 1=.pointer (some ⟨x1,0,none⟩)) (h5:σ 5=.int .i64 x5) (h6:σ 6=.bool x6) (h :
 (bcase x6 (
 vcS Tryz.prog w0 qs76 (sub c76 [1,0,1,0,1,0,0]) (upd (upd (upd σ 1 (pt_ x1)) 5 (.int .i64 x5)) 6 (.bool x6)) m (thenS (fun σ m=>vcS Tryz.prog w0 qs76 (sub c76 [1,0,1,0,1,0,1]) σ m (blockS 0 (thenS (fun σ m=>vcS Tryz.prog w0 qs76 (sub c76 [1,1]) σ m (retQ Tryz.prog Tryz.f76 R)) (retQ Tryz.prog Tryz.f76 R)))) (blockS 0 (thenS (fun σ m=>vcS Tryz.prog w0 qs76 (sub c76 [1,1]) σ m (retQ Tryz.prog Tryz.f76 R)) (retQ Tryz.prog Tryz.f76 R))))) (
 KI_∧(bcase ((x5:Int) == 10) (
 vcS Tryz.prog w0 qs76 (sub c76 [1,0,1,0,1,1,1]) (upd (upd (upd (upd (upd σ 1 (pt_ x1)) 5 (.int .i64 x5)) 6 (.bool x6)) 24 (.bool ((x5:Int) == 10))) 23 (.bool ((x5:Int) == 10))) m (blockS 0 (thenS (fun σ m=>vcS Tryz.prog w0 qs76 (sub c76 [1,1]) σ m (retQ Tryz.prog Tryz.f76 R)) (retQ Tryz.prog Tryz.f76 R)))) (
 KI_∧vcS Tryz.prog w0 qs76 (sub c76 [1,0,1,0,1,1,1]) (upd (upd (upd (upd (upd (upd (upd σ 1 (pt_ x1)) 5 (.int .i64 x5)) 6 (.bool x6)) 24 (.bool ((x5:Int) == 10))) 23 (.bool ((x5:Int) == 10))) 25 (.bool ((x5:Int) == 12))) 23 (.bool ((x5:Int) == 12))) m (blockS 0 (thenS (fun σ m=>vcS Tryz.prog w0 qs76 (sub c76 [1,1]) σ m (retQ Tryz.prog Tryz.f76 R)) (retQ Tryz.prog Tryz.f76 R)))))))) :
 vcS Tryz.prog w0 qs76 (sub c76 [1,0,1,0,1]) σ m (blockS 0 (thenS (fun σ m=>vcS Tryz.prog w0 qs76 (sub c76 [1,1]) σ m (retQ Tryz.prog Tryz.f76 R)) (retQ Tryz.prog Tryz.f76 R))):=by
  have es0:(upd (upd (upd σ 1 (pt_ x1)) 5 (.int .i64 x5)) 6 (.bool x6))=σ:=by rw [upd_id h1,upd_id h5,upd_id h6]
  exact cast (congrArg (fun s=>vcS Tryz.prog w0 qs76 (sub c76 [1,0,1,0,1]) s m (blockS 0 (thenS (fun σ m=>vcS Tryz.prog w0 qs76 (sub c76 [1,1]) σ m (retQ Tryz.prog Tryz.f76 R)) (retQ Tryz.prog Tryz.f76 R)))) es0) (cast (by kernel_rfl) h)
theorem vr76_1010100 (w0:World) (m:AM) (σ:Sg) (R:Value→AM→Prop)  (x1:Nat) (K:Option Addr→Nat→Nat→Int→AM→Prop) (h1:σ 1=.pointer (some ⟨x1,0,none⟩))
 (h_t : 
 LI_ m x1 2 fun i4 => 
 LI_ m x1 3 fun i5 => 
 LI_ m x1 1 fun i6 => 
 true=true∧∀ b7:Nat,w0.heap.size≤b7→m b7=none→let m8:=AM.upd m b7 (.cells #[.int .i64 i4,.int .i64 i5] 3);
 true=true∧true=true∧true=true∧K (some ⟨b7,0,none⟩) 2 2 i6 m8)
 (h_k:∀ (σ:Sg) (y2:Option Addr) (y2n:Nat) (y2c:Nat) (y3:Int) (m:AM),K y2 y2n y2c y3 m→(
 RetP R (.tuple #[.slice y2 y2n y2c,.int .i64 y3]) m)) :
 vcS Tryz.prog w0 qs76 (sub c76 [1,0,1,0,1,0,0]) σ m (thenS (fun σ m=>vcS Tryz.prog w0 qs76 (sub c76 [1,0,1,0,1,0,1]) σ m (blockS 0 (thenS (fun σ m=>vcS Tryz.prog w0 qs76 (sub c76 [1,1]) σ m (retQ Tryz.prog Tryz.f76 R)) (retQ Tryz.prog Tryz.f76 R)))) (blockS 0 (thenS (fun σ m=>vcS Tryz.prog w0 qs76 (sub c76 [1,1]) σ m (retQ Tryz.prog Tryz.f76 R)) (retQ Tryz.prog Tryz.f76 R)))):=by
  have es0:(upd σ 1 (pt_ x1))=σ:=by rw [upd_id h1]
  refine vcS_cut (Q0:=(fun σ m=>okS (σ 2)=true∧okI .i64 (σ 3)=true∧K (vSA (σ 2)) (vSN (σ 2)) (vSC (σ 2)) (vI (σ 3)) m)) (by kernel_rfl) (cast (congrArg (fun s=>trC Tryz.prog w0 qs76 (sub c76 [1,0,1,0,1,0,0]) s m (fun σ m=>okS (σ 2)=true∧okI .i64 (σ 3)=true∧K (vSA (σ 2)) (vSN (σ 2)) (vSC (σ 2)) (vI (σ 3)) m)) es0) (cast (by kernel_rfl) h_t)) ?_
  rintro σ m ⟨kk0,kk1,hK⟩
  have es:(upd (upd σ 2 (.slice (vSA (σ 2)) (vSN (σ 2)) (vSC (σ 2)))) 3 (.int .i64 (vI (σ 3))))=σ:=by rw [upd_id (ok_slice kk0),upd_id (ok_int kk1)]
  exact cast (congrArg (fun s=>(thenS (fun σ m=>vcS Tryz.prog w0 qs76 (sub c76 [1,0,1,0,1,0,1]) σ m (blockS 0 (thenS (fun σ m=>vcS Tryz.prog w0 qs76 (sub c76 [1,1]) σ m (retQ Tryz.prog Tryz.f76 R)) (retQ Tryz.prog Tryz.f76 R)))) (blockS 0 (thenS (fun σ m=>vcS Tryz.prog w0 qs76 (sub c76 [1,1]) σ m (retQ Tryz.prog Tryz.f76 R)) (retQ Tryz.prog Tryz.f76 R)))) .normal s m) es) (cast (by kernel_rfl) (h_k σ (vSA (σ 2)) (vSN (σ 2)) (vSC (σ 2)) (vI (σ 3)) m hK))
theorem vk76_1010111 (w0:World) (m:AM) (σ:Sg) (R:Value→AM→Prop)  (x1:Nat) (x5:Int) (x23:Bool) (h1:σ 1=.pointer (some ⟨x1,0,none⟩)) (h5:σ 5=.int .i64 x5) (h23:σ 23=.bool x23) (h :
 (bcase x23 (
 vcS Tryz.prog w0 qs76 (sub c76 [1,0,1,0,1,1,1,0,0]) (upd (upd (upd σ 1 (pt_ x1)) 5 (.int .i64 x5)) 23 (.bool x23)) m (thenS (fun σ m=>vcS Tryz.prog w0 qs76 (sub c76 [1,0,1,0,1,1,1,0,1]) σ m (blockS 0 (thenS (fun σ m=>vcS Tryz.prog w0 qs76 (sub c76 [1,1]) σ m (retQ Tryz.prog Tryz.f76 R)) (retQ Tryz.prog Tryz.f76 R)))) (blockS 0 (thenS (fun σ m=>vcS Tryz.prog w0 qs76 (sub c76 [1,1]) σ m (retQ Tryz.prog Tryz.f76 R)) (retQ Tryz.prog Tryz.f76 R))))) (
 KI_∧(bcase ((x5:Int) == 11) (
 LI_ m x1 1 fun i9 => 
 RetP R (.tuple #[.slice none 0 0,.int .i64 i9]) m) (
 KI_∧(bcase ((x5:Int) == 13) (
 vcS Tryz.prog w0 qs76 (sub c76 [1,0,1,0,1,1,1,1,1,1,1]) (upd (upd (upd (upd (upd (upd (upd σ 1 (pt_ x1)) 5 (.int .i64 x5)) 23 (.bool x23)) 32 (.bool ((x5:Int) == 11))) 31 (.bool ((x5:Int) == 11))) 36 (.bool ((x5:Int) == 13))) 35 (.bool ((x5:Int) == 13))) m (blockS 0 (thenS (fun σ m=>vcS Tryz.prog w0 qs76 (sub c76 [1,1]) σ m (retQ Tryz.prog Tryz.f76 R)) (retQ Tryz.prog Tryz.f76 R)))) (
 KI_∧(bcase ((x5:Int) == 15) (
 vcS Tryz.prog w0 qs76 (sub c76 [1,0,1,0,1,1,1,1,1,1,1]) (upd (upd (upd (upd (upd (upd (upd (upd (upd σ 1 (pt_ x1)) 5 (.int .i64 x5)) 23 (.bool x23)) 32 (.bool ((x5:Int) == 11))) 31 (.bool ((x5:Int) == 11))) 36 (.bool ((x5:Int) == 13))) 35 (.bool ((x5:Int) == 13))) 37 (.bool ((x5:Int) == 15))) 35 (.bool ((x5:Int) == 15))) m (blockS 0 (thenS (fun σ m=>vcS Tryz.prog w0 qs76 (sub c76 [1,1]) σ m (retQ Tryz.prog Tryz.f76 R)) (retQ Tryz.prog Tryz.f76 R)))) (
 KI_∧vcS Tryz.prog w0 qs76 (sub c76 [1,0,1,0,1,1,1,1,1,1,1]) (upd (upd (upd (upd (upd (upd (upd (upd (upd (upd (upd σ 1 (pt_ x1)) 5 (.int .i64 x5)) 23 (.bool x23)) 32 (.bool ((x5:Int) == 11))) 31 (.bool ((x5:Int) == 11))) 36 (.bool ((x5:Int) == 13))) 35 (.bool ((x5:Int) == 13))) 37 (.bool ((x5:Int) == 15))) 35 (.bool ((x5:Int) == 15))) 38 (.bool ((x5:Int) == 16))) 35 (.bool ((x5:Int) == 16))) m (blockS 0 (thenS (fun σ m=>vcS Tryz.prog w0 qs76 (sub c76 [1,1]) σ m (retQ Tryz.prog Tryz.f76 R)) (retQ Tryz.prog Tryz.f76 R)))))))))))) :
 vcS Tryz.prog w0 qs76 (sub c76 [1,0,1,0,1,1,1]) σ m (blockS 0 (thenS (fun σ m=>vcS Tryz.prog w0 qs76 (sub c76 [1,1]) σ m (retQ Tryz.prog Tryz.f76 R)) (retQ Tryz.prog Tryz.f76 R))):=by
  have es0:(upd (upd (upd σ 1 (pt_ x1)) 5 (.int .i64 x5)) 23 (.bool x23))=σ:=by rw [upd_id h1,upd_id h5,upd_id h23]
  exact cast (congrArg (fun s=>vcS Tryz.prog w0 qs76 (sub c76 [1,0,1,0,1,1,1]) s m (blockS 0 (thenS (fun σ m=>vcS Tryz.prog w0 qs76 (sub c76 [1,1]) σ m (retQ Tryz.prog Tryz.f76 R)) (retQ Tryz.prog Tryz.f76 R)))) es0) (cast (by kernel_rfl) h)
theorem vr76_101011100 (w0:World) (m:AM) (σ:Sg) (R:Value→AM→Prop)  (x1:Nat) (K:Option Addr→Nat→Nat→Int→AM→Prop) (h1:σ 1=.pointer (some ⟨x1,0,none⟩))
 (h_t : 
 LI_ m x1 2 fun i10 => 
 LI_ m x1 1 fun i11 => 
 true=true∧∀ b12:Nat,w0.heap.size≤b12→m b12=none→let m13:=AM.upd m b12 (.cells #[.int .i64 i10] 3);
 true=true∧true=true∧true=true∧K (some ⟨b12,0,none⟩) 1 1 i11 m13)
 (h_k:∀ (σ:Sg) (y2:Option Addr) (y2n:Nat) (y2c:Nat) (y3:Int) (m:AM),K y2 y2n y2c y3 m→(
 RetP R (.tuple #[.slice y2 y2n y2c,.int .i64 y3]) m)) :
 vcS Tryz.prog w0 qs76 (sub c76 [1,0,1,0,1,1,1,0,0]) σ m (thenS (fun σ m=>vcS Tryz.prog w0 qs76 (sub c76 [1,0,1,0,1,1,1,0,1]) σ m (blockS 0 (thenS (fun σ m=>vcS Tryz.prog w0 qs76 (sub c76 [1,1]) σ m (retQ Tryz.prog Tryz.f76 R)) (retQ Tryz.prog Tryz.f76 R)))) (blockS 0 (thenS (fun σ m=>vcS Tryz.prog w0 qs76 (sub c76 [1,1]) σ m (retQ Tryz.prog Tryz.f76 R)) (retQ Tryz.prog Tryz.f76 R)))):=by
  have es0:(upd σ 1 (pt_ x1))=σ:=by rw [upd_id h1]
  refine vcS_cut (Q0:=(fun σ m=>okS (σ 2)=true∧okI .i64 (σ 3)=true∧K (vSA (σ 2)) (vSN (σ 2)) (vSC (σ 2)) (vI (σ 3)) m)) (by kernel_rfl) (cast (congrArg (fun s=>trC Tryz.prog w0 qs76 (sub c76 [1,0,1,0,1,1,1,0,0]) s m (fun σ m=>okS (σ 2)=true∧okI .i64 (σ 3)=true∧K (vSA (σ 2)) (vSN (σ 2)) (vSC (σ 2)) (vI (σ 3)) m)) es0) (cast (by kernel_rfl) h_t)) ?_
  rintro σ m ⟨kk0,kk1,hK⟩
  have es:(upd (upd σ 2 (.slice (vSA (σ 2)) (vSN (σ 2)) (vSC (σ 2)))) 3 (.int .i64 (vI (σ 3))))=σ:=by rw [upd_id (ok_slice kk0),upd_id (ok_int kk1)]
  exact cast (congrArg (fun s=>(thenS (fun σ m=>vcS Tryz.prog w0 qs76 (sub c76 [1,0,1,0,1,1,1,0,1]) σ m (blockS 0 (thenS (fun σ m=>vcS Tryz.prog w0 qs76 (sub c76 [1,1]) σ m (retQ Tryz.prog Tryz.f76 R)) (retQ Tryz.prog Tryz.f76 R)))) (blockS 0 (thenS (fun σ m=>vcS Tryz.prog w0 qs76 (sub c76 [1,1]) σ m (retQ Tryz.prog Tryz.f76 R)) (retQ Tryz.prog Tryz.f76 R)))) .normal s m) es) (cast (by kernel_rfl) (h_k σ (vSA (σ 2)) (vSN (σ 2)) (vSC (σ 2)) (vI (σ 3)) m hK))
theorem vk76_10101111111 (w0:World) (m:AM) (σ:Sg) (R:Value→AM→Prop)  (x1:Nat) (x5:Int) (x35:Bool) (h1:σ 1=.pointer (some ⟨x1,0,none⟩)) (h5:σ 5=.int .i64 x5) (h35:σ 35=.bool x35) (h :
 (bcase x35 (
 LI_ m x1 1 fun i14 => 
 LI_ m x1 2 fun i15 => 
 true=true∧∀ b16:Nat,w0.heap.size≤b16→m b16=none→let m17:=AM.upd m b16 (.cells #[.int .i64 i14,.int .i64 i15] 3);
 RetP R (.tuple #[.slice (some ⟨b16,0,none⟩) 2 2,.int .i64 0]) m17) (
 KI_∧(bcase ((x5:Int) == 14) (
 (bcase ((x5:Int) == 14) (
 LI_ m x1 1 fun i18 => 
 true=true∧∀ b19:Nat,w0.heap.size≤b19→m b19=none→let m20:=AM.upd m b19 (.cells #[.int .i64 i18] 3);
 RetP R (.tuple #[.slice (some ⟨b19,0,none⟩) 1 1,.int .i64 0]) m20) (
 KI_∧(bcase ((x5:Int) == 18) (
 RetP R (.tuple #[.slice none 0 0,.int .i64 31]) m) (
 KI_∧(bcase ((x5:Int) == 20) (
 LI_ m x1 4 fun i21 => 
 CallsA Tryz.prog w0 87 #[.int .i64 i21] m fun r26 m27 =>
 ∃ (A22:Option Addr) (n23 c24:Nat),∃ i25:Int,r26=.tuple #[.slice A22 n23 c24,.int .i64 i25]∧RetP R (.tuple #[.slice A22 n23 c24,.int .i64 i25]) m27) (
 RetP R (.tuple #[.slice none 0 0,.int .i64 0]) m))))))) (
 KI_∧(bcase ((x5:Int) == 19) (
 LI_ m x1 1 fun i30 => 
 true=true∧∀ b31:Nat,w0.heap.size≤b31→m b31=none→let m32:=AM.upd m b31 (.cells #[.int .i64 i30] 3);
 RetP R (.tuple #[.slice (some ⟨b31,0,none⟩) 1 1,.int .i64 0]) m32) (
 KI_∧(bcase ((x5:Int) == 18) (
 RetP R (.tuple #[.slice none 0 0,.int .i64 31]) m) (
 KI_∧(bcase ((x5:Int) == 20) (
 LI_ m x1 4 fun i33 => 
 CallsA Tryz.prog w0 87 #[.int .i64 i33] m fun r38 m39 =>
 ∃ (A34:Option Addr) (n35 c36:Nat),∃ i37:Int,r38=.tuple #[.slice A34 n35 c36,.int .i64 i37]∧RetP R (.tuple #[.slice A34 n35 c36,.int .i64 i37]) m39) (
 RetP R (.tuple #[.slice none 0 0,.int .i64 0]) m))))))))))) :
 vcS Tryz.prog w0 qs76 (sub c76 [1,0,1,0,1,1,1,1,1,1,1]) σ m (blockS 0 (thenS (fun σ m=>vcS Tryz.prog w0 qs76 (sub c76 [1,1]) σ m (retQ Tryz.prog Tryz.f76 R)) (retQ Tryz.prog Tryz.f76 R))):=by
  have es0:(upd (upd (upd σ 1 (pt_ x1)) 5 (.int .i64 x5)) 35 (.bool x35))=σ:=by rw [upd_id h1,upd_id h5,upd_id h35]
  exact cast (congrArg (fun s=>vcS Tryz.prog w0 qs76 (sub c76 [1,0,1,0,1,1,1,1,1,1,1]) s m (blockS 0 (thenS (fun σ m=>vcS Tryz.prog w0 qs76 (sub c76 [1,1]) σ m (retQ Tryz.prog Tryz.f76 R)) (retQ Tryz.prog Tryz.f76 R)))) es0) (cast (by kernel_rfl) h)

def qs87:Nat→List (Nat × Nat):=fun i=>match i with | _=>[]
noncomputable def c87:Code:=bodyOf Tryz.f87
theorem cf87 (w0:World) (m:AM) (x0:Int) (R:Value→AM→Prop) (h :
 KI_∧(bcase ((x0:Int) == 1) (
 RetP R (.tuple #[.slice none 0 0,.int .i64 4]) m) (
 KI_∧(bcase ((x0:Int) == 2) (
 true=true∧∀ b1:Nat,w0.heap.size≤b1→m b1=none→let m2:=AM.upd m b1 (.cells #[.int .i64 4] 3);
 RetP R (.tuple #[.slice (some ⟨b1,0,none⟩) 1 1,.int .i64 0]) m2) (
 RetP R (.tuple #[.slice none 0 0,.int .i64 0]) m))))):CallsA Tryz.prog w0 87 #[.int .i64 x0] m R :=
  callsA_of (c:=c87) (args:=[.int .i64 x0]) (by kernel_rfl) Tryz.func87 (by kernel_rfl) qs87 (by kernel_rfl) (by kernel_rfl) (cast (by kernel_rfl) h)

def qs59:Nat→List (Nat × Nat):=fun i=>match i with | _=>[]
noncomputable def c59:Code:=bodyOf Tryz.f59
theorem cf59 (w0:World) (m:AM) (x0_0:Int) (x0_1:Int) (x0_2:Int) (x0_3:Int) (x0_4:Int) (R:Value→AM→Prop) (h :
 ∀ b1:Nat,w0.heap.size≤b1→m b1=none→let m2:=AM.upd m b1 (.cells #[.int .i64 x0_0,.int .i64 x0_1,.int .i64 x0_2,.int .i64 x0_3,.int .i64 x0_4] 36);
 LI_ m2 b1 0 fun i3=>LI_ m2 b1 1 fun i4=>LI_ m2 b1 2 fun i5=>LI_ m2 b1 3 fun i6=>LI_ m2 b1 4 fun i7 => 
 CallsA Tryz.prog w0 17 #[.agg #[.int .i64 i3,.int .i64 i4,.int .i64 i5,.int .i64 i6,.int .i64 i7]] m2 fun r9 m10 =>
 ∃ t8:Bool,r9=.bool t8∧(bcase (!t8) (
 RetP R (.int .i64 0) m10) (
 LI_ m10 b1 0 fun i11=>LI_ m10 b1 1 fun i12=>LI_ m10 b1 2 fun i13=>LI_ m10 b1 3 fun i14=>LI_ m10 b1 4 fun i15 => 
 CallsA Tryz.prog w0 76 #[.agg #[.int .i64 i11,.int .i64 i12,.int .i64 i13,.int .i64 i14,.int .i64 i15]] m10 fun r20 m21 =>
 ∃ (A16:Option Addr) (n17 c18:Nat),∃ i19:Int,r20=.tuple #[.slice A16 n17 c18,.int .i64 i19]∧RetP R (.int .i64 i19) m21))):CallsA Tryz.prog w0 59 #[.agg #[.int .i64 x0_0,.int .i64 x0_1,.int .i64 x0_2,.int .i64 x0_3,.int .i64 x0_4]] m R :=
  callsA_of (c:=c59) (args:=[.agg #[.int .i64 x0_0,.int .i64 x0_1,.int .i64 x0_2,.int .i64 x0_3,.int .i64 x0_4]]) (by kernel_rfl) Tryz.func59 (by kernel_rfl) qs59 (by kernel_rfl) (by kernel_rfl) (cast (by kernel_rfl) h)

def qs46:Nat→List (Nat × Nat):=fun i=>match i with | _=>[]
noncomputable def c46:Code:=bodyOf Tryz.f46
theorem cf46 (w0:World) (m:AM) (x0_0:Int) (x0_1:Int) (x0_2:Int) (x0_3:Int) (x0_4:Int) (R:Value→AM→Prop) (h :
 ∀ b1:Nat,w0.heap.size≤b1→m b1=none→let m2:=AM.upd m b1 (.cells #[.int .i64 x0_0,.int .i64 x0_1,.int .i64 x0_2,.int .i64 x0_3,.int .i64 x0_4] 36);
 LI_ m2 b1 0 fun i3=>LI_ m2 b1 1 fun i4=>LI_ m2 b1 2 fun i5=>LI_ m2 b1 3 fun i6=>LI_ m2 b1 4 fun i7 => 
 CallsA Tryz.prog w0 17 #[.agg #[.int .i64 i3,.int .i64 i4,.int .i64 i5,.int .i64 i6,.int .i64 i7]] m2 fun r9 m10 =>
 ∃ t8:Bool,r9=.bool t8∧(bcase t8 (
 LI_ m10 b1 0 fun i11 => 
 KI_∧(bcase ((i11:Int) == 12) (
 ((i11:Int) == 12)=true∧RetP R (.bool (bif t8 then true else false)) m10) (
 LI_ m10 b1 0 fun i12 => 
 KI_∧(bcase ((i12:Int) == 20) (
 LI_ m10 b1 4 fun i13 => 
 KI_∧RetP R (.bool (bif t8 then bif (i11:Int) == 12 then true else bif (i12:Int) == 20 then (i13:Int) == 1 else false else false)) m10) (
 ((i12:Int) == 20)=false∧RetP R (.bool (bif t8 then bif (i11:Int) == 12 then true else false else false)) m10))))) (
 t8=false∧RetP R (.bool false) m10))):CallsA Tryz.prog w0 46 #[.agg #[.int .i64 x0_0,.int .i64 x0_1,.int .i64 x0_2,.int .i64 x0_3,.int .i64 x0_4]] m R :=
  callsA_of (c:=c46) (args:=[.agg #[.int .i64 x0_0,.int .i64 x0_1,.int .i64 x0_2,.int .i64 x0_3,.int .i64 x0_4]]) (by kernel_rfl) Tryz.func46 (by kernel_rfl) qs46 (by kernel_rfl) (by kernel_rfl) (cast (by kernel_rfl) h)
end Go.Proofs.YtkfemiloehkmhaaGreat.V

namespace Go.Proofs.YtkfemiloehkmhaaGreat.V
open Go Go.Alog Go.Proofs.YtkfemiloehkmhaaGreat.T
set_option linter.unusedVariables false
set_option maxRecDepth 100000

def qs102:Nat→List (Nat × Nat):=fun i=>match i with | _=>[]
noncomputable def c102:Code:=bodyOf Tryz.f102
theorem cf102 (w0:World) (m:AM) (x0:Int) (R:Value→AM→Prop) (h :
 KI_∧RetP R (.bool ((x0:Int) == 0)) m):CallsA Tryz.prog w0 102 #[.int .i64 x0] m R :=
  callsA_of (c:=c102) (args:=[.int .i64 x0]) (by kernel_rfl) Tryz.func102 (by kernel_rfl) qs102 (by kernel_rfl) (by kernel_rfl) (cast (by kernel_rfl) h)

def qs73:Nat→List (Nat × Nat):=fun i=>match i with | _=>[]
noncomputable def c73:Code:=bodyOf Tryz.f73
theorem cf73 (w0:World) (m:AM) (x0_0:Int) (x0_1:Int) (x0_2:Int) (x0_3:Int) (x0_4:Int) (R:Value→AM→Prop) (h :
 ∀ b1:Nat,w0.heap.size≤b1→m b1=none→let m2:=AM.upd m b1 (.cells #[.int .i64 x0_0,.int .i64 x0_1,.int .i64 x0_2,.int .i64 x0_3,.int .i64 x0_4] 36);
 LI_ m2 b1 0 fun i3 => 
 KI_∧(bcase ((i3:Int) == 4) (
 (bcase ((i3:Int) == 4) (
 LI_ m2 b1 0 fun i4=>LI_ m2 b1 1 fun i5=>LI_ m2 b1 2 fun i6=>LI_ m2 b1 3 fun i7=>LI_ m2 b1 4 fun i8 => 
 CallsA Tryz.prog w0 17 #[.agg #[.int .i64 i4,.int .i64 i5,.int .i64 i6,.int .i64 i7,.int .i64 i8]] m2 fun r10 m11 =>
 ∃ t9:Bool,r10=.bool t9∧RetP R (.bool t9) m11) (
 RetP R (.bool false) m2))) (
 KI_∧(bcase ((i3:Int) == 5) (
 (bcase ((i3:Int) == 5) (
 LI_ m2 b1 0 fun i12=>LI_ m2 b1 1 fun i13=>LI_ m2 b1 2 fun i14=>LI_ m2 b1 3 fun i15=>LI_ m2 b1 4 fun i16 => 
 CallsA Tryz.prog w0 17 #[.agg #[.int .i64 i12,.int .i64 i13,.int .i64 i14,.int .i64 i15,.int .i64 i16]] m2 fun r18 m19 =>
 ∃ t17:Bool,r18=.bool t17∧RetP R (.bool t17) m19) (
 RetP R (.bool false) m2))) (
 KI_∧(bcase ((i3:Int) == 12) (
 (bcase ((i3:Int) == 12) (
 LI_ m2 b1 0 fun i20=>LI_ m2 b1 1 fun i21=>LI_ m2 b1 2 fun i22=>LI_ m2 b1 3 fun i23=>LI_ m2 b1 4 fun i24 => 
 CallsA Tryz.prog w0 17 #[.agg #[.int .i64 i20,.int .i64 i21,.int .i64 i22,.int .i64 i23,.int .i64 i24]] m2 fun r26 m27 =>
 ∃ t25:Bool,r26=.bool t25∧RetP R (.bool t25) m27) (
 RetP R (.bool false) m2))) (
 KI_∧(bcase ((i3:Int) == 13) (
 (bcase ((i3:Int) == 13) (
 LI_ m2 b1 0 fun i28=>LI_ m2 b1 1 fun i29=>LI_ m2 b1 2 fun i30=>LI_ m2 b1 3 fun i31=>LI_ m2 b1 4 fun i32 => 
 CallsA Tryz.prog w0 17 #[.agg #[.int .i64 i28,.int .i64 i29,.int .i64 i30,.int .i64 i31,.int .i64 i32]] m2 fun r34 m35 =>
 ∃ t33:Bool,r34=.bool t33∧RetP R (.bool t33) m35) (
 RetP R (.bool false) m2))) (
 KI_∧(bcase ((i3:Int) == 14) (
 (bcase ((i3:Int) == 14) (
 LI_ m2 b1 0 fun i36=>LI_ m2 b1 1 fun i37=>LI_ m2 b1 2 fun i38=>LI_ m2 b1 3 fun i39=>LI_ m2 b1 4 fun i40 => 
 CallsA Tryz.prog w0 17 #[.agg #[.int .i64 i36,.int .i64 i37,.int .i64 i38,.int .i64 i39,.int .i64 i40]] m2 fun r42 m43 =>
 ∃ t41:Bool,r42=.bool t41∧RetP R (.bool t41) m43) (
 RetP R (.bool false) m2))) (
 KI_∧(bcase ((i3:Int) == 20) (
 LI_ m2 b1 0 fun i44=>LI_ m2 b1 1 fun i45=>LI_ m2 b1 2 fun i46=>LI_ m2 b1 3 fun i47=>LI_ m2 b1 4 fun i48 => 
 CallsA Tryz.prog w0 17 #[.agg #[.int .i64 i44,.int .i64 i45,.int .i64 i46,.int .i64 i47,.int .i64 i48]] m2 fun r50 m51 =>
 ∃ t49:Bool,r50=.bool t49∧RetP R (.bool t49) m51) (
 RetP R (.bool false) m2))))))))))))):CallsA Tryz.prog w0 73 #[.agg #[.int .i64 x0_0,.int .i64 x0_1,.int .i64 x0_2,.int .i64 x0_3,.int .i64 x0_4]] m R :=
  callsA_of (c:=c73) (args:=[.agg #[.int .i64 x0_0,.int .i64 x0_1,.int .i64 x0_2,.int .i64 x0_3,.int .i64 x0_4]]) (by kernel_rfl) Tryz.func73 (by kernel_rfl) qs73 (by kernel_rfl) (by kernel_rfl) (cast (by kernel_rfl) h)

def qs44:Nat→List (Nat × Nat):=fun i=>match i with | _=>[]
noncomputable def c44:Code:=bodyOf Tryz.f44
theorem cf44 (w0:World) (m:AM) (x0_0:Int) (x0_1:Int) (x0_2:Int) (x0_3:Int) (x0_4:Int) (R:Value→AM→Prop) (h :
 ∀ b1:Nat,w0.heap.size≤b1→m b1=none→let m2:=AM.upd m b1 (.cells #[.int .i64 x0_0,.int .i64 x0_1,.int .i64 x0_2,.int .i64 x0_3,.int .i64 x0_4] 36);
 LI_ m2 b1 0 fun i3 => 
 KI_∧(bcase ((i3:Int) == 15) (
 (bcase ((i3:Int) == 15) (
 LI_ m2 b1 0 fun i4=>LI_ m2 b1 1 fun i5=>LI_ m2 b1 2 fun i6=>LI_ m2 b1 3 fun i7=>LI_ m2 b1 4 fun i8 => 
 CallsA Tryz.prog w0 17 #[.agg #[.int .i64 i4,.int .i64 i5,.int .i64 i6,.int .i64 i7,.int .i64 i8]] m2 fun r10 m11 =>
 ∃ t9:Bool,r10=.bool t9∧RetP R (.bool t9) m11) (
 RetP R (.bool false) m2))) (
 KI_∧(bcase ((i3:Int) == 16) (
 (bcase ((i3:Int) == 16) (
 LI_ m2 b1 0 fun i12=>LI_ m2 b1 1 fun i13=>LI_ m2 b1 2 fun i14=>LI_ m2 b1 3 fun i15=>LI_ m2 b1 4 fun i16 => 
 CallsA Tryz.prog w0 17 #[.agg #[.int .i64 i12,.int .i64 i13,.int .i64 i14,.int .i64 i15,.int .i64 i16]] m2 fun r18 m19 =>
 ∃ t17:Bool,r18=.bool t17∧RetP R (.bool t17) m19) (
 RetP R (.bool false) m2))) (
 KI_∧(bcase ((i3:Int) == 17) (
 (bcase ((i3:Int) == 17) (
 LI_ m2 b1 0 fun i20=>LI_ m2 b1 1 fun i21=>LI_ m2 b1 2 fun i22=>LI_ m2 b1 3 fun i23=>LI_ m2 b1 4 fun i24 => 
 CallsA Tryz.prog w0 17 #[.agg #[.int .i64 i20,.int .i64 i21,.int .i64 i22,.int .i64 i23,.int .i64 i24]] m2 fun r26 m27 =>
 ∃ t25:Bool,r26=.bool t25∧RetP R (.bool t25) m27) (
 RetP R (.bool false) m2))) (
 KI_∧(bcase ((i3:Int) == 18) (
 (bcase ((i3:Int) == 18) (
 LI_ m2 b1 0 fun i28=>LI_ m2 b1 1 fun i29=>LI_ m2 b1 2 fun i30=>LI_ m2 b1 3 fun i31=>LI_ m2 b1 4 fun i32 => 
 CallsA Tryz.prog w0 17 #[.agg #[.int .i64 i28,.int .i64 i29,.int .i64 i30,.int .i64 i31,.int .i64 i32]] m2 fun r34 m35 =>
 ∃ t33:Bool,r34=.bool t33∧RetP R (.bool t33) m35) (
 RetP R (.bool false) m2))) (
 KI_∧(bcase ((i3:Int) == 19) (
 LI_ m2 b1 0 fun i36=>LI_ m2 b1 1 fun i37=>LI_ m2 b1 2 fun i38=>LI_ m2 b1 3 fun i39=>LI_ m2 b1 4 fun i40 => 
 CallsA Tryz.prog w0 17 #[.agg #[.int .i64 i36,.int .i64 i37,.int .i64 i38,.int .i64 i39,.int .i64 i40]] m2 fun r42 m43 =>
 ∃ t41:Bool,r42=.bool t41∧RetP R (.bool t41) m43) (
 RetP R (.bool false) m2))))))))))):CallsA Tryz.prog w0 44 #[.agg #[.int .i64 x0_0,.int .i64 x0_1,.int .i64 x0_2,.int .i64 x0_3,.int .i64 x0_4]] m R :=
  callsA_of (c:=c44) (args:=[.agg #[.int .i64 x0_0,.int .i64 x0_1,.int .i64 x0_2,.int .i64 x0_3,.int .i64 x0_4]]) (by kernel_rfl) Tryz.func44 (by kernel_rfl) qs44 (by kernel_rfl) (by kernel_rfl) (cast (by kernel_rfl) h)

def qs85:Nat→List (Nat × Nat):=fun i=>match i with | _=>[]
noncomputable def c85:Code:=bodyOf Tryz.f85
theorem cf85 (w0:World) (m:AM) (x0:Option Addr) (x0n x0c:Nat) (x1:Int) (R:Value→AM→Prop) (h :
 CallsA Tryz.prog w0 101 #[.slice x0 x0n x0c,.int .i64 x1] m fun r2 m3 =>
 ∃ i1:Int,r2=.int .i64 i1∧KI_∧RetP R (.bool (decide ((i1:Int)≥0))) m3):CallsA Tryz.prog w0 85 #[.slice x0 x0n x0c,.int .i64 x1] m R :=
  callsA_of (c:=c85) (args:=[.slice x0 x0n x0c,.int .i64 x1]) (by kernel_rfl) Tryz.func85 (by kernel_rfl) qs85 (by kernel_rfl) (by kernel_rfl) (cast (by kernel_rfl) h)

def qs101:Nat→List (Nat × Nat):=fun i=>match i with | _=>[]
noncomputable def c101:Code:=bodyOf Tryz.f101
theorem cf101 (w0:World) (m:AM) (x0:Option Addr) (x0n x0c:Nat) (x1:Int) (R:Value→AM→Prop) (h :
 vcS Tryz.prog w0 qs101 (sub c101 [1,0,1,0]) (upd (upd (upd (upd (argS [.slice x0 x0n x0c,.int .i64 x1]) 4 (.int .i64 0)) 6 (.slice x0 x0n x0c)) 7 (.int .i64 ((x0n:Nat):Int))) 8 (.int .i64 0)) m (blockS 0 (thenS (fun σ m=>vcS Tryz.prog w0 qs101 (sub c101 [1,1]) σ m (retQ Tryz.prog Tryz.f101 R)) (retQ Tryz.prog Tryz.f101 R)))):CallsA Tryz.prog w0 101 #[.slice x0 x0n x0c,.int .i64 x1] m R :=
  callsA_of (c:=c101) (args:=[.slice x0 x0n x0c,.int .i64 x1]) (by kernel_rfl) Tryz.func101 (by kernel_rfl) qs101 (by kernel_rfl) (by kernel_rfl) (cast (by kernel_rfl) h)
def lq101_1010 (R:Value→AM→Prop) (x0:Option Addr) (x0n x0c:Nat) (x1:Int) (x7:Int) (I0:Nat→Int→AM→Prop) (E0_0:AM→Prop) (n0:Nat):Exit→Sg→AM→Prop
 | .normal,σ,m=>σ 0=.slice x0 x0n x0c∧σ 1=.int .i64 x1∧σ 7=.int .i64 x7∧okI .i64 (σ 8)=true∧∃ n':Nat,n'<n0∧I0 n' (vI (σ 8)) m
 | .exit id,σ,m=>if id=0 then σ 0=.slice x0 x0n x0c∧σ 1=.int .i64 x1∧σ 7=.int .i64 x7∧E0_0  m else False
 | .ret,σ,m=>retQ Tryz.prog Tryz.f101 R .ret σ m
 | _,_,_=>False
theorem vl101_1010 (w0:World) (m:AM) (σ:Sg) (R:Value→AM→Prop)  (x0:Option Addr) (x0n x0c:Nat) (x1:Int) (x7:Int) (x8:Int) (I0:Nat→Int→AM→Prop) (E0_0:AM→Prop) (N:Nat) (h0:σ 0=.slice x0 x0n x0c) (h1:σ 1=.int .i64 x1) (h7:σ 7=.int .i64 x7) (h8:σ 8=.int .i64 x8)
 (h_0:I0 N x8 m)
 (h_s:∀ (n0:Nat) (σ:Sg) (x8:Int) (m:AM),I0 n0 x8 m→(
 KI_∧(bcase (decide ((x8:Int)<x7)) (
 ((0:Int)≤x8∧x8<((x0n:Nat):Int))∧nilO x0 fun a1 =>
 LA_ m (a1.add ((x8:Int).toNat*1)) fun i2 => 
 KI_∧(bcase ((x1:Int) == i2) (
 RetP R (.int .i64 x8) m) (
 KI_∧(.slice x0 x0n x0c:Value)=.slice x0 x0n x0c∧(.int .i64 x1:Value)=.int .i64 x1∧(.int .i64 x7:Value)=.int .i64 x7∧true=true∧∃ n':Nat,n'<n0∧I0 n' (IntKind.wrap .i64 (x8+1)) m))) (
 (.slice x0 x0n x0c:Value)=.slice x0 x0n x0c∧(.int .i64 x1:Value)=.int .i64 x1∧(.int .i64 x7:Value)=.int .i64 x7∧E0_0  m))))
 (h_e0:∀ (σ:Sg)  (m:AM),E0_0  m→(
 RetP R (.int .i64 (-1)) m)) :
 vcS Tryz.prog w0 qs101 (sub c101 [1,0,1,0]) σ m (blockS 0 (thenS (fun σ m=>vcS Tryz.prog w0 qs101 (sub c101 [1,1]) σ m (retQ Tryz.prog Tryz.f101 R)) (retQ Tryz.prog Tryz.f101 R))):=by
  rw [show sub c101 [1,0,1,0]=.loop (sub c101 [1,0,1,0,0]) from by kernel_rfl]
  refine loopQ (fun n0 σ m=>σ 0=.slice x0 x0n x0c∧σ 1=.int .i64 x1∧σ 7=.int .i64 x7∧okI .i64 (σ 8)=true∧I0 n0 (vI (σ 8)) m) N (fun n0=>(lq101_1010 R x0 x0n x0c x1 x7 I0 E0_0 n0)) ⟨h0,h1,h7,(by rw [h8]; rfl),(by rw [h8]; exact h_0)⟩ ?_ ?_ ?_
  · rintro n0 σ m ⟨kk0,kk1,kk2,kk3,n',hlt,hI⟩; exact ⟨n',hlt,kk0,kk1,kk2,kk3,hI⟩
  · intro n0 e σ m hne h
    cases e with
    | normal=>exact absurd rfl hne
    | ret=>exact h
    | exit id =>
      by_cases e0:id=0
      · subst e0
        obtain ⟨kk0,kk1,kk2,hE⟩:=h
        have es:(upd (upd (upd σ 0 (.slice x0 x0n x0c)) 1 (.int .i64 x1)) 7 (.int .i64 x7))=σ:=by rw [upd_id kk0,upd_id kk1,upd_id kk2]
        exact cast (congrArg (fun s=>(blockS 0 (thenS (fun σ m=>vcS Tryz.prog w0 qs101 (sub c101 [1,1]) σ m (retQ Tryz.prog Tryz.f101 R)) (retQ Tryz.prog Tryz.f101 R))) (.exit 0) s m) es) (cast (by kernel_rfl) (h_e0 σ  m hE))
      · replace h:=(if_neg e0:(if id=0 then _ else _)=_).mp h
        exact False.elim h
    | _=>exact False.elim h
  · rintro n0 σ m ⟨kk0,kk1,kk2,kk3,hI⟩
    have es:(upd (upd (upd (upd σ 0 (.slice x0 x0n x0c)) 1 (.int .i64 x1)) 7 (.int .i64 x7)) 8 (.int .i64 (vI (σ 8))))=σ:=by rw [upd_id kk0,upd_id kk1,upd_id kk2,upd_id (ok_int kk3)]
    exact cast (congrArg (fun s=>vcS Tryz.prog w0 qs101 (sub c101 [1,0,1,0,0]) s m (lq101_1010 R x0 x0n x0c x1 x7 I0 E0_0 n0)) es) (cast (by kernel_rfl) (h_s n0 σ (vI (σ 8)) m hI))

def qs79:Nat→List (Nat × Nat):=fun i=>match i with | _=>[]
noncomputable def c79:Code:=bodyOf Tryz.f79
theorem cf79 (w0:World) (m:AM) (x0:Option Addr) (x0n x0c:Nat)  (R:Value→AM→Prop) (h :
 vcS Tryz.prog w0 qs79 (sub c79 [1,0,1,0]) (upd (upd (upd (upd (argS [.slice x0 x0n x0c,.func (.func 102) #[] #[]]) 4 (.int .i64 0)) 6 (.slice x0 x0n x0c)) 7 (.int .i64 ((x0n:Nat):Int))) 8 (.int .i64 0)) m (blockS 0 (thenS (fun σ m=>vcS Tryz.prog w0 qs79 (sub c79 [1,1]) σ m (retQ Tryz.prog Tryz.f79 R)) (retQ Tryz.prog Tryz.f79 R)))):CallsA Tryz.prog w0 79 #[.slice x0 x0n x0c,.func (.func 102) #[] #[]] m R :=
  callsA_of (c:=c79) (args:=[.slice x0 x0n x0c,.func (.func 102) #[] #[]]) (by kernel_rfl) Tryz.func79 (by kernel_rfl) qs79 (by kernel_rfl) (by kernel_rfl) (cast (by kernel_rfl) h)
def lq79_1010 (R:Value→AM→Prop) (x0:Option Addr) (x0n x0c:Nat) (x7:Int) (I0:Nat→Int→AM→Prop) (E0_0:AM→Prop) (n0:Nat):Exit→Sg→AM→Prop
 | .normal,σ,m=>σ 0=.slice x0 x0n x0c∧σ 1=.func (.func 102) #[] #[]∧σ 7=.int .i64 x7∧okI .i64 (σ 8)=true∧∃ n':Nat,n'<n0∧I0 n' (vI (σ 8)) m
 | .exit id,σ,m=>if id=0 then σ 0=.slice x0 x0n x0c∧σ 1=.func (.func 102) #[] #[]∧σ 7=.int .i64 x7∧E0_0  m else False
 | .ret,σ,m=>retQ Tryz.prog Tryz.f79 R .ret σ m
 | _,_,_=>False
theorem vl79_1010 (w0:World) (m:AM) (σ:Sg) (R:Value→AM→Prop)  (x0:Option Addr) (x0n x0c:Nat) (x7:Int) (x8:Int) (I0:Nat→Int→AM→Prop) (E0_0:AM→Prop) (N:Nat) (h0:σ 0=.slice x0 x0n x0c) (h1:σ 1=.func (.func 102) #[] #[]) (h7:σ 7=.int .i64 x7) (h8:σ 8=.int .i64 x8)
 (h_0:I0 N x8 m)
 (h_s:∀ (n0:Nat) (σ:Sg) (x8:Int) (m:AM),I0 n0 x8 m→(
 KI_∧(bcase (decide ((x8:Int)<x7)) (
 ((0:Int)≤x8∧x8<((x0n:Nat):Int))∧nilO x0 fun a1 =>
 LA_ m (a1.add ((x8:Int).toNat*1)) fun i2 => 
 CallsA Tryz.prog w0 102 #[.int .i64 i2] m fun r4 m5 =>
 ∃ t3:Bool,r4=.bool t3∧(bcase t3 (
 RetP R (.int .i64 x8) m5) (
 KI_∧(.slice x0 x0n x0c:Value)=.slice x0 x0n x0c∧(.func (.func 102) #[] #[]:Value)=.func (.func 102) #[] #[]∧(.int .i64 x7:Value)=.int .i64 x7∧true=true∧∃ n':Nat,n'<n0∧I0 n' (IntKind.wrap .i64 (x8+1)) m5))) (
 (.slice x0 x0n x0c:Value)=.slice x0 x0n x0c∧(.func (.func 102) #[] #[]:Value)=.func (.func 102) #[] #[]∧(.int .i64 x7:Value)=.int .i64 x7∧E0_0  m))))
 (h_e0:∀ (σ:Sg)  (m:AM),E0_0  m→(
 RetP R (.int .i64 (-1)) m)) :
 vcS Tryz.prog w0 qs79 (sub c79 [1,0,1,0]) σ m (blockS 0 (thenS (fun σ m=>vcS Tryz.prog w0 qs79 (sub c79 [1,1]) σ m (retQ Tryz.prog Tryz.f79 R)) (retQ Tryz.prog Tryz.f79 R))):=by
  rw [show sub c79 [1,0,1,0]=.loop (sub c79 [1,0,1,0,0]) from by kernel_rfl]
  refine loopQ (fun n0 σ m=>σ 0=.slice x0 x0n x0c∧σ 1=.func (.func 102) #[] #[]∧σ 7=.int .i64 x7∧okI .i64 (σ 8)=true∧I0 n0 (vI (σ 8)) m) N (fun n0=>(lq79_1010 R x0 x0n x0c x7 I0 E0_0 n0)) ⟨h0,h1,h7,(by rw [h8]; rfl),(by rw [h8]; exact h_0)⟩ ?_ ?_ ?_
  · rintro n0 σ m ⟨kk0,kk1,kk2,kk3,n',hlt,hI⟩; exact ⟨n',hlt,kk0,kk1,kk2,kk3,hI⟩
  · intro n0 e σ m hne h
    cases e with
    | normal=>exact absurd rfl hne
    | ret=>exact h
    | exit id =>
      by_cases e0:id=0
      · subst e0
        obtain ⟨kk0,kk1,kk2,hE⟩:=h
        have es:(upd (upd (upd σ 0 (.slice x0 x0n x0c)) 1 (.func (.func 102) #[] #[])) 7 (.int .i64 x7))=σ:=by rw [upd_id kk0,upd_id kk1,upd_id kk2]
        exact cast (congrArg (fun s=>(blockS 0 (thenS (fun σ m=>vcS Tryz.prog w0 qs79 (sub c79 [1,1]) σ m (retQ Tryz.prog Tryz.f79 R)) (retQ Tryz.prog Tryz.f79 R))) (.exit 0) s m) es) (cast (by kernel_rfl) (h_e0 σ  m hE))
      · replace h:=(if_neg e0:(if id=0 then _ else _)=_).mp h
        exact False.elim h
    | _=>exact False.elim h
  · rintro n0 σ m ⟨kk0,kk1,kk2,kk3,hI⟩
    have es:(upd (upd (upd (upd σ 0 (.slice x0 x0n x0c)) 1 (.func (.func 102) #[] #[])) 7 (.int .i64 x7)) 8 (.int .i64 (vI (σ 8))))=σ:=by rw [upd_id kk0,upd_id kk1,upd_id kk2,upd_id (ok_int kk3)]
    exact cast (congrArg (fun s=>vcS Tryz.prog w0 qs79 (sub c79 [1,0,1,0,0]) s m (lq79_1010 R x0 x0n x0c x7 I0 E0_0 n0)) es) (cast (by kernel_rfl) (h_s n0 σ (vI (σ 8)) m hI))

def qs62:Nat→List (Nat × Nat):=fun i=>match i with | _=>[]
noncomputable def c62:Code:=bodyOf Tryz.f62
theorem cf62 (w0:World) (m:AM) (x0:Option Addr) (x0n x0c:Nat)  (R:Value→AM→Prop) (h :
 CallsA Tryz.prog w0 79 #[.slice x0 x0n x0c,.func (.func 102) #[] #[]] m fun r2 m3 =>
 ∃ i1:Int,r2=.int .i64 i1∧KI_∧(bcase ((i1:Int) == (-1)) (
 RetP R (.slice x0 x0n x0c) m3) (
 KI_∧vcS Tryz.prog w0 qs62 (sub c62 [1,1,1,0,1,0]) (upd (upd (upd (upd (upd (upd (upd (upd (upd (upd (argS [.slice x0 x0n x0c,.func (.func 102) #[] #[]]) 4 (.slice none 0 0)) 8 (.slice x0 x0n x0c)) 9 (.func (.func 102) #[] #[])) 10 (.int .i64 i1)) 5 (.int .i64 i1)) 11 (.int .i64 i1)) 12 (.bool ((i1:Int) == (-1)))) 14 (.int .i64 i1)) 15 (.int .i64 (IntKind.wrap .i64 (i1+1)))) 6 (.int .i64 (IntKind.wrap .i64 (i1+1)))) m3 (blockS 0 (thenS (fun σ m=>vcS Tryz.prog w0 qs62 (sub c62 [1,1,1,1]) σ m (retQ Tryz.prog Tryz.f62 R)) (retQ Tryz.prog Tryz.f62 R)))))):CallsA Tryz.prog w0 62 #[.slice x0 x0n x0c,.func (.func 102) #[] #[]] m R :=
  callsA_of (c:=c62) (args:=[.slice x0 x0n x0c,.func (.func 102) #[] #[]]) (by kernel_rfl) Tryz.func62 (by kernel_rfl) qs62 (by kernel_rfl) (by kernel_rfl) (cast (by kernel_rfl) h)
def lq62_111010 (R:Value→AM→Prop) (x0:Option Addr) (x0n x0c:Nat) (I0:Nat→Int→Int→AM→Prop) (E0_0:Int→AM→Prop) (n0:Nat):Exit→Sg→AM→Prop
 | .normal,σ,m=>σ 0=.slice x0 x0n x0c∧σ 1=.func (.func 102) #[] #[]∧okI .i64 (σ 5)=true∧okI .i64 (σ 6)=true∧∃ n':Nat,n'<n0∧I0 n' (vI (σ 5)) (vI (σ 6)) m
 | .exit id,σ,m=>if id=0 then σ 0=.slice x0 x0n x0c∧σ 1=.func (.func 102) #[] #[]∧okI .i64 (σ 5)=true∧E0_0 (vI (σ 5)) m else False
 | .ret,σ,m=>retQ Tryz.prog Tryz.f62 R .ret σ m
 | _,_,_=>False
theorem vl62_111010 (w0:World) (m:AM) (σ:Sg) (R:Value→AM→Prop)  (x0:Option Addr) (x0n x0c:Nat) (x5:Int) (x6:Int) (I0:Nat→Int→Int→AM→Prop) (E0_0:Int→AM→Prop) (N:Nat) (h0:σ 0=.slice x0 x0n x0c) (h1:σ 1=.func (.func 102) #[] #[]) (h5:σ 5=.int .i64 x5) (h6:σ 6=.int .i64 x6)
 (h_0:I0 N x5 x6 m)
 (h_s:∀ (n0:Nat) (σ:Sg) (x5:Int) (x6:Int) (m:AM),I0 n0 x5 x6 m→(
 KI_∧(bcase (decide ((x6:Int)<((x0n:Nat):Int))) (
 ((0:Int)≤x6∧x6<((x0n:Nat):Int))∧nilO x0 fun a4 =>
 LA_ m (a4.add ((x6:Int).toNat*1)) fun i5 => 
 CallsA Tryz.prog w0 102 #[.int .i64 i5] m fun r7 m8 =>
 ∃ t6:Bool,r7=.bool t6∧(bcase (!t6) (
 ((0:Int)≤x5∧x5<((x0n:Nat):Int))∧nilO x0 fun a9 =>
 StC w0.heap.size m8 (a9.add ((x5:Int).toNat*1)) (.int .i64 i5) fun m10 =>
 KI_∧KI_∧(.slice x0 x0n x0c:Value)=.slice x0 x0n x0c∧(.func (.func 102) #[] #[]:Value)=.func (.func 102) #[] #[]∧true=true∧true=true∧∃ n':Nat,n'<n0∧I0 n' (IntKind.wrap .i64 (x5+1)) (IntKind.wrap .i64 (x6+1)) m10) (
 KI_∧(.slice x0 x0n x0c:Value)=.slice x0 x0n x0c∧(.func (.func 102) #[] #[]:Value)=.func (.func 102) #[] #[]∧true=true∧true=true∧∃ n':Nat,n'<n0∧I0 n' x5 (IntKind.wrap .i64 (x6+1)) m8))) (
 (.slice x0 x0n x0c:Value)=.slice x0 x0n x0c∧(.func (.func 102) #[] #[]:Value)=.func (.func 102) #[] #[]∧true=true∧E0_0 x5 m))))
 (h_e0:∀ (σ:Sg) (x5:Int) (m:AM),E0_0 x5 m→(
 (0:Int)≤x5∧x0n≤x0c∧((x5:Int).toNat)≤x0n ∧
 awp Tryz.prog w0.heap.size (Builtin.clear_ #[23] 0 #[.slice (if x0c=((x5:Int).toNat) then x0 else Option.map (fun x=>Addr.add x ((x5:Int).toNat*1)) x0) (x0n-((x5:Int).toNat)) (x0c-((x5:Int).toNat))]) m fun v11 m12 =>
 v11=.tuple #[]∧(0:Int)≤x5∧((x5:Int).toNat)≤x0c∧0≤((x5:Int).toNat) ∧
 RetP R (.slice (if x0c=0 then x0 else Option.map (fun x=>Addr.add x (0*1)) x0) (((x5:Int).toNat)-0) (x0c-0)) m12)) :
 vcS Tryz.prog w0 qs62 (sub c62 [1,1,1,0,1,0]) σ m (blockS 0 (thenS (fun σ m=>vcS Tryz.prog w0 qs62 (sub c62 [1,1,1,1]) σ m (retQ Tryz.prog Tryz.f62 R)) (retQ Tryz.prog Tryz.f62 R))):=by
  rw [show sub c62 [1,1,1,0,1,0]=.loop (sub c62 [1,1,1,0,1,0,0]) from by kernel_rfl]
  refine loopQ (fun n0 σ m=>σ 0=.slice x0 x0n x0c∧σ 1=.func (.func 102) #[] #[]∧okI .i64 (σ 5)=true∧okI .i64 (σ 6)=true∧I0 n0 (vI (σ 5)) (vI (σ 6)) m) N (fun n0=>(lq62_111010 R x0 x0n x0c I0 E0_0 n0)) ⟨h0,h1,(by rw [h5]; rfl),(by rw [h6]; rfl),(by rw [h5,h6]; exact h_0)⟩ ?_ ?_ ?_
  · rintro n0 σ m ⟨kk0,kk1,kk2,kk3,n',hlt,hI⟩; exact ⟨n',hlt,kk0,kk1,kk2,kk3,hI⟩
  · intro n0 e σ m hne h
    cases e with
    | normal=>exact absurd rfl hne
    | ret=>exact h
    | exit id =>
      by_cases e0:id=0
      · subst e0
        obtain ⟨kk0,kk1,kk2,hE⟩:=h
        have es:(upd (upd (upd σ 0 (.slice x0 x0n x0c)) 1 (.func (.func 102) #[] #[])) 5 (.int .i64 (vI (σ 5))))=σ:=by rw [upd_id kk0,upd_id kk1,upd_id (ok_int kk2)]
        exact cast (congrArg (fun s=>(blockS 0 (thenS (fun σ m=>vcS Tryz.prog w0 qs62 (sub c62 [1,1,1,1]) σ m (retQ Tryz.prog Tryz.f62 R)) (retQ Tryz.prog Tryz.f62 R))) (.exit 0) s m) es) (cast (by kernel_rfl) (h_e0 σ (vI (σ 5)) m hE))
      · replace h:=(if_neg e0:(if id=0 then _ else _)=_).mp h
        exact False.elim h
    | _=>exact False.elim h
  · rintro n0 σ m ⟨kk0,kk1,kk2,kk3,hI⟩
    have es:(upd (upd (upd (upd σ 0 (.slice x0 x0n x0c)) 1 (.func (.func 102) #[] #[])) 5 (.int .i64 (vI (σ 5)))) 6 (.int .i64 (vI (σ 6))))=σ:=by rw [upd_id kk0,upd_id kk1,upd_id (ok_int kk2),upd_id (ok_int kk3)]
    exact cast (congrArg (fun s=>vcS Tryz.prog w0 qs62 (sub c62 [1,1,1,0,1,0,0]) s m (lq62_111010 R x0 x0n x0c I0 E0_0 n0)) es) (cast (by kernel_rfl) (h_s n0 σ (vI (σ 5)) (vI (σ 6)) m hI))

def qs103:Nat→List (Nat × Nat):=fun i=>match i with | _=>[]
noncomputable def c103:Code:=bodyOf Tryz.f103
theorem cf103 (w0:World) (m:AM) (x0:Option Addr) (x0n x0c:Nat) (R:Value→AM→Prop) (h :
 KI_∧(bcase (decide ((((x0n:Nat):Int):Int)<2)) (
 RetP R (.slice x0 x0n x0c) m) (
 vcS Tryz.prog w0 qs103 (sub c103 [1,1,0,1,0]) (upd (upd (upd (upd (upd (argS [.slice x0 x0n x0c]) 2 (.slice none 0 0)) 6 (.slice x0 x0n x0c)) 7 (.int .i64 ((x0n:Nat):Int))) 8 (.bool (decide ((((x0n:Nat):Int):Int)<2)))) 3 (.int .i64 1)) m (blockS 0 (thenS (fun σ m=>vcS Tryz.prog w0 qs103 (sub c103 [1,1,1]) σ m (retQ Tryz.prog Tryz.f103 R)) (retQ Tryz.prog Tryz.f103 R)))))):CallsA Tryz.prog w0 103 #[.slice x0 x0n x0c] m R :=
  callsA_of (c:=c103) (args:=[.slice x0 x0n x0c]) (by kernel_rfl) Tryz.func103 (by kernel_rfl) qs103 (by kernel_rfl) (by kernel_rfl) (cast (by kernel_rfl) h)
def lq103_11010 (R:Value→AM→Prop) (x0:Option Addr) (x0n x0c:Nat) (I0:Nat→Int→AM→Prop) (E0_0:AM→Prop) (n0:Nat):Exit→Sg→AM→Prop
 | .normal,σ,m=>σ 0=.slice x0 x0n x0c∧okI .i64 (σ 3)=true∧∃ n':Nat,n'<n0∧I0 n' (vI (σ 3)) m
 | .exit id,σ,m=>if id=0 then σ 0=.slice x0 x0n x0c∧E0_0  m else False
 | .ret,σ,m=>retQ Tryz.prog Tryz.f103 R .ret σ m
 | _,_,_=>False
theorem vl103_11010 (w0:World) (m:AM) (σ:Sg) (R:Value→AM→Prop)  (x0:Option Addr) (x0n x0c:Nat) (x3:Int) (I0:Nat→Int→AM→Prop) (E0_0:AM→Prop) (N:Nat) (h0:σ 0=.slice x0 x0n x0c) (h3:σ 3=.int .i64 x3)
 (h_0:I0 N x3 m)
 (h_s:∀ (n0:Nat) (σ:Sg) (x3:Int) (m:AM),I0 n0 x3 m→(
 KI_∧(bcase (decide ((x3:Int)<((x0n:Nat):Int))) (
 ((0:Int)≤x3∧x3<((x0n:Nat):Int))∧nilO x0 fun a1 =>
 LA_ m (a1.add ((x3:Int).toNat*1)) fun i2 => 
 KI_∧((0:Int)≤(IntKind.wrap .i64 (x3-1))∧(IntKind.wrap .i64 (x3-1))<((x0n:Nat):Int))∧nilO x0 fun a3 =>
 ∃ i4:Int,m.cell (a3.add ((IntKind.wrap .i64 (x3-1):Int).toNat*1))=some (.int .i64 i4) ∧ 
 KI_∧(bcase ((i2:Int) == i4) (
 (0:Int)≤x3∧x0n≤x0c∧((x3:Int).toNat)≤x0n ∧
 vcS Tryz.prog w0 qs103 (sub c103 [1,1,0,1,0,0,1,0,0,1,0,1,0,1,0]) (upd (upd (upd (upd (upd (upd (upd (upd (upd (upd (upd (upd (upd (upd (upd (upd (upd (upd (upd (upd (upd σ 0 (.slice x0 x0n x0c)) 3 (.int .i64 x3)) 10 (.int .i64 x3)) 11 (.slice x0 x0n x0c)) 12 (.int .i64 ((x0n:Nat):Int))) 13 (.bool (decide ((x3:Int)<((x0n:Nat):Int))))) 16 (.slice x0 x0n x0c)) 17 (.int .i64 x3)) 18 (.pointer (some (a1.add ((x3:Int).toNat*1))))) 19 (.int .i64 i2)) 20 (.slice x0 x0n x0c)) 21 (.int .i64 x3)) 22 (.int .i64 (IntKind.wrap .i64 (x3-1)))) 23 (.pointer (some (a3.add ((IntKind.wrap .i64 (x3-1):Int).toNat*1))))) 24 (.int .i64 i4)) 25 (.bool ((i2:Int) == i4))) 26 (.slice x0 x0n x0c)) 27 (.int .i64 x3)) 28 (.slice (if x0c=((x3:Int).toNat) then x0 else Option.map (fun x=>Addr.add x ((x3:Int).toNat*1)) x0) (x0n-((x3:Int).toNat)) (x0c-((x3:Int).toNat)))) 4 (.slice (if x0c=((x3:Int).toNat) then x0 else Option.map (fun x=>Addr.add x ((x3:Int).toNat*1)) x0) (x0n-((x3:Int).toNat)) (x0c-((x3:Int).toNat)))) 5 (.int .i64 1)) m (blockS 2 (thenS (fun σ m=>vcS Tryz.prog w0 qs103 (sub c103 [1,1,0,1,0,0,1,0,0,1,0,1,1]) σ m (blockS 1 (thenS (fun σ m=>vcS Tryz.prog w0 qs103 (sub c103 [1,1,0,1,0,0,1,1]) σ m (lq103_11010 R x0 x0n x0c I0 E0_0 n0)) (lq103_11010 R x0 x0n x0c I0 E0_0 n0)))) (blockS 1 (thenS (fun σ m=>vcS Tryz.prog w0 qs103 (sub c103 [1,1,0,1,0,0,1,1]) σ m (lq103_11010 R x0 x0n x0c I0 E0_0 n0)) (lq103_11010 R x0 x0n x0c I0 E0_0 n0)))))) (
 KI_∧(.slice x0 x0n x0c:Value)=.slice x0 x0n x0c∧true=true∧∃ n':Nat,n'<n0∧I0 n' (IntKind.wrap .i64 (x3+1)) m))) (
 (.slice x0 x0n x0c:Value)=.slice x0 x0n x0c∧E0_0  m))))
 (h_e0:∀ (σ:Sg)  (m:AM),E0_0  m→(
 RetP R (.slice x0 x0n x0c) m)) :
 vcS Tryz.prog w0 qs103 (sub c103 [1,1,0,1,0]) σ m (blockS 0 (thenS (fun σ m=>vcS Tryz.prog w0 qs103 (sub c103 [1,1,1]) σ m (retQ Tryz.prog Tryz.f103 R)) (retQ Tryz.prog Tryz.f103 R))):=by
  rw [show sub c103 [1,1,0,1,0]=.loop (sub c103 [1,1,0,1,0,0]) from by kernel_rfl]
  refine loopQ (fun n0 σ m=>σ 0=.slice x0 x0n x0c∧okI .i64 (σ 3)=true∧I0 n0 (vI (σ 3)) m) N (fun n0=>(lq103_11010 R x0 x0n x0c I0 E0_0 n0)) ⟨h0,(by rw [h3]; rfl),(by rw [h3]; exact h_0)⟩ ?_ ?_ ?_
  · rintro n0 σ m ⟨kk0,kk1,n',hlt,hI⟩; exact ⟨n',hlt,kk0,kk1,hI⟩
  · intro n0 e σ m hne h
    cases e with
    | normal=>exact absurd rfl hne
    | ret=>exact h
    | exit id =>
      by_cases e0:id=0
      · subst e0
        obtain ⟨kk0,hE⟩:=h
        have es:(upd σ 0 (.slice x0 x0n x0c))=σ:=by rw [upd_id kk0]
        exact cast (congrArg (fun s=>(blockS 0 (thenS (fun σ m=>vcS Tryz.prog w0 qs103 (sub c103 [1,1,1]) σ m (retQ Tryz.prog Tryz.f103 R)) (retQ Tryz.prog Tryz.f103 R))) (.exit 0) s m) es) (cast (by kernel_rfl) (h_e0 σ  m hE))
      · replace h:=(if_neg e0:(if id=0 then _ else _)=_).mp h
        exact False.elim h
    | _=>exact False.elim h
  · rintro n0 σ m ⟨kk0,kk1,hI⟩
    have es:(upd (upd σ 0 (.slice x0 x0n x0c)) 3 (.int .i64 (vI (σ 3))))=σ:=by rw [upd_id kk0,upd_id (ok_int kk1)]
    exact cast (congrArg (fun s=>vcS Tryz.prog w0 qs103 (sub c103 [1,1,0,1,0,0]) s m (lq103_11010 R x0 x0n x0c I0 E0_0 n0)) es) (cast (by kernel_rfl) (h_s n0 σ (vI (σ 3)) m hI))
def lq103_110100100101010 (R:Value→AM→Prop) (x0:Option Addr) (x0n x0c:Nat) (x4:Option Addr) (x4n x4c:Nat) (I1:Nat→Int→Int→AM→Prop) (E1_2:Int→AM→Prop) (n1:Nat):Exit→Sg→AM→Prop
 | .normal,σ,m=>σ 0=.slice x0 x0n x0c∧σ 4=.slice x4 x4n x4c∧okI .i64 (σ 3)=true∧okI .i64 (σ 5)=true∧∃ n':Nat,n'<n1∧I1 n' (vI (σ 3)) (vI (σ 5)) m
 | .exit id,σ,m=>if id=2 then σ 0=.slice x0 x0n x0c∧σ 4=.slice x4 x4n x4c∧okI .i64 (σ 3)=true∧E1_2 (vI (σ 3)) m else False
 | .ret,σ,m=>retQ Tryz.prog Tryz.f103 R .ret σ m
 | _,_,_=>False
theorem vl103_110100100101010 (w0:World) (m:AM) (σ:Sg) (R:Value→AM→Prop) (n0:Nat) (I0:Nat→Int→AM→Prop) (E0_0:AM→Prop) (x0:Option Addr) (x0n x0c:Nat) (x4:Option Addr) (x4n x4c:Nat) (x3:Int) (x5:Int) (I1:Nat→Int→Int→AM→Prop) (E1_2:Int→AM→Prop) (N:Nat) (h0:σ 0=.slice x0 x0n x0c) (h3:σ 3=.int .i64 x3) (h4:σ 4=.slice x4 x4n x4c) (h5:σ 5=.int .i64 x5)
 (h_0:I1 N x3 x5 m)
 (h_s:∀ (n1:Nat) (σ:Sg) (x3:Int) (x5:Int) (m:AM),I1 n1 x3 x5 m→(
 KI_∧(bcase (decide ((x5:Int)<((x4n:Nat):Int))) (
 ((0:Int)≤x5∧x5<((x4n:Nat):Int))∧nilO x4 fun a5 =>
 LA_ m (a5.add ((x5:Int).toNat*1)) fun i6 => 
 KI_∧((0:Int)≤(IntKind.wrap .i64 (x5-1))∧(IntKind.wrap .i64 (x5-1))<((x4n:Nat):Int))∧nilO x4 fun a7 =>
 ∃ i8:Int,m.cell (a7.add ((IntKind.wrap .i64 (x5-1):Int).toNat*1))=some (.int .i64 i8) ∧ 
 KI_∧(bcase ((i6:Int) != i8) (
 ((0:Int)≤x5∧x5<((x4n:Nat):Int))∧nilO x4 fun a9 =>
 LA_ m (a9.add ((x5:Int).toNat*1)) fun i10 => 
 ((0:Int)≤x3∧x3<((x0n:Nat):Int))∧nilO x0 fun a11 =>
 StC w0.heap.size m (a11.add ((x3:Int).toNat*1)) (.int .i64 i10) fun m12 =>
 KI_∧KI_∧(.slice x0 x0n x0c:Value)=.slice x0 x0n x0c∧(.slice x4 x4n x4c:Value)=.slice x4 x4n x4c∧true=true∧true=true∧∃ n':Nat,n'<n1∧I1 n' (IntKind.wrap .i64 (x3+1)) (IntKind.wrap .i64 (x5+1)) m12) (
 KI_∧(.slice x0 x0n x0c:Value)=.slice x0 x0n x0c∧(.slice x4 x4n x4c:Value)=.slice x4 x4n x4c∧true=true∧true=true∧∃ n':Nat,n'<n1∧I1 n' x3 (IntKind.wrap .i64 (x5+1)) m))) (
 (.slice x0 x0n x0c:Value)=.slice x0 x0n x0c∧(.slice x4 x4n x4c:Value)=.slice x4 x4n x4c∧true=true∧E1_2 x3 m))))
 (h_e2:∀ (σ:Sg) (x3:Int) (m:AM),E1_2 x3 m→(
 (0:Int)≤x3∧x0n≤x0c∧((x3:Int).toNat)≤x0n ∧
 awp Tryz.prog w0.heap.size (Builtin.clear_ #[23] 0 #[.slice (if x0c=((x3:Int).toNat) then x0 else Option.map (fun x=>Addr.add x ((x3:Int).toNat*1)) x0) (x0n-((x3:Int).toNat)) (x0c-((x3:Int).toNat))]) m fun v13 m14 =>
 v13=.tuple #[]∧(0:Int)≤x3∧((x3:Int).toNat)≤x0c∧0≤((x3:Int).toNat) ∧
 RetP R (.slice (if x0c=0 then x0 else Option.map (fun x=>Addr.add x (0*1)) x0) (((x3:Int).toNat)-0) (x0c-0)) m14)) :
 vcS Tryz.prog w0 qs103 (sub c103 [1,1,0,1,0,0,1,0,0,1,0,1,0,1,0]) σ m (blockS 2 (thenS (fun σ m=>vcS Tryz.prog w0 qs103 (sub c103 [1,1,0,1,0,0,1,0,0,1,0,1,1]) σ m (blockS 1 (thenS (fun σ m=>vcS Tryz.prog w0 qs103 (sub c103 [1,1,0,1,0,0,1,1]) σ m (lq103_11010 R x0 x0n x0c I0 E0_0 n0)) (lq103_11010 R x0 x0n x0c I0 E0_0 n0)))) (blockS 1 (thenS (fun σ m=>vcS Tryz.prog w0 qs103 (sub c103 [1,1,0,1,0,0,1,1]) σ m (lq103_11010 R x0 x0n x0c I0 E0_0 n0)) (lq103_11010 R x0 x0n x0c I0 E0_0 n0))))):=by
  rw [show sub c103 [1,1,0,1,0,0,1,0,0,1,0,1,0,1,0]=.loop (sub c103 [1,1,0,1,0,0,1,0,0,1,0,1,0,1,0,0]) from by kernel_rfl]
  refine loopQ (fun n1 σ m=>σ 0=.slice x0 x0n x0c∧σ 4=.slice x4 x4n x4c∧okI .i64 (σ 3)=true∧okI .i64 (σ 5)=true∧I1 n1 (vI (σ 3)) (vI (σ 5)) m) N (fun n1=>(lq103_110100100101010 R x0 x0n x0c x4 x4n x4c I1 E1_2 n1)) ⟨h0,h4,(by rw [h3]; rfl),(by rw [h5]; rfl),(by rw [h3,h5]; exact h_0)⟩ ?_ ?_ ?_
  · rintro n1 σ m ⟨kk0,kk1,kk2,kk3,n',hlt,hI⟩; exact ⟨n',hlt,kk0,kk1,kk2,kk3,hI⟩
  · intro n1 e σ m hne h
    cases e with
    | normal=>exact absurd rfl hne
    | ret=>exact h
    | exit id =>
      by_cases e2:id=2
      · subst e2
        obtain ⟨kk0,kk1,kk2,hE⟩:=h
        have es:(upd (upd (upd σ 0 (.slice x0 x0n x0c)) 4 (.slice x4 x4n x4c)) 3 (.int .i64 (vI (σ 3))))=σ:=by rw [upd_id kk0,upd_id kk1,upd_id (ok_int kk2)]
        exact cast (congrArg (fun s=>(blockS 2 (thenS (fun σ m=>vcS Tryz.prog w0 qs103 (sub c103 [1,1,0,1,0,0,1,0,0,1,0,1,1]) σ m (blockS 1 (thenS (fun σ m=>vcS Tryz.prog w0 qs103 (sub c103 [1,1,0,1,0,0,1,1]) σ m (lq103_11010 R x0 x0n x0c I0 E0_0 n0)) (lq103_11010 R x0 x0n x0c I0 E0_0 n0)))) (blockS 1 (thenS (fun σ m=>vcS Tryz.prog w0 qs103 (sub c103 [1,1,0,1,0,0,1,1]) σ m (lq103_11010 R x0 x0n x0c I0 E0_0 n0)) (lq103_11010 R x0 x0n x0c I0 E0_0 n0))))) (.exit 2) s m) es) (cast (by kernel_rfl) (h_e2 σ (vI (σ 3)) m hE))
      · replace h:=(if_neg e2:(if id=2 then _ else _)=_).mp h
        exact False.elim h
    | _=>exact False.elim h
  · rintro n1 σ m ⟨kk0,kk1,kk2,kk3,hI⟩
    have es:(upd (upd (upd (upd σ 0 (.slice x0 x0n x0c)) 3 (.int .i64 (vI (σ 3)))) 4 (.slice x4 x4n x4c)) 5 (.int .i64 (vI (σ 5))))=σ:=by rw [upd_id kk0,upd_id (ok_int kk2),upd_id kk1,upd_id (ok_int kk3)]
    exact cast (congrArg (fun s=>vcS Tryz.prog w0 qs103 (sub c103 [1,1,0,1,0,0,1,0,0,1,0,1,0,1,0,0]) s m (lq103_110100100101010 R x0 x0n x0c x4 x4n x4c I1 E1_2 n1)) es) (cast (by kernel_rfl) (h_s n1 σ (vI (σ 3)) (vI (σ 5)) m hI))

def qs66:Nat→List (Nat × Nat):=fun i=>match i with | _=>[]
noncomputable def c66:Code:=bodyOf Tryz.f66
theorem cf66 (w0:World) (m:AM) (x0:Option Addr) (x0n x0c:Nat) (R:Value→AM→Prop) (h :
 CallsA Tryz.prog w0 83 #[.int .u64 (IntKind.wrap .u64 ((x0n:Nat):Int))] m fun r2 m3 =>
 ∃ i1:Int,r2=.int .i64 i1∧CallsA Tryz.prog w0 82 #[.slice x0 x0n x0c,.int .i64 0,.int .i64 ((x0n:Nat):Int),.int .i64 i1] m3 fun r4 m5 =>
 r4=.tuple #[]∧RetP R (.tuple #[]) m5):CallsA Tryz.prog w0 66 #[.slice x0 x0n x0c] m R :=
  callsA_of (c:=c66) (args:=[.slice x0 x0n x0c]) (by kernel_rfl) Tryz.func66 (by kernel_rfl) qs66 (by kernel_rfl) (by kernel_rfl) (cast (by kernel_rfl) h)

def qs88:Nat→List (Nat × Nat):=fun i=>match i with | _=>[]
noncomputable def c88:Code:=bodyOf Tryz.f88
theorem cf88 (w0:World) (m:AM) (x0:Option Addr) (x0n x0c:Nat) (x1:Int) (x2:Int) (R:Value→AM→Prop) (h :
 KI_∧vcS Tryz.prog w0 qs88 (sub c88 [1,0]) (upd (upd (upd (argS [.slice x0 x0n x0c,.int .i64 x1,.int .i64 x2]) 8 (.int .i64 x1)) 9 (.int .i64 (IntKind.wrap .i64 (x1+1)))) 6 (.int .i64 (IntKind.wrap .i64 (x1+1)))) m (blockS 0 (retQ Tryz.prog Tryz.f88 R))):CallsA Tryz.prog w0 88 #[.slice x0 x0n x0c,.int .i64 x1,.int .i64 x2] m R :=
  callsA_of (c:=c88) (args:=[.slice x0 x0n x0c,.int .i64 x1,.int .i64 x2]) (by kernel_rfl) Tryz.func88 (by kernel_rfl) qs88 (by kernel_rfl) (by kernel_rfl) (cast (by kernel_rfl) h)
def lq88_10 (R:Value→AM→Prop) (x0:Option Addr) (x0n x0c:Nat) (x1:Int) (x2:Int) (I0:Nat→Int→AM→Prop) (E0_0:AM→Prop) (n0:Nat):Exit→Sg→AM→Prop
 | .normal,σ,m=>σ 0=.slice x0 x0n x0c∧σ 1=.int .i64 x1∧σ 2=.int .i64 x2∧okI .i64 (σ 6)=true∧∃ n':Nat,n'<n0∧I0 n' (vI (σ 6)) m
 | .exit id,σ,m=>if id=0 then σ 0=.slice x0 x0n x0c∧σ 1=.int .i64 x1∧σ 2=.int .i64 x2∧E0_0  m else False
 | .ret,σ,m=>retQ Tryz.prog Tryz.f88 R .ret σ m
 | _,_,_=>False
theorem vl88_10 (w0:World) (m:AM) (σ:Sg) (R:Value→AM→Prop)  (x0:Option Addr) (x0n x0c:Nat) (x1:Int) (x2:Int) (x6:Int) (I0:Nat→Int→AM→Prop) (E0_0:AM→Prop) (N:Nat) (h0:σ 0=.slice x0 x0n x0c) (h1:σ 1=.int .i64 x1) (h2:σ 2=.int .i64 x2) (h6:σ 6=.int .i64 x6)
 (h_0:I0 N x6 m)
 (h_s:∀ (n0:Nat) (σ:Sg) (x6:Int) (m:AM),I0 n0 x6 m→(
 KI_∧(bcase (decide ((x6:Int)<x2)) (
 vcS Tryz.prog w0 qs88 (sub c88 [1,0,0,1,0,0,1,0]) (upd (upd (upd (upd (upd (upd (upd (upd (upd σ 0 (.slice x0 x0n x0c)) 1 (.int .i64 x1)) 2 (.int .i64 x2)) 6 (.int .i64 x6)) 10 (.int .i64 x6)) 11 (.int .i64 x2)) 12 (.bool (decide ((x6:Int)<x2)))) 15 (.int .i64 x6)) 7 (.int .i64 x6)) m (blockS 2 (blockS 1 (thenS (fun σ m=>vcS Tryz.prog w0 qs88 (sub c88 [1,0,0,1,1]) σ m (lq88_10 R x0 x0n x0c x1 x2 I0 E0_0 n0)) (lq88_10 R x0 x0n x0c x1 x2 I0 E0_0 n0))))) (
 (.slice x0 x0n x0c:Value)=.slice x0 x0n x0c∧(.int .i64 x1:Value)=.int .i64 x1∧(.int .i64 x2:Value)=.int .i64 x2∧E0_0  m))))
 (h_e0:∀ (σ:Sg)  (m:AM),E0_0  m→(
 RetP R (.tuple #[]) m)) :
 vcS Tryz.prog w0 qs88 (sub c88 [1,0]) σ m (blockS 0 (retQ Tryz.prog Tryz.f88 R)):=by
  rw [show sub c88 [1,0]=.loop (sub c88 [1,0,0]) from by kernel_rfl]
  refine loopQ (fun n0 σ m=>σ 0=.slice x0 x0n x0c∧σ 1=.int .i64 x1∧σ 2=.int .i64 x2∧okI .i64 (σ 6)=true∧I0 n0 (vI (σ 6)) m) N (fun n0=>(lq88_10 R x0 x0n x0c x1 x2 I0 E0_0 n0)) ⟨h0,h1,h2,(by rw [h6]; rfl),(by rw [h6]; exact h_0)⟩ ?_ ?_ ?_
  · rintro n0 σ m ⟨kk0,kk1,kk2,kk3,n',hlt,hI⟩; exact ⟨n',hlt,kk0,kk1,kk2,kk3,hI⟩
  · intro n0 e σ m hne h
    cases e with
    | normal=>exact absurd rfl hne
    | ret=>exact h
    | exit id =>
      by_cases e0:id=0
      · subst e0
        obtain ⟨kk0,kk1,kk2,hE⟩:=h
        have es:(upd (upd (upd σ 0 (.slice x0 x0n x0c)) 1 (.int .i64 x1)) 2 (.int .i64 x2))=σ:=by rw [upd_id kk0,upd_id kk1,upd_id kk2]
        exact cast (congrArg (fun s=>(blockS 0 (retQ Tryz.prog Tryz.f88 R)) (.exit 0) s m) es) (cast (by kernel_rfl) (h_e0 σ  m hE))
      · replace h:=(if_neg e0:(if id=0 then _ else _)=_).mp h
        exact False.elim h
    | _=>exact False.elim h
  · rintro n0 σ m ⟨kk0,kk1,kk2,kk3,hI⟩
    have es:(upd (upd (upd (upd σ 0 (.slice x0 x0n x0c)) 1 (.int .i64 x1)) 2 (.int .i64 x2)) 6 (.int .i64 (vI (σ 6))))=σ:=by rw [upd_id kk0,upd_id kk1,upd_id kk2,upd_id (ok_int kk3)]
    exact cast (congrArg (fun s=>vcS Tryz.prog w0 qs88 (sub c88 [1,0,0]) s m (lq88_10 R x0 x0n x0c x1 x2 I0 E0_0 n0)) es) (cast (by kernel_rfl) (h_s n0 σ (vI (σ 6)) m hI))
def lq88_10010010 (R:Value→AM→Prop) (x0:Option Addr) (x0n x0c:Nat) (x1:Int) (x2:Int) (x6:Int) (I1:Nat→Int→AM→Prop) (E1_2:AM→Prop) (n1:Nat):Exit→Sg→AM→Prop
 | .normal,σ,m=>σ 0=.slice x0 x0n x0c∧σ 1=.int .i64 x1∧σ 2=.int .i64 x2∧σ 6=.int .i64 x6∧okI .i64 (σ 7)=true∧∃ n':Nat,n'<n1∧I1 n' (vI (σ 7)) m
 | .exit id,σ,m=>if id=2 then σ 0=.slice x0 x0n x0c∧σ 1=.int .i64 x1∧σ 2=.int .i64 x2∧σ 6=.int .i64 x6∧E1_2  m else False
 | .ret,σ,m=>retQ Tryz.prog Tryz.f88 R .ret σ m
 | _,_,_=>False
theorem vl88_10010010 (w0:World) (m:AM) (σ:Sg) (R:Value→AM→Prop) (n0:Nat) (I0:Nat→Int→AM→Prop) (E0_0:AM→Prop) (x0:Option Addr) (x0n x0c:Nat) (x1:Int) (x2:Int) (x6:Int) (x7:Int) (I1:Nat→Int→AM→Prop) (E1_2:AM→Prop) (N:Nat) (h0:σ 0=.slice x0 x0n x0c) (h1:σ 1=.int .i64 x1) (h2:σ 2=.int .i64 x2) (h6:σ 6=.int .i64 x6) (h7:σ 7=.int .i64 x7)
 (h_0:I1 N x7 m)
 (h_s:∀ (n1:Nat) (σ:Sg) (x7:Int) (m:AM),I1 n1 x7 m→(
 KI_∧(bcase (decide ((x7:Int)>x1)) (
 ((0:Int)≤x7∧x7<((x0n:Nat):Int))∧nilO x0 fun a1 =>
 LA_ m (a1.add ((x7:Int).toNat*1)) fun i2 => 
 KI_∧((0:Int)≤(IntKind.wrap .i64 (x7-1))∧(IntKind.wrap .i64 (x7-1))<((x0n:Nat):Int))∧nilO x0 fun a3 =>
 ∃ i4:Int,m.cell (a3.add ((IntKind.wrap .i64 (x7-1):Int).toNat*1))=some (.int .i64 i4) ∧ 
 CallsA Tryz.prog w0 94 #[.int .i64 i2,.int .i64 i4] m fun r6 m7 =>
 ∃ t5:Bool,r6=.bool t5∧(bcase (bif decide ((x7:Int)>x1) then t5 else false) (
 KI_∧KI_∧((0:Int)≤(IntKind.wrap .i64 (x7-1))∧(IntKind.wrap .i64 (x7-1))<((x0n:Nat):Int))∧nilO x0 fun a8 =>
 ∃ i9:Int,m7.cell (a8.add ((IntKind.wrap .i64 (x7-1):Int).toNat*1))=some (.int .i64 i9) ∧ 
 ((0:Int)≤x7∧x7<((x0n:Nat):Int))∧nilO x0 fun a10 =>
 LA_ m7 (a10.add ((x7:Int).toNat*1)) fun i11 => 
 ((0:Int)≤x7∧x7<((x0n:Nat):Int))∧nilO x0 fun a12 =>
 StC w0.heap.size m7 (a12.add ((x7:Int).toNat*1)) (.int .i64 i9) fun m13 =>
 ((0:Int)≤(IntKind.wrap .i64 (x7-1))∧(IntKind.wrap .i64 (x7-1))<((x0n:Nat):Int))∧nilO x0 fun a14 =>
 StC w0.heap.size m13 (a14.add ((IntKind.wrap .i64 (x7-1):Int).toNat*1)) (.int .i64 i11) fun m15 =>
 KI_∧(.slice x0 x0n x0c:Value)=.slice x0 x0n x0c∧(.int .i64 x1:Value)=.int .i64 x1∧(.int .i64 x2:Value)=.int .i64 x2∧(.int .i64 x6:Value)=.int .i64 x6∧true=true∧∃ n':Nat,n'<n1∧I1 n' (IntKind.wrap .i64 (x7-1)) m15) (
 (.slice x0 x0n x0c:Value)=.slice x0 x0n x0c∧(.int .i64 x1:Value)=.int .i64 x1∧(.int .i64 x2:Value)=.int .i64 x2∧(.int .i64 x6:Value)=.int .i64 x6∧E1_2  m7))) (
 (decide ((x7:Int)>x1))=false∧(.slice x0 x0n x0c:Value)=.slice x0 x0n x0c∧(.int .i64 x1:Value)=.int .i64 x1∧(.int .i64 x2:Value)=.int .i64 x2∧(.int .i64 x6:Value)=.int .i64 x6∧E1_2  m))))
 (h_e2:∀ (σ:Sg)  (m:AM),E1_2  m→(
 KI_∧(.slice x0 x0n x0c:Value)=.slice x0 x0n x0c∧(.int .i64 x1:Value)=.int .i64 x1∧(.int .i64 x2:Value)=.int .i64 x2∧true=true∧∃ n':Nat,n'<n0∧I0 n' (IntKind.wrap .i64 (x6+1)) m)) :
 vcS Tryz.prog w0 qs88 (sub c88 [1,0,0,1,0,0,1,0]) σ m (blockS 2 (blockS 1 (thenS (fun σ m=>vcS Tryz.prog w0 qs88 (sub c88 [1,0,0,1,1]) σ m (lq88_10 R x0 x0n x0c x1 x2 I0 E0_0 n0)) (lq88_10 R x0 x0n x0c x1 x2 I0 E0_0 n0)))):=by
  rw [show sub c88 [1,0,0,1,0,0,1,0]=.loop (sub c88 [1,0,0,1,0,0,1,0,0]) from by kernel_rfl]
  refine loopQ (fun n1 σ m=>σ 0=.slice x0 x0n x0c∧σ 1=.int .i64 x1∧σ 2=.int .i64 x2∧σ 6=.int .i64 x6∧okI .i64 (σ 7)=true∧I1 n1 (vI (σ 7)) m) N (fun n1=>(lq88_10010010 R x0 x0n x0c x1 x2 x6 I1 E1_2 n1)) ⟨h0,h1,h2,h6,(by rw [h7]; rfl),(by rw [h7]; exact h_0)⟩ ?_ ?_ ?_
  · rintro n1 σ m ⟨kk0,kk1,kk2,kk3,kk4,n',hlt,hI⟩; exact ⟨n',hlt,kk0,kk1,kk2,kk3,kk4,hI⟩
  · intro n1 e σ m hne h
    cases e with
    | normal=>exact absurd rfl hne
    | ret=>exact h
    | exit id =>
      by_cases e2:id=2
      · subst e2
        obtain ⟨kk0,kk1,kk2,kk3,hE⟩:=h
        have es:(upd (upd (upd (upd σ 0 (.slice x0 x0n x0c)) 1 (.int .i64 x1)) 2 (.int .i64 x2)) 6 (.int .i64 x6))=σ:=by rw [upd_id kk0,upd_id kk1,upd_id kk2,upd_id kk3]
        exact cast (congrArg (fun s=>(blockS 2 (blockS 1 (thenS (fun σ m=>vcS Tryz.prog w0 qs88 (sub c88 [1,0,0,1,1]) σ m (lq88_10 R x0 x0n x0c x1 x2 I0 E0_0 n0)) (lq88_10 R x0 x0n x0c x1 x2 I0 E0_0 n0)))) (.exit 2) s m) es) (cast (by kernel_rfl) (h_e2 σ  m hE))
      · replace h:=(if_neg e2:(if id=2 then _ else _)=_).mp h
        exact False.elim h
    | _=>exact False.elim h
  · rintro n1 σ m ⟨kk0,kk1,kk2,kk3,kk4,hI⟩
    have es:(upd (upd (upd (upd (upd σ 0 (.slice x0 x0n x0c)) 1 (.int .i64 x1)) 2 (.int .i64 x2)) 6 (.int .i64 x6)) 7 (.int .i64 (vI (σ 7))))=σ:=by rw [upd_id kk0,upd_id kk1,upd_id kk2,upd_id kk3,upd_id (ok_int kk4)]
    exact cast (congrArg (fun s=>vcS Tryz.prog w0 qs88 (sub c88 [1,0,0,1,0,0,1,0,0]) s m (lq88_10010010 R x0 x0n x0c x1 x2 x6 I1 E1_2 n1)) es) (cast (by kernel_rfl) (h_s n1 σ (vI (σ 7)) m hI))

def qs94:Nat→List (Nat × Nat):=fun i=>match i with | _=>[]
noncomputable def c94:Code:=bodyOf Tryz.f94
theorem cf94 (w0:World) (m:AM) (x0:Int) (x1:Int) (R:Value→AM→Prop) (h :
 CallsA Tryz.prog w0 109 #[.int .i64 x0] m fun r2 m3 =>
 ∃ t1:Bool,r2=.bool t1∧(bcase t1 (
 CallsA Tryz.prog w0 109 #[.int .i64 x1] m3 fun r5 m6 =>
 ∃ t4:Bool,r5=.bool t4∧(bcase (bif t1 then !t4 else false) (
 (bif t1 then !t4 else false)=true∧RetP R (.bool true) m6) (
 KI_∧RetP R (.bool (bif bif t1 then !t4 else false then true else decide ((x0:Int)<x1))) m6))) (
 t1=false∧KI_∧RetP R (.bool (bif false then true else decide ((x0:Int)<x1))) m3))):CallsA Tryz.prog w0 94 #[.int .i64 x0,.int .i64 x1] m R :=
  callsA_of (c:=c94) (args:=[.int .i64 x0,.int .i64 x1]) (by kernel_rfl) Tryz.func94 (by kernel_rfl) qs94 (by kernel_rfl) (by kernel_rfl) (cast (by kernel_rfl) h)

def qs109:Nat→List (Nat × Nat):=fun i=>match i with | _=>[]
noncomputable def c109:Code:=bodyOf Tryz.f109
theorem cf109 (w0:World) (m:AM) (x0:Int) (R:Value→AM→Prop) (h :
 KI_∧RetP R (.bool ((x0:Int) != x0)) m):CallsA Tryz.prog w0 109 #[.int .i64 x0] m R :=
  callsA_of (c:=c109) (args:=[.int .i64 x0]) (by kernel_rfl) Tryz.func109 (by kernel_rfl) qs109 (by kernel_rfl) (by kernel_rfl) (cast (by kernel_rfl) h)

def qs86:Nat→List (Nat × Nat):=fun i=>match i with | _=>[]
noncomputable def c86:Code:=bodyOf Tryz.f86
theorem cf86 (w0:World) (m:AM) (x0_0:Int) (x0_1:Int) (x0_2:Int) (x0_3:Int) (x0_4:Int) (R:Value→AM→Prop) (h :
 ∀ b1:Nat,w0.heap.size≤b1→m b1=none→let m2:=AM.upd m b1 (.cells #[.int .i64 x0_0,.int .i64 x0_1,.int .i64 x0_2,.int .i64 x0_3,.int .i64 x0_4] 36);
 LI_ m2 b1 0 fun i3=>LI_ m2 b1 1 fun i4=>LI_ m2 b1 2 fun i5=>LI_ m2 b1 3 fun i6=>LI_ m2 b1 4 fun i7 => 
 CallsA Tryz.prog w0 17 #[.agg #[.int .i64 i3,.int .i64 i4,.int .i64 i5,.int .i64 i6,.int .i64 i7]] m2 fun r9 m10 =>
 ∃ t8:Bool,r9=.bool t8∧(bcase (!t8) (
 RetP R (.slice none 0 0) m10) (
 LI_ m10 b1 0 fun i11=>LI_ m10 b1 1 fun i12=>LI_ m10 b1 2 fun i13=>LI_ m10 b1 3 fun i14=>LI_ m10 b1 4 fun i15 => 
 CallsA Tryz.prog w0 76 #[.agg #[.int .i64 i11,.int .i64 i12,.int .i64 i13,.int .i64 i14,.int .i64 i15]] m10 fun r20 m21 =>
 ∃ (A16:Option Addr) (n17 c18:Nat),∃ i19:Int,r20=.tuple #[.slice A16 n17 c18,.int .i64 i19]∧CallsA Tryz.prog w0 62 #[.slice A16 n17 c18,.func (.func 102) #[] #[]] m21 fun r27 m28 =>
 ∃ (A24:Option Addr) (n25 c26:Nat),r27=.slice A24 n25 c26∧CallsA Tryz.prog w0 66 #[.slice A24 n25 c26] m28 fun r29 m30 =>
 r29=.tuple #[]∧CallsA Tryz.prog w0 103 #[.slice A24 n25 c26] m30 fun r34 m35 =>
 ∃ (A31:Option Addr) (n32 c33:Nat),r34=.slice A31 n32 c33∧RetP R (.slice A31 n32 c33) m35))):CallsA Tryz.prog w0 86 #[.agg #[.int .i64 x0_0,.int .i64 x0_1,.int .i64 x0_2,.int .i64 x0_3,.int .i64 x0_4]] m R :=
  callsA_of (c:=c86) (args:=[.agg #[.int .i64 x0_0,.int .i64 x0_1,.int .i64 x0_2,.int .i64 x0_3,.int .i64 x0_4]]) (by kernel_rfl) Tryz.func86 (by kernel_rfl) qs86 (by kernel_rfl) (by kernel_rfl) (cast (by kernel_rfl) h)
end Go.Proofs.YtkfemiloehkmhaaGreat.V

namespace Go.Proofs.YtkfemiloehkmhaaGreat.V
open Go Go.Alog Go.Proofs.YtkfemiloehkmhaaGreat.T
set_option linter.unusedVariables false
set_option maxRecDepth 100000

def qs11:Nat→List (Nat × Nat):=fun i=>match i with | _=>[]
noncomputable def c11:Code:=bodyOf Tryz.f11
theorem cf11 (w0:World) (m:AM) (x0_0:Int) (x0_1:Int) (x0_2:Int) (x0_3:Int) (x0_4:Int) (x1:Int) (R:Value→AM→Prop) (h :
 ∀ b1:Nat,w0.heap.size≤b1→m b1=none→let m2:=AM.upd m b1 (.cells #[.int .i64 x0_0,.int .i64 x0_1,.int .i64 x0_2,.int .i64 x0_3,.int .i64 x0_4] 36);
 LI_ m2 b1 0 fun i3=>LI_ m2 b1 1 fun i4=>LI_ m2 b1 2 fun i5=>LI_ m2 b1 3 fun i6=>LI_ m2 b1 4 fun i7 => 
 CallsA Tryz.prog w0 24 #[.agg #[.int .i64 i3,.int .i64 i4,.int .i64 i5,.int .i64 i6,.int .i64 i7]] m2 fun r9 m10 =>
 ∃ t8:Bool,r9=.bool t8∧(bcase (!t8) (
 (!t8)=true∧true=true∧RetP R (.bool false) m10) (
 KI_∧(bcase (bif !t8 then true else decide ((x1:Int)<1)) (
 (bif !t8 then true else decide ((x1:Int)<1))=true∧RetP R (.bool false) m10) (
 KI_∧(bcase (bif bif !t8 then true else decide ((x1:Int)<1) then true else decide ((x1:Int)>31)) (
 RetP R (.bool false) m10) (
 LI_ m10 b1 1 fun i11 => 
 KI_∧LI_ m10 b1 2 fun i12 => 
 KI_∧LI_ m10 b1 3 fun i13 => 
 KI_∧LI_ m10 b1 0 fun i14 => 
 KI_∧(bcase ((i14:Int) == 1) (
 vcS Tryz.prog w0 qs11 (sub c11 [1,1,1,0,1,0,1]) (upd (upd (upd (upd (upd (upd (upd (upd (upd (upd (upd (upd (upd (upd (upd (upd (upd (upd (upd (upd (upd (upd (upd (upd (upd (upd (upd (upd (upd (upd (upd (upd (argS [.agg #[.int .i64 x0_0,.int .i64 x0_1,.int .i64 x0_2,.int .i64 x0_3,.int .i64 x0_4],.int .i64 x1]) 2 (pt_ b1)) 4 (.bool false)) 8 (.agg #[.int .i64 i3,.int .i64 i4,.int .i64 i5,.int .i64 i6,.int .i64 i7])) 9 (.bool t8)) 10 (.bool (!t8))) 11 (.bool (!t8))) 12 (.int .i64 x1)) 13 (.bool (decide ((x1:Int)<1)))) 14 (.bool (bif !t8 then true else decide ((x1:Int)<1)))) 15 (.bool (bif !t8 then true else decide ((x1:Int)<1)))) 16 (.int .i64 x1)) 17 (.bool (decide ((x1:Int)>31)))) 18 (.bool (bif bif !t8 then true else decide ((x1:Int)<1) then true else decide ((x1:Int)>31)))) 19 (.pointer (some ⟨b1,1,none⟩))) 20 (.int .i64 i11)) 21 (.int .i64 x1)) 22 (.bool ((i11:Int) == x1))) 23 (.pointer (some ⟨b1,2,none⟩))) 24 (.int .i64 i12)) 25 (.int .i64 x1)) 26 (.bool ((i12:Int) == x1))) 27 (.pointer (some ⟨b1,3,none⟩))) 28 (.int .i64 i13)) 29 (.int .i64 x1)) 30 (.bool ((i13:Int) == x1))) 5 (.bool ((i11:Int) == x1))) 6 (.bool ((i12:Int) == x1))) 7 (.bool ((i13:Int) == x1))) 31 (pt_ b1)) 32 (.int .i64 i14)) 34 (.bool ((i14:Int) == 1))) 33 (.bool ((i14:Int) == 1))) m10 (blockS 0 (thenS (fun σ m=>vcS Tryz.prog w0 qs11 (sub c11 [1,1,1,1]) σ m (retQ Tryz.prog Tryz.f11 R)) (retQ Tryz.prog Tryz.f11 R)))) (
 KI_∧(bcase ((i14:Int) == 2) (
 vcS Tryz.prog w0 qs11 (sub c11 [1,1,1,0,1,0,1]) (upd (upd (upd (upd (upd (upd (upd (upd (upd (upd (upd (upd (upd (upd (upd (upd (upd (upd (upd (upd (upd (upd (upd (upd (upd (upd (upd (upd (upd (upd (upd (upd (upd (upd (argS [.agg #[.int .i64 x0_0,.int .i64 x0_1,.int .i64 x0_2,.int .i64 x0_3,.int .i64 x0_4],.int .i64 x1]) 2 (pt_ b1)) 4 (.bool false)) 8 (.agg #[.int .i64 i3,.int .i64 i4,.int .i64 i5,.int .i64 i6,.int .i64 i7])) 9 (.bool t8)) 10 (.bool (!t8))) 11 (.bool (!t8))) 12 (.int .i64 x1)) 13 (.bool (decide ((x1:Int)<1)))) 14 (.bool (bif !t8 then true else decide ((x1:Int)<1)))) 15 (.bool (bif !t8 then true else decide ((x1:Int)<1)))) 16 (.int .i64 x1)) 17 (.bool (decide ((x1:Int)>31)))) 18 (.bool (bif bif !t8 then true else decide ((x1:Int)<1) then true else decide ((x1:Int)>31)))) 19 (.pointer (some ⟨b1,1,none⟩))) 20 (.int .i64 i11)) 21 (.int .i64 x1)) 22 (.bool ((i11:Int) == x1))) 23 (.pointer (some ⟨b1,2,none⟩))) 24 (.int .i64 i12)) 25 (.int .i64 x1)) 26 (.bool ((i12:Int) == x1))) 27 (.pointer (some ⟨b1,3,none⟩))) 28 (.int .i64 i13)) 29 (.int .i64 x1)) 30 (.bool ((i13:Int) == x1))) 5 (.bool ((i11:Int) == x1))) 6 (.bool ((i12:Int) == x1))) 7 (.bool ((i13:Int) == x1))) 31 (pt_ b1)) 32 (.int .i64 i14)) 34 (.bool ((i14:Int) == 1))) 33 (.bool ((i14:Int) == 1))) 35 (.bool ((i14:Int) == 2))) 33 (.bool ((i14:Int) == 2))) m10 (blockS 0 (thenS (fun σ m=>vcS Tryz.prog w0 qs11 (sub c11 [1,1,1,1]) σ m (retQ Tryz.prog Tryz.f11 R)) (retQ Tryz.prog Tryz.f11 R)))) (
 KI_∧(bcase ((i14:Int) == 3) (
 vcS Tryz.prog w0 qs11 (sub c11 [1,1,1,0,1,0,1]) (upd (upd (upd (upd (upd (upd (upd (upd (upd (upd (upd (upd (upd (upd (upd (upd (upd (upd (upd (upd (upd (upd (upd (upd (upd (upd (upd (upd (upd (upd (upd (upd (upd (upd (upd (upd (argS [.agg #[.int .i64 x0_0,.int .i64 x0_1,.int .i64 x0_2,.int .i64 x0_3,.int .i64 x0_4],.int .i64 x1]) 2 (pt_ b1)) 4 (.bool false)) 8 (.agg #[.int .i64 i3,.int .i64 i4,.int .i64 i5,.int .i64 i6,.int .i64 i7])) 9 (.bool t8)) 10 (.bool (!t8))) 11 (.bool (!t8))) 12 (.int .i64 x1)) 13 (.bool (decide ((x1:Int)<1)))) 14 (.bool (bif !t8 then true else decide ((x1:Int)<1)))) 15 (.bool (bif !t8 then true else decide ((x1:Int)<1)))) 16 (.int .i64 x1)) 17 (.bool (decide ((x1:Int)>31)))) 18 (.bool (bif bif !t8 then true else decide ((x1:Int)<1) then true else decide ((x1:Int)>31)))) 19 (.pointer (some ⟨b1,1,none⟩))) 20 (.int .i64 i11)) 21 (.int .i64 x1)) 22 (.bool ((i11:Int) == x1))) 23 (.pointer (some ⟨b1,2,none⟩))) 24 (.int .i64 i12)) 25 (.int .i64 x1)) 26 (.bool ((i12:Int) == x1))) 27 (.pointer (some ⟨b1,3,none⟩))) 28 (.int .i64 i13)) 29 (.int .i64 x1)) 30 (.bool ((i13:Int) == x1))) 5 (.bool ((i11:Int) == x1))) 6 (.bool ((i12:Int) == x1))) 7 (.bool ((i13:Int) == x1))) 31 (pt_ b1)) 32 (.int .i64 i14)) 34 (.bool ((i14:Int) == 1))) 33 (.bool ((i14:Int) == 1))) 35 (.bool ((i14:Int) == 2))) 33 (.bool ((i14:Int) == 2))) 36 (.bool ((i14:Int) == 3))) 33 (.bool ((i14:Int) == 3))) m10 (blockS 0 (thenS (fun σ m=>vcS Tryz.prog w0 qs11 (sub c11 [1,1,1,1]) σ m (retQ Tryz.prog Tryz.f11 R)) (retQ Tryz.prog Tryz.f11 R)))) (
 KI_∧(bcase ((i14:Int) == 4) (
 vcS Tryz.prog w0 qs11 (sub c11 [1,1,1,0,1,0,1]) (upd (upd (upd (upd (upd (upd (upd (upd (upd (upd (upd (upd (upd (upd (upd (upd (upd (upd (upd (upd (upd (upd (upd (upd (upd (upd (upd (upd (upd (upd (upd (upd (upd (upd (upd (upd (upd (upd (argS [.agg #[.int .i64 x0_0,.int .i64 x0_1,.int .i64 x0_2,.int .i64 x0_3,.int .i64 x0_4],.int .i64 x1]) 2 (pt_ b1)) 4 (.bool false)) 8 (.agg #[.int .i64 i3,.int .i64 i4,.int .i64 i5,.int .i64 i6,.int .i64 i7])) 9 (.bool t8)) 10 (.bool (!t8))) 11 (.bool (!t8))) 12 (.int .i64 x1)) 13 (.bool (decide ((x1:Int)<1)))) 14 (.bool (bif !t8 then true else decide ((x1:Int)<1)))) 15 (.bool (bif !t8 then true else decide ((x1:Int)<1)))) 16 (.int .i64 x1)) 17 (.bool (decide ((x1:Int)>31)))) 18 (.bool (bif bif !t8 then true else decide ((x1:Int)<1) then true else decide ((x1:Int)>31)))) 19 (.pointer (some ⟨b1,1,none⟩))) 20 (.int .i64 i11)) 21 (.int .i64 x1)) 22 (.bool ((i11:Int) == x1))) 23 (.pointer (some ⟨b1,2,none⟩))) 24 (.int .i64 i12)) 25 (.int .i64 x1)) 26 (.bool ((i12:Int) == x1))) 27 (.pointer (some ⟨b1,3,none⟩))) 28 (.int .i64 i13)) 29 (.int .i64 x1)) 30 (.bool ((i13:Int) == x1))) 5 (.bool ((i11:Int) == x1))) 6 (.bool ((i12:Int) == x1))) 7 (.bool ((i13:Int) == x1))) 31 (pt_ b1)) 32 (.int .i64 i14)) 34 (.bool ((i14:Int) == 1))) 33 (.bool ((i14:Int) == 1))) 35 (.bool ((i14:Int) == 2))) 33 (.bool ((i14:Int) == 2))) 36 (.bool ((i14:Int) == 3))) 33 (.bool ((i14:Int) == 3))) 37 (.bool ((i14:Int) == 4))) 33 (.bool ((i14:Int) == 4))) m10 (blockS 0 (thenS (fun σ m=>vcS Tryz.prog w0 qs11 (sub c11 [1,1,1,1]) σ m (retQ Tryz.prog Tryz.f11 R)) (retQ Tryz.prog Tryz.f11 R)))) (
 KI_∧(bcase ((i14:Int) == 5) (
 vcS Tryz.prog w0 qs11 (sub c11 [1,1,1,0,1,0,1]) (upd (upd (upd (upd (upd (upd (upd (upd (upd (upd (upd (upd (upd (upd (upd (upd (upd (upd (upd (upd (upd (upd (upd (upd (upd (upd (upd (upd (upd (upd (upd (upd (upd (upd (upd (upd (upd (upd (upd (upd (argS [.agg #[.int .i64 x0_0,.int .i64 x0_1,.int .i64 x0_2,.int .i64 x0_3,.int .i64 x0_4],.int .i64 x1]) 2 (pt_ b1)) 4 (.bool false)) 8 (.agg #[.int .i64 i3,.int .i64 i4,.int .i64 i5,.int .i64 i6,.int .i64 i7])) 9 (.bool t8)) 10 (.bool (!t8))) 11 (.bool (!t8))) 12 (.int .i64 x1)) 13 (.bool (decide ((x1:Int)<1)))) 14 (.bool (bif !t8 then true else decide ((x1:Int)<1)))) 15 (.bool (bif !t8 then true else decide ((x1:Int)<1)))) 16 (.int .i64 x1)) 17 (.bool (decide ((x1:Int)>31)))) 18 (.bool (bif bif !t8 then true else decide ((x1:Int)<1) then true else decide ((x1:Int)>31)))) 19 (.pointer (some ⟨b1,1,none⟩))) 20 (.int .i64 i11)) 21 (.int .i64 x1)) 22 (.bool ((i11:Int) == x1))) 23 (.pointer (some ⟨b1,2,none⟩))) 24 (.int .i64 i12)) 25 (.int .i64 x1)) 26 (.bool ((i12:Int) == x1))) 27 (.pointer (some ⟨b1,3,none⟩))) 28 (.int .i64 i13)) 29 (.int .i64 x1)) 30 (.bool ((i13:Int) == x1))) 5 (.bool ((i11:Int) == x1))) 6 (.bool ((i12:Int) == x1))) 7 (.bool ((i13:Int) == x1))) 31 (pt_ b1)) 32 (.int .i64 i14)) 34 (.bool ((i14:Int) == 1))) 33 (.bool ((i14:Int) == 1))) 35 (.bool ((i14:Int) == 2))) 33 (.bool ((i14:Int) == 2))) 36 (.bool ((i14:Int) == 3))) 33 (.bool ((i14:Int) == 3))) 37 (.bool ((i14:Int) == 4))) 33 (.bool ((i14:Int) == 4))) 38 (.bool ((i14:Int) == 5))) 33 (.bool ((i14:Int) == 5))) m10 (blockS 0 (thenS (fun σ m=>vcS Tryz.prog w0 qs11 (sub c11 [1,1,1,1]) σ m (retQ Tryz.prog Tryz.f11 R)) (retQ Tryz.prog Tryz.f11 R)))) (
 KI_∧(bcase ((i14:Int) == 6) (
 vcS Tryz.prog w0 qs11 (sub c11 [1,1,1,0,1,0,1]) (upd (upd (upd (upd (upd (upd (upd (upd (upd (upd (upd (upd (upd (upd (upd (upd (upd (upd (upd (upd (upd (upd (upd (upd (upd (upd (upd (upd (upd (upd (upd (upd (upd (upd (upd (upd (upd (upd (upd (upd (upd (upd (argS [.agg #[.int .i64 x0_0,.int .i64 x0_1,.int .i64 x0_2,.int .i64 x0_3,.int .i64 x0_4],.int .i64 x1]) 2 (pt_ b1)) 4 (.bool false)) 8 (.agg #[.int .i64 i3,.int .i64 i4,.int .i64 i5,.int .i64 i6,.int .i64 i7])) 9 (.bool t8)) 10 (.bool (!t8))) 11 (.bool (!t8))) 12 (.int .i64 x1)) 13 (.bool (decide ((x1:Int)<1)))) 14 (.bool (bif !t8 then true else decide ((x1:Int)<1)))) 15 (.bool (bif !t8 then true else decide ((x1:Int)<1)))) 16 (.int .i64 x1)) 17 (.bool (decide ((x1:Int)>31)))) 18 (.bool (bif bif !t8 then true else decide ((x1:Int)<1) then true else decide ((x1:Int)>31)))) 19 (.pointer (some ⟨b1,1,none⟩))) 20 (.int .i64 i11)) 21 (.int .i64 x1)) 22 (.bool ((i11:Int) == x1))) 23 (.pointer (some ⟨b1,2,none⟩))) 24 (.int .i64 i12)) 25 (.int .i64 x1)) 26 (.bool ((i12:Int) == x1))) 27 (.pointer (some ⟨b1,3,none⟩))) 28 (.int .i64 i13)) 29 (.int .i64 x1)) 30 (.bool ((i13:Int) == x1))) 5 (.bool ((i11:Int) == x1))) 6 (.bool ((i12:Int) == x1))) 7 (.bool ((i13:Int) == x1))) 31 (pt_ b1)) 32 (.int .i64 i14)) 34 (.bool ((i14:Int) == 1))) 33 (.bool ((i14:Int) == 1))) 35 (.bool ((i14:Int) == 2))) 33 (.bool ((i14:Int) == 2))) 36 (.bool ((i14:Int) == 3))) 33 (.bool ((i14:Int) == 3))) 37 (.bool ((i14:Int) == 4))) 33 (.bool ((i14:Int) == 4))) 38 (.bool ((i14:Int) == 5))) 33 (.bool ((i14:Int) == 5))) 39 (.bool ((i14:Int) == 6))) 33 (.bool ((i14:Int) == 6))) m10 (blockS 0 (thenS (fun σ m=>vcS Tryz.prog w0 qs11 (sub c11 [1,1,1,1]) σ m (retQ Tryz.prog Tryz.f11 R)) (retQ Tryz.prog Tryz.f11 R)))) (
 KI_∧(bcase ((i14:Int) == 7) (
 vcS Tryz.prog w0 qs11 (sub c11 [1,1,1,0,1,0,1]) (upd (upd (upd (upd (upd (upd (upd (upd (upd (upd (upd (upd (upd (upd (upd (upd (upd (upd (upd (upd (upd (upd (upd (upd (upd (upd (upd (upd (upd (upd (upd (upd (upd (upd (upd (upd (upd (upd (upd (upd (upd (upd (upd (upd (argS [.agg #[.int .i64 x0_0,.int .i64 x0_1,.int .i64 x0_2,.int .i64 x0_3,.int .i64 x0_4],.int .i64 x1]) 2 (pt_ b1)) 4 (.bool false)) 8 (.agg #[.int .i64 i3,.int .i64 i4,.int .i64 i5,.int .i64 i6,.int .i64 i7])) 9 (.bool t8)) 10 (.bool (!t8))) 11 (.bool (!t8))) 12 (.int .i64 x1)) 13 (.bool (decide ((x1:Int)<1)))) 14 (.bool (bif !t8 then true else decide ((x1:Int)<1)))) 15 (.bool (bif !t8 then true else decide ((x1:Int)<1)))) 16 (.int .i64 x1)) 17 (.bool (decide ((x1:Int)>31)))) 18 (.bool (bif bif !t8 then true else decide ((x1:Int)<1) then true else decide ((x1:Int)>31)))) 19 (.pointer (some ⟨b1,1,none⟩))) 20 (.int .i64 i11)) 21 (.int .i64 x1)) 22 (.bool ((i11:Int) == x1))) 23 (.pointer (some ⟨b1,2,none⟩))) 24 (.int .i64 i12)) 25 (.int .i64 x1)) 26 (.bool ((i12:Int) == x1))) 27 (.pointer (some ⟨b1,3,none⟩))) 28 (.int .i64 i13)) 29 (.int .i64 x1)) 30 (.bool ((i13:Int) == x1))) 5 (.bool ((i11:Int) == x1))) 6 (.bool ((i12:Int) == x1))) 7 (.bool ((i13:Int) == x1))) 31 (pt_ b1)) 32 (.int .i64 i14)) 34 (.bool ((i14:Int) == 1))) 33 (.bool ((i14:Int) == 1))) 35 (.bool ((i14:Int) == 2))) 33 (.bool ((i14:Int) == 2))) 36 (.bool ((i14:Int) == 3))) 33 (.bool ((i14:Int) == 3))) 37 (.bool ((i14:Int) == 4))) 33 (.bool ((i14:Int) == 4))) 38 (.bool ((i14:Int) == 5))) 33 (.bool ((i14:Int) == 5))) 39 (.bool ((i14:Int) == 6))) 33 (.bool ((i14:Int) == 6))) 40 (.bool ((i14:Int) == 7))) 33 (.bool ((i14:Int) == 7))) m10 (blockS 0 (thenS (fun σ m=>vcS Tryz.prog w0 qs11 (sub c11 [1,1,1,1]) σ m (retQ Tryz.prog Tryz.f11 R)) (retQ Tryz.prog Tryz.f11 R)))) (
 KI_∧(bcase ((i14:Int) == 8) (
 vcS Tryz.prog w0 qs11 (sub c11 [1,1,1,0,1,0,1]) (upd (upd (upd (upd (upd (upd (upd (upd (upd (upd (upd (upd (upd (upd (upd (upd (upd (upd (upd (upd (upd (upd (upd (upd (upd (upd (upd (upd (upd (upd (upd (upd (upd (upd (upd (upd (upd (upd (upd (upd (upd (upd (upd (upd (upd (upd (argS [.agg #[.int .i64 x0_0,.int .i64 x0_1,.int .i64 x0_2,.int .i64 x0_3,.int .i64 x0_4],.int .i64 x1]) 2 (pt_ b1)) 4 (.bool false)) 8 (.agg #[.int .i64 i3,.int .i64 i4,.int .i64 i5,.int .i64 i6,.int .i64 i7])) 9 (.bool t8)) 10 (.bool (!t8))) 11 (.bool (!t8))) 12 (.int .i64 x1)) 13 (.bool (decide ((x1:Int)<1)))) 14 (.bool (bif !t8 then true else decide ((x1:Int)<1)))) 15 (.bool (bif !t8 then true else decide ((x1:Int)<1)))) 16 (.int .i64 x1)) 17 (.bool (decide ((x1:Int)>31)))) 18 (.bool (bif bif !t8 then true else decide ((x1:Int)<1) then true else decide ((x1:Int)>31)))) 19 (.pointer (some ⟨b1,1,none⟩))) 20 (.int .i64 i11)) 21 (.int .i64 x1)) 22 (.bool ((i11:Int) == x1))) 23 (.pointer (some ⟨b1,2,none⟩))) 24 (.int .i64 i12)) 25 (.int .i64 x1)) 26 (.bool ((i12:Int) == x1))) 27 (.pointer (some ⟨b1,3,none⟩))) 28 (.int .i64 i13)) 29 (.int .i64 x1)) 30 (.bool ((i13:Int) == x1))) 5 (.bool ((i11:Int) == x1))) 6 (.bool ((i12:Int) == x1))) 7 (.bool ((i13:Int) == x1))) 31 (pt_ b1)) 32 (.int .i64 i14)) 34 (.bool ((i14:Int) == 1))) 33 (.bool ((i14:Int) == 1))) 35 (.bool ((i14:Int) == 2))) 33 (.bool ((i14:Int) == 2))) 36 (.bool ((i14:Int) == 3))) 33 (.bool ((i14:Int) == 3))) 37 (.bool ((i14:Int) == 4))) 33 (.bool ((i14:Int) == 4))) 38 (.bool ((i14:Int) == 5))) 33 (.bool ((i14:Int) == 5))) 39 (.bool ((i14:Int) == 6))) 33 (.bool ((i14:Int) == 6))) 40 (.bool ((i14:Int) == 7))) 33 (.bool ((i14:Int) == 7))) 41 (.bool ((i14:Int) == 8))) 33 (.bool ((i14:Int) == 8))) m10 (blockS 0 (thenS (fun σ m=>vcS Tryz.prog w0 qs11 (sub c11 [1,1,1,1]) σ m (retQ Tryz.prog Tryz.f11 R)) (retQ Tryz.prog Tryz.f11 R)))) (
 KI_∧vcS Tryz.prog w0 qs11 (sub c11 [1,1,1,0,1,0,1]) (upd (upd (upd (upd (upd (upd (upd (upd (upd (upd (upd (upd (upd (upd (upd (upd (upd (upd (upd (upd (upd (upd (upd (upd (upd (upd (upd (upd (upd (upd (upd (upd (upd (upd (upd (upd (upd (upd (upd (upd (upd (upd (upd (upd (upd (upd (upd (upd (argS [.agg #[.int .i64 x0_0,.int .i64 x0_1,.int .i64 x0_2,.int .i64 x0_3,.int .i64 x0_4],.int .i64 x1]) 2 (pt_ b1)) 4 (.bool false)) 8 (.agg #[.int .i64 i3,.int .i64 i4,.int .i64 i5,.int .i64 i6,.int .i64 i7])) 9 (.bool t8)) 10 (.bool (!t8))) 11 (.bool (!t8))) 12 (.int .i64 x1)) 13 (.bool (decide ((x1:Int)<1)))) 14 (.bool (bif !t8 then true else decide ((x1:Int)<1)))) 15 (.bool (bif !t8 then true else decide ((x1:Int)<1)))) 16 (.int .i64 x1)) 17 (.bool (decide ((x1:Int)>31)))) 18 (.bool (bif bif !t8 then true else decide ((x1:Int)<1) then true else decide ((x1:Int)>31)))) 19 (.pointer (some ⟨b1,1,none⟩))) 20 (.int .i64 i11)) 21 (.int .i64 x1)) 22 (.bool ((i11:Int) == x1))) 23 (.pointer (some ⟨b1,2,none⟩))) 24 (.int .i64 i12)) 25 (.int .i64 x1)) 26 (.bool ((i12:Int) == x1))) 27 (.pointer (some ⟨b1,3,none⟩))) 28 (.int .i64 i13)) 29 (.int .i64 x1)) 30 (.bool ((i13:Int) == x1))) 5 (.bool ((i11:Int) == x1))) 6 (.bool ((i12:Int) == x1))) 7 (.bool ((i13:Int) == x1))) 31 (pt_ b1)) 32 (.int .i64 i14)) 34 (.bool ((i14:Int) == 1))) 33 (.bool ((i14:Int) == 1))) 35 (.bool ((i14:Int) == 2))) 33 (.bool ((i14:Int) == 2))) 36 (.bool ((i14:Int) == 3))) 33 (.bool ((i14:Int) == 3))) 37 (.bool ((i14:Int) == 4))) 33 (.bool ((i14:Int) == 4))) 38 (.bool ((i14:Int) == 5))) 33 (.bool ((i14:Int) == 5))) 39 (.bool ((i14:Int) == 6))) 33 (.bool ((i14:Int) == 6))) 40 (.bool ((i14:Int) == 7))) 33 (.bool ((i14:Int) == 7))) 41 (.bool ((i14:Int) == 8))) 33 (.bool ((i14:Int) == 8))) 42 (.bool ((i14:Int) == 9))) 33 (.bool ((i14:Int) == 9))) m10 (blockS 0 (thenS (fun σ m=>vcS Tryz.prog w0 qs11 (sub c11 [1,1,1,1]) σ m (retQ Tryz.prog Tryz.f11 R)) (retQ Tryz.prog Tryz.f11 R)))))))))))))))))))))))))):CallsA Tryz.prog w0 11 #[.agg #[.int .i64 x0_0,.int .i64 x0_1,.int .i64 x0_2,.int .i64 x0_3,.int .i64 x0_4],.int .i64 x1] m R :=
  callsA_of (c:=c11) (args:=[.agg #[.int .i64 x0_0,.int .i64 x0_1,.int .i64 x0_2,.int .i64 x0_3,.int .i64 x0_4],.int .i64 x1]) (by kernel_rfl) Tryz.func11 (by kernel_rfl) qs11 (by kernel_rfl) (by kernel_rfl) (cast (by kernel_rfl) h)
theorem vk11_1110101 (w0:World) (m:AM) (σ:Sg) (R:Value→AM→Prop)  (x1:Int) (x2:Nat) (x5:Bool) (x6:Bool) (x7:Bool) (x32:Int) (x33:Bool) (h1:σ 1=.int .i64 x1) (h2:σ 2=.pointer (some ⟨x2,0,none⟩)) (h5:σ 5=.bool x5) (h6:σ 6=.bool x6) (h7:σ 7=.bool x7) (h32:σ 32=.int .i64 x32) (h33:σ 33=.bool x33) (h :
 (bcase x33 (
 (bcase x6 (
 x6=true∧RetP R (.bool true) m) (
 RetP R (.bool (bif x6 then true else x7)) m))) (
 KI_∧(bcase ((x32:Int) == 10) (
 vcS Tryz.prog w0 qs11 (sub c11 [1,1,1,0,1,0,1,1,1]) (upd (upd (upd (upd (upd (upd (upd (upd (upd σ 1 (.int .i64 x1)) 2 (pt_ x2)) 5 (.bool x5)) 6 (.bool x6)) 7 (.bool x7)) 32 (.int .i64 x32)) 33 (.bool x33)) 48 (.bool ((x32:Int) == 10))) 47 (.bool ((x32:Int) == 10))) m (blockS 0 (thenS (fun σ m=>vcS Tryz.prog w0 qs11 (sub c11 [1,1,1,1]) σ m (retQ Tryz.prog Tryz.f11 R)) (retQ Tryz.prog Tryz.f11 R)))) (
 KI_∧vcS Tryz.prog w0 qs11 (sub c11 [1,1,1,0,1,0,1,1,1]) (upd (upd (upd (upd (upd (upd (upd (upd (upd (upd (upd σ 1 (.int .i64 x1)) 2 (pt_ x2)) 5 (.bool x5)) 6 (.bool x6)) 7 (.bool x7)) 32 (.int .i64 x32)) 33 (.bool x33)) 48 (.bool ((x32:Int) == 10))) 47 (.bool ((x32:Int) == 10))) 49 (.bool ((x32:Int) == 12))) 47 (.bool ((x32:Int) == 12))) m (blockS 0 (thenS (fun σ m=>vcS Tryz.prog w0 qs11 (sub c11 [1,1,1,1]) σ m (retQ Tryz.prog Tryz.f11 R)) (retQ Tryz.prog Tryz.f11 R)))))))) :
 vcS Tryz.prog w0 qs11 (sub c11 [1,1,1,0,1,0,1]) σ m (blockS 0 (thenS (fun σ m=>vcS Tryz.prog w0 qs11 (sub c11 [1,1,1,1]) σ m (retQ Tryz.prog Tryz.f11 R)) (retQ Tryz.prog Tryz.f11 R))):=by
  have es0:(upd (upd (upd (upd (upd (upd (upd σ 1 (.int .i64 x1)) 2 (pt_ x2)) 5 (.bool x5)) 6 (.bool x6)) 7 (.bool x7)) 32 (.int .i64 x32)) 33 (.bool x33))=σ:=by rw [upd_id h1,upd_id h2,upd_id h5,upd_id h6,upd_id h7,upd_id h32,upd_id h33]
  exact cast (congrArg (fun s=>vcS Tryz.prog w0 qs11 (sub c11 [1,1,1,0,1,0,1]) s m (blockS 0 (thenS (fun σ m=>vcS Tryz.prog w0 qs11 (sub c11 [1,1,1,1]) σ m (retQ Tryz.prog Tryz.f11 R)) (retQ Tryz.prog Tryz.f11 R)))) es0) (cast (by kernel_rfl) h)
theorem vk11_111010111 (w0:World) (m:AM) (σ:Sg) (R:Value→AM→Prop)  (x1:Int) (x2:Nat) (x5:Bool) (x6:Bool) (x32:Int) (x47:Bool) (h1:σ 1=.int .i64 x1) (h2:σ 2=.pointer (some ⟨x2,0,none⟩)) (h5:σ 5=.bool x5) (h6:σ 6=.bool x6) (h32:σ 32=.int .i64 x32) (h47:σ 47=.bool x47) (h :
 (bcase x47 (
 RetP R (.bool x6) m) (
 KI_∧(bcase ((x32:Int) == 13) (
 (bcase ((x32:Int) == 13) (
 (bcase x5 (
 x5=true∧RetP R (.bool true) m) (
 RetP R (.bool (bif x5 then true else x6)) m))) (
 KI_∧(bcase ((x32:Int) == 14) (
 (bcase ((x32:Int) == 14) (
 RetP R (.bool x5) m) (
 KI_∧(bcase ((x32:Int) == 20) (
 LI_ m x2 4 fun i15 => 
 KI_∧(bcase ((i15:Int) == 2) (
 KI_∧RetP R (.bool (bif (i15:Int) == 2 then (x1:Int) == 4 else false)) m) (
 ((i15:Int) == 2)=false∧RetP R (.bool false) m))) (
 RetP R (.bool false) m))))) (
 KI_∧(bcase ((x32:Int) == 19) (
 RetP R (.bool x5) m) (
 KI_∧(bcase ((x32:Int) == 20) (
 LI_ m x2 4 fun i16 => 
 KI_∧(bcase ((i16:Int) == 2) (
 KI_∧RetP R (.bool (bif (i16:Int) == 2 then (x1:Int) == 4 else false)) m) (
 ((i16:Int) == 2)=false∧RetP R (.bool false) m))) (
 RetP R (.bool false) m))))))))) (
 KI_∧(bcase ((x32:Int) == 15) (
 (bcase ((x32:Int) == 15) (
 (bcase x5 (
 x5=true∧RetP R (.bool true) m) (
 RetP R (.bool (bif x5 then true else x6)) m))) (
 KI_∧(bcase ((x32:Int) == 14) (
 (bcase ((x32:Int) == 14) (
 RetP R (.bool x5) m) (
 KI_∧(bcase ((x32:Int) == 20) (
 LI_ m x2 4 fun i17 => 
 KI_∧(bcase ((i17:Int) == 2) (
 KI_∧RetP R (.bool (bif (i17:Int) == 2 then (x1:Int) == 4 else false)) m) (
 ((i17:Int) == 2)=false∧RetP R (.bool false) m))) (
 RetP R (.bool false) m))))) (
 KI_∧(bcase ((x32:Int) == 19) (
 RetP R (.bool x5) m) (
 KI_∧(bcase ((x32:Int) == 20) (
 LI_ m x2 4 fun i18 => 
 KI_∧(bcase ((i18:Int) == 2) (
 KI_∧RetP R (.bool (bif (i18:Int) == 2 then (x1:Int) == 4 else false)) m) (
 ((i18:Int) == 2)=false∧RetP R (.bool false) m))) (
 RetP R (.bool false) m))))))))) (
 KI_∧(bcase ((x32:Int) == 16) (
 (bcase x5 (
 x5=true∧RetP R (.bool true) m) (
 RetP R (.bool (bif x5 then true else x6)) m))) (
 KI_∧(bcase ((x32:Int) == 14) (
 (bcase ((x32:Int) == 14) (
 RetP R (.bool x5) m) (
 KI_∧(bcase ((x32:Int) == 20) (
 LI_ m x2 4 fun i19 => 
 KI_∧(bcase ((i19:Int) == 2) (
 KI_∧RetP R (.bool (bif (i19:Int) == 2 then (x1:Int) == 4 else false)) m) (
 ((i19:Int) == 2)=false∧RetP R (.bool false) m))) (
 RetP R (.bool false) m))))) (
 KI_∧(bcase ((x32:Int) == 19) (
 RetP R (.bool x5) m) (
 KI_∧(bcase ((x32:Int) == 20) (
 LI_ m x2 4 fun i20 => 
 KI_∧(bcase ((i20:Int) == 2) (
 KI_∧RetP R (.bool (bif (i20:Int) == 2 then (x1:Int) == 4 else false)) m) (
 ((i20:Int) == 2)=false∧RetP R (.bool false) m))) (
 RetP R (.bool false) m))))))))))))))) :
 vcS Tryz.prog w0 qs11 (sub c11 [1,1,1,0,1,0,1,1,1]) σ m (blockS 0 (thenS (fun σ m=>vcS Tryz.prog w0 qs11 (sub c11 [1,1,1,1]) σ m (retQ Tryz.prog Tryz.f11 R)) (retQ Tryz.prog Tryz.f11 R))):=by
  have es0:(upd (upd (upd (upd (upd (upd σ 1 (.int .i64 x1)) 2 (pt_ x2)) 5 (.bool x5)) 6 (.bool x6)) 32 (.int .i64 x32)) 47 (.bool x47))=σ:=by rw [upd_id h1,upd_id h2,upd_id h5,upd_id h6,upd_id h32,upd_id h47]
  exact cast (congrArg (fun s=>vcS Tryz.prog w0 qs11 (sub c11 [1,1,1,0,1,0,1,1,1]) s m (blockS 0 (thenS (fun σ m=>vcS Tryz.prog w0 qs11 (sub c11 [1,1,1,1]) σ m (retQ Tryz.prog Tryz.f11 R)) (retQ Tryz.prog Tryz.f11 R)))) es0) (cast (by kernel_rfl) h)

def qs12:Nat→List (Nat × Nat):=fun i=>match i with | _=>[]
noncomputable def c12:Code:=bodyOf Tryz.f12
theorem cf12 (w0:World) (m:AM) (x0_0:Int) (x0_1:Int) (x0_2:Int) (x0_3:Int) (x0_4:Int) (R:Value→AM→Prop) (h :
 ∀ b1:Nat,w0.heap.size≤b1→m b1=none→let m2:=AM.upd m b1 (.cells #[.int .i64 x0_0,.int .i64 x0_1,.int .i64 x0_2,.int .i64 x0_3,.int .i64 x0_4] 36);
 LI_ m2 b1 0 fun i3=>LI_ m2 b1 1 fun i4=>LI_ m2 b1 2 fun i5=>LI_ m2 b1 3 fun i6=>LI_ m2 b1 4 fun i7 => 
 CallsA Tryz.prog w0 24 #[.agg #[.int .i64 i3,.int .i64 i4,.int .i64 i5,.int .i64 i6,.int .i64 i7]] m2 fun r9 m10 =>
 ∃ t8:Bool,r9=.bool t8∧(bcase (!t8) (
 RetP R (.int .i64 0) m10) (
 LI_ m10 b1 0 fun i11 => 
 KI_∧(bcase (decide ((i11:Int)>0)) (
 LI_ m10 b1 0 fun i12 => 
 KI_∧(bcase (bif decide ((i11:Int)>0) then decide ((i12:Int)<13) else false) (
 LI_ m10 b1 1 fun i13 => 
 RetP R (.int .i64 i13) m10) (
 LI_ m10 b1 0 fun i14 => 
 KI_∧(bcase ((i14:Int) == 18) (
 RetP R (.int .i64 31) m10) (
 LI_ m10 b1 0 fun i15 => 
 KI_∧(bcase ((i15:Int) == 20) (
 LI_ m10 b1 4 fun i16 => 
 KI_∧(bcase (bif (i15:Int) == 20 then (i16:Int) == 1 else false) (
 RetP R (.int .i64 4) m10) (
 RetP R (.int .i64 0) m10))) (
 ((i15:Int) == 20)=false∧RetP R (.int .i64 0) m10))))))) (
 (decide ((i11:Int)>0))=false∧LI_ m10 b1 0 fun i17 => 
 KI_∧(bcase ((i17:Int) == 18) (
 RetP R (.int .i64 31) m10) (
 LI_ m10 b1 0 fun i18 => 
 KI_∧(bcase ((i18:Int) == 20) (
 LI_ m10 b1 4 fun i19 => 
 KI_∧(bcase (bif (i18:Int) == 20 then (i19:Int) == 1 else false) (
 RetP R (.int .i64 4) m10) (
 RetP R (.int .i64 0) m10))) (
 ((i18:Int) == 20)=false∧RetP R (.int .i64 0) m10))))))))):CallsA Tryz.prog w0 12 #[.agg #[.int .i64 x0_0,.int .i64 x0_1,.int .i64 x0_2,.int .i64 x0_3,.int .i64 x0_4]] m R :=
  callsA_of (c:=c12) (args:=[.agg #[.int .i64 x0_0,.int .i64 x0_1,.int .i64 x0_2,.int .i64 x0_3,.int .i64 x0_4]]) (by kernel_rfl) Tryz.func12 (by kernel_rfl) qs12 (by kernel_rfl) (by kernel_rfl) (cast (by kernel_rfl) h)
end Go.Proofs.YtkfemiloehkmhaaGreat.V

namespace Go.Proofs.YtkfemiloehkmhaaGreat.V
open Go Go.Alog Go.Proofs.YtkfemiloehkmhaaGreat.T
set_option linter.unusedVariables false
set_option maxRecDepth 100000

def qs82:Nat→List (Nat × Nat):=fun i=>match i with | _=>[]
noncomputable def c82:Code:=bodyOf Tryz.f82
theorem cf82 (w0:World) (m:AM) (x0:Option Addr) (x0n x0c:Nat) (x1:Int) (x2:Int) (x3:Int) (R:Value→AM→Prop) (h :
 vcS Tryz.prog w0 qs82 (sub c82 [1,1,0]) (upd (upd (argS [.slice x0 x0n x0c,.int .i64 x1,.int .i64 x2,.int .i64 x3]) 8 (.bool true)) 9 (.bool true)) m (blockS 0 (retQ Tryz.prog Tryz.f82 R))):CallsA Tryz.prog w0 82 #[.slice x0 x0n x0c,.int .i64 x1,.int .i64 x2,.int .i64 x3] m R :=
  callsA_of (c:=c82) (args:=[.slice x0 x0n x0c,.int .i64 x1,.int .i64 x2,.int .i64 x3]) (by kernel_rfl) Tryz.func82 (by kernel_rfl) qs82 (by kernel_rfl) (by kernel_rfl) (cast (by kernel_rfl) h)
end Go.Proofs.YtkfemiloehkmhaaGreat.V

namespace Go.Proofs.YtkfemiloehkmhaaGreat.V
open Go Go.Alog Go.Proofs.YtkfemiloehkmhaaGreat.T
set_option linter.unusedVariables false
set_option maxRecDepth 100000

def qs83:Nat→List (Nat × Nat):=fun i=>match i with | _=>[]
noncomputable def c83:Code:=bodyOf Tryz.f83
theorem cf83 (w0:World) (m:AM) (x0:Int) (R:Value→AM→Prop) (h :
 CallsA Tryz.prog w0 98 #[.int .u64 x0] m fun r2 m3 =>
 ∃ i1:Int,r2=.int .i64 i1∧RetP R (.int .i64 i1) m3):CallsA Tryz.prog w0 83 #[.int .u64 x0] m R :=
  callsA_of (c:=c83) (args:=[.int .u64 x0]) (by kernel_rfl) Tryz.func83 (by kernel_rfl) qs83 (by kernel_rfl) (by kernel_rfl) (cast (by kernel_rfl) h)
end Go.Proofs.YtkfemiloehkmhaaGreat.V

