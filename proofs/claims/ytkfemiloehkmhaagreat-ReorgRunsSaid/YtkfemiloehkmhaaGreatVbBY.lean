/- YtkfemiloehkmhaaGreat: a text of our own, by an AI agent: VbBY -/
import Derived.Test.YtkfemiloehkmhaaGreatCoreA
import Derived.Test.YtkfemiloehkmhaaGreatTabY
import Derived.Test.YtkfemiloehkmhaaGreatVaBY
namespace Go.Proofs.YtkfemiloehkmhaaGreat.V
open Go Go.Alog Go.Proofs.YtkfemiloehkmhaaGreat.T
set_option linter.unusedVariables false
set_option maxRecDepth 100000

def qs72:Nat→List (Nat × Nat):=fun i=>match i with | _=>[]
noncomputable def c72:Code:=bodyOf Tryz.f72
theorem cf72 (w0:World) (m:AM) (x0_0:Int) (x0_1:Int) (x0_2:Int) (x0_3:Int) (x0_4:Int) (x1:Int) (R:Value→AM→Prop) (h :
 ∀ b1:Nat,w0.heap.size≤b1→m b1=none→let m2:=AM.upd m b1 (.cells #[.int .i64 x0_0,.int .i64 x0_1,.int .i64 x0_2,.int .i64 x0_3,.int .i64 x0_4] 36);
 KI_∧(bcase ((x1:Int) != 0) (
 LI_ m2 b1 0 fun i3=>LI_ m2 b1 1 fun i4=>LI_ m2 b1 2 fun i5=>LI_ m2 b1 3 fun i6=>LI_ m2 b1 4 fun i7 => 
 CallsA Tryz.prog w0 86 #[.agg #[.int .i64 i3,.int .i64 i4,.int .i64 i5,.int .i64 i6,.int .i64 i7]] m2 fun r11 m12 =>
 ∃ (A8:Option Addr) (n9 c10:Nat),r11=.slice A8 n9 c10∧CallsA Tryz.prog w0 85 #[.slice A8 n9 c10,.int .i64 x1] m12 fun r14 m15 =>
 ∃ t13:Bool,r14=.bool t13∧RetP R (.bool (bif (x1:Int) != 0 then t13 else false)) m15) (
 ((x1:Int) != 0)=false∧RetP R (.bool false) m2))):CallsA Tryz.prog w0 72 #[.agg #[.int .i64 x0_0,.int .i64 x0_1,.int .i64 x0_2,.int .i64 x0_3,.int .i64 x0_4],.int .i64 x1] m R :=
  callsA_of (c:=c72) (args:=[.agg #[.int .i64 x0_0,.int .i64 x0_1,.int .i64 x0_2,.int .i64 x0_3,.int .i64 x0_4],.int .i64 x1]) (by kernel_rfl) Tryz.func72 (by kernel_rfl) qs72 (by kernel_rfl) (by kernel_rfl) (cast (by kernel_rfl) h)

def qs47:Nat→List (Nat × Nat):=fun i=>match i with | 1=>[(1,2)] | _=>[]
noncomputable def c47:Code:=bodyOf Tryz.f47
theorem cf47 (w0:World) (m:AM) (x0_0:Int) (x0_1:Int) (x0_2:Int) (x0_3:Int) (x0_4:Int) (x1_0:Int) (x1_1:Int) (x1_2:Int) (x1_3:Int) (x1_4:Int) (R:Value→AM→Prop) (h :
 ∀ b1:Nat,w0.heap.size≤b1→m b1=none→let m2:=AM.upd m b1 (.cells #[.int .i64 x0_0,.int .i64 x0_1,.int .i64 x0_2,.int .i64 x0_3,.int .i64 x0_4] 36);
 ∀ b3:Nat,w0.heap.size≤b3→m2 b3=none→let m4:=AM.upd m2 b3 (.cells #[.int .i64 x1_0,.int .i64 x1_1,.int .i64 x1_2,.int .i64 x1_3,.int .i64 x1_4] 36);
 LI_ m4 b1 0 fun i5=>LI_ m4 b1 1 fun i6=>LI_ m4 b1 2 fun i7=>LI_ m4 b1 3 fun i8=>LI_ m4 b1 4 fun i9 => 
 ∃ i10:Int,  CallsA Tryz.prog w0 59 #[.agg #[.int .i64 i5,.int .i64 i6,.int .i64 i7,.int .i64 i8,.int .i64 i9]] m4 (fun r11 m12=>r11=.int .i64 i10∧m12=m4) ∧
 LI_ m4 b3 0 fun i13=>LI_ m4 b3 1 fun i14=>LI_ m4 b3 2 fun i15=>LI_ m4 b3 3 fun i16=>LI_ m4 b3 4 fun i17 => 
 CallsA Tryz.prog w0 59 #[.agg #[.int .i64 i13,.int .i64 i14,.int .i64 i15,.int .i64 i16,.int .i64 i17]] m4 fun r19 m20 =>
 ∃ i18:Int,r19=.int .i64 i18∧LI_ m20 b3 0 fun i21=>LI_ m20 b3 1 fun i22=>LI_ m20 b3 2 fun i23=>LI_ m20 b3 3 fun i24=>LI_ m20 b3 4 fun i25 => 
 CallsA Tryz.prog w0 72 #[.agg #[.int .i64 i21,.int .i64 i22,.int .i64 i23,.int .i64 i24,.int .i64 i25],.int .i64 i10] m20 fun r27 m28 =>
 ∃ t26:Bool,r27=.bool t26∧(bcase t26 (
 LI_ m28 b1 0 fun i29=>LI_ m28 b1 1 fun i30=>LI_ m28 b1 2 fun i31=>LI_ m28 b1 3 fun i32=>LI_ m28 b1 4 fun i33 => 
 CallsA Tryz.prog w0 46 #[.agg #[.int .i64 i29,.int .i64 i30,.int .i64 i31,.int .i64 i32,.int .i64 i33]] m28 fun r35 m36 =>
 ∃ t34:Bool,r35=.bool t34∧vcS Tryz.prog w0 qs47 (sub c47 [1,1,0,0,1]) (upd (upd (upd (upd (upd (upd (upd (upd (upd (upd (upd (upd (upd (upd (upd (upd (upd (argS [.agg #[.int .i64 x0_0,.int .i64 x0_1,.int .i64 x0_2,.int .i64 x0_3,.int .i64 x0_4],.agg #[.int .i64 x1_0,.int .i64 x1_1,.int .i64 x1_2,.int .i64 x1_3,.int .i64 x1_4]]) 2 (pt_ b1)) 3 (pt_ b3)) 4 (.int .i64 0)) 7 (.agg #[.int .i64 i5,.int .i64 i6,.int .i64 i7,.int .i64 i8,.int .i64 i9])) 8 (.int .i64 i10)) 9 (.agg #[.int .i64 i13,.int .i64 i14,.int .i64 i15,.int .i64 i16,.int .i64 i17])) 10 (.int .i64 i18)) 5 (.int .i64 i10)) 6 (.int .i64 i18)) 12 (.agg #[.int .i64 i21,.int .i64 i22,.int .i64 i23,.int .i64 i24,.int .i64 i25])) 13 (.int .i64 i10)) 14 (.bool t26)) 15 (.bool t26)) 16 (.agg #[.int .i64 i29,.int .i64 i30,.int .i64 i31,.int .i64 i32,.int .i64 i33])) 17 (.bool t34)) 18 (.bool (bif t26 then t34 else false))) 11 (.bool (bif t26 then t34 else false))) m36 (blockS 0 (thenS (fun σ m=>vcS Tryz.prog w0 qs47 (sub c47 [1,1,1]) σ m (retQ Tryz.prog Tryz.f47 R)) (retQ Tryz.prog Tryz.f47 R)))) (
 t26=false∧vcS Tryz.prog w0 qs47 (sub c47 [1,1,0,0,1]) (upd (upd (upd (upd (upd (upd (upd (upd (upd (upd (upd (upd (upd (upd (upd (upd (upd (argS [.agg #[.int .i64 x0_0,.int .i64 x0_1,.int .i64 x0_2,.int .i64 x0_3,.int .i64 x0_4],.agg #[.int .i64 x1_0,.int .i64 x1_1,.int .i64 x1_2,.int .i64 x1_3,.int .i64 x1_4]]) 2 (pt_ b1)) 3 (pt_ b3)) 4 (.int .i64 0)) 7 (.agg #[.int .i64 i5,.int .i64 i6,.int .i64 i7,.int .i64 i8,.int .i64 i9])) 8 (.int .i64 i10)) 9 (.agg #[.int .i64 i13,.int .i64 i14,.int .i64 i15,.int .i64 i16,.int .i64 i17])) 10 (.int .i64 i18)) 5 (.int .i64 i10)) 6 (.int .i64 i18)) 12 (.agg #[.int .i64 i21,.int .i64 i22,.int .i64 i23,.int .i64 i24,.int .i64 i25])) 13 (.int .i64 i10)) 14 (.bool t26)) 15 (.bool t26)) 16 (undef)) 17 (undef)) 18 (.bool false)) 11 (.bool false)) m28 (blockS 0 (thenS (fun σ m=>vcS Tryz.prog w0 qs47 (sub c47 [1,1,1]) σ m (retQ Tryz.prog Tryz.f47 R)) (retQ Tryz.prog Tryz.f47 R)))))):CallsA Tryz.prog w0 47 #[.agg #[.int .i64 x0_0,.int .i64 x0_1,.int .i64 x0_2,.int .i64 x0_3,.int .i64 x0_4],.agg #[.int .i64 x1_0,.int .i64 x1_1,.int .i64 x1_2,.int .i64 x1_3,.int .i64 x1_4]] m R :=
  callsA_of (c:=c47) (args:=[.agg #[.int .i64 x0_0,.int .i64 x0_1,.int .i64 x0_2,.int .i64 x0_3,.int .i64 x0_4],.agg #[.int .i64 x1_0,.int .i64 x1_1,.int .i64 x1_2,.int .i64 x1_3,.int .i64 x1_4]]) (by kernel_rfl) Tryz.func47 (by kernel_rfl) qs47 (by kernel_rfl) (by kernel_rfl) (cast (by kernel_rfl) h)
theorem vk47_11001 (w0:World) (m:AM) (σ:Sg) (R:Value→AM→Prop)  (x2:Nat) (x3:Nat) (x5:Int) (x6:Int) (x11:Bool) (h2:σ 2=.pointer (some ⟨x2,0,none⟩)) (h3:σ 3=.pointer (some ⟨x3,0,none⟩)) (h5:σ 5=.int .i64 x5) (h6:σ 6=.int .i64 x6) (h11:σ 11=.bool x11) (h :
 (bcase x11 (
 RetP R (.int .i64 2) m) (
 LI_ m x3 0 fun i37=>LI_ m x3 1 fun i38=>LI_ m x3 2 fun i39=>LI_ m x3 3 fun i40=>LI_ m x3 4 fun i41 => 
 CallsA Tryz.prog w0 72 #[.agg #[.int .i64 i37,.int .i64 i38,.int .i64 i39,.int .i64 i40,.int .i64 i41],.int .i64 x5] m fun r43 m44 =>
 ∃ t42:Bool,r43=.bool t42∧(bcase t42 (
 t42=true∧true=true∧true=true∧RetP R (.int .i64 1) m44) (
 KI_∧(bcase ((x5:Int) != 0) (
 KI_∧(bcase (bif t42 then true else bif (x5:Int) != 0 then (x5:Int) == x6 else false) (
 (bif t42 then true else bif (x5:Int) != 0 then (x5:Int) == x6 else false)=true∧true=true∧RetP R (.int .i64 1) m44) (
 LI_ m44 x2 0 fun i45=>LI_ m44 x2 1 fun i46=>LI_ m44 x2 2 fun i47=>LI_ m44 x2 3 fun i48=>LI_ m44 x2 4 fun i49 => 
 CallsA Tryz.prog w0 72 #[.agg #[.int .i64 i45,.int .i64 i46,.int .i64 i47,.int .i64 i48,.int .i64 i49],.int .i64 x6] m44 fun r51 m52 =>
 ∃ t50:Bool,r51=.bool t50∧(bcase (bif bif t42 then true else bif (x5:Int) != 0 then (x5:Int) == x6 else false then true else t50) (
 (bif bif t42 then true else bif (x5:Int) != 0 then (x5:Int) == x6 else false then true else t50)=true∧RetP R (.int .i64 1) m52) (
 LI_ m52 x2 0 fun i53=>LI_ m52 x2 1 fun i54=>LI_ m52 x2 2 fun i55=>LI_ m52 x2 3 fun i56=>LI_ m52 x2 4 fun i57 => 
 CallsA Tryz.prog w0 73 #[.agg #[.int .i64 i53,.int .i64 i54,.int .i64 i55,.int .i64 i56,.int .i64 i57]] m52 fun r59 m60 =>
 ∃ t58:Bool,r59=.bool t58∧(bcase t58 (
 LI_ m60 x3 0 fun i61=>LI_ m60 x3 1 fun i62=>LI_ m60 x3 2 fun i63=>LI_ m60 x3 3 fun i64=>LI_ m60 x3 4 fun i65 => 
 CallsA Tryz.prog w0 73 #[.agg #[.int .i64 i61,.int .i64 i62,.int .i64 i63,.int .i64 i64,.int .i64 i65]] m60 fun r67 m68 =>
 ∃ t66:Bool,r67=.bool t66∧(bcase (bif bif bif t42 then true else bif (x5:Int) != 0 then (x5:Int) == x6 else false then true else t50 then true else bif t58 then t66 else false) (
 RetP R (.int .i64 1) m68) (
 RetP R (.int .i64 0) m68))) (
 t58=false∧(bcase (bif bif bif t42 then true else bif (x5:Int) != 0 then (x5:Int) == x6 else false then true else t50 then true else false) (
 RetP R (.int .i64 1) m60) (
 RetP R (.int .i64 0) m60))))))))) (
 ((x5:Int) != 0)=false∧(bcase (bif t42 then true else false) (
 (bif t42 then true else false)=true∧true=true∧RetP R (.int .i64 1) m44) (
 LI_ m44 x2 0 fun i69=>LI_ m44 x2 1 fun i70=>LI_ m44 x2 2 fun i71=>LI_ m44 x2 3 fun i72=>LI_ m44 x2 4 fun i73 => 
 CallsA Tryz.prog w0 72 #[.agg #[.int .i64 i69,.int .i64 i70,.int .i64 i71,.int .i64 i72,.int .i64 i73],.int .i64 x6] m44 fun r75 m76 =>
 ∃ t74:Bool,r75=.bool t74∧(bcase (bif bif t42 then true else false then true else t74) (
 (bif bif t42 then true else false then true else t74)=true∧RetP R (.int .i64 1) m76) (
 LI_ m76 x2 0 fun i77=>LI_ m76 x2 1 fun i78=>LI_ m76 x2 2 fun i79=>LI_ m76 x2 3 fun i80=>LI_ m76 x2 4 fun i81 => 
 CallsA Tryz.prog w0 73 #[.agg #[.int .i64 i77,.int .i64 i78,.int .i64 i79,.int .i64 i80,.int .i64 i81]] m76 fun r83 m84 =>
 ∃ t82:Bool,r83=.bool t82∧(bcase t82 (
 LI_ m84 x3 0 fun i85=>LI_ m84 x3 1 fun i86=>LI_ m84 x3 2 fun i87=>LI_ m84 x3 3 fun i88=>LI_ m84 x3 4 fun i89 => 
 CallsA Tryz.prog w0 73 #[.agg #[.int .i64 i85,.int .i64 i86,.int .i64 i87,.int .i64 i88,.int .i64 i89]] m84 fun r91 m92 =>
 ∃ t90:Bool,r91=.bool t90∧(bcase (bif bif bif t42 then true else false then true else t74 then true else bif t82 then t90 else false) (
 RetP R (.int .i64 1) m92) (
 RetP R (.int .i64 0) m92))) (
 t82=false∧(bcase (bif bif bif t42 then true else false then true else t74 then true else false) (
 RetP R (.int .i64 1) m84) (
 RetP R (.int .i64 0) m84))))))))))))))) :
 vcS Tryz.prog w0 qs47 (sub c47 [1,1,0,0,1]) σ m (blockS 0 (thenS (fun σ m=>vcS Tryz.prog w0 qs47 (sub c47 [1,1,1]) σ m (retQ Tryz.prog Tryz.f47 R)) (retQ Tryz.prog Tryz.f47 R))):=by
  have es0:(upd (upd (upd (upd (upd σ 2 (pt_ x2)) 3 (pt_ x3)) 5 (.int .i64 x5)) 6 (.int .i64 x6)) 11 (.bool x11))=σ:=by rw [upd_id h2,upd_id h3,upd_id h5,upd_id h6,upd_id h11]
  exact cast (congrArg (fun s=>vcS Tryz.prog w0 qs47 (sub c47 [1,1,0,0,1]) s m (blockS 0 (thenS (fun σ m=>vcS Tryz.prog w0 qs47 (sub c47 [1,1,1]) σ m (retQ Tryz.prog Tryz.f47 R)) (retQ Tryz.prog Tryz.f47 R)))) es0) (cast (by kernel_rfl) h)

def qs67:Nat→List (Nat × Nat):=fun i=>match i with | _=>[]
noncomputable def c67:Code:=bodyOf Tryz.f67
theorem cf67 (w0:World) (m:AM) (x0:Option Addr) (x0n x0c:Nat) (R:Value→AM→Prop) (h :
 ((0:Int)≤((x0n:Nat):Int)∧(((x0n:Nat):Int):Int)≤((x0n:Nat):Int)∧(((x0n:Nat):Int):Int)≤9223372036854775807∧((8:Nat):Int)*((x0n:Nat):Int)≤281474976710656)∧∀ b1:Nat,w0.heap.size≤b1→m b1=none→let m2:=AM.upd m b1 (.cells (zeros [.int .i64 0] (((x0n:Nat):Int):Int).toNat).toArray 3);
 KI_∧vcS Tryz.prog w0 qs67 (sub c67 [1,1,0,1,0]) (upd (upd (upd (upd (upd (upd (upd (upd (upd (argS [.slice x0 x0n x0c]) 2 (.slice none 0 0)) 7 (.slice x0 x0n x0c)) 8 (.int .i64 ((x0n:Nat):Int))) 9 (.slice (some ⟨b1,0,none⟩) ((((x0n:Nat):Int):Int).toNat) ((((x0n:Nat):Int):Int).toNat))) 3 (.slice (some ⟨b1,0,none⟩) ((((x0n:Nat):Int):Int).toNat) ((((x0n:Nat):Int):Int).toNat))) 10 (.slice x0 x0n x0c)) 11 (.int .i64 ((x0n:Nat):Int))) 12 (.int .i64 (IntKind.wrap .i64 (((x0n:Nat):Int)-1)))) 4 (.int .i64 (IntKind.wrap .i64 (((x0n:Nat):Int)-1)))) m2 (blockS 0 (thenS (fun σ m=>vcS Tryz.prog w0 qs67 (sub c67 [1,1,1]) σ m (retQ Tryz.prog Tryz.f67 R)) (retQ Tryz.prog Tryz.f67 R)))):CallsA Tryz.prog w0 67 #[.slice x0 x0n x0c] m R :=
  callsA_of (c:=c67) (args:=[.slice x0 x0n x0c]) (by kernel_rfl) Tryz.func67 (by kernel_rfl) qs67 (by kernel_rfl) (by kernel_rfl) (cast (by kernel_rfl) h)
def lq67_11010 (R:Value→AM→Prop) (x0:Option Addr) (x0n x0c:Nat) (x3:Option Addr) (x3n x3c:Nat) (I0:Nat→Int→AM→Prop) (E0_0:AM→Prop) (n0:Nat):Exit→Sg→AM→Prop
 | .normal,σ,m=>σ 0=.slice x0 x0n x0c∧σ 3=.slice x3 x3n x3c∧okI .i64 (σ 4)=true∧∃ n':Nat,n'<n0∧I0 n' (vI (σ 4)) m
 | .exit id,σ,m=>if id=0 then σ 0=.slice x0 x0n x0c∧σ 3=.slice x3 x3n x3c∧E0_0  m else False
 | .ret,σ,m=>retQ Tryz.prog Tryz.f67 R .ret σ m
 | _,_,_=>False
theorem vl67_11010 (w0:World) (m:AM) (σ:Sg) (R:Value→AM→Prop)  (x0:Option Addr) (x0n x0c:Nat) (x3:Option Addr) (x3n x3c:Nat) (x4:Int) (I0:Nat→Int→AM→Prop) (E0_0:AM→Prop) (N:Nat) (h0:σ 0=.slice x0 x0n x0c) (h3:σ 3=.slice x3 x3n x3c) (h4:σ 4=.int .i64 x4)
 (h_0:I0 N x4 m)
 (h_s:∀ (n0:Nat) (σ:Sg) (x4:Int) (m:AM),I0 n0 x4 m→(
 KI_∧(bcase (decide ((x4:Int)≥0)) (
 KI_∧vcS Tryz.prog w0 qs67 (sub c67 [1,1,0,1,0,0,1,0,0,1,0]) (upd (upd (upd (upd (upd (upd (upd (upd σ 0 (.slice x0 x0n x0c)) 3 (.slice x3 x3n x3c)) 4 (.int .i64 x4)) 13 (.int .i64 x4)) 14 (.bool (decide ((x4:Int)≥0)))) 17 (.int .i64 x4)) 18 (.int .i64 (IntKind.wrap .i64 (x4+1)))) 5 (.int .i64 (IntKind.wrap .i64 (x4+1)))) m (blockS 2 (blockS 1 (thenS (fun σ m=>vcS Tryz.prog w0 qs67 (sub c67 [1,1,0,1,0,0,1,1]) σ m (lq67_11010 R x0 x0n x0c x3 x3n x3c I0 E0_0 n0)) (lq67_11010 R x0 x0n x0c x3 x3n x3c I0 E0_0 n0))))) (
 (.slice x0 x0n x0c:Value)=.slice x0 x0n x0c∧(.slice x3 x3n x3c:Value)=.slice x3 x3n x3c∧E0_0  m))))
 (h_e0:∀ (σ:Sg)  (m:AM),E0_0  m→(
 RetP R (.slice x3 x3n x3c) m)) :
 vcS Tryz.prog w0 qs67 (sub c67 [1,1,0,1,0]) σ m (blockS 0 (thenS (fun σ m=>vcS Tryz.prog w0 qs67 (sub c67 [1,1,1]) σ m (retQ Tryz.prog Tryz.f67 R)) (retQ Tryz.prog Tryz.f67 R))):=by
  rw [show sub c67 [1,1,0,1,0]=.loop (sub c67 [1,1,0,1,0,0]) from by kernel_rfl]
  refine loopQ (fun n0 σ m=>σ 0=.slice x0 x0n x0c∧σ 3=.slice x3 x3n x3c∧okI .i64 (σ 4)=true∧I0 n0 (vI (σ 4)) m) N (fun n0=>(lq67_11010 R x0 x0n x0c x3 x3n x3c I0 E0_0 n0)) ⟨h0,h3,(by rw [h4]; rfl),(by rw [h4]; exact h_0)⟩ ?_ ?_ ?_
  · rintro n0 σ m ⟨kk0,kk1,kk2,n',hlt,hI⟩; exact ⟨n',hlt,kk0,kk1,kk2,hI⟩
  · intro n0 e σ m hne h
    cases e with
    | normal=>exact absurd rfl hne
    | ret=>exact h
    | exit id =>
      by_cases e0:id=0
      · subst e0
        obtain ⟨kk0,kk1,hE⟩:=h
        have es:(upd (upd σ 0 (.slice x0 x0n x0c)) 3 (.slice x3 x3n x3c))=σ:=by rw [upd_id kk0,upd_id kk1]
        exact cast (congrArg (fun s=>(blockS 0 (thenS (fun σ m=>vcS Tryz.prog w0 qs67 (sub c67 [1,1,1]) σ m (retQ Tryz.prog Tryz.f67 R)) (retQ Tryz.prog Tryz.f67 R))) (.exit 0) s m) es) (cast (by kernel_rfl) (h_e0 σ  m hE))
      · replace h:=(if_neg e0:(if id=0 then _ else _)=_).mp h
        exact False.elim h
    | _=>exact False.elim h
  · rintro n0 σ m ⟨kk0,kk1,kk2,hI⟩
    have es:(upd (upd (upd σ 0 (.slice x0 x0n x0c)) 3 (.slice x3 x3n x3c)) 4 (.int .i64 (vI (σ 4))))=σ:=by rw [upd_id kk0,upd_id kk1,upd_id (ok_int kk2)]
    exact cast (congrArg (fun s=>vcS Tryz.prog w0 qs67 (sub c67 [1,1,0,1,0,0]) s m (lq67_11010 R x0 x0n x0c x3 x3n x3c I0 E0_0 n0)) es) (cast (by kernel_rfl) (h_s n0 σ (vI (σ 4)) m hI))
def lq67_11010010010 (R:Value→AM→Prop) (x0:Option Addr) (x0n x0c:Nat) (x3:Option Addr) (x3n x3c:Nat) (x4:Int) (I1:Nat→Int→AM→Prop) (E1_2:AM→Prop) (n1:Nat):Exit→Sg→AM→Prop
 | .normal,σ,m=>σ 0=.slice x0 x0n x0c∧σ 3=.slice x3 x3n x3c∧σ 4=.int .i64 x4∧okI .i64 (σ 5)=true∧∃ n':Nat,n'<n1∧I1 n' (vI (σ 5)) m
 | .exit id,σ,m=>if id=2 then σ 0=.slice x0 x0n x0c∧σ 3=.slice x3 x3n x3c∧σ 4=.int .i64 x4∧E1_2  m else False
 | .ret,σ,m=>retQ Tryz.prog Tryz.f67 R .ret σ m
 | _,_,_=>False
theorem vl67_11010010010 (w0:World) (m:AM) (σ:Sg) (R:Value→AM→Prop) (n0:Nat) (I0:Nat→Int→AM→Prop) (E0_0:AM→Prop) (x0:Option Addr) (x0n x0c:Nat) (x3:Option Addr) (x3n x3c:Nat) (x4:Int) (x5:Int) (I1:Nat→Int→AM→Prop) (E1_2:AM→Prop) (N:Nat) (h0:σ 0=.slice x0 x0n x0c) (h3:σ 3=.slice x3 x3n x3c) (h4:σ 4=.int .i64 x4) (h5:σ 5=.int .i64 x5)
 (h_0:I1 N x5 m)
 (h_s:∀ (n1:Nat) (σ:Sg) (x5:Int) (m:AM),I1 n1 x5 m→(
 KI_∧(bcase (decide ((x5:Int)<((x0n:Nat):Int))) (
 ((0:Int)≤x4∧x4<((x0n:Nat):Int))∧nilO x0 fun a3 =>
 LA_ m (a3.add ((x4:Int).toNat*5)) fun i4=>∃ i5:Int,m.cell ((a3.add ((x4:Int).toNat*5)).add 1)=some (.int .i64 i5)∧∃ i6:Int,m.cell ((a3.add ((x4:Int).toNat*5)).add 2)=some (.int .i64 i6)∧∃ i7:Int,m.cell ((a3.add ((x4:Int).toNat*5)).add 3)=some (.int .i64 i7)∧∃ i8:Int,m.cell ((a3.add ((x4:Int).toNat*5)).add 4)=some (.int .i64 i8) ∧ 
 ((0:Int)≤x5∧x5<((x0n:Nat):Int))∧nilO x0 fun a9 =>
 LA_ m (a9.add ((x5:Int).toNat*5)) fun i10=>∃ i11:Int,m.cell ((a9.add ((x5:Int).toNat*5)).add 1)=some (.int .i64 i11)∧∃ i12:Int,m.cell ((a9.add ((x5:Int).toNat*5)).add 2)=some (.int .i64 i12)∧∃ i13:Int,m.cell ((a9.add ((x5:Int).toNat*5)).add 3)=some (.int .i64 i13)∧∃ i14:Int,m.cell ((a9.add ((x5:Int).toNat*5)).add 4)=some (.int .i64 i14) ∧ 
 CallsA Tryz.prog w0 47 #[.agg #[.int .i64 i4,.int .i64 i5,.int .i64 i6,.int .i64 i7,.int .i64 i8],.agg #[.int .i64 i10,.int .i64 i11,.int .i64 i12,.int .i64 i13,.int .i64 i14]] m fun r16 m17 =>
 ∃ i15:Int,r16=.int .i64 i15∧KI_∧(bcase (decide ((i15:Int)>0)) (
 ((0:Int)≤x4∧x4<((x3n:Nat):Int))∧nilO x3 fun a18 =>
 LA_ m17 (a18.add ((x4:Int).toNat*1)) fun i19 => 
 ((0:Int)≤x5∧x5<((x3n:Nat):Int))∧nilO x3 fun a20 =>
 LA_ m17 (a20.add ((x5:Int).toNat*1)) fun i21 => 
 KI_∧KI_∧((0:Int)≤x4∧x4<((x3n:Nat):Int))∧nilO x3 fun a22 =>
 StC w0.heap.size m17 (a22.add ((x4:Int).toNat*1)) (.int .i64 (if ((IntKind.wrap .i64 (i15+i21)):Int)>i19 then IntKind.wrap .i64 (i15+i21) else i19)) fun m23 =>
 KI_∧(.slice x0 x0n x0c:Value)=.slice x0 x0n x0c∧(.slice x3 x3n x3c:Value)=.slice x3 x3n x3c∧(.int .i64 x4:Value)=.int .i64 x4∧true=true∧∃ n':Nat,n'<n1∧I1 n' (IntKind.wrap .i64 (x5+1)) m23) (
 KI_∧(.slice x0 x0n x0c:Value)=.slice x0 x0n x0c∧(.slice x3 x3n x3c:Value)=.slice x3 x3n x3c∧(.int .i64 x4:Value)=.int .i64 x4∧true=true∧∃ n':Nat,n'<n1∧I1 n' (IntKind.wrap .i64 (x5+1)) m17))) (
 (.slice x0 x0n x0c:Value)=.slice x0 x0n x0c∧(.slice x3 x3n x3c:Value)=.slice x3 x3n x3c∧(.int .i64 x4:Value)=.int .i64 x4∧E1_2  m))))
 (h_e2:∀ (σ:Sg)  (m:AM),E1_2  m→(
 KI_∧(.slice x0 x0n x0c:Value)=.slice x0 x0n x0c∧(.slice x3 x3n x3c:Value)=.slice x3 x3n x3c∧true=true∧∃ n':Nat,n'<n0∧I0 n' (IntKind.wrap .i64 (x4-1)) m)) :
 vcS Tryz.prog w0 qs67 (sub c67 [1,1,0,1,0,0,1,0,0,1,0]) σ m (blockS 2 (blockS 1 (thenS (fun σ m=>vcS Tryz.prog w0 qs67 (sub c67 [1,1,0,1,0,0,1,1]) σ m (lq67_11010 R x0 x0n x0c x3 x3n x3c I0 E0_0 n0)) (lq67_11010 R x0 x0n x0c x3 x3n x3c I0 E0_0 n0)))):=by
  rw [show sub c67 [1,1,0,1,0,0,1,0,0,1,0]=.loop (sub c67 [1,1,0,1,0,0,1,0,0,1,0,0]) from by kernel_rfl]
  refine loopQ (fun n1 σ m=>σ 0=.slice x0 x0n x0c∧σ 3=.slice x3 x3n x3c∧σ 4=.int .i64 x4∧okI .i64 (σ 5)=true∧I1 n1 (vI (σ 5)) m) N (fun n1=>(lq67_11010010010 R x0 x0n x0c x3 x3n x3c x4 I1 E1_2 n1)) ⟨h0,h3,h4,(by rw [h5]; rfl),(by rw [h5]; exact h_0)⟩ ?_ ?_ ?_
  · rintro n1 σ m ⟨kk0,kk1,kk2,kk3,n',hlt,hI⟩; exact ⟨n',hlt,kk0,kk1,kk2,kk3,hI⟩
  · intro n1 e σ m hne h
    cases e with
    | normal=>exact absurd rfl hne
    | ret=>exact h
    | exit id =>
      by_cases e2:id=2
      · subst e2
        obtain ⟨kk0,kk1,kk2,hE⟩:=h
        have es:(upd (upd (upd σ 0 (.slice x0 x0n x0c)) 3 (.slice x3 x3n x3c)) 4 (.int .i64 x4))=σ:=by rw [upd_id kk0,upd_id kk1,upd_id kk2]
        exact cast (congrArg (fun s=>(blockS 2 (blockS 1 (thenS (fun σ m=>vcS Tryz.prog w0 qs67 (sub c67 [1,1,0,1,0,0,1,1]) σ m (lq67_11010 R x0 x0n x0c x3 x3n x3c I0 E0_0 n0)) (lq67_11010 R x0 x0n x0c x3 x3n x3c I0 E0_0 n0)))) (.exit 2) s m) es) (cast (by kernel_rfl) (h_e2 σ  m hE))
      · replace h:=(if_neg e2:(if id=2 then _ else _)=_).mp h
        exact False.elim h
    | _=>exact False.elim h
  · rintro n1 σ m ⟨kk0,kk1,kk2,kk3,hI⟩
    have es:(upd (upd (upd (upd σ 0 (.slice x0 x0n x0c)) 3 (.slice x3 x3n x3c)) 4 (.int .i64 x4)) 5 (.int .i64 (vI (σ 5))))=σ:=by rw [upd_id kk0,upd_id kk1,upd_id kk2,upd_id (ok_int kk3)]
    exact cast (congrArg (fun s=>vcS Tryz.prog w0 qs67 (sub c67 [1,1,0,1,0,0,1,0,0,1,0,0]) s m (lq67_11010010010 R x0 x0n x0c x3 x3n x3c x4 I1 E1_2 n1)) es) (cast (by kernel_rfl) (h_s n1 σ (vI (σ 5)) m hI))

def qs13:Nat→List (Nat × Nat):=fun i=>match i with | _=>[]
noncomputable def c13:Code:=bodyOf Tryz.f13
theorem cf13 (w0:World) (m:AM) (x0:Option Addr) (x0n x0c:Nat) (x1:Option Addr) (x1n x1c:Nat) (R:Value→AM→Prop) (h :
 KI_∧(bcase ((((x0n:Nat):Int):Int) != ((x1n:Nat):Int)) (
 RetP R (.bool false) m) (
 vcS Tryz.prog w0 qs13 (sub c13 [1,1,0,1,0]) (upd (upd (upd (upd (upd (upd (upd (argS [.slice x0 x0n x0c,.slice x1 x1n x1c]) 4 (.bool false)) 6 (.slice x0 x0n x0c)) 7 (.int .i64 ((x0n:Nat):Int))) 8 (.slice x1 x1n x1c)) 9 (.int .i64 ((x1n:Nat):Int))) 10 (.bool ((((x0n:Nat):Int):Int) != ((x1n:Nat):Int)))) 5 (.int .i64 0)) m (blockS 0 (thenS (fun σ m=>vcS Tryz.prog w0 qs13 (sub c13 [1,1,1]) σ m (retQ Tryz.prog Tryz.f13 R)) (retQ Tryz.prog Tryz.f13 R)))))):CallsA Tryz.prog w0 13 #[.slice x0 x0n x0c,.slice x1 x1n x1c] m R :=
  callsA_of (c:=c13) (args:=[.slice x0 x0n x0c,.slice x1 x1n x1c]) (by kernel_rfl) Tryz.func13 (by kernel_rfl) qs13 (by kernel_rfl) (by kernel_rfl) (cast (by kernel_rfl) h)
def lq13_11010 (R:Value→AM→Prop) (x0:Option Addr) (x0n x0c:Nat) (x1:Option Addr) (x1n x1c:Nat) (I0:Nat→Int→AM→Prop) (E0_0:AM→Prop) (n0:Nat):Exit→Sg→AM→Prop
 | .normal,σ,m=>σ 0=.slice x0 x0n x0c∧σ 1=.slice x1 x1n x1c∧okI .i64 (σ 5)=true∧∃ n':Nat,n'<n0∧I0 n' (vI (σ 5)) m
 | .exit id,σ,m=>if id=0 then σ 0=.slice x0 x0n x0c∧σ 1=.slice x1 x1n x1c∧E0_0  m else False
 | .ret,σ,m=>retQ Tryz.prog Tryz.f13 R .ret σ m
 | _,_,_=>False
theorem vl13_11010 (w0:World) (m:AM) (σ:Sg) (R:Value→AM→Prop)  (x0:Option Addr) (x0n x0c:Nat) (x1:Option Addr) (x1n x1c:Nat) (x5:Int) (I0:Nat→Int→AM→Prop) (E0_0:AM→Prop) (N:Nat) (h0:σ 0=.slice x0 x0n x0c) (h1:σ 1=.slice x1 x1n x1c) (h5:σ 5=.int .i64 x5)
 (h_0:I0 N x5 m)
 (h_s:∀ (n0:Nat) (σ:Sg) (x5:Int) (m:AM),I0 n0 x5 m→(
 KI_∧(bcase (decide ((x5:Int)<((x0n:Nat):Int))) (
 ((0:Int)≤x5∧x5<((x0n:Nat):Int))∧nilO x0 fun a1 =>
 LA_ m (a1.add ((x5:Int).toNat*1)) fun i2 => 
 ((0:Int)≤x5∧x5<((x1n:Nat):Int))∧nilO x1 fun a3 =>
 LA_ m (a3.add ((x5:Int).toNat*1)) fun i4 => 
 KI_∧(bcase ((i2:Int) != i4) (
 RetP R (.bool false) m) (
 KI_∧(.slice x0 x0n x0c:Value)=.slice x0 x0n x0c∧(.slice x1 x1n x1c:Value)=.slice x1 x1n x1c∧true=true∧∃ n':Nat,n'<n0∧I0 n' (IntKind.wrap .i64 (x5+1)) m))) (
 (.slice x0 x0n x0c:Value)=.slice x0 x0n x0c∧(.slice x1 x1n x1c:Value)=.slice x1 x1n x1c∧E0_0  m))))
 (h_e0:∀ (σ:Sg)  (m:AM),E0_0  m→(
 RetP R (.bool true) m)) :
 vcS Tryz.prog w0 qs13 (sub c13 [1,1,0,1,0]) σ m (blockS 0 (thenS (fun σ m=>vcS Tryz.prog w0 qs13 (sub c13 [1,1,1]) σ m (retQ Tryz.prog Tryz.f13 R)) (retQ Tryz.prog Tryz.f13 R))):=by
  rw [show sub c13 [1,1,0,1,0]=.loop (sub c13 [1,1,0,1,0,0]) from by kernel_rfl]
  refine loopQ (fun n0 σ m=>σ 0=.slice x0 x0n x0c∧σ 1=.slice x1 x1n x1c∧okI .i64 (σ 5)=true∧I0 n0 (vI (σ 5)) m) N (fun n0=>(lq13_11010 R x0 x0n x0c x1 x1n x1c I0 E0_0 n0)) ⟨h0,h1,(by rw [h5]; rfl),(by rw [h5]; exact h_0)⟩ ?_ ?_ ?_
  · rintro n0 σ m ⟨kk0,kk1,kk2,n',hlt,hI⟩; exact ⟨n',hlt,kk0,kk1,kk2,hI⟩
  · intro n0 e σ m hne h
    cases e with
    | normal=>exact absurd rfl hne
    | ret=>exact h
    | exit id =>
      by_cases e0:id=0
      · subst e0
        obtain ⟨kk0,kk1,hE⟩:=h
        have es:(upd (upd σ 0 (.slice x0 x0n x0c)) 1 (.slice x1 x1n x1c))=σ:=by rw [upd_id kk0,upd_id kk1]
        exact cast (congrArg (fun s=>(blockS 0 (thenS (fun σ m=>vcS Tryz.prog w0 qs13 (sub c13 [1,1,1]) σ m (retQ Tryz.prog Tryz.f13 R)) (retQ Tryz.prog Tryz.f13 R))) (.exit 0) s m) es) (cast (by kernel_rfl) (h_e0 σ  m hE))
      · replace h:=(if_neg e0:(if id=0 then _ else _)=_).mp h
        exact False.elim h
    | _=>exact False.elim h
  · rintro n0 σ m ⟨kk0,kk1,kk2,hI⟩
    have es:(upd (upd (upd σ 0 (.slice x0 x0n x0c)) 1 (.slice x1 x1n x1c)) 5 (.int .i64 (vI (σ 5))))=σ:=by rw [upd_id kk0,upd_id kk1,upd_id (ok_int kk2)]
    exact cast (congrArg (fun s=>vcS Tryz.prog w0 qs13 (sub c13 [1,1,0,1,0,0]) s m (lq13_11010 R x0 x0n x0c x1 x1n x1c I0 E0_0 n0)) es) (cast (by kernel_rfl) (h_s n0 σ (vI (σ 5)) m hI))
end Go.Proofs.YtkfemiloehkmhaaGreat.V

namespace Go.Proofs.YtkfemiloehkmhaaGreat.V
open Go Go.Alog Go.Proofs.YtkfemiloehkmhaaGreat.T
set_option linter.unusedVariables false
set_option maxRecDepth 100000

def qs16:Nat→List (Nat × Nat):=fun i=>match i with | _=>[]
noncomputable def c16:Code:=bodyOf Tryz.f16
theorem cf16 (w0:World) (m:AM) (x0_0:Int) (x0_1:Int) (x0_2:Int) (x0_3:Int) (x0_4:Int) (x1:Int) (R:Value→AM→Prop) (h :
 ∀ b1:Nat,w0.heap.size≤b1→m b1=none→let m2:=AM.upd m b1 (.cells #[.int .i64 x0_0,.int .i64 x0_1,.int .i64 x0_2,.int .i64 x0_3,.int .i64 x0_4] 36);
 LI_ m2 b1 0 fun i3=>LI_ m2 b1 1 fun i4=>LI_ m2 b1 2 fun i5=>LI_ m2 b1 3 fun i6=>LI_ m2 b1 4 fun i7 => 
 CallsA Tryz.prog w0 17 #[.agg #[.int .i64 i3,.int .i64 i4,.int .i64 i5,.int .i64 i6,.int .i64 i7]] m2 fun r9 m10 =>
 ∃ t8:Bool,r9=.bool t8∧(bcase (!t8) (
 RetP R (.tuple #[.int .i64 0,.bool false]) m10) (
 LI_ m10 b1 0 fun i11 => 
 KI_∧(bcase ((i11:Int) == 15) (
 (bcase ((i11:Int) == 15) (
 KI_∧LI_ m10 b1 4 fun i12 => 
 KI_∧RetP R (.tuple #[.int .i64 (IntKind.wrap .i64 ((IntKind.wrap .i64 (x1+1))+i12)),.bool true]) m10) (
 KI_∧(bcase ((i11:Int) == 17) (
 (bcase ((i11:Int) == 17) (
 LI_ m10 b1 4 fun i13 => 
 RetP R (.tuple #[.int .i64 i13,.bool true]) m10) (
 RetP R (.tuple #[.int .i64 0,.bool false]) m10))) (
 KI_∧(bcase ((i11:Int) == 18) (
 LI_ m10 b1 4 fun i14 => 
 RetP R (.tuple #[.int .i64 i14,.bool true]) m10) (
 RetP R (.tuple #[.int .i64 0,.bool false]) m10))))))) (
 KI_∧(bcase ((i11:Int) == 16) (
 KI_∧LI_ m10 b1 4 fun i15 => 
 KI_∧RetP R (.tuple #[.int .i64 (IntKind.wrap .i64 ((IntKind.wrap .i64 (x1+1))+i15)),.bool true]) m10) (
 KI_∧(bcase ((i11:Int) == 17) (
 (bcase ((i11:Int) == 17) (
 LI_ m10 b1 4 fun i16 => 
 RetP R (.tuple #[.int .i64 i16,.bool true]) m10) (
 RetP R (.tuple #[.int .i64 0,.bool false]) m10))) (
 KI_∧(bcase ((i11:Int) == 18) (
 LI_ m10 b1 4 fun i17 => 
 RetP R (.tuple #[.int .i64 i17,.bool true]) m10) (
 RetP R (.tuple #[.int .i64 0,.bool false]) m10))))))))))):CallsA Tryz.prog w0 16 #[.agg #[.int .i64 x0_0,.int .i64 x0_1,.int .i64 x0_2,.int .i64 x0_3,.int .i64 x0_4],.int .i64 x1] m R :=
  callsA_of (c:=c16) (args:=[.agg #[.int .i64 x0_0,.int .i64 x0_1,.int .i64 x0_2,.int .i64 x0_3,.int .i64 x0_4],.int .i64 x1]) (by kernel_rfl) Tryz.func16 (by kernel_rfl) qs16 (by kernel_rfl) (by kernel_rfl) (cast (by kernel_rfl) h)

def qs14:Nat→List (Nat × Nat):=fun i=>match i with | _=>[]
noncomputable def c14:Code:=bodyOf Tryz.f14
theorem cf14 (w0:World) (m:AM) (x0:Option Addr) (x0n x0c:Nat) (R:Value→AM→Prop) (h :
 KI_∧(bcase (decide ((((x0n:Nat):Int):Int)>4096)) (
 RetP R (.bool false) m) (
 vcS Tryz.prog w0 qs14 (sub c14 [1,1,0,1,0]) (upd (upd (upd (upd (upd (upd (upd (argS [.slice x0 x0n x0c]) 2 (.bool false)) 7 (.slice x0 x0n x0c)) 8 (.int .i64 ((x0n:Nat):Int))) 9 (.bool (decide ((((x0n:Nat):Int):Int)>4096)))) 10 (.slice x0 x0n x0c)) 11 (.int .i64 ((x0n:Nat):Int))) 12 (.int .i64 0)) m (blockS 0 (thenS (fun σ m=>vcS Tryz.prog w0 qs14 (sub c14 [1,1,1]) σ m (retQ Tryz.prog Tryz.f14 R)) (retQ Tryz.prog Tryz.f14 R)))))):CallsA Tryz.prog w0 14 #[.slice x0 x0n x0c] m R :=
  callsA_of (c:=c14) (args:=[.slice x0 x0n x0c]) (by kernel_rfl) Tryz.func14 (by kernel_rfl) qs14 (by kernel_rfl) (by kernel_rfl) (cast (by kernel_rfl) h)
def lq14_11010 (R:Value→AM→Prop) (x0:Option Addr) (x0n x0c:Nat) (x10:Option Addr) (x10n x10c:Nat) (x11:Int) (I0:Nat→Int→AM→Prop) (E0_0:AM→Prop) (n0:Nat):Exit→Sg→AM→Prop
 | .normal,σ,m=>σ 0=.slice x0 x0n x0c∧σ 10=.slice x10 x10n x10c∧σ 11=.int .i64 x11∧okI .i64 (σ 12)=true∧∃ n':Nat,n'<n0∧I0 n' (vI (σ 12)) m
 | .exit id,σ,m=>if id=0 then σ 0=.slice x0 x0n x0c∧σ 10=.slice x10 x10n x10c∧σ 11=.int .i64 x11∧E0_0  m else False
 | .ret,σ,m=>retQ Tryz.prog Tryz.f14 R .ret σ m
 | _,_,_=>False
theorem vl14_11010 (w0:World) (m:AM) (σ:Sg) (R:Value→AM→Prop)  (x0:Option Addr) (x0n x0c:Nat) (x10:Option Addr) (x10n x10c:Nat) (x11:Int) (x12:Int) (I0:Nat→Int→AM→Prop) (E0_0:AM→Prop) (N:Nat) (h0:σ 0=.slice x0 x0n x0c) (h10:σ 10=.slice x10 x10n x10c) (h11:σ 11=.int .i64 x11) (h12:σ 12=.int .i64 x12)
 (h_0:I0 N x12 m)
 (h_s:∀ (n0:Nat) (σ:Sg) (x12:Int) (m:AM),I0 n0 x12 m→(
 KI_∧(bcase (decide ((x12:Int)<x11)) (
 ((0:Int)≤x12∧x12<((x10n:Nat):Int))∧nilO x10 fun a1 =>
 LA_ m (a1.add ((x12:Int).toNat*5)) fun i2=>∃ i3:Int,m.cell ((a1.add ((x12:Int).toNat*5)).add 1)=some (.int .i64 i3)∧∃ i4:Int,m.cell ((a1.add ((x12:Int).toNat*5)).add 2)=some (.int .i64 i4)∧∃ i5:Int,m.cell ((a1.add ((x12:Int).toNat*5)).add 3)=some (.int .i64 i5)∧∃ i6:Int,m.cell ((a1.add ((x12:Int).toNat*5)).add 4)=some (.int .i64 i6) ∧ 
 ∀ b7:Nat,w0.heap.size≤b7→m b7=none→let m8:=AM.upd m b7 (.cells #[.int .i64 0,.int .i64 0,.int .i64 0,.int .i64 0,.int .i64 0] 36);
 SI_ w0.heap.size m8 b7 0 i2 fun m9 =>
 SI_ w0.heap.size m9 b7 1 i3 fun m10 =>
 SI_ w0.heap.size m10 b7 2 i4 fun m11 =>
 SI_ w0.heap.size m11 b7 3 i5 fun m12 =>
 SI_ w0.heap.size m12 b7 4 i6 fun m13 =>
 LI_ m13 b7 0 fun i14=>LI_ m13 b7 1 fun i15=>LI_ m13 b7 2 fun i16=>LI_ m13 b7 3 fun i17=>LI_ m13 b7 4 fun i18 => 
 CallsA Tryz.prog w0 16 #[.agg #[.int .i64 i14,.int .i64 i15,.int .i64 i16,.int .i64 i17,.int .i64 i18],.int .i64 x12] m13 fun r21 m22 =>
 ∃ i19:Int,∃ t20:Bool,r21=.tuple #[.int .i64 i19,.bool t20]∧LI_ m22 b7 0 fun i25=>LI_ m22 b7 1 fun i26=>LI_ m22 b7 2 fun i27=>LI_ m22 b7 3 fun i28=>LI_ m22 b7 4 fun i29 => 
 CallsA Tryz.prog w0 17 #[.agg #[.int .i64 i25,.int .i64 i26,.int .i64 i27,.int .i64 i28,.int .i64 i29]] m22 fun r31 m32 =>
 ∃ t30:Bool,r31=.bool t30∧(bcase (!t30) (
 (!t30)=true∧RetP R (.bool false) m32) (
 (bcase t20 (
 KI_∧(bcase (decide ((i19:Int)<0)) (
 (decide ((i19:Int)<0))=true∧(bcase (bif !t30 then true else bif t20 then true else false) (
 RetP R (.bool false) m32) (
 KI_∧(.slice x0 x0n x0c:Value)=.slice x0 x0n x0c∧(.slice x10 x10n x10c:Value)=.slice x10 x10n x10c∧(.int .i64 x11:Value)=.int .i64 x11∧true=true∧∃ n':Nat,n'<n0∧I0 n' (IntKind.wrap .i64 (x12+1)) m32))) (
 KI_∧(bcase (bif !t30 then true else bif t20 then bif decide ((i19:Int)<0) then true else decide ((i19:Int)>((x0n:Nat):Int)) else false) (
 RetP R (.bool false) m32) (
 KI_∧(.slice x0 x0n x0c:Value)=.slice x0 x0n x0c∧(.slice x10 x10n x10c:Value)=.slice x10 x10n x10c∧(.int .i64 x11:Value)=.int .i64 x11∧true=true∧∃ n':Nat,n'<n0∧I0 n' (IntKind.wrap .i64 (x12+1)) m32))))) (
 t20=false∧(bcase (bif !t30 then true else false) (
 RetP R (.bool false) m32) (
 KI_∧(.slice x0 x0n x0c:Value)=.slice x0 x0n x0c∧(.slice x10 x10n x10c:Value)=.slice x10 x10n x10c∧(.int .i64 x11:Value)=.int .i64 x11∧true=true∧∃ n':Nat,n'<n0∧I0 n' (IntKind.wrap .i64 (x12+1)) m32))))))) (
 (.slice x0 x0n x0c:Value)=.slice x0 x0n x0c∧(.slice x10 x10n x10c:Value)=.slice x10 x10n x10c∧(.int .i64 x11:Value)=.int .i64 x11∧E0_0  m))))
 (h_e0:∀ (σ:Sg)  (m:AM),E0_0  m→(
 RetP R (.bool true) m)) :
 vcS Tryz.prog w0 qs14 (sub c14 [1,1,0,1,0]) σ m (blockS 0 (thenS (fun σ m=>vcS Tryz.prog w0 qs14 (sub c14 [1,1,1]) σ m (retQ Tryz.prog Tryz.f14 R)) (retQ Tryz.prog Tryz.f14 R))):=by
  rw [show sub c14 [1,1,0,1,0]=.loop (sub c14 [1,1,0,1,0,0]) from by kernel_rfl]
  refine loopQ (fun n0 σ m=>σ 0=.slice x0 x0n x0c∧σ 10=.slice x10 x10n x10c∧σ 11=.int .i64 x11∧okI .i64 (σ 12)=true∧I0 n0 (vI (σ 12)) m) N (fun n0=>(lq14_11010 R x0 x0n x0c x10 x10n x10c x11 I0 E0_0 n0)) ⟨h0,h10,h11,(by rw [h12]; rfl),(by rw [h12]; exact h_0)⟩ ?_ ?_ ?_
  · rintro n0 σ m ⟨kk0,kk1,kk2,kk3,n',hlt,hI⟩; exact ⟨n',hlt,kk0,kk1,kk2,kk3,hI⟩
  · intro n0 e σ m hne h
    cases e with
    | normal=>exact absurd rfl hne
    | ret=>exact h
    | exit id =>
      by_cases e0:id=0
      · subst e0
        obtain ⟨kk0,kk1,kk2,hE⟩:=h
        have es:(upd (upd (upd σ 0 (.slice x0 x0n x0c)) 10 (.slice x10 x10n x10c)) 11 (.int .i64 x11))=σ:=by rw [upd_id kk0,upd_id kk1,upd_id kk2]
        exact cast (congrArg (fun s=>(blockS 0 (thenS (fun σ m=>vcS Tryz.prog w0 qs14 (sub c14 [1,1,1]) σ m (retQ Tryz.prog Tryz.f14 R)) (retQ Tryz.prog Tryz.f14 R))) (.exit 0) s m) es) (cast (by kernel_rfl) (h_e0 σ  m hE))
      · replace h:=(if_neg e0:(if id=0 then _ else _)=_).mp h
        exact False.elim h
    | _=>exact False.elim h
  · rintro n0 σ m ⟨kk0,kk1,kk2,kk3,hI⟩
    have es:(upd (upd (upd (upd σ 0 (.slice x0 x0n x0c)) 10 (.slice x10 x10n x10c)) 11 (.int .i64 x11)) 12 (.int .i64 (vI (σ 12))))=σ:=by rw [upd_id kk0,upd_id kk1,upd_id kk2,upd_id (ok_int kk3)]
    exact cast (congrArg (fun s=>vcS Tryz.prog w0 qs14 (sub c14 [1,1,0,1,0,0]) s m (lq14_11010 R x0 x0n x0c x10 x10n x10c x11 I0 E0_0 n0)) es) (cast (by kernel_rfl) (h_s n0 σ (vI (σ 12)) m hI))

def qs65:Nat→List (Nat × Nat):=fun i=>match i with | _=>[]
noncomputable def c65:Code:=bodyOf Tryz.f65
theorem cf65 (w0:World) (m:AM) (x0:Int) (pc:Nat) (R:Value→AM→Prop) (h :
 ∃ (A1:Option Addr) (n2 c3:Nat),m.cell ⟨pc,0,none⟩=some (.slice A1 n2 c3) ∧ 
 KI_∧RetP R (.bool ((x0:Int) == ((n2:Nat):Int))) m):CallsA Tryz.prog w0 65 #[.int .i64 x0,pt_ pc] m R :=
  callsA_of (c:=c65) (args:=[.int .i64 x0,pt_ pc]) (by kernel_rfl) Tryz.func65 (by kernel_rfl) qs65 (by kernel_rfl) (by kernel_rfl) (cast (by kernel_rfl) h)

def hqs62:Nat→List (Nat × Nat):=fun i=>match i with | _=>[]
noncomputable def hc62:Code:=bodyOf Tryz.f62
theorem hcf62 (w0:World) (m:AM) (x0:Option Addr) (x0n x0c:Nat) (pc:Nat) (R:Value→AM→Prop) (h :
 CallsA Tryz.prog w0 79 #[.slice x0 x0n x0c,.func (.func 65) #[] #[pt_ pc]] m fun r2 m3 =>
 ∃ i1:Int,r2=.int .i64 i1∧KI_∧(bcase ((i1:Int) == (-1)) (
 RetP R (.slice x0 x0n x0c) m3) (
 KI_∧vcS Tryz.prog w0 hqs62 (sub hc62 [1,1,1,0,1,0]) (upd (upd (upd (upd (upd (upd (upd (upd (upd (upd (argS [.slice x0 x0n x0c,.func (.func 65) #[] #[pt_ pc]]) 4 (.slice none 0 0)) 8 (.slice x0 x0n x0c)) 9 (.func (.func 65) #[] #[pt_ pc])) 10 (.int .i64 i1)) 5 (.int .i64 i1)) 11 (.int .i64 i1)) 12 (.bool ((i1:Int) == (-1)))) 14 (.int .i64 i1)) 15 (.int .i64 (IntKind.wrap .i64 (i1+1)))) 6 (.int .i64 (IntKind.wrap .i64 (i1+1)))) m3 (blockS 0 (thenS (fun σ m=>vcS Tryz.prog w0 hqs62 (sub hc62 [1,1,1,1]) σ m (retQ Tryz.prog Tryz.f62 R)) (retQ Tryz.prog Tryz.f62 R)))))):CallsA Tryz.prog w0 62 #[.slice x0 x0n x0c,.func (.func 65) #[] #[pt_ pc]] m R :=
  callsA_of (c:=hc62) (args:=[.slice x0 x0n x0c,.func (.func 65) #[] #[pt_ pc]]) (by kernel_rfl) Tryz.func62 (by kernel_rfl) hqs62 (by kernel_rfl) (by kernel_rfl) (cast (by kernel_rfl) h)
def hlq62_111010 (R:Value→AM→Prop) (x0:Option Addr) (x0n x0c:Nat) (x1_0:Nat) (I0:Nat→Int→Int→AM→Prop) (E0_0:Int→AM→Prop) (n0:Nat):Exit→Sg→AM→Prop
 | .normal,σ,m=>σ 0=.slice x0 x0n x0c∧σ 1=.func (.func 65) #[] #[pt_ x1_0]∧okI .i64 (σ 5)=true∧okI .i64 (σ 6)=true∧∃ n':Nat,n'<n0∧I0 n' (vI (σ 5)) (vI (σ 6)) m
 | .exit id,σ,m=>if id=0 then σ 0=.slice x0 x0n x0c∧σ 1=.func (.func 65) #[] #[pt_ x1_0]∧okI .i64 (σ 5)=true∧E0_0 (vI (σ 5)) m else False
 | .ret,σ,m=>retQ Tryz.prog Tryz.f62 R .ret σ m
 | _,_,_=>False
theorem hvl62_111010 (w0:World) (m:AM) (σ:Sg) (R:Value→AM→Prop)  (x0:Option Addr) (x0n x0c:Nat) (x1_0:Nat) (x5:Int) (x6:Int) (I0:Nat→Int→Int→AM→Prop) (E0_0:Int→AM→Prop) (N:Nat) (h0:σ 0=.slice x0 x0n x0c) (h1:σ 1=.func (.func 65) #[] #[pt_ x1_0]) (h5:σ 5=.int .i64 x5) (h6:σ 6=.int .i64 x6)
 (h_0:I0 N x5 x6 m)
 (h_s:∀ (n0:Nat) (σ:Sg) (x5:Int) (x6:Int) (m:AM),I0 n0 x5 x6 m→(
 KI_∧(bcase (decide ((x6:Int)<((x0n:Nat):Int))) (
 ((0:Int)≤x6∧x6<((x0n:Nat):Int))∧nilO x0 fun a4 =>
 LA_ m (a4.add ((x6:Int).toNat*1)) fun i5 => 
 CallsA Tryz.prog w0 65 #[.int .i64 i5,pt_ x1_0] m fun r7 m8 =>
 ∃ t6:Bool,r7=.bool t6∧(bcase (!t6) (
 ((0:Int)≤x5∧x5<((x0n:Nat):Int))∧nilO x0 fun a9 =>
 StC w0.heap.size m8 (a9.add ((x5:Int).toNat*1)) (.int .i64 i5) fun m10 =>
 KI_∧KI_∧(.slice x0 x0n x0c:Value)=.slice x0 x0n x0c∧(.func (.func 65) #[] #[pt_ x1_0]:Value)=.func (.func 65) #[] #[pt_ x1_0]∧true=true∧true=true∧∃ n':Nat,n'<n0∧I0 n' (IntKind.wrap .i64 (x5+1)) (IntKind.wrap .i64 (x6+1)) m10) (
 KI_∧(.slice x0 x0n x0c:Value)=.slice x0 x0n x0c∧(.func (.func 65) #[] #[pt_ x1_0]:Value)=.func (.func 65) #[] #[pt_ x1_0]∧true=true∧true=true∧∃ n':Nat,n'<n0∧I0 n' x5 (IntKind.wrap .i64 (x6+1)) m8))) (
 (.slice x0 x0n x0c:Value)=.slice x0 x0n x0c∧(.func (.func 65) #[] #[pt_ x1_0]:Value)=.func (.func 65) #[] #[pt_ x1_0]∧true=true∧E0_0 x5 m))))
 (h_e0:∀ (σ:Sg) (x5:Int) (m:AM),E0_0 x5 m→(
 (0:Int)≤x5∧x0n≤x0c∧((x5:Int).toNat)≤x0n ∧
 awp Tryz.prog w0.heap.size (Builtin.clear_ #[23] 0 #[.slice (if x0c=((x5:Int).toNat) then x0 else Option.map (fun x=>Addr.add x ((x5:Int).toNat*1)) x0) (x0n-((x5:Int).toNat)) (x0c-((x5:Int).toNat))]) m fun v11 m12 =>
 v11=.tuple #[]∧(0:Int)≤x5∧((x5:Int).toNat)≤x0c∧0≤((x5:Int).toNat) ∧
 RetP R (.slice (if x0c=0 then x0 else Option.map (fun x=>Addr.add x (0*1)) x0) (((x5:Int).toNat)-0) (x0c-0)) m12)) :
 vcS Tryz.prog w0 hqs62 (sub hc62 [1,1,1,0,1,0]) σ m (blockS 0 (thenS (fun σ m=>vcS Tryz.prog w0 hqs62 (sub hc62 [1,1,1,1]) σ m (retQ Tryz.prog Tryz.f62 R)) (retQ Tryz.prog Tryz.f62 R))):=by
  rw [show sub hc62 [1,1,1,0,1,0]=.loop (sub hc62 [1,1,1,0,1,0,0]) from by kernel_rfl]
  refine loopQ (fun n0 σ m=>σ 0=.slice x0 x0n x0c∧σ 1=.func (.func 65) #[] #[pt_ x1_0]∧okI .i64 (σ 5)=true∧okI .i64 (σ 6)=true∧I0 n0 (vI (σ 5)) (vI (σ 6)) m) N (fun n0=>(hlq62_111010 R x0 x0n x0c x1_0 I0 E0_0 n0)) ⟨h0,h1,(by rw [h5]; rfl),(by rw [h6]; rfl),(by rw [h5,h6]; exact h_0)⟩ ?_ ?_ ?_
  · rintro n0 σ m ⟨kk0,kk1,kk2,kk3,n',hlt,hI⟩; exact ⟨n',hlt,kk0,kk1,kk2,kk3,hI⟩
  · intro n0 e σ m hne h
    cases e with
    | normal=>exact absurd rfl hne
    | ret=>exact h
    | exit id =>
      by_cases e0:id=0
      · subst e0
        obtain ⟨kk0,kk1,kk2,hE⟩:=h
        have es:(upd (upd (upd σ 0 (.slice x0 x0n x0c)) 1 (.func (.func 65) #[] #[pt_ x1_0])) 5 (.int .i64 (vI (σ 5))))=σ:=by rw [upd_id kk0,upd_id kk1,upd_id (ok_int kk2)]
        exact cast (congrArg (fun s=>(blockS 0 (thenS (fun σ m=>vcS Tryz.prog w0 hqs62 (sub hc62 [1,1,1,1]) σ m (retQ Tryz.prog Tryz.f62 R)) (retQ Tryz.prog Tryz.f62 R))) (.exit 0) s m) es) (cast (by kernel_rfl) (h_e0 σ (vI (σ 5)) m hE))
      · replace h:=(if_neg e0:(if id=0 then _ else _)=_).mp h
        exact False.elim h
    | _=>exact False.elim h
  · rintro n0 σ m ⟨kk0,kk1,kk2,kk3,hI⟩
    have es:(upd (upd (upd (upd σ 0 (.slice x0 x0n x0c)) 1 (.func (.func 65) #[] #[pt_ x1_0])) 5 (.int .i64 (vI (σ 5)))) 6 (.int .i64 (vI (σ 6))))=σ:=by rw [upd_id kk0,upd_id kk1,upd_id (ok_int kk2),upd_id (ok_int kk3)]
    exact cast (congrArg (fun s=>vcS Tryz.prog w0 hqs62 (sub hc62 [1,1,1,0,1,0,0]) s m (hlq62_111010 R x0 x0n x0c x1_0 I0 E0_0 n0)) es) (cast (by kernel_rfl) (h_s n0 σ (vI (σ 5)) (vI (σ 6)) m hI))

def hqs79:Nat→List (Nat × Nat):=fun i=>match i with | _=>[]
noncomputable def hc79:Code:=bodyOf Tryz.f79
theorem hcf79 (w0:World) (m:AM) (x0:Option Addr) (x0n x0c:Nat) (pc:Nat) (R:Value→AM→Prop) (h :
 vcS Tryz.prog w0 hqs79 (sub hc79 [1,0,1,0]) (upd (upd (upd (upd (argS [.slice x0 x0n x0c,.func (.func 65) #[] #[pt_ pc]]) 4 (.int .i64 0)) 6 (.slice x0 x0n x0c)) 7 (.int .i64 ((x0n:Nat):Int))) 8 (.int .i64 0)) m (blockS 0 (thenS (fun σ m=>vcS Tryz.prog w0 hqs79 (sub hc79 [1,1]) σ m (retQ Tryz.prog Tryz.f79 R)) (retQ Tryz.prog Tryz.f79 R)))):CallsA Tryz.prog w0 79 #[.slice x0 x0n x0c,.func (.func 65) #[] #[pt_ pc]] m R :=
  callsA_of (c:=hc79) (args:=[.slice x0 x0n x0c,.func (.func 65) #[] #[pt_ pc]]) (by kernel_rfl) Tryz.func79 (by kernel_rfl) hqs79 (by kernel_rfl) (by kernel_rfl) (cast (by kernel_rfl) h)
def hlq79_1010 (R:Value→AM→Prop) (x0:Option Addr) (x0n x0c:Nat) (x1_0:Nat) (x7:Int) (I0:Nat→Int→AM→Prop) (E0_0:AM→Prop) (n0:Nat):Exit→Sg→AM→Prop
 | .normal,σ,m=>σ 0=.slice x0 x0n x0c∧σ 1=.func (.func 65) #[] #[pt_ x1_0]∧σ 7=.int .i64 x7∧okI .i64 (σ 8)=true∧∃ n':Nat,n'<n0∧I0 n' (vI (σ 8)) m
 | .exit id,σ,m=>if id=0 then σ 0=.slice x0 x0n x0c∧σ 1=.func (.func 65) #[] #[pt_ x1_0]∧σ 7=.int .i64 x7∧E0_0  m else False
 | .ret,σ,m=>retQ Tryz.prog Tryz.f79 R .ret σ m
 | _,_,_=>False
theorem hvl79_1010 (w0:World) (m:AM) (σ:Sg) (R:Value→AM→Prop)  (x0:Option Addr) (x0n x0c:Nat) (x1_0:Nat) (x7:Int) (x8:Int) (I0:Nat→Int→AM→Prop) (E0_0:AM→Prop) (N:Nat) (h0:σ 0=.slice x0 x0n x0c) (h1:σ 1=.func (.func 65) #[] #[pt_ x1_0]) (h7:σ 7=.int .i64 x7) (h8:σ 8=.int .i64 x8)
 (h_0:I0 N x8 m)
 (h_s:∀ (n0:Nat) (σ:Sg) (x8:Int) (m:AM),I0 n0 x8 m→(
 KI_∧(bcase (decide ((x8:Int)<x7)) (
 ((0:Int)≤x8∧x8<((x0n:Nat):Int))∧nilO x0 fun a1 =>
 LA_ m (a1.add ((x8:Int).toNat*1)) fun i2 => 
 CallsA Tryz.prog w0 65 #[.int .i64 i2,pt_ x1_0] m fun r4 m5 =>
 ∃ t3:Bool,r4=.bool t3∧(bcase t3 (
 RetP R (.int .i64 x8) m5) (
 KI_∧(.slice x0 x0n x0c:Value)=.slice x0 x0n x0c∧(.func (.func 65) #[] #[pt_ x1_0]:Value)=.func (.func 65) #[] #[pt_ x1_0]∧(.int .i64 x7:Value)=.int .i64 x7∧true=true∧∃ n':Nat,n'<n0∧I0 n' (IntKind.wrap .i64 (x8+1)) m5))) (
 (.slice x0 x0n x0c:Value)=.slice x0 x0n x0c∧(.func (.func 65) #[] #[pt_ x1_0]:Value)=.func (.func 65) #[] #[pt_ x1_0]∧(.int .i64 x7:Value)=.int .i64 x7∧E0_0  m))))
 (h_e0:∀ (σ:Sg)  (m:AM),E0_0  m→(
 RetP R (.int .i64 (-1)) m)) :
 vcS Tryz.prog w0 hqs79 (sub hc79 [1,0,1,0]) σ m (blockS 0 (thenS (fun σ m=>vcS Tryz.prog w0 hqs79 (sub hc79 [1,1]) σ m (retQ Tryz.prog Tryz.f79 R)) (retQ Tryz.prog Tryz.f79 R))):=by
  rw [show sub hc79 [1,0,1,0]=.loop (sub hc79 [1,0,1,0,0]) from by kernel_rfl]
  refine loopQ (fun n0 σ m=>σ 0=.slice x0 x0n x0c∧σ 1=.func (.func 65) #[] #[pt_ x1_0]∧σ 7=.int .i64 x7∧okI .i64 (σ 8)=true∧I0 n0 (vI (σ 8)) m) N (fun n0=>(hlq79_1010 R x0 x0n x0c x1_0 x7 I0 E0_0 n0)) ⟨h0,h1,h7,(by rw [h8]; rfl),(by rw [h8]; exact h_0)⟩ ?_ ?_ ?_
  · rintro n0 σ m ⟨kk0,kk1,kk2,kk3,n',hlt,hI⟩; exact ⟨n',hlt,kk0,kk1,kk2,kk3,hI⟩
  · intro n0 e σ m hne h
    cases e with
    | normal=>exact absurd rfl hne
    | ret=>exact h
    | exit id =>
      by_cases e0:id=0
      · subst e0
        obtain ⟨kk0,kk1,kk2,hE⟩:=h
        have es:(upd (upd (upd σ 0 (.slice x0 x0n x0c)) 1 (.func (.func 65) #[] #[pt_ x1_0])) 7 (.int .i64 x7))=σ:=by rw [upd_id kk0,upd_id kk1,upd_id kk2]
        exact cast (congrArg (fun s=>(blockS 0 (thenS (fun σ m=>vcS Tryz.prog w0 hqs79 (sub hc79 [1,1]) σ m (retQ Tryz.prog Tryz.f79 R)) (retQ Tryz.prog Tryz.f79 R))) (.exit 0) s m) es) (cast (by kernel_rfl) (h_e0 σ  m hE))
      · replace h:=(if_neg e0:(if id=0 then _ else _)=_).mp h
        exact False.elim h
    | _=>exact False.elim h
  · rintro n0 σ m ⟨kk0,kk1,kk2,kk3,hI⟩
    have es:(upd (upd (upd (upd σ 0 (.slice x0 x0n x0c)) 1 (.func (.func 65) #[] #[pt_ x1_0])) 7 (.int .i64 x7)) 8 (.int .i64 (vI (σ 8))))=σ:=by rw [upd_id kk0,upd_id kk1,upd_id kk2,upd_id (ok_int kk3)]
    exact cast (congrArg (fun s=>vcS Tryz.prog w0 hqs79 (sub hc79 [1,0,1,0,0]) s m (hlq79_1010 R x0 x0n x0c x1_0 x7 I0 E0_0 n0)) es) (cast (by kernel_rfl) (h_s n0 σ (vI (σ 8)) m hI))

def qs43:Nat→List (Nat × Nat):=fun i=>match i with | _=>[]
noncomputable def c43:Code:=bodyOf Tryz.f43
theorem cf43 (w0:World) (m:AM) (x0:Option Addr) (x0n x0c:Nat) (R:Value→AM→Prop) (h :
 ∀ b1:Nat,w0.heap.size≤b1→m b1=none→let m2:=AM.upd m b1 (.cells #[.slice x0 x0n x0c] 22);
 ∃ (A3:Option Addr) (n4 c5:Nat),m2.cell ⟨b1,0,none⟩=some (.slice A3 n4 c5) ∧ 
 CallsA Tryz.prog w0 14 #[.slice A3 n4 c5] m2 fun r7 m8 =>
 ∃ t6:Bool,r7=.bool t6∧(bcase (!t6) (
 (!t6)=true∧RetP R (.slice none 0 0) m8) (
 ∃ (A9:Option Addr) (n10 c11:Nat),m8.cell ⟨b1,0,none⟩=some (.slice A9 n10 c11) ∧ 
 KI_∧(bcase (bif !t6 then true else (((n10:Nat):Int):Int) == 0) (
 RetP R (.slice none 0 0) m8) (
 ∀ b12:Nat,w0.heap.size≤b12→m8 b12=none→let m13:=AM.upd m8 b12 (.cells #[.map none,.slice none 0 0] 91);
 CallsA Tryz.prog w0 61 #[pt_ b12,.int .i64 0] m13 fun r15 m16 =>
 ∃ t14:Bool,r15=.bool t14∧∃ (A17:Option Addr) (n18 c19:Nat),m16.cell ⟨b1,0,none⟩=some (.slice A17 n18 c19) ∧ 
 vcS Tryz.prog w0 qs43 (sub c43 [1,1,1,1,0,1,0]) (upd (upd (upd (upd (upd (upd (upd (upd (upd (upd (upd (upd (upd (upd (upd (argS [.slice x0 x0n x0c]) 1 (pt_ b1)) 2 (.slice none 0 0)) 9 (.slice A3 n4 c5)) 10 (.bool t6)) 11 (.bool (!t6))) 12 (.bool (!t6))) 13 (.slice A9 n10 c11)) 14 (.int .i64 ((n10:Nat):Int))) 15 (.bool ((((n10:Nat):Int):Int) == 0))) 16 (.bool (bif !t6 then true else (((n10:Nat):Int):Int) == 0))) 3 (pt_ b12)) 17 (.bool t14)) 18 (.slice A17 n18 c19)) 19 (.int .i64 ((n18:Nat):Int))) 20 (.int .i64 0)) m16 (blockS 0 (thenS (fun σ m=>vcS Tryz.prog w0 qs43 (sub c43 [1,1,1,1,1]) σ m (retQ Tryz.prog Tryz.f43 R)) (retQ Tryz.prog Tryz.f43 R)))))))):CallsA Tryz.prog w0 43 #[.slice x0 x0n x0c] m R :=
  callsA_of (c:=c43) (args:=[.slice x0 x0n x0c]) (by kernel_rfl) Tryz.func43 (by kernel_rfl) qs43 (by kernel_rfl) (by kernel_rfl) (cast (by kernel_rfl) h)
def lq43_1111010 (R:Value→AM→Prop) (x1:Nat) (x3:Nat) (x18:Option Addr) (x18n x18c:Nat) (x19:Int) (I0:Nat→Int→AM→Prop) (E0_0:AM→Prop) (n0:Nat):Exit→Sg→AM→Prop
 | .normal,σ,m=>σ 1=.pointer (some ⟨x1,0,none⟩)∧σ 3=.pointer (some ⟨x3,0,none⟩)∧σ 18=.slice x18 x18n x18c∧σ 19=.int .i64 x19∧okI .i64 (σ 20)=true∧∃ n':Nat,n'<n0∧I0 n' (vI (σ 20)) m
 | .exit id,σ,m=>if id=0 then σ 1=.pointer (some ⟨x1,0,none⟩)∧σ 3=.pointer (some ⟨x3,0,none⟩)∧σ 18=.slice x18 x18n x18c∧σ 19=.int .i64 x19∧E0_0  m else False
 | .ret,σ,m=>retQ Tryz.prog Tryz.f43 R .ret σ m
 | _,_,_=>False
theorem vl43_1111010 (w0:World) (m:AM) (σ:Sg) (R:Value→AM→Prop)  (x1:Nat) (x3:Nat) (x18:Option Addr) (x18n x18c:Nat) (x19:Int) (x20:Int) (I0:Nat→Int→AM→Prop) (E0_0:AM→Prop) (N:Nat) (h1:σ 1=.pointer (some ⟨x1,0,none⟩)) (h3:σ 3=.pointer (some ⟨x3,0,none⟩)) (h18:σ 18=.slice x18 x18n x18c) (h19:σ 19=.int .i64 x19) (h20:σ 20=.int .i64 x20)
 (h_0:I0 N x20 m)
 (h_s:∀ (n0:Nat) (σ:Sg) (x20:Int) (m:AM),I0 n0 x20 m→(
 KI_∧(bcase (decide ((x20:Int)<x19)) (
 ((0:Int)≤x20∧x20<((x18n:Nat):Int))∧nilO x18 fun a20 =>
 LA_ m (a20.add ((x20:Int).toNat*5)) fun i21=>∃ i22:Int,m.cell ((a20.add ((x20:Int).toNat*5)).add 1)=some (.int .i64 i22)∧∃ i23:Int,m.cell ((a20.add ((x20:Int).toNat*5)).add 2)=some (.int .i64 i23)∧∃ i24:Int,m.cell ((a20.add ((x20:Int).toNat*5)).add 3)=some (.int .i64 i24)∧∃ i25:Int,m.cell ((a20.add ((x20:Int).toNat*5)).add 4)=some (.int .i64 i25) ∧ 
 ∀ b26:Nat,w0.heap.size≤b26→m b26=none→let m27:=AM.upd m b26 (.cells #[.int .i64 0,.int .i64 0,.int .i64 0,.int .i64 0,.int .i64 0] 36);
 SI_ w0.heap.size m27 b26 0 i21 fun m28 =>
 SI_ w0.heap.size m28 b26 1 i22 fun m29 =>
 SI_ w0.heap.size m29 b26 2 i23 fun m30 =>
 SI_ w0.heap.size m30 b26 3 i24 fun m31 =>
 SI_ w0.heap.size m31 b26 4 i25 fun m32 =>
 LI_ m32 b26 0 fun i33=>LI_ m32 b26 1 fun i34=>LI_ m32 b26 2 fun i35=>LI_ m32 b26 3 fun i36=>LI_ m32 b26 4 fun i37 => 
 CallsA Tryz.prog w0 16 #[.agg #[.int .i64 i33,.int .i64 i34,.int .i64 i35,.int .i64 i36,.int .i64 i37],.int .i64 x20] m32 fun r40 m41 =>
 ∃ i38:Int,∃ t39:Bool,r40=.tuple #[.int .i64 i38,.bool t39]∧(bcase t39 (
 CallsA Tryz.prog w0 61 #[pt_ x3,.int .i64 i38] m41 fun r45 m46 =>
 ∃ t44:Bool,r45=.bool t44∧LI_ m46 b26 0 fun i47=>LI_ m46 b26 1 fun i48=>LI_ m46 b26 2 fun i49=>LI_ m46 b26 3 fun i50=>LI_ m46 b26 4 fun i51 => 
 CallsA Tryz.prog w0 44 #[.agg #[.int .i64 i47,.int .i64 i48,.int .i64 i49,.int .i64 i50,.int .i64 i51]] m46 fun r53 m54 =>
 ∃ t52:Bool,r53=.bool t52∧(bcase t52 (
 KI_∧CallsA Tryz.prog w0 61 #[pt_ x3,.int .i64 (IntKind.wrap .i64 (x20+1))] m54 fun r56 m57 =>
 ∃ t55:Bool,r56=.bool t55∧KI_∧(.pointer (some ⟨x1,0,none⟩):Value)=.pointer (some ⟨x1,0,none⟩)∧(.pointer (some ⟨x3,0,none⟩):Value)=.pointer (some ⟨x3,0,none⟩)∧(.slice x18 x18n x18c:Value)=.slice x18 x18n x18c∧(.int .i64 x19:Value)=.int .i64 x19∧true=true∧∃ n':Nat,n'<n0∧I0 n' (IntKind.wrap .i64 (x20+1)) m57) (
 KI_∧(.pointer (some ⟨x1,0,none⟩):Value)=.pointer (some ⟨x1,0,none⟩)∧(.pointer (some ⟨x3,0,none⟩):Value)=.pointer (some ⟨x3,0,none⟩)∧(.slice x18 x18n x18c:Value)=.slice x18 x18n x18c∧(.int .i64 x19:Value)=.int .i64 x19∧true=true∧∃ n':Nat,n'<n0∧I0 n' (IntKind.wrap .i64 (x20+1)) m54))) (
 LI_ m41 b26 0 fun i58=>LI_ m41 b26 1 fun i59=>LI_ m41 b26 2 fun i60=>LI_ m41 b26 3 fun i61=>LI_ m41 b26 4 fun i62 => 
 CallsA Tryz.prog w0 44 #[.agg #[.int .i64 i58,.int .i64 i59,.int .i64 i60,.int .i64 i61,.int .i64 i62]] m41 fun r64 m65 =>
 ∃ t63:Bool,r64=.bool t63∧(bcase t63 (
 KI_∧CallsA Tryz.prog w0 61 #[pt_ x3,.int .i64 (IntKind.wrap .i64 (x20+1))] m65 fun r67 m68 =>
 ∃ t66:Bool,r67=.bool t66∧KI_∧(.pointer (some ⟨x1,0,none⟩):Value)=.pointer (some ⟨x1,0,none⟩)∧(.pointer (some ⟨x3,0,none⟩):Value)=.pointer (some ⟨x3,0,none⟩)∧(.slice x18 x18n x18c:Value)=.slice x18 x18n x18c∧(.int .i64 x19:Value)=.int .i64 x19∧true=true∧∃ n':Nat,n'<n0∧I0 n' (IntKind.wrap .i64 (x20+1)) m68) (
 KI_∧(.pointer (some ⟨x1,0,none⟩):Value)=.pointer (some ⟨x1,0,none⟩)∧(.pointer (some ⟨x3,0,none⟩):Value)=.pointer (some ⟨x3,0,none⟩)∧(.slice x18 x18n x18c:Value)=.slice x18 x18n x18c∧(.int .i64 x19:Value)=.int .i64 x19∧true=true∧∃ n':Nat,n'<n0∧I0 n' (IntKind.wrap .i64 (x20+1)) m65))))) (
 (.pointer (some ⟨x1,0,none⟩):Value)=.pointer (some ⟨x1,0,none⟩)∧(.pointer (some ⟨x3,0,none⟩):Value)=.pointer (some ⟨x3,0,none⟩)∧(.slice x18 x18n x18c:Value)=.slice x18 x18n x18c∧(.int .i64 x19:Value)=.int .i64 x19∧E0_0  m))))
 (h_e0:∀ (σ:Sg)  (m:AM),E0_0  m→(
 CallsA Tryz.prog w0 64 #[pt_ x3] m fun r70 m71 =>
 ∃ v69:Value,r70=v69∧CallsA Tryz.prog w0 63 #[v69] m71 fun r75 m76 =>
 ∃ (A72:Option Addr) (n73 c74:Nat),r75=.slice A72 n73 c74∧CallsA Tryz.prog w0 62 #[.slice A72 n73 c74,.func (.func 65) #[] #[pt_ x1]] m76 fun r80 m81 =>
 ∃ (A77:Option Addr) (n78 c79:Nat),r80=.slice A77 n78 c79∧CallsA Tryz.prog w0 66 #[.slice A77 n78 c79] m81 fun r82 m83 =>
 r82=.tuple #[]∧RetP R (.slice A77 n78 c79) m83)) :
 vcS Tryz.prog w0 qs43 (sub c43 [1,1,1,1,0,1,0]) σ m (blockS 0 (thenS (fun σ m=>vcS Tryz.prog w0 qs43 (sub c43 [1,1,1,1,1]) σ m (retQ Tryz.prog Tryz.f43 R)) (retQ Tryz.prog Tryz.f43 R))):=by
  rw [show sub c43 [1,1,1,1,0,1,0]=.loop (sub c43 [1,1,1,1,0,1,0,0]) from by kernel_rfl]
  refine loopQ (fun n0 σ m=>σ 1=.pointer (some ⟨x1,0,none⟩)∧σ 3=.pointer (some ⟨x3,0,none⟩)∧σ 18=.slice x18 x18n x18c∧σ 19=.int .i64 x19∧okI .i64 (σ 20)=true∧I0 n0 (vI (σ 20)) m) N (fun n0=>(lq43_1111010 R x1 x3 x18 x18n x18c x19 I0 E0_0 n0)) ⟨h1,h3,h18,h19,(by rw [h20]; rfl),(by rw [h20]; exact h_0)⟩ ?_ ?_ ?_
  · rintro n0 σ m ⟨kk0,kk1,kk2,kk3,kk4,n',hlt,hI⟩; exact ⟨n',hlt,kk0,kk1,kk2,kk3,kk4,hI⟩
  · intro n0 e σ m hne h
    cases e with
    | normal=>exact absurd rfl hne
    | ret=>exact h
    | exit id =>
      by_cases e0:id=0
      · subst e0
        obtain ⟨kk0,kk1,kk2,kk3,hE⟩:=h
        have es:(upd (upd (upd (upd σ 1 (pt_ x1)) 3 (pt_ x3)) 18 (.slice x18 x18n x18c)) 19 (.int .i64 x19))=σ:=by rw [upd_id kk0,upd_id kk1,upd_id kk2,upd_id kk3]
        exact cast (congrArg (fun s=>(blockS 0 (thenS (fun σ m=>vcS Tryz.prog w0 qs43 (sub c43 [1,1,1,1,1]) σ m (retQ Tryz.prog Tryz.f43 R)) (retQ Tryz.prog Tryz.f43 R))) (.exit 0) s m) es) (cast (by kernel_rfl) (h_e0 σ  m hE))
      · replace h:=(if_neg e0:(if id=0 then _ else _)=_).mp h
        exact False.elim h
    | _=>exact False.elim h
  · rintro n0 σ m ⟨kk0,kk1,kk2,kk3,kk4,hI⟩
    have es:(upd (upd (upd (upd (upd σ 1 (pt_ x1)) 3 (pt_ x3)) 18 (.slice x18 x18n x18c)) 19 (.int .i64 x19)) 20 (.int .i64 (vI (σ 20))))=σ:=by rw [upd_id kk0,upd_id kk1,upd_id kk2,upd_id kk3,upd_id (ok_int kk4)]
    exact cast (congrArg (fun s=>vcS Tryz.prog w0 qs43 (sub c43 [1,1,1,1,0,1,0,0]) s m (lq43_1111010 R x1 x3 x18 x18n x18c x19 I0 E0_0 n0)) es) (cast (by kernel_rfl) (h_s n0 σ (vI (σ 20)) m hI))

def qs26:Nat→List (Nat × Nat):=fun i=>match i with | _=>[]
noncomputable def c26:Code:=bodyOf Tryz.f26
theorem cf26 (w0:World) (m:AM) (x0:Option Addr) (x0n x0c:Nat) (R:Value→AM→Prop) (h :
 CallsA Tryz.prog w0 43 #[.slice x0 x0n x0c] m fun r4 m5 =>
 ∃ (A1:Option Addr) (n2 c3:Nat),r4=.slice A1 n2 c3∧vcS Tryz.prog w0 qs26 (sub c26 [1,1,1,0,1,0]) (upd (upd (upd (upd (upd (upd (upd (upd (argS [.slice x0 x0n x0c]) 2 (.slice none 0 0)) 3 (.slice none 0 0)) 8 (.slice x0 x0n x0c)) 9 (.slice A1 n2 c3)) 4 (.slice A1 n2 c3)) 10 (.slice A1 n2 c3)) 11 (.int .i64 ((n2:Nat):Int))) 12 (.int .i64 0)) m5 (blockS 0 (thenS (fun σ m=>vcS Tryz.prog w0 qs26 (sub c26 [1,1,1,1]) σ m (retQ Tryz.prog Tryz.f26 R)) (retQ Tryz.prog Tryz.f26 R)))):CallsA Tryz.prog w0 26 #[.slice x0 x0n x0c] m R :=
  callsA_of (c:=c26) (args:=[.slice x0 x0n x0c]) (by kernel_rfl) Tryz.func26 (by kernel_rfl) qs26 (by kernel_rfl) (by kernel_rfl) (cast (by kernel_rfl) h)
def lq26_111010 (R:Value→AM→Prop) (x0:Option Addr) (x0n x0c:Nat) (x4:Option Addr) (x4n x4c:Nat) (x10:Option Addr) (x10n x10c:Nat) (x11:Int) (I0:Nat→Option Addr→Nat→Nat→Int→AM→Prop) (E0_0:Option Addr→Nat→Nat→AM→Prop) (n0:Nat):Exit→Sg→AM→Prop
 | .normal,σ,m=>σ 0=.slice x0 x0n x0c∧σ 4=.slice x4 x4n x4c∧σ 10=.slice x10 x10n x10c∧σ 11=.int .i64 x11∧okS (σ 3)=true∧okI .i64 (σ 12)=true∧∃ n':Nat,n'<n0∧I0 n' (vSA (σ 3)) (vSN (σ 3)) (vSC (σ 3)) (vI (σ 12)) m
 | .exit id,σ,m=>if id=0 then σ 0=.slice x0 x0n x0c∧σ 4=.slice x4 x4n x4c∧σ 10=.slice x10 x10n x10c∧σ 11=.int .i64 x11∧okS (σ 3)=true∧E0_0 (vSA (σ 3)) (vSN (σ 3)) (vSC (σ 3)) m else False
 | .ret,σ,m=>retQ Tryz.prog Tryz.f26 R .ret σ m
 | _,_,_=>False
theorem vl26_111010 (w0:World) (m:AM) (σ:Sg) (R:Value→AM→Prop)  (x0:Option Addr) (x0n x0c:Nat) (x4:Option Addr) (x4n x4c:Nat) (x10:Option Addr) (x10n x10c:Nat) (x11:Int) (x3:Option Addr) (x3n x3c:Nat) (x12:Int) (I0:Nat→Option Addr→Nat→Nat→Int→AM→Prop) (E0_0:Option Addr→Nat→Nat→AM→Prop) (N:Nat) (h0:σ 0=.slice x0 x0n x0c) (h3:σ 3=.slice x3 x3n x3c) (h4:σ 4=.slice x4 x4n x4c) (h10:σ 10=.slice x10 x10n x10c) (h11:σ 11=.int .i64 x11) (h12:σ 12=.int .i64 x12)
 (h_0:I0 N x3 x3n x3c x12 m)
 (h_s:∀ (n0:Nat) (σ:Sg) (x3:Option Addr) (x3n:Nat) (x3c:Nat) (x12:Int) (m:AM),I0 n0 x3 x3n x3c x12 m→(
 KI_∧(bcase (decide ((x12:Int)<x11)) (
 ((0:Int)≤x12∧x12<((x10n:Nat):Int))∧nilO x10 fun a6 =>
 LA_ m (a6.add ((x12:Int).toNat*1)) fun i7 => 
 KI_∧KI_∧(bcase (decide (((IntKind.wrap .i64 (x12+1)):Int)<((x4n:Nat):Int))) (
 KI_∧((0:Int)≤(IntKind.wrap .i64 (x12+1))∧(IntKind.wrap .i64 (x12+1))<((x4n:Nat):Int))∧nilO x4 fun a8 =>
 ∃ i9:Int,m.cell (a8.add ((IntKind.wrap .i64 (x12+1):Int).toNat*1))=some (.int .i64 i9) ∧ 
 true=true∧true=true∧∀ b10:Nat,w0.heap.size≤b10→m b10=none→let m11:=AM.upd m b10 (.cells #[.int .i64 i7,.int .i64 i9] 65);
 awp Tryz.prog w0.heap.size (Builtin.append_ #[62,62] 62 #[.slice x3 x3n x3c,.slice (some ⟨b10,0,none⟩) 1 1]) m11 fun v12 m13 =>
 ∃ (A14:Option Addr) (n15 c16:Nat),v12=.slice A14 n15 c16∧KI_∧(.slice x0 x0n x0c:Value)=.slice x0 x0n x0c∧(.slice x4 x4n x4c:Value)=.slice x4 x4n x4c∧(.slice x10 x10n x10c:Value)=.slice x10 x10n x10c∧(.int .i64 x11:Value)=.int .i64 x11∧true=true∧true=true∧∃ n':Nat,n'<n0∧I0 n' A14 n15 c16 (IntKind.wrap .i64 (x12+1)) m13) (
 true=true∧true=true∧∀ b17:Nat,w0.heap.size≤b17→m b17=none→let m18:=AM.upd m b17 (.cells #[.int .i64 i7,.int .i64 ((x0n:Nat):Int)] 65);
 awp Tryz.prog w0.heap.size (Builtin.append_ #[62,62] 62 #[.slice x3 x3n x3c,.slice (some ⟨b17,0,none⟩) 1 1]) m18 fun v19 m20 =>
 ∃ (A21:Option Addr) (n22 c23:Nat),v19=.slice A21 n22 c23∧KI_∧(.slice x0 x0n x0c:Value)=.slice x0 x0n x0c∧(.slice x4 x4n x4c:Value)=.slice x4 x4n x4c∧(.slice x10 x10n x10c:Value)=.slice x10 x10n x10c∧(.int .i64 x11:Value)=.int .i64 x11∧true=true∧true=true∧∃ n':Nat,n'<n0∧I0 n' A21 n22 c23 (IntKind.wrap .i64 (x12+1)) m20))) (
 (.slice x0 x0n x0c:Value)=.slice x0 x0n x0c∧(.slice x4 x4n x4c:Value)=.slice x4 x4n x4c∧(.slice x10 x10n x10c:Value)=.slice x10 x10n x10c∧(.int .i64 x11:Value)=.int .i64 x11∧true=true∧E0_0 x3 x3n x3c m))))
 (h_e0:∀ (σ:Sg) (x3:Option Addr) (x3n:Nat) (x3c:Nat) (m:AM),E0_0 x3 x3n x3c m→(
 RetP R (.slice x3 x3n x3c) m)) :
 vcS Tryz.prog w0 qs26 (sub c26 [1,1,1,0,1,0]) σ m (blockS 0 (thenS (fun σ m=>vcS Tryz.prog w0 qs26 (sub c26 [1,1,1,1]) σ m (retQ Tryz.prog Tryz.f26 R)) (retQ Tryz.prog Tryz.f26 R))):=by
  rw [show sub c26 [1,1,1,0,1,0]=.loop (sub c26 [1,1,1,0,1,0,0]) from by kernel_rfl]
  refine loopQ (fun n0 σ m=>σ 0=.slice x0 x0n x0c∧σ 4=.slice x4 x4n x4c∧σ 10=.slice x10 x10n x10c∧σ 11=.int .i64 x11∧okS (σ 3)=true∧okI .i64 (σ 12)=true∧I0 n0 (vSA (σ 3)) (vSN (σ 3)) (vSC (σ 3)) (vI (σ 12)) m) N (fun n0=>(lq26_111010 R x0 x0n x0c x4 x4n x4c x10 x10n x10c x11 I0 E0_0 n0)) ⟨h0,h4,h10,h11,(by rw [h3]; rfl),(by rw [h12]; rfl),(by rw [h3,h12]; exact h_0)⟩ ?_ ?_ ?_
  · rintro n0 σ m ⟨kk0,kk1,kk2,kk3,kk4,kk5,n',hlt,hI⟩; exact ⟨n',hlt,kk0,kk1,kk2,kk3,kk4,kk5,hI⟩
  · intro n0 e σ m hne h
    cases e with
    | normal=>exact absurd rfl hne
    | ret=>exact h
    | exit id =>
      by_cases e0:id=0
      · subst e0
        obtain ⟨kk0,kk1,kk2,kk3,kk4,hE⟩:=h
        have es:(upd (upd (upd (upd (upd σ 0 (.slice x0 x0n x0c)) 4 (.slice x4 x4n x4c)) 10 (.slice x10 x10n x10c)) 11 (.int .i64 x11)) 3 (.slice (vSA (σ 3)) (vSN (σ 3)) (vSC (σ 3))))=σ:=by rw [upd_id kk0,upd_id kk1,upd_id kk2,upd_id kk3,upd_id (ok_slice kk4)]
        exact cast (congrArg (fun s=>(blockS 0 (thenS (fun σ m=>vcS Tryz.prog w0 qs26 (sub c26 [1,1,1,1]) σ m (retQ Tryz.prog Tryz.f26 R)) (retQ Tryz.prog Tryz.f26 R))) (.exit 0) s m) es) (cast (by kernel_rfl) (h_e0 σ (vSA (σ 3)) (vSN (σ 3)) (vSC (σ 3)) m hE))
      · replace h:=(if_neg e0:(if id=0 then _ else _)=_).mp h
        exact False.elim h
    | _=>exact False.elim h
  · rintro n0 σ m ⟨kk0,kk1,kk2,kk3,kk4,kk5,hI⟩
    have es:(upd (upd (upd (upd (upd (upd σ 0 (.slice x0 x0n x0c)) 3 (.slice (vSA (σ 3)) (vSN (σ 3)) (vSC (σ 3)))) 4 (.slice x4 x4n x4c)) 10 (.slice x10 x10n x10c)) 11 (.int .i64 x11)) 12 (.int .i64 (vI (σ 12))))=σ:=by rw [upd_id kk0,upd_id (ok_slice kk4),upd_id kk1,upd_id kk2,upd_id kk3,upd_id (ok_int kk5)]
    exact cast (congrArg (fun s=>vcS Tryz.prog w0 qs26 (sub c26 [1,1,1,0,1,0,0]) s m (lq26_111010 R x0 x0n x0c x4 x4n x4c x10 x10n x10c x11 I0 E0_0 n0)) es) (cast (by kernel_rfl) (h_s n0 σ (vSA (σ 3)) (vSN (σ 3)) (vSC (σ 3)) (vI (σ 12)) m hI))
end Go.Proofs.YtkfemiloehkmhaaGreat.V

namespace Go.Proofs.YtkfemiloehkmhaaGreat.V
open Go Go.Alog Go.Proofs.YtkfemiloehkmhaaGreat.T
set_option linter.unusedVariables false
set_option maxRecDepth 100000

def qs23:Nat→List (Nat × Nat):=fun i=>match i with | _=>[]
noncomputable def c23:Code:=bodyOf Tryz.f23
theorem cf23 (w0:World) (m:AM) (x0_0:Int) (x0_1:Int) (x0_2:Int) (x0_3:Int) (x0_4:Int) (x1:Int) (R:Value→AM→Prop) (h :
 ∀ b1:Nat,w0.heap.size≤b1→m b1=none→let m2:=AM.upd m b1 (.cells #[.int .i64 x0_0,.int .i64 x0_1,.int .i64 x0_2,.int .i64 x0_3,.int .i64 x0_4] 36);
 LI_ m2 b1 0 fun i3=>LI_ m2 b1 1 fun i4=>LI_ m2 b1 2 fun i5=>LI_ m2 b1 3 fun i6=>LI_ m2 b1 4 fun i7 => 
 CallsA Tryz.prog w0 24 #[.agg #[.int .i64 i3,.int .i64 i4,.int .i64 i5,.int .i64 i6,.int .i64 i7]] m2 fun r9 m10 =>
 ∃ t8:Bool,r9=.bool t8∧(bcase (!t8) (
 (!t8)=true∧true=true∧RetP R (.tuple #[.int .i64 0,.bool false]) m10) (
 LI_ m10 b1 0 fun i11 => 
 KI_∧(bcase (bif !t8 then true else decide ((i11:Int)<15)) (
 (bif !t8 then true else decide ((i11:Int)<15))=true∧RetP R (.tuple #[.int .i64 0,.bool false]) m10) (
 LI_ m10 b1 0 fun i12 => 
 KI_∧(bcase (bif bif !t8 then true else decide ((i11:Int)<15) then true else decide ((i12:Int)>18)) (
 RetP R (.tuple #[.int .i64 0,.bool false]) m10) (
 LI_ m10 b1 0 fun i13 => 
 KI_∧(bcase (decide ((i13:Int)<17)) (
 KI_∧LI_ m10 b1 4 fun i14 => 
 KI_∧RetP R (.tuple #[.int .i64 (IntKind.wrap .i64 ((IntKind.wrap .i64 (x1+1))+i14)),.bool true]) m10) (
 LI_ m10 b1 4 fun i15 => 
 RetP R (.tuple #[.int .i64 i15,.bool true]) m10))))))))):CallsA Tryz.prog w0 23 #[.agg #[.int .i64 x0_0,.int .i64 x0_1,.int .i64 x0_2,.int .i64 x0_3,.int .i64 x0_4],.int .i64 x1] m R :=
  callsA_of (c:=c23) (args:=[.agg #[.int .i64 x0_0,.int .i64 x0_1,.int .i64 x0_2,.int .i64 x0_3,.int .i64 x0_4],.int .i64 x1]) (by kernel_rfl) Tryz.func23 (by kernel_rfl) qs23 (by kernel_rfl) (by kernel_rfl) (cast (by kernel_rfl) h)

def qs10:Nat→List (Nat × Nat):=fun i=>match i with | _=>[]
noncomputable def c10:Code:=bodyOf Tryz.f10
theorem cf10 (w0:World) (m:AM) (x0:Option Addr) (x0n x0c:Nat) (R:Value→AM→Prop) (h :
 vcS Tryz.prog w0 qs10 (sub c10 [1,0,1,0]) (upd (upd (argS [.slice x0 x0n x0c]) 2 (.bool false)) 3 (.int .i64 0)) m (blockS 0 (thenS (fun σ m=>vcS Tryz.prog w0 qs10 (sub c10 [1,1]) σ m (retQ Tryz.prog Tryz.f10 R)) (retQ Tryz.prog Tryz.f10 R)))):CallsA Tryz.prog w0 10 #[.slice x0 x0n x0c] m R :=
  callsA_of (c:=c10) (args:=[.slice x0 x0n x0c]) (by kernel_rfl) Tryz.func10 (by kernel_rfl) qs10 (by kernel_rfl) (by kernel_rfl) (cast (by kernel_rfl) h)
def lq10_1010 (R:Value→AM→Prop) (x0:Option Addr) (x0n x0c:Nat) (I0:Nat→Int→AM→Prop) (E0_0:AM→Prop) (n0:Nat):Exit→Sg→AM→Prop
 | .normal,σ,m=>σ 0=.slice x0 x0n x0c∧okI .i64 (σ 3)=true∧∃ n':Nat,n'<n0∧I0 n' (vI (σ 3)) m
 | .exit id,σ,m=>if id=0 then σ 0=.slice x0 x0n x0c∧E0_0  m else False
 | .ret,σ,m=>retQ Tryz.prog Tryz.f10 R .ret σ m
 | _,_,_=>False
theorem vl10_1010 (w0:World) (m:AM) (σ:Sg) (R:Value→AM→Prop)  (x0:Option Addr) (x0n x0c:Nat) (x3:Int) (I0:Nat→Int→AM→Prop) (E0_0:AM→Prop) (N:Nat) (h0:σ 0=.slice x0 x0n x0c) (h3:σ 3=.int .i64 x3)
 (h_0:I0 N x3 m)
 (h_s:∀ (n0:Nat) (σ:Sg) (x3:Int) (m:AM),I0 n0 x3 m→(
 KI_∧(bcase (decide ((x3:Int)<((x0n:Nat):Int))) (
 ((0:Int)≤x3∧x3<((x0n:Nat):Int))∧nilO x0 fun a1 =>
 LA_ m (a1.add ((x3:Int).toNat*5)) fun i2=>∃ i3:Int,m.cell ((a1.add ((x3:Int).toNat*5)).add 1)=some (.int .i64 i3)∧∃ i4:Int,m.cell ((a1.add ((x3:Int).toNat*5)).add 2)=some (.int .i64 i4)∧∃ i5:Int,m.cell ((a1.add ((x3:Int).toNat*5)).add 3)=some (.int .i64 i5)∧∃ i6:Int,m.cell ((a1.add ((x3:Int).toNat*5)).add 4)=some (.int .i64 i6) ∧ 
 CallsA Tryz.prog w0 23 #[.agg #[.int .i64 i2,.int .i64 i3,.int .i64 i4,.int .i64 i5,.int .i64 i6],.int .i64 x3] m fun r9 m10 =>
 ∃ i7:Int,∃ t8:Bool,r9=.tuple #[.int .i64 i7,.bool t8]∧((0:Int)≤x3∧x3<((x0n:Nat):Int))∧nilO x0 fun a13 =>
 LA_ m10 (a13.add ((x3:Int).toNat*5)) fun i14=>∃ i15:Int,m10.cell ((a13.add ((x3:Int).toNat*5)).add 1)=some (.int .i64 i15)∧∃ i16:Int,m10.cell ((a13.add ((x3:Int).toNat*5)).add 2)=some (.int .i64 i16)∧∃ i17:Int,m10.cell ((a13.add ((x3:Int).toNat*5)).add 3)=some (.int .i64 i17)∧∃ i18:Int,m10.cell ((a13.add ((x3:Int).toNat*5)).add 4)=some (.int .i64 i18) ∧ 
 CallsA Tryz.prog w0 24 #[.agg #[.int .i64 i14,.int .i64 i15,.int .i64 i16,.int .i64 i17,.int .i64 i18]] m10 fun r20 m21 =>
 ∃ t19:Bool,r20=.bool t19∧(bcase (!t19) (
 (!t19)=true∧RetP R (.bool false) m21) (
 (bcase t8 (
 KI_∧(bcase (decide ((i7:Int)<0)) (
 (decide ((i7:Int)<0))=true∧(bcase (bif !t19 then true else bif t8 then true else false) (
 RetP R (.bool false) m21) (
 KI_∧(.slice x0 x0n x0c:Value)=.slice x0 x0n x0c∧true=true∧∃ n':Nat,n'<n0∧I0 n' (IntKind.wrap .i64 (x3+1)) m21))) (
 KI_∧(bcase (bif !t19 then true else bif t8 then bif decide ((i7:Int)<0) then true else decide ((i7:Int)>((x0n:Nat):Int)) else false) (
 RetP R (.bool false) m21) (
 KI_∧(.slice x0 x0n x0c:Value)=.slice x0 x0n x0c∧true=true∧∃ n':Nat,n'<n0∧I0 n' (IntKind.wrap .i64 (x3+1)) m21))))) (
 t8=false∧(bcase (bif !t19 then true else false) (
 RetP R (.bool false) m21) (
 KI_∧(.slice x0 x0n x0c:Value)=.slice x0 x0n x0c∧true=true∧∃ n':Nat,n'<n0∧I0 n' (IntKind.wrap .i64 (x3+1)) m21))))))) (
 (.slice x0 x0n x0c:Value)=.slice x0 x0n x0c∧E0_0  m))))
 (h_e0:∀ (σ:Sg)  (m:AM),E0_0  m→(
 KI_∧RetP R (.bool (decide ((((x0n:Nat):Int):Int)<4097))) m)) :
 vcS Tryz.prog w0 qs10 (sub c10 [1,0,1,0]) σ m (blockS 0 (thenS (fun σ m=>vcS Tryz.prog w0 qs10 (sub c10 [1,1]) σ m (retQ Tryz.prog Tryz.f10 R)) (retQ Tryz.prog Tryz.f10 R))):=by
  rw [show sub c10 [1,0,1,0]=.loop (sub c10 [1,0,1,0,0]) from by kernel_rfl]
  refine loopQ (fun n0 σ m=>σ 0=.slice x0 x0n x0c∧okI .i64 (σ 3)=true∧I0 n0 (vI (σ 3)) m) N (fun n0=>(lq10_1010 R x0 x0n x0c I0 E0_0 n0)) ⟨h0,(by rw [h3]; rfl),(by rw [h3]; exact h_0)⟩ ?_ ?_ ?_
  · rintro n0 σ m ⟨kk0,kk1,n',hlt,hI⟩; exact ⟨n',hlt,kk0,kk1,hI⟩
  · intro n0 e σ m hne h
    cases e with
    | normal=>exact absurd rfl hne
    | ret=>exact h
    | exit id =>
      by_cases e0:id=0
      · subst e0
        obtain ⟨kk0,hE⟩:=h
        have es:(upd σ 0 (.slice x0 x0n x0c))=σ:=by rw [upd_id kk0]
        exact cast (congrArg (fun s=>(blockS 0 (thenS (fun σ m=>vcS Tryz.prog w0 qs10 (sub c10 [1,1]) σ m (retQ Tryz.prog Tryz.f10 R)) (retQ Tryz.prog Tryz.f10 R))) (.exit 0) s m) es) (cast (by kernel_rfl) (h_e0 σ  m hE))
      · replace h:=(if_neg e0:(if id=0 then _ else _)=_).mp h
        exact False.elim h
    | _=>exact False.elim h
  · rintro n0 σ m ⟨kk0,kk1,hI⟩
    have es:(upd (upd σ 0 (.slice x0 x0n x0c)) 3 (.int .i64 (vI (σ 3))))=σ:=by rw [upd_id kk0,upd_id (ok_int kk1)]
    exact cast (congrArg (fun s=>vcS Tryz.prog w0 qs10 (sub c10 [1,0,1,0,0]) s m (lq10_1010 R x0 x0n x0c I0 E0_0 n0)) es) (cast (by kernel_rfl) (h_s n0 σ (vI (σ 3)) m hI))

def qs4:Nat→List (Nat × Nat):=fun i=>match i with | _=>[]
noncomputable def c4:Code:=bodyOf Tryz.f4
theorem cf4 (w0:World) (m:AM) (x0:Option Addr) (x0n x0c:Nat) (R:Value→AM→Prop) (h :
 CallsA Tryz.prog w0 10 #[.slice x0 x0n x0c] m fun r2 m3 =>
 ∃ t1:Bool,r2=.bool t1∧(bcase (!t1) (
 RetP R (.bool false) m3) (
 vcS Tryz.prog w0 qs4 (sub c4 [1,1,0,1,0]) (upd (upd (upd (upd (upd (argS [.slice x0 x0n x0c]) 2 (.bool false)) 5 (.slice x0 x0n x0c)) 6 (.bool t1)) 7 (.bool (!t1))) 3 (.int .i64 0)) m3 (blockS 0 (thenS (fun σ m=>vcS Tryz.prog w0 qs4 (sub c4 [1,1,1]) σ m (retQ Tryz.prog Tryz.f4 R)) (retQ Tryz.prog Tryz.f4 R)))))):CallsA Tryz.prog w0 4 #[.slice x0 x0n x0c] m R :=
  callsA_of (c:=c4) (args:=[.slice x0 x0n x0c]) (by kernel_rfl) Tryz.func4 (by kernel_rfl) qs4 (by kernel_rfl) (by kernel_rfl) (cast (by kernel_rfl) h)
def lq4_11010 (R:Value→AM→Prop) (x0:Option Addr) (x0n x0c:Nat) (I0:Nat→Int→AM→Prop) (E0_0:AM→Prop) (n0:Nat):Exit→Sg→AM→Prop
 | .normal,σ,m=>σ 0=.slice x0 x0n x0c∧okI .i64 (σ 3)=true∧∃ n':Nat,n'<n0∧I0 n' (vI (σ 3)) m
 | .exit id,σ,m=>if id=0 then σ 0=.slice x0 x0n x0c∧E0_0  m else False
 | .ret,σ,m=>retQ Tryz.prog Tryz.f4 R .ret σ m
 | _,_,_=>False
theorem vl4_11010 (w0:World) (m:AM) (σ:Sg) (R:Value→AM→Prop)  (x0:Option Addr) (x0n x0c:Nat) (x3:Int) (I0:Nat→Int→AM→Prop) (E0_0:AM→Prop) (N:Nat) (h0:σ 0=.slice x0 x0n x0c) (h3:σ 3=.int .i64 x3)
 (h_0:I0 N x3 m)
 (h_s:∀ (n0:Nat) (σ:Sg) (x3:Int) (m:AM),I0 n0 x3 m→(
 KI_∧(bcase (decide ((x3:Int)<((x0n:Nat):Int))) (
 ((0:Int)≤x3∧x3<((x0n:Nat):Int))∧nilO x0 fun a4 =>
 LA_ m (a4.add ((x3:Int).toNat*5)) fun i5=>∃ i6:Int,m.cell ((a4.add ((x3:Int).toNat*5)).add 1)=some (.int .i64 i6)∧∃ i7:Int,m.cell ((a4.add ((x3:Int).toNat*5)).add 2)=some (.int .i64 i7)∧∃ i8:Int,m.cell ((a4.add ((x3:Int).toNat*5)).add 3)=some (.int .i64 i8)∧∃ i9:Int,m.cell ((a4.add ((x3:Int).toNat*5)).add 4)=some (.int .i64 i9) ∧ 
 ∀ b10:Nat,w0.heap.size≤b10→m b10=none→let m11:=AM.upd m b10 (.cells #[.int .i64 0,.int .i64 0,.int .i64 0,.int .i64 0,.int .i64 0] 36);
 SI_ w0.heap.size m11 b10 0 i5 fun m12 =>
 SI_ w0.heap.size m12 b10 1 i6 fun m13 =>
 SI_ w0.heap.size m13 b10 2 i7 fun m14 =>
 SI_ w0.heap.size m14 b10 3 i8 fun m15 =>
 SI_ w0.heap.size m15 b10 4 i9 fun m16 =>
 LI_ m16 b10 0 fun i17 => 
 KI_∧(bcase ((i17:Int) == 19) (
 LI_ m16 b10 1 fun i18 => 
 KI_∧(bcase (bif (i17:Int) == 19 then (i18:Int) != 31 else false) (
 RetP R (.bool false) m16) (
 LI_ m16 b10 0 fun i19 => 
 KI_∧(bcase ((i19:Int) != 18) (
 LI_ m16 b10 0 fun i20 => 
 KI_∧(bcase (bif (i19:Int) != 18 then (i20:Int) != 19 else false) (
 LI_ m16 b10 0 fun i21=>LI_ m16 b10 1 fun i22=>LI_ m16 b10 2 fun i23=>LI_ m16 b10 3 fun i24=>LI_ m16 b10 4 fun i25 => 
 CallsA Tryz.prog w0 11 #[.agg #[.int .i64 i21,.int .i64 i22,.int .i64 i23,.int .i64 i24,.int .i64 i25],.int .i64 31] m16 fun r27 m28 =>
 ∃ t26:Bool,r27=.bool t26∧(bcase t26 (
 t26=true∧(bcase (bif bif (i19:Int) != 18 then (i20:Int) != 19 else false then true else false) (
 RetP R (.bool false) m28) (
 KI_∧(.slice x0 x0n x0c:Value)=.slice x0 x0n x0c∧true=true∧∃ n':Nat,n'<n0∧I0 n' (IntKind.wrap .i64 (x3+1)) m28))) (
 LI_ m28 b10 0 fun i29=>LI_ m28 b10 1 fun i30=>LI_ m28 b10 2 fun i31=>LI_ m28 b10 3 fun i32=>LI_ m28 b10 4 fun i33 => 
 CallsA Tryz.prog w0 12 #[.agg #[.int .i64 i29,.int .i64 i30,.int .i64 i31,.int .i64 i32,.int .i64 i33]] m28 fun r35 m36 =>
 ∃ i34:Int,r35=.int .i64 i34∧KI_∧(bcase (bif bif (i19:Int) != 18 then (i20:Int) != 19 else false then bif t26 then true else (i34:Int) == 31 else false) (
 RetP R (.bool false) m36) (
 KI_∧(.slice x0 x0n x0c:Value)=.slice x0 x0n x0c∧true=true∧∃ n':Nat,n'<n0∧I0 n' (IntKind.wrap .i64 (x3+1)) m36))))) (
 (bif (i19:Int) != 18 then (i20:Int) != 19 else false)=false∧KI_∧(.slice x0 x0n x0c:Value)=.slice x0 x0n x0c∧true=true∧∃ n':Nat,n'<n0∧I0 n' (IntKind.wrap .i64 (x3+1)) m16))) (
 ((i19:Int) != 18)=false∧false=false∧KI_∧(.slice x0 x0n x0c:Value)=.slice x0 x0n x0c∧true=true∧∃ n':Nat,n'<n0∧I0 n' (IntKind.wrap .i64 (x3+1)) m16))))) (
 ((i17:Int) == 19)=false∧LI_ m16 b10 0 fun i37 => 
 KI_∧(bcase ((i37:Int) != 18) (
 LI_ m16 b10 0 fun i38 => 
 KI_∧(bcase (bif (i37:Int) != 18 then (i38:Int) != 19 else false) (
 LI_ m16 b10 0 fun i39=>LI_ m16 b10 1 fun i40=>LI_ m16 b10 2 fun i41=>LI_ m16 b10 3 fun i42=>LI_ m16 b10 4 fun i43 => 
 CallsA Tryz.prog w0 11 #[.agg #[.int .i64 i39,.int .i64 i40,.int .i64 i41,.int .i64 i42,.int .i64 i43],.int .i64 31] m16 fun r45 m46 =>
 ∃ t44:Bool,r45=.bool t44∧(bcase t44 (
 t44=true∧(bcase (bif bif (i37:Int) != 18 then (i38:Int) != 19 else false then true else false) (
 RetP R (.bool false) m46) (
 KI_∧(.slice x0 x0n x0c:Value)=.slice x0 x0n x0c∧true=true∧∃ n':Nat,n'<n0∧I0 n' (IntKind.wrap .i64 (x3+1)) m46))) (
 LI_ m46 b10 0 fun i47=>LI_ m46 b10 1 fun i48=>LI_ m46 b10 2 fun i49=>LI_ m46 b10 3 fun i50=>LI_ m46 b10 4 fun i51 => 
 CallsA Tryz.prog w0 12 #[.agg #[.int .i64 i47,.int .i64 i48,.int .i64 i49,.int .i64 i50,.int .i64 i51]] m46 fun r53 m54 =>
 ∃ i52:Int,r53=.int .i64 i52∧KI_∧(bcase (bif bif (i37:Int) != 18 then (i38:Int) != 19 else false then bif t44 then true else (i52:Int) == 31 else false) (
 RetP R (.bool false) m54) (
 KI_∧(.slice x0 x0n x0c:Value)=.slice x0 x0n x0c∧true=true∧∃ n':Nat,n'<n0∧I0 n' (IntKind.wrap .i64 (x3+1)) m54))))) (
 (bif (i37:Int) != 18 then (i38:Int) != 19 else false)=false∧KI_∧(.slice x0 x0n x0c:Value)=.slice x0 x0n x0c∧true=true∧∃ n':Nat,n'<n0∧I0 n' (IntKind.wrap .i64 (x3+1)) m16))) (
 ((i37:Int) != 18)=false∧false=false∧KI_∧(.slice x0 x0n x0c:Value)=.slice x0 x0n x0c∧true=true∧∃ n':Nat,n'<n0∧I0 n' (IntKind.wrap .i64 (x3+1)) m16))))) (
 (.slice x0 x0n x0c:Value)=.slice x0 x0n x0c∧E0_0  m))))
 (h_e0:∀ (σ:Sg)  (m:AM),E0_0  m→(
 RetP R (.bool true) m)) :
 vcS Tryz.prog w0 qs4 (sub c4 [1,1,0,1,0]) σ m (blockS 0 (thenS (fun σ m=>vcS Tryz.prog w0 qs4 (sub c4 [1,1,1]) σ m (retQ Tryz.prog Tryz.f4 R)) (retQ Tryz.prog Tryz.f4 R))):=by
  rw [show sub c4 [1,1,0,1,0]=.loop (sub c4 [1,1,0,1,0,0]) from by kernel_rfl]
  refine loopQ (fun n0 σ m=>σ 0=.slice x0 x0n x0c∧okI .i64 (σ 3)=true∧I0 n0 (vI (σ 3)) m) N (fun n0=>(lq4_11010 R x0 x0n x0c I0 E0_0 n0)) ⟨h0,(by rw [h3]; rfl),(by rw [h3]; exact h_0)⟩ ?_ ?_ ?_
  · rintro n0 σ m ⟨kk0,kk1,n',hlt,hI⟩; exact ⟨n',hlt,kk0,kk1,hI⟩
  · intro n0 e σ m hne h
    cases e with
    | normal=>exact absurd rfl hne
    | ret=>exact h
    | exit id =>
      by_cases e0:id=0
      · subst e0
        obtain ⟨kk0,hE⟩:=h
        have es:(upd σ 0 (.slice x0 x0n x0c))=σ:=by rw [upd_id kk0]
        exact cast (congrArg (fun s=>(blockS 0 (thenS (fun σ m=>vcS Tryz.prog w0 qs4 (sub c4 [1,1,1]) σ m (retQ Tryz.prog Tryz.f4 R)) (retQ Tryz.prog Tryz.f4 R))) (.exit 0) s m) es) (cast (by kernel_rfl) (h_e0 σ  m hE))
      · replace h:=(if_neg e0:(if id=0 then _ else _)=_).mp h
        exact False.elim h
    | _=>exact False.elim h
  · rintro n0 σ m ⟨kk0,kk1,hI⟩
    have es:(upd (upd σ 0 (.slice x0 x0n x0c)) 3 (.int .i64 (vI (σ 3))))=σ:=by rw [upd_id kk0,upd_id (ok_int kk1)]
    exact cast (congrArg (fun s=>vcS Tryz.prog w0 qs4 (sub c4 [1,1,0,1,0,0]) s m (lq4_11010 R x0 x0n x0c I0 E0_0 n0)) es) (cast (by kernel_rfl) (h_s n0 σ (vI (σ 3)) m hI))
end Go.Proofs.YtkfemiloehkmhaaGreat.V

namespace Go.Proofs.YtkfemiloehkmhaaGreat.V
open Go Go.Alog Go.Proofs.YtkfemiloehkmhaaGreat.T
set_option linter.unusedVariables false
set_option maxRecDepth 100000

def qs78:Nat→List (Nat × Nat):=fun i=>match i with | _=>[]
noncomputable def c78:Code:=bodyOf Tryz.f78
theorem cf78 (w0:World) (m:AM) (x0:Nat) (x1:Int) (R:Value→AM→Prop) (h :
 ∃ r1:Option Nat,m.cell ⟨x0,0,none⟩=some (.map r1) ∧ 
 ∃ t2:Bool,rval Tryz.prog m (Instr.lookup 89 (.map r1) (.int .i64 x1) false)=some (.bool t2) ∧
 RetP R (.bool t2) m):CallsA Tryz.prog w0 78 #[pt_ x0,.int .i64 x1] m R :=
  callsA_of (c:=c78) (args:=[pt_ x0,.int .i64 x1]) (by kernel_rfl) Tryz.func78 (by kernel_rfl) qs78 (by kernel_rfl) (by kernel_rfl) (cast (by kernel_rfl) h)

def qs61:Nat→List (Nat × Nat):=fun i=>match i with | _=>[]
noncomputable def c61:Code:=bodyOf Tryz.f61
theorem cf61 (w0:World) (m:AM) (x0:Nat) (x1:Int) (R:Value→AM→Prop) (h :
 CallsA Tryz.prog w0 78 #[pt_ x0,.int .i64 x1] m fun r2 m3 =>
 ∃ t1:Bool,r2=.bool t1∧(bcase t1 (
 RetP R (.bool false) m3) (
 ∃ r4:Option Nat,m3.cell ⟨x0,0,none⟩=some (.map r4) ∧ 
 (bcase (Option.isNone (r4:Option Nat)) (
 ∀ b5:Nat,w0.heap.size≤b5→m3 b5=none→let m6:=AM.upd m3 b5 (.map #[] 0);
 StC w0.heap.size m6 ⟨x0,0,none⟩ (.map (some b5)) fun m7 =>
 ∃ r8:Option Nat,m7.cell ⟨x0,0,none⟩=some (.map r8) ∧ 
 awp Tryz.prog w0.heap.size (Instr.mapUpdate 89 (.map r8) (.int .i64 x1) (.bool true)) m7 fun _ m9 =>
 ∃ (A10:Option Addr) (n11 c12:Nat),m9.cell ⟨x0,1,none⟩=some (.slice A10 n11 c12) ∧ 
 true=true∧∀ b13:Nat,w0.heap.size≤b13→m9 b13=none→let m14:=AM.upd m9 b13 (.cells #[.int .i64 x1] 3);
 awp Tryz.prog w0.heap.size (Builtin.append_ #[23,23] 23 #[.slice A10 n11 c12,.slice (some ⟨b13,0,none⟩) 1 1]) m14 fun v15 m16 =>
 ∃ (A17:Option Addr) (n18 c19:Nat),v15=.slice A17 n18 c19∧StC w0.heap.size m16 ⟨x0,1,none⟩ (.slice A17 n18 c19) fun m20 =>
 RetP R (.bool true) m20) (
 ∃ r21:Option Nat,m3.cell ⟨x0,0,none⟩=some (.map r21) ∧ 
 awp Tryz.prog w0.heap.size (Instr.mapUpdate 89 (.map r21) (.int .i64 x1) (.bool true)) m3 fun _ m22 =>
 ∃ (A23:Option Addr) (n24 c25:Nat),m22.cell ⟨x0,1,none⟩=some (.slice A23 n24 c25) ∧ 
 true=true∧∀ b26:Nat,w0.heap.size≤b26→m22 b26=none→let m27:=AM.upd m22 b26 (.cells #[.int .i64 x1] 3);
 awp Tryz.prog w0.heap.size (Builtin.append_ #[23,23] 23 #[.slice A23 n24 c25,.slice (some ⟨b26,0,none⟩) 1 1]) m27 fun v28 m29 =>
 ∃ (A30:Option Addr) (n31 c32:Nat),v28=.slice A30 n31 c32∧StC w0.heap.size m29 ⟨x0,1,none⟩ (.slice A30 n31 c32) fun m33 =>
 RetP R (.bool true) m33))))):CallsA Tryz.prog w0 61 #[pt_ x0,.int .i64 x1] m R :=
  callsA_of (c:=c61) (args:=[pt_ x0,.int .i64 x1]) (by kernel_rfl) Tryz.func61 (by kernel_rfl) qs61 (by kernel_rfl) (by kernel_rfl) (cast (by kernel_rfl) h)

def qs64:Nat→List (Nat × Nat):=fun i=>match i with | _=>[]
noncomputable def c64:Code:=bodyOf Tryz.f64
theorem cf64 (w0:World) (m:AM) (x0:Nat) (R:Value→AM→Prop) (h :
 ∀ b1:Nat,w0.heap.size≤b1→m b1=none→let m2:=AM.upd m b1 (.cells #[pt_ x0] 107);
 RetP R (.func (.func 81) #[] #[pt_ b1]) m2):CallsA Tryz.prog w0 64 #[pt_ x0] m R :=
  callsA_of (c:=c64) (args:=[pt_ x0]) (by kernel_rfl) Tryz.func64 (by kernel_rfl) qs64 (by kernel_rfl) (by kernel_rfl) (cast (by kernel_rfl) h)
end Go.Proofs.YtkfemiloehkmhaaGreat.V

namespace Go.Proofs.YtkfemiloehkmhaaGreat.V
open Go Go.Alog Go.Proofs.YtkfemiloehkmhaaGreat.T
set_option linter.unusedVariables false
set_option maxRecDepth 100000

def qs68:Nat→List (Nat × Nat):=fun i=>match i with | _=>[]
noncomputable def c68:Code:=bodyOf Tryz.f68
theorem cf68 (w0:World) (m:AM) (x0:Option Addr) (x0n x0c:Nat) (x1:Int) (R:Value→AM→Prop) (h :
 KI_∧(bcase (decide ((x1:Int)<0)) (
 vcS Tryz.prog w0 qs68 (sub c68 [1,0,1,0]) (upd (upd (upd (argS [.slice x0 x0n x0c,.int .i64 x1]) 4 (.slice none 0 0)) 9 (.int .i64 x1)) 10 (.bool (decide ((x1:Int)<0)))) m (thenS (fun σ m=>vcS Tryz.prog w0 qs68 (sub c68 [1,1]) σ m (retQ Tryz.prog Tryz.f68 R)) (retQ Tryz.prog Tryz.f68 R))) (
 CallsA Tryz.prog w0 84 #[.int .u64 (IntKind.wrap .u64 ((x0n:Nat):Int)),.int .u64 (IntKind.wrap .u64 x1)] m fun r3 m4 =>
 ∃ i1:Int,∃ i2:Int,r3=.tuple #[.int .u64 i1,.int .u64 i2]∧IntKind.u64=IntKind.u64∧(bcase (decide ((i1:Int)>0)) (
 (decide ((i1:Int)>0))=true∧vcS Tryz.prog w0 qs68 (sub c68 [1,1,1,0,1,0]) (upd (upd (upd (upd (upd (upd (upd (upd (upd (upd (upd (upd (upd (upd (upd (upd (upd (upd (upd (upd (argS [.slice x0 x0n x0c,.int .i64 x1]) 4 (.slice none 0 0)) 9 (.int .i64 x1)) 10 (.bool (decide ((x1:Int)<0)))) 13 (.slice x0 x0n x0c)) 14 (.int .i64 ((x0n:Nat):Int))) 15 (.int .u64 (IntKind.wrap .u64 ((x0n:Nat):Int)))) 16 (.int .i64 x1)) 17 (.int .u64 (IntKind.wrap .u64 x1))) 18 (.tuple #[.int .u64 i1,.int .u64 i2])) 12 (.tuple #[.int .u64 i1,.int .u64 i2])) 19 (.int .u64 i1)) 20 (.int .u64 i2)) 5 (.int .u64 i1)) 6 (.int .u64 i2)) 21 (.int .u64 i1)) 22 (.bool (decide ((i1:Int)>0)))) 23 (.bool (decide ((i1:Int)>0)))) 24 (undef)) 25 (undef)) 26 (.bool true)) m4 (thenS (fun σ m=>vcS Tryz.prog w0 qs68 (sub c68 [1,1,1,1]) σ m (retQ Tryz.prog Tryz.f68 R)) (retQ Tryz.prog Tryz.f68 R))) (
 IntKind.u64=IntKind.u64∧(bcase (bif decide ((i1:Int)>0) then true else decide ((i2:Int)>9223372036854775807)) (
 vcS Tryz.prog w0 qs68 (sub c68 [1,1,1,0,1,0]) (upd (upd (upd (upd (upd (upd (upd (upd (upd (upd (upd (upd (upd (upd (upd (upd (upd (upd (upd (upd (argS [.slice x0 x0n x0c,.int .i64 x1]) 4 (.slice none 0 0)) 9 (.int .i64 x1)) 10 (.bool (decide ((x1:Int)<0)))) 13 (.slice x0 x0n x0c)) 14 (.int .i64 ((x0n:Nat):Int))) 15 (.int .u64 (IntKind.wrap .u64 ((x0n:Nat):Int)))) 16 (.int .i64 x1)) 17 (.int .u64 (IntKind.wrap .u64 x1))) 18 (.tuple #[.int .u64 i1,.int .u64 i2])) 12 (.tuple #[.int .u64 i1,.int .u64 i2])) 19 (.int .u64 i1)) 20 (.int .u64 i2)) 5 (.int .u64 i1)) 6 (.int .u64 i2)) 21 (.int .u64 i1)) 22 (.bool (decide ((i1:Int)>0)))) 23 (.bool (decide ((i1:Int)>0)))) 24 (.int .u64 i2)) 25 (.bool (decide ((i2:Int)>9223372036854775807)))) 26 (.bool (bif decide ((i1:Int)>0) then true else decide ((i2:Int)>9223372036854775807)))) m4 (thenS (fun σ m=>vcS Tryz.prog w0 qs68 (sub c68 [1,1,1,1]) σ m (retQ Tryz.prog Tryz.f68 R)) (retQ Tryz.prog Tryz.f68 R))) (
 ((0:Int)≤(IntKind.wrap .i64 i2)∧((IntKind.wrap .i64 i2):Int)≤(IntKind.wrap .i64 i2)∧((IntKind.wrap .i64 i2):Int)≤9223372036854775807∧((8:Nat):Int)*(IntKind.wrap .i64 i2)≤281474976710656)∧∀ b7:Nat,w0.heap.size≤b7→m4 b7=none→let m8:=AM.upd m4 b7 (.cells (zeros [.int .i64 0] (IntKind.wrap .i64 i2:Int).toNat).toArray 3);
 awp Tryz.prog w0.heap.size (Builtin.copy_ #[23,23] 3 #[.slice (some ⟨b7,0,none⟩) ((IntKind.wrap .i64 i2:Int).toNat) ((IntKind.wrap .i64 i2:Int).toNat),.slice x0 x0n x0c]) m8 fun v9 m10 =>
 ∃ i11:Int,v9=.int .i64 i11∧vcS Tryz.prog w0 qs68 (sub c68 [1,1,1,1,1,1,0,0]) (upd (upd (upd (upd (upd (upd (upd (upd (upd (upd (upd (upd (upd (upd (upd (upd (upd (upd (upd (upd (upd (upd (upd (upd (upd (upd (upd (upd (argS [.slice x0 x0n x0c,.int .i64 x1]) 4 (.slice none 0 0)) 9 (.int .i64 x1)) 10 (.bool (decide ((x1:Int)<0)))) 13 (.slice x0 x0n x0c)) 14 (.int .i64 ((x0n:Nat):Int))) 15 (.int .u64 (IntKind.wrap .u64 ((x0n:Nat):Int)))) 16 (.int .i64 x1)) 17 (.int .u64 (IntKind.wrap .u64 x1))) 18 (.tuple #[.int .u64 i1,.int .u64 i2])) 12 (.tuple #[.int .u64 i1,.int .u64 i2])) 19 (.int .u64 i1)) 20 (.int .u64 i2)) 5 (.int .u64 i1)) 6 (.int .u64 i2)) 21 (.int .u64 i1)) 22 (.bool (decide ((i1:Int)>0)))) 23 (.bool (decide ((i1:Int)>0)))) 24 (.int .u64 i2)) 25 (.bool (decide ((i2:Int)>9223372036854775807)))) 26 (.bool (bif decide ((i1:Int)>0) then true else decide ((i2:Int)>9223372036854775807)))) 28 (.int .u64 i2)) 29 (.int .i64 (IntKind.wrap .i64 i2))) 30 (.slice (some ⟨b7,0,none⟩) ((IntKind.wrap .i64 i2:Int).toNat) ((IntKind.wrap .i64 i2:Int).toNat))) 7 (.slice (some ⟨b7,0,none⟩) ((IntKind.wrap .i64 i2:Int).toNat) ((IntKind.wrap .i64 i2:Int).toNat))) 31 (.slice (some ⟨b7,0,none⟩) ((IntKind.wrap .i64 i2:Int).toNat) ((IntKind.wrap .i64 i2:Int).toNat))) 32 (.slice x0 x0n x0c)) 33 (.int .i64 i11)) 8 (.int .i64 i11)) m10 (blockS 0 (thenS (fun σ m=>vcS Tryz.prog w0 qs68 (sub c68 [1,1,1,1,1,1,1]) σ m (retQ Tryz.prog Tryz.f68 R)) (retQ Tryz.prog Tryz.f68 R)))))))))):CallsA Tryz.prog w0 68 #[.slice x0 x0n x0c,.int .i64 x1] m R :=
  callsA_of (c:=c68) (args:=[.slice x0 x0n x0c,.int .i64 x1]) (by kernel_rfl) Tryz.func68 (by kernel_rfl) qs68 (by kernel_rfl) (by kernel_rfl) (cast (by kernel_rfl) h)
def lq68_11111100 (R:Value→AM→Prop) (x7:Option Addr) (x7n x7c:Nat) (I0:Nat→Int→AM→Prop) (E0_0:AM→Prop) (n0:Nat):Exit→Sg→AM→Prop
 | .normal,σ,m=>σ 7=.slice x7 x7n x7c∧okI .i64 (σ 8)=true∧∃ n':Nat,n'<n0∧I0 n' (vI (σ 8)) m
 | .exit id,σ,m=>if id=0 then σ 7=.slice x7 x7n x7c∧E0_0  m else False
 | .ret,σ,m=>retQ Tryz.prog Tryz.f68 R .ret σ m
 | _,_,_=>False
theorem vl68_11111100 (w0:World) (m:AM) (σ:Sg) (R:Value→AM→Prop)  (x7:Option Addr) (x7n x7c:Nat) (x8:Int) (I0:Nat→Int→AM→Prop) (E0_0:AM→Prop) (N:Nat) (h7:σ 7=.slice x7 x7n x7c) (h8:σ 8=.int .i64 x8)
 (h_0:I0 N x8 m)
 (h_s:∀ (n0:Nat) (σ:Sg) (x8:Int) (m:AM),I0 n0 x8 m→(
 KI_∧(bcase (decide ((x8:Int)<((x7n:Nat):Int))) (
 (0:Int)≤x8∧x7n≤x7c∧((x8:Int).toNat)≤x7n ∧
 (0:Int)≤x8∧((x8:Int).toNat)≤x7c∧0≤((x8:Int).toNat) ∧
 awp Tryz.prog w0.heap.size (Builtin.copy_ #[23,23] 3 #[.slice (if x7c=((x8:Int).toNat) then x7 else Option.map (fun x=>Addr.add x ((x8:Int).toNat*1)) x7) (x7n-((x8:Int).toNat)) (x7c-((x8:Int).toNat)),.slice (if x7c=0 then x7 else Option.map (fun x=>Addr.add x (0*1)) x7) (((x8:Int).toNat)-0) (x7c-0)]) m fun v12 m13 =>
 ∃ i14:Int,v12=.int .i64 i14∧KI_∧(.slice x7 x7n x7c:Value)=.slice x7 x7n x7c∧true=true∧∃ n':Nat,n'<n0∧I0 n' (IntKind.wrap .i64 (x8+i14)) m13) (
 (.slice x7 x7n x7c:Value)=.slice x7 x7n x7c∧E0_0  m))))
 (h_e0:∀ (σ:Sg)  (m:AM),E0_0  m→(
 RetP R (.slice x7 x7n x7c) m)) :
 vcS Tryz.prog w0 qs68 (sub c68 [1,1,1,1,1,1,0,0]) σ m (blockS 0 (thenS (fun σ m=>vcS Tryz.prog w0 qs68 (sub c68 [1,1,1,1,1,1,1]) σ m (retQ Tryz.prog Tryz.f68 R)) (retQ Tryz.prog Tryz.f68 R))):=by
  rw [show sub c68 [1,1,1,1,1,1,0,0]=.loop (sub c68 [1,1,1,1,1,1,0,0,0]) from by kernel_rfl]
  refine loopQ (fun n0 σ m=>σ 7=.slice x7 x7n x7c∧okI .i64 (σ 8)=true∧I0 n0 (vI (σ 8)) m) N (fun n0=>(lq68_11111100 R x7 x7n x7c I0 E0_0 n0)) ⟨h7,(by rw [h8]; rfl),(by rw [h8]; exact h_0)⟩ ?_ ?_ ?_
  · rintro n0 σ m ⟨kk0,kk1,n',hlt,hI⟩; exact ⟨n',hlt,kk0,kk1,hI⟩
  · intro n0 e σ m hne h
    cases e with
    | normal=>exact absurd rfl hne
    | ret=>exact h
    | exit id =>
      by_cases e0:id=0
      · subst e0
        obtain ⟨kk0,hE⟩:=h
        have es:(upd σ 7 (.slice x7 x7n x7c))=σ:=by rw [upd_id kk0]
        exact cast (congrArg (fun s=>(blockS 0 (thenS (fun σ m=>vcS Tryz.prog w0 qs68 (sub c68 [1,1,1,1,1,1,1]) σ m (retQ Tryz.prog Tryz.f68 R)) (retQ Tryz.prog Tryz.f68 R))) (.exit 0) s m) es) (cast (by kernel_rfl) (h_e0 σ  m hE))
      · replace h:=(if_neg e0:(if id=0 then _ else _)=_).mp h
        exact False.elim h
    | _=>exact False.elim h
  · rintro n0 σ m ⟨kk0,kk1,hI⟩
    have es:(upd (upd σ 7 (.slice x7 x7n x7c)) 8 (.int .i64 (vI (σ 8))))=σ:=by rw [upd_id kk0,upd_id (ok_int kk1)]
    exact cast (congrArg (fun s=>vcS Tryz.prog w0 qs68 (sub c68 [1,1,1,1,1,1,0,0,0]) s m (lq68_11111100 R x7 x7n x7c I0 E0_0 n0)) es) (cast (by kernel_rfl) (h_s n0 σ (vI (σ 8)) m hI))

def qs100:Nat→List (Nat × Nat):=fun i=>match i with | _=>[]
noncomputable def c100:Code:=bodyOf Tryz.f100
theorem cf100 (w0:World) (m:AM) (x0:Int) (x1:Int) (R:Value→AM→Prop) (h :
 IntKind.u64=IntKind.u64∧(0:Int)≤32∧IntKind.u64=IntKind.u64∧(0:Int)≤32∧IntKind.u64=IntKind.u64∧IntKind.u64=IntKind.u64∧(0:Int)≤32∧IntKind.u64=IntKind.u64∧IntKind.u64=IntKind.u64∧(0:Int)≤32∧IntKind.u64=IntKind.u64∧IntKind.u64=IntKind.u64∧IntKind.u64=IntKind.u64∧IntKind.u64=IntKind.u64∧(0:Int)≤32∧IntKind.u64=IntKind.u64∧IntKind.u64=IntKind.u64∧RetP R (.tuple #[.int .u64 (IntKind.wrap .u64 ((IntKind.wrap .u64 ((IntKind.wrap .u64 ((Int.fdiv x0 (2 ^ (min (32:Int).toNat (IntKind.bits .u64))))*(Int.fdiv x1 (2 ^ (min (32:Int).toNat (IntKind.bits .u64))))))+(Int.fdiv (IntKind.wrap .u64 ((IntKind.wrap .u64 ((Int.fdiv x0 (2 ^ (min (32:Int).toNat (IntKind.bits .u64))))*(IntKind.wrap .u64 ((BitVec.ofInt (IntKind.bits .u64) x1 &&& BitVec.ofInt (IntKind.bits .u64) 4294967295).toNat:Int))))+(Int.fdiv (IntKind.wrap .u64 ((IntKind.wrap .u64 ((BitVec.ofInt (IntKind.bits .u64) x0 &&& BitVec.ofInt (IntKind.bits .u64) 4294967295).toNat:Int))*(IntKind.wrap .u64 ((BitVec.ofInt (IntKind.bits .u64) x1 &&& BitVec.ofInt (IntKind.bits .u64) 4294967295).toNat:Int)))) (2 ^ (min (32:Int).toNat (IntKind.bits .u64)))))) (2 ^ (min (32:Int).toNat (IntKind.bits .u64))))))+(Int.fdiv (IntKind.wrap .u64 ((IntKind.wrap .u64 ((BitVec.ofInt (IntKind.bits .u64) (IntKind.wrap .u64 ((IntKind.wrap .u64 ((Int.fdiv x0 (2 ^ (min (32:Int).toNat (IntKind.bits .u64))))*(IntKind.wrap .u64 ((BitVec.ofInt (IntKind.bits .u64) x1 &&& BitVec.ofInt (IntKind.bits .u64) 4294967295).toNat:Int))))+(Int.fdiv (IntKind.wrap .u64 ((IntKind.wrap .u64 ((BitVec.ofInt (IntKind.bits .u64) x0 &&& BitVec.ofInt (IntKind.bits .u64) 4294967295).toNat:Int))*(IntKind.wrap .u64 ((BitVec.ofInt (IntKind.bits .u64) x1 &&& BitVec.ofInt (IntKind.bits .u64) 4294967295).toNat:Int)))) (2 ^ (min (32:Int).toNat (IntKind.bits .u64)))))) &&& BitVec.ofInt (IntKind.bits .u64) 4294967295).toNat:Int))+(IntKind.wrap .u64 ((IntKind.wrap .u64 ((BitVec.ofInt (IntKind.bits .u64) x0 &&& BitVec.ofInt (IntKind.bits .u64) 4294967295).toNat:Int))*(Int.fdiv x1 (2 ^ (min (32:Int).toNat (IntKind.bits .u64)))))))) (2 ^ (min (32:Int).toNat (IntKind.bits .u64)))))),.int .u64 (IntKind.wrap .u64 (x0*x1))]) m):CallsA Tryz.prog w0 100 #[.int .u64 x0,.int .u64 x1] m R :=
  callsA_of (c:=c100) (args:=[.int .u64 x0,.int .u64 x1]) (by kernel_rfl) Tryz.func100 (by kernel_rfl) qs100 (by kernel_rfl) (by kernel_rfl) (cast (by kernel_rfl) h)
end Go.Proofs.YtkfemiloehkmhaaGreat.V

namespace Go.Proofs.YtkfemiloehkmhaaGreat.V
open Go Go.Alog Go.Proofs.YtkfemiloehkmhaaGreat.T
set_option linter.unusedVariables false
set_option maxRecDepth 100000

def qs69:Nat→List (Nat × Nat):=fun i=>match i with | _=>[]
noncomputable def c69:Code:=bodyOf Tryz.f69
theorem cf69 (w0:World) (m:AM) (x0:Option Addr) (x0n x0c:Nat) (x1:Option Addr) (x1n x1c:Nat) (x2:Int) (x3:Int) (R:Value→AM→Prop) (h :
 ((0:Int)≤x2∧x2<((x1n:Nat):Int))∧nilO x1 fun a1 =>
 LA_ m (a1.add ((x2:Int).toNat*1)) fun i2 => 
 KI_∧(bcase (decide ((i2:Int)≥0)) (
 RetP R (.bool false) m) (
 vcS Tryz.prog w0 qs69 (sub c69 [1,1,0,1,0]) (upd (upd (upd (upd (upd (upd (upd (upd (argS [.slice x0 x0n x0c,.slice x1 x1n x1c,.int .i64 x2,.int .i64 x3]) 8 (.bool false)) 11 (.slice x1 x1n x1c)) 12 (.int .i64 x2)) 13 (.pointer (some (a1.add ((x2:Int).toNat*1))))) 14 (.int .i64 i2)) 15 (.bool (decide ((i2:Int)≥0)))) 16 (.int .i64 x2)) 17 (.int .i64 0)) m (blockS 0 (thenS (fun σ m=>vcS Tryz.prog w0 qs69 (sub c69 [1,1,1]) σ m (retQ Tryz.prog Tryz.f69 R)) (retQ Tryz.prog Tryz.f69 R)))))):CallsA Tryz.prog w0 69 #[.slice x0 x0n x0c,.slice x1 x1n x1c,.int .i64 x2,.int .i64 x3] m R :=
  callsA_of (c:=c69) (args:=[.slice x0 x0n x0c,.slice x1 x1n x1c,.int .i64 x2,.int .i64 x3]) (by kernel_rfl) Tryz.func69 (by kernel_rfl) qs69 (by kernel_rfl) (by kernel_rfl) (cast (by kernel_rfl) h)
def lq69_11010 (R:Value→AM→Prop) (x0:Option Addr) (x0n x0c:Nat) (x1:Option Addr) (x1n x1c:Nat) (x2:Int) (x3:Int) (x16:Int) (I0:Nat→Int→AM→Prop) (E0_0:AM→Prop) (n0:Nat):Exit→Sg→AM→Prop
 | .normal,σ,m=>σ 0=.slice x0 x0n x0c∧σ 1=.slice x1 x1n x1c∧σ 2=.int .i64 x2∧σ 3=.int .i64 x3∧σ 16=.int .i64 x16∧okI .i64 (σ 17)=true∧∃ n':Nat,n'<n0∧I0 n' (vI (σ 17)) m
 | .exit id,σ,m=>if id=0 then σ 0=.slice x0 x0n x0c∧σ 1=.slice x1 x1n x1c∧σ 2=.int .i64 x2∧σ 3=.int .i64 x3∧σ 16=.int .i64 x16∧E0_0  m else False
 | .ret,σ,m=>retQ Tryz.prog Tryz.f69 R .ret σ m
 | _,_,_=>False
theorem vl69_11010 (w0:World) (m:AM) (σ:Sg) (R:Value→AM→Prop)  (x0:Option Addr) (x0n x0c:Nat) (x1:Option Addr) (x1n x1c:Nat) (x2:Int) (x3:Int) (x16:Int) (x17:Int) (I0:Nat→Int→AM→Prop) (E0_0:AM→Prop) (N:Nat) (h0:σ 0=.slice x0 x0n x0c) (h1:σ 1=.slice x1 x1n x1c) (h2:σ 2=.int .i64 x2) (h3:σ 3=.int .i64 x3) (h16:σ 16=.int .i64 x16) (h17:σ 17=.int .i64 x17)
 (h_0:I0 N x17 m)
 (h_s:∀ (n0:Nat) (σ:Sg) (x17:Int) (m:AM),I0 n0 x17 m→(
 KI_∧(bcase (decide ((x17:Int)<x16)) (
 ((0:Int)≤x17∧x17<((x0n:Nat):Int))∧nilO x0 fun a3 =>
 LA_ m (a3.add ((x17:Int).toNat*5)) fun i4=>∃ i5:Int,m.cell ((a3.add ((x17:Int).toNat*5)).add 1)=some (.int .i64 i5)∧∃ i6:Int,m.cell ((a3.add ((x17:Int).toNat*5)).add 2)=some (.int .i64 i6)∧∃ i7:Int,m.cell ((a3.add ((x17:Int).toNat*5)).add 3)=some (.int .i64 i7)∧∃ i8:Int,m.cell ((a3.add ((x17:Int).toNat*5)).add 4)=some (.int .i64 i8) ∧ 
 ((0:Int)≤x2∧x2<((x0n:Nat):Int))∧nilO x0 fun a9 =>
 LA_ m (a9.add ((x2:Int).toNat*5)) fun i10=>∃ i11:Int,m.cell ((a9.add ((x2:Int).toNat*5)).add 1)=some (.int .i64 i11)∧∃ i12:Int,m.cell ((a9.add ((x2:Int).toNat*5)).add 2)=some (.int .i64 i12)∧∃ i13:Int,m.cell ((a9.add ((x2:Int).toNat*5)).add 3)=some (.int .i64 i13)∧∃ i14:Int,m.cell ((a9.add ((x2:Int).toNat*5)).add 4)=some (.int .i64 i14) ∧ 
 CallsA Tryz.prog w0 47 #[.agg #[.int .i64 i4,.int .i64 i5,.int .i64 i6,.int .i64 i7,.int .i64 i8],.agg #[.int .i64 i10,.int .i64 i11,.int .i64 i12,.int .i64 i13,.int .i64 i14]] m fun r16 m17 =>
 ∃ i15:Int,r16=.int .i64 i15∧KI_∧(bcase (decide ((i15:Int)>0)) (
 ((0:Int)≤x17∧x17<((x1n:Nat):Int))∧nilO x1 fun a18 =>
 LA_ m17 (a18.add ((x17:Int).toNat*1)) fun i19 => 
 KI_∧(bcase (decide ((i19:Int)<0)) (
 (decide ((i19:Int)<0))=true∧(bcase (bif decide ((i15:Int)>0) then true else false) (
 RetP R (.bool false) m17) (
 KI_∧(.slice x0 x0n x0c:Value)=.slice x0 x0n x0c∧(.slice x1 x1n x1c:Value)=.slice x1 x1n x1c∧(.int .i64 x2:Value)=.int .i64 x2∧(.int .i64 x3:Value)=.int .i64 x3∧(.int .i64 x16:Value)=.int .i64 x16∧true=true∧∃ n':Nat,n'<n0∧I0 n' (IntKind.wrap .i64 (x17+1)) m17))) (
 ((0:Int)≤x17∧x17<((x1n:Nat):Int))∧nilO x1 fun a20 =>
 LA_ m17 (a20.add ((x17:Int).toNat*1)) fun i21 => 
 KI_∧KI_∧(bcase (bif decide ((i15:Int)>0) then bif decide ((i19:Int)<0) then true else decide (((IntKind.wrap .i64 (i21+i15)):Int)>x3) else false) (
 RetP R (.bool false) m17) (
 KI_∧(.slice x0 x0n x0c:Value)=.slice x0 x0n x0c∧(.slice x1 x1n x1c:Value)=.slice x1 x1n x1c∧(.int .i64 x2:Value)=.int .i64 x2∧(.int .i64 x3:Value)=.int .i64 x3∧(.int .i64 x16:Value)=.int .i64 x16∧true=true∧∃ n':Nat,n'<n0∧I0 n' (IntKind.wrap .i64 (x17+1)) m17))))) (
 (decide ((i15:Int)>0))=false∧KI_∧(.slice x0 x0n x0c:Value)=.slice x0 x0n x0c∧(.slice x1 x1n x1c:Value)=.slice x1 x1n x1c∧(.int .i64 x2:Value)=.int .i64 x2∧(.int .i64 x3:Value)=.int .i64 x3∧(.int .i64 x16:Value)=.int .i64 x16∧true=true∧∃ n':Nat,n'<n0∧I0 n' (IntKind.wrap .i64 (x17+1)) m17))) (
 (.slice x0 x0n x0c:Value)=.slice x0 x0n x0c∧(.slice x1 x1n x1c:Value)=.slice x1 x1n x1c∧(.int .i64 x2:Value)=.int .i64 x2∧(.int .i64 x3:Value)=.int .i64 x3∧(.int .i64 x16:Value)=.int .i64 x16∧E0_0  m))))
 (h_e0:∀ (σ:Sg)  (m:AM),E0_0  m→(
 RetP R (.bool true) m)) :
 vcS Tryz.prog w0 qs69 (sub c69 [1,1,0,1,0]) σ m (blockS 0 (thenS (fun σ m=>vcS Tryz.prog w0 qs69 (sub c69 [1,1,1]) σ m (retQ Tryz.prog Tryz.f69 R)) (retQ Tryz.prog Tryz.f69 R))):=by
  rw [show sub c69 [1,1,0,1,0]=.loop (sub c69 [1,1,0,1,0,0]) from by kernel_rfl]
  refine loopQ (fun n0 σ m=>σ 0=.slice x0 x0n x0c∧σ 1=.slice x1 x1n x1c∧σ 2=.int .i64 x2∧σ 3=.int .i64 x3∧σ 16=.int .i64 x16∧okI .i64 (σ 17)=true∧I0 n0 (vI (σ 17)) m) N (fun n0=>(lq69_11010 R x0 x0n x0c x1 x1n x1c x2 x3 x16 I0 E0_0 n0)) ⟨h0,h1,h2,h3,h16,(by rw [h17]; rfl),(by rw [h17]; exact h_0)⟩ ?_ ?_ ?_
  · rintro n0 σ m ⟨kk0,kk1,kk2,kk3,kk4,kk5,n',hlt,hI⟩; exact ⟨n',hlt,kk0,kk1,kk2,kk3,kk4,kk5,hI⟩
  · intro n0 e σ m hne h
    cases e with
    | normal=>exact absurd rfl hne
    | ret=>exact h
    | exit id =>
      by_cases e0:id=0
      · subst e0
        obtain ⟨kk0,kk1,kk2,kk3,kk4,hE⟩:=h
        have es:(upd (upd (upd (upd (upd σ 0 (.slice x0 x0n x0c)) 1 (.slice x1 x1n x1c)) 2 (.int .i64 x2)) 3 (.int .i64 x3)) 16 (.int .i64 x16))=σ:=by rw [upd_id kk0,upd_id kk1,upd_id kk2,upd_id kk3,upd_id kk4]
        exact cast (congrArg (fun s=>(blockS 0 (thenS (fun σ m=>vcS Tryz.prog w0 qs69 (sub c69 [1,1,1]) σ m (retQ Tryz.prog Tryz.f69 R)) (retQ Tryz.prog Tryz.f69 R))) (.exit 0) s m) es) (cast (by kernel_rfl) (h_e0 σ  m hE))
      · replace h:=(if_neg e0:(if id=0 then _ else _)=_).mp h
        exact False.elim h
    | _=>exact False.elim h
  · rintro n0 σ m ⟨kk0,kk1,kk2,kk3,kk4,kk5,hI⟩
    have es:(upd (upd (upd (upd (upd (upd σ 0 (.slice x0 x0n x0c)) 1 (.slice x1 x1n x1c)) 2 (.int .i64 x2)) 3 (.int .i64 x3)) 16 (.int .i64 x16)) 17 (.int .i64 (vI (σ 17))))=σ:=by rw [upd_id kk0,upd_id kk1,upd_id kk2,upd_id kk3,upd_id kk4,upd_id (ok_int kk5)]
    exact cast (congrArg (fun s=>vcS Tryz.prog w0 qs69 (sub c69 [1,1,0,1,0,0]) s m (lq69_11010 R x0 x0n x0c x1 x1n x1c x2 x3 x16 I0 E0_0 n0)) es) (cast (by kernel_rfl) (h_s n0 σ (vI (σ 17)) m hI))

def qs48:Nat→List (Nat × Nat):=fun i=>match i with | _=>[]
noncomputable def c48:Code:=bodyOf Tryz.f48
theorem cf48 (w0:World) (m:AM) (x0:Option Addr) (x0n x0c:Nat) (x1:Option Addr) (x1n x1c:Nat) (x2_0:Int) (x2_1:Int) (x2_2:Int) (x2_3:Int) (x2_4:Int) (x3:Int) (R:Value→AM→Prop) (h :
 ∀ b1:Nat,w0.heap.size≤b1→m b1=none→let m2:=AM.upd m b1 (.cells #[.int .i64 x2_0,.int .i64 x2_1,.int .i64 x2_2,.int .i64 x2_3,.int .i64 x2_4] 36);
 vcS Tryz.prog w0 qs48 (sub c48 [1,0,1,0]) (upd (upd (upd (upd (upd (argS [.slice x0 x0n x0c,.slice x1 x1n x1c,.agg #[.int .i64 x2_0,.int .i64 x2_1,.int .i64 x2_2,.int .i64 x2_3,.int .i64 x2_4],.int .i64 x3]) 6 (pt_ b1)) 8 (.bool false)) 11 (.slice x1 x1n x1c)) 12 (.int .i64 ((x1n:Nat):Int))) 13 (.int .i64 0)) m2 (blockS 0 (thenS (fun σ m=>vcS Tryz.prog w0 qs48 (sub c48 [1,1]) σ m (retQ Tryz.prog Tryz.f48 R)) (retQ Tryz.prog Tryz.f48 R)))):CallsA Tryz.prog w0 48 #[.slice x0 x0n x0c,.slice x1 x1n x1c,.agg #[.int .i64 x2_0,.int .i64 x2_1,.int .i64 x2_2,.int .i64 x2_3,.int .i64 x2_4],.int .i64 x3] m R :=
  callsA_of (c:=c48) (args:=[.slice x0 x0n x0c,.slice x1 x1n x1c,.agg #[.int .i64 x2_0,.int .i64 x2_1,.int .i64 x2_2,.int .i64 x2_3,.int .i64 x2_4],.int .i64 x3]) (by kernel_rfl) Tryz.func48 (by kernel_rfl) qs48 (by kernel_rfl) (by kernel_rfl) (cast (by kernel_rfl) h)
def lq48_1010 (R:Value→AM→Prop) (x0:Option Addr) (x0n x0c:Nat) (x3:Int) (x6:Nat) (x11:Option Addr) (x11n x11c:Nat) (x12:Int) (I0:Nat→Int→AM→Prop) (E0_0:AM→Prop) (n0:Nat):Exit→Sg→AM→Prop
 | .normal,σ,m=>σ 0=.slice x0 x0n x0c∧σ 3=.int .i64 x3∧σ 6=.pointer (some ⟨x6,0,none⟩)∧σ 11=.slice x11 x11n x11c∧σ 12=.int .i64 x12∧okI .i64 (σ 13)=true∧∃ n':Nat,n'<n0∧I0 n' (vI (σ 13)) m
 | .exit id,σ,m=>if id=0 then σ 0=.slice x0 x0n x0c∧σ 3=.int .i64 x3∧σ 6=.pointer (some ⟨x6,0,none⟩)∧σ 11=.slice x11 x11n x11c∧σ 12=.int .i64 x12∧E0_0  m else False
 | .ret,σ,m=>retQ Tryz.prog Tryz.f48 R .ret σ m
 | _,_,_=>False
theorem vl48_1010 (w0:World) (m:AM) (σ:Sg) (R:Value→AM→Prop)  (x0:Option Addr) (x0n x0c:Nat) (x3:Int) (x6:Nat) (x11:Option Addr) (x11n x11c:Nat) (x12:Int) (x13:Int) (I0:Nat→Int→AM→Prop) (E0_0:AM→Prop) (N:Nat) (h0:σ 0=.slice x0 x0n x0c) (h3:σ 3=.int .i64 x3) (h6:σ 6=.pointer (some ⟨x6,0,none⟩)) (h11:σ 11=.slice x11 x11n x11c) (h12:σ 12=.int .i64 x12) (h13:σ 13=.int .i64 x13)
 (h_0:I0 N x13 m)
 (h_s:∀ (n0:Nat) (σ:Sg) (x13:Int) (m:AM),I0 n0 x13 m→(
 KI_∧(bcase (decide ((x13:Int)<x12)) (
 ((0:Int)≤x13∧x13<((x11n:Nat):Int))∧nilO x11 fun a3 =>
 LA_ m (a3.add ((x13:Int).toNat*1)) fun i4 => 
 KI_∧(bcase (decide ((i4:Int)≥0)) (
 ((0:Int)≤i4∧i4<((x0n:Nat):Int))∧nilO x0 fun a5 =>
 LA_ m (a5.add ((i4:Int).toNat*5)) fun i6=>∃ i7:Int,m.cell ((a5.add ((i4:Int).toNat*5)).add 1)=some (.int .i64 i7)∧∃ i8:Int,m.cell ((a5.add ((i4:Int).toNat*5)).add 2)=some (.int .i64 i8)∧∃ i9:Int,m.cell ((a5.add ((i4:Int).toNat*5)).add 3)=some (.int .i64 i9)∧∃ i10:Int,m.cell ((a5.add ((i4:Int).toNat*5)).add 4)=some (.int .i64 i10) ∧ 
 LI_ m x6 0 fun i11=>LI_ m x6 1 fun i12=>LI_ m x6 2 fun i13=>LI_ m x6 3 fun i14=>LI_ m x6 4 fun i15 => 
 CallsA Tryz.prog w0 47 #[.agg #[.int .i64 i6,.int .i64 i7,.int .i64 i8,.int .i64 i9,.int .i64 i10],.agg #[.int .i64 i11,.int .i64 i12,.int .i64 i13,.int .i64 i14,.int .i64 i15]] m fun r17 m18 =>
 ∃ i16:Int,r17=.int .i64 i16∧KI_∧KI_∧(bcase (bif decide ((i4:Int)≥0) then decide (((IntKind.wrap .i64 (x13+i16)):Int)>x3) else false) (
 RetP R (.bool false) m18) (
 KI_∧(.slice x0 x0n x0c:Value)=.slice x0 x0n x0c∧(.int .i64 x3:Value)=.int .i64 x3∧(.pointer (some ⟨x6,0,none⟩):Value)=.pointer (some ⟨x6,0,none⟩)∧(.slice x11 x11n x11c:Value)=.slice x11 x11n x11c∧(.int .i64 x12:Value)=.int .i64 x12∧true=true∧∃ n':Nat,n'<n0∧I0 n' (IntKind.wrap .i64 (x13+1)) m18))) (
 (decide ((i4:Int)≥0))=false∧KI_∧(.slice x0 x0n x0c:Value)=.slice x0 x0n x0c∧(.int .i64 x3:Value)=.int .i64 x3∧(.pointer (some ⟨x6,0,none⟩):Value)=.pointer (some ⟨x6,0,none⟩)∧(.slice x11 x11n x11c:Value)=.slice x11 x11n x11c∧(.int .i64 x12:Value)=.int .i64 x12∧true=true∧∃ n':Nat,n'<n0∧I0 n' (IntKind.wrap .i64 (x13+1)) m))) (
 (.slice x0 x0n x0c:Value)=.slice x0 x0n x0c∧(.int .i64 x3:Value)=.int .i64 x3∧(.pointer (some ⟨x6,0,none⟩):Value)=.pointer (some ⟨x6,0,none⟩)∧(.slice x11 x11n x11c:Value)=.slice x11 x11n x11c∧(.int .i64 x12:Value)=.int .i64 x12∧E0_0  m))))
 (h_e0:∀ (σ:Sg)  (m:AM),E0_0  m→(
 RetP R (.bool true) m)) :
 vcS Tryz.prog w0 qs48 (sub c48 [1,0,1,0]) σ m (blockS 0 (thenS (fun σ m=>vcS Tryz.prog w0 qs48 (sub c48 [1,1]) σ m (retQ Tryz.prog Tryz.f48 R)) (retQ Tryz.prog Tryz.f48 R))):=by
  rw [show sub c48 [1,0,1,0]=.loop (sub c48 [1,0,1,0,0]) from by kernel_rfl]
  refine loopQ (fun n0 σ m=>σ 0=.slice x0 x0n x0c∧σ 3=.int .i64 x3∧σ 6=.pointer (some ⟨x6,0,none⟩)∧σ 11=.slice x11 x11n x11c∧σ 12=.int .i64 x12∧okI .i64 (σ 13)=true∧I0 n0 (vI (σ 13)) m) N (fun n0=>(lq48_1010 R x0 x0n x0c x3 x6 x11 x11n x11c x12 I0 E0_0 n0)) ⟨h0,h3,h6,h11,h12,(by rw [h13]; rfl),(by rw [h13]; exact h_0)⟩ ?_ ?_ ?_
  · rintro n0 σ m ⟨kk0,kk1,kk2,kk3,kk4,kk5,n',hlt,hI⟩; exact ⟨n',hlt,kk0,kk1,kk2,kk3,kk4,kk5,hI⟩
  · intro n0 e σ m hne h
    cases e with
    | normal=>exact absurd rfl hne
    | ret=>exact h
    | exit id =>
      by_cases e0:id=0
      · subst e0
        obtain ⟨kk0,kk1,kk2,kk3,kk4,hE⟩:=h
        have es:(upd (upd (upd (upd (upd σ 0 (.slice x0 x0n x0c)) 3 (.int .i64 x3)) 6 (pt_ x6)) 11 (.slice x11 x11n x11c)) 12 (.int .i64 x12))=σ:=by rw [upd_id kk0,upd_id kk1,upd_id kk2,upd_id kk3,upd_id kk4]
        exact cast (congrArg (fun s=>(blockS 0 (thenS (fun σ m=>vcS Tryz.prog w0 qs48 (sub c48 [1,1]) σ m (retQ Tryz.prog Tryz.f48 R)) (retQ Tryz.prog Tryz.f48 R))) (.exit 0) s m) es) (cast (by kernel_rfl) (h_e0 σ  m hE))
      · replace h:=(if_neg e0:(if id=0 then _ else _)=_).mp h
        exact False.elim h
    | _=>exact False.elim h
  · rintro n0 σ m ⟨kk0,kk1,kk2,kk3,kk4,kk5,hI⟩
    have es:(upd (upd (upd (upd (upd (upd σ 0 (.slice x0 x0n x0c)) 3 (.int .i64 x3)) 6 (pt_ x6)) 11 (.slice x11 x11n x11c)) 12 (.int .i64 x12)) 13 (.int .i64 (vI (σ 13))))=σ:=by rw [upd_id kk0,upd_id kk1,upd_id kk2,upd_id kk3,upd_id kk4,upd_id (ok_int kk5)]
    exact cast (congrArg (fun s=>vcS Tryz.prog w0 qs48 (sub c48 [1,0,1,0,0]) s m (lq48_1010 R x0 x0n x0c x3 x6 x11 x11n x11c x12 I0 E0_0 n0)) es) (cast (by kernel_rfl) (h_s n0 σ (vI (σ 13)) m hI))

def qs28:Nat→List (Nat × Nat):=fun i=>match i with | _=>[]
noncomputable def c28:Code:=bodyOf Tryz.f28
theorem cf28 (w0:World) (m:AM) (x0:Option Addr) (x0n x0c:Nat) (x1:Option Addr) (x1n x1c:Nat) (R:Value→AM→Prop) (h :
 vcS Tryz.prog w0 qs28 (sub c28 [1,1,0,1,0]) (upd (upd (upd (upd (upd (argS [.slice x0 x0n x0c,.slice x1 x1n x1c]) 4 (.slice none 0 0)) 5 (.slice none 0 0)) 9 (.slice x1 x1n x1c)) 10 (.int .i64 ((x1n:Nat):Int))) 11 (.int .i64 0)) m (blockS 0 (thenS (fun σ m=>vcS Tryz.prog w0 qs28 (sub c28 [1,1,1]) σ m (retQ Tryz.prog Tryz.f28 R)) (retQ Tryz.prog Tryz.f28 R)))):CallsA Tryz.prog w0 28 #[.slice x0 x0n x0c,.slice x1 x1n x1c] m R :=
  callsA_of (c:=c28) (args:=[.slice x0 x0n x0c,.slice x1 x1n x1c]) (by kernel_rfl) Tryz.func28 (by kernel_rfl) qs28 (by kernel_rfl) (by kernel_rfl) (cast (by kernel_rfl) h)
def lq28_11010 (R:Value→AM→Prop) (x0:Option Addr) (x0n x0c:Nat) (x9:Option Addr) (x9n x9c:Nat) (x10:Int) (I0:Nat→Option Addr→Nat→Nat→Int→AM→Prop) (E0_0:Option Addr→Nat→Nat→AM→Prop) (n0:Nat):Exit→Sg→AM→Prop
 | .normal,σ,m=>σ 0=.slice x0 x0n x0c∧σ 9=.slice x9 x9n x9c∧σ 10=.int .i64 x10∧okS (σ 5)=true∧okI .i64 (σ 11)=true∧∃ n':Nat,n'<n0∧I0 n' (vSA (σ 5)) (vSN (σ 5)) (vSC (σ 5)) (vI (σ 11)) m
 | .exit id,σ,m=>if id=0 then σ 0=.slice x0 x0n x0c∧σ 9=.slice x9 x9n x9c∧σ 10=.int .i64 x10∧okS (σ 5)=true∧E0_0 (vSA (σ 5)) (vSN (σ 5)) (vSC (σ 5)) m else False
 | .ret,σ,m=>retQ Tryz.prog Tryz.f28 R .ret σ m
 | _,_,_=>False
theorem vl28_11010 (w0:World) (m:AM) (σ:Sg) (R:Value→AM→Prop)  (x0:Option Addr) (x0n x0c:Nat) (x9:Option Addr) (x9n x9c:Nat) (x10:Int) (x5:Option Addr) (x5n x5c:Nat) (x11:Int) (I0:Nat→Option Addr→Nat→Nat→Int→AM→Prop) (E0_0:Option Addr→Nat→Nat→AM→Prop) (N:Nat) (h0:σ 0=.slice x0 x0n x0c) (h5:σ 5=.slice x5 x5n x5c) (h9:σ 9=.slice x9 x9n x9c) (h10:σ 10=.int .i64 x10) (h11:σ 11=.int .i64 x11)
 (h_0:I0 N x5 x5n x5c x11 m)
 (h_s:∀ (n0:Nat) (σ:Sg) (x5:Option Addr) (x5n:Nat) (x5c:Nat) (x11:Int) (m:AM),I0 n0 x5 x5n x5c x11 m→(
 KI_∧(bcase (decide ((x11:Int)<x10)) (
 ((0:Int)≤x11∧x11<((x9n:Nat):Int))∧nilO x9 fun a1 =>
 LA_ m (a1.add ((x11:Int).toNat*1)) fun i2 => 
 true=true∧∀ b3:Nat,w0.heap.size≤b3→m b3=none→let m4:=AM.upd m b3 (.cells #[.int .i64 0,.int .i64 0,.int .i64 0,.int .i64 0,.int .i64 0] 36);
 SI_ w0.heap.size m4 b3 0 0 fun m5 =>
 SI_ w0.heap.size m5 b3 1 0 fun m6 =>
 SI_ w0.heap.size m6 b3 2 0 fun m7 =>
 SI_ w0.heap.size m7 b3 3 0 fun m8 =>
 SI_ w0.heap.size m8 b3 4 0 fun m9 =>
 KI_∧(bcase (decide ((i2:Int)≥0)) (
 KI_∧(bcase (bif decide ((i2:Int)≥0) then decide ((i2:Int)<((x0n:Nat):Int)) else false) (
 ((0:Int)≤i2∧i2<((x0n:Nat):Int))∧nilO x0 fun a10 =>
 LA_ m9 (a10.add ((i2:Int).toNat*5)) fun i11=>∃ i12:Int,m9.cell ((a10.add ((i2:Int).toNat*5)).add 1)=some (.int .i64 i12)∧∃ i13:Int,m9.cell ((a10.add ((i2:Int).toNat*5)).add 2)=some (.int .i64 i13)∧∃ i14:Int,m9.cell ((a10.add ((i2:Int).toNat*5)).add 3)=some (.int .i64 i14)∧∃ i15:Int,m9.cell ((a10.add ((i2:Int).toNat*5)).add 4)=some (.int .i64 i15) ∧ 
 SI_ w0.heap.size m9 b3 0 i11 fun m16 =>
 SI_ w0.heap.size m16 b3 1 i12 fun m17 =>
 SI_ w0.heap.size m17 b3 2 i13 fun m18 =>
 SI_ w0.heap.size m18 b3 3 i14 fun m19 =>
 SI_ w0.heap.size m19 b3 4 i15 fun m20 =>
 LI_ m20 b3 0 fun i21=>LI_ m20 b3 1 fun i22=>LI_ m20 b3 2 fun i23=>LI_ m20 b3 3 fun i24=>LI_ m20 b3 4 fun i25 => 
 true=true∧∀ b26:Nat,w0.heap.size≤b26→m20 b26=none→let m27:=AM.upd m20 b26 (.cells #[.int .i64 i21,.int .i64 i22,.int .i64 i23,.int .i64 i24,.int .i64 i25] 36);
 awp Tryz.prog w0.heap.size (Builtin.append_ #[22,22] 22 #[.slice x5 x5n x5c,.slice (some ⟨b26,0,none⟩) 1 1]) m27 fun v28 m29 =>
 ∃ (A30:Option Addr) (n31 c32:Nat),v28=.slice A30 n31 c32∧KI_∧(.slice x0 x0n x0c:Value)=.slice x0 x0n x0c∧(.slice x9 x9n x9c:Value)=.slice x9 x9n x9c∧(.int .i64 x10:Value)=.int .i64 x10∧true=true∧true=true∧∃ n':Nat,n'<n0∧I0 n' A30 n31 c32 (IntKind.wrap .i64 (x11+1)) m29) (
 LI_ m9 b3 0 fun i33=>LI_ m9 b3 1 fun i34=>LI_ m9 b3 2 fun i35=>LI_ m9 b3 3 fun i36=>LI_ m9 b3 4 fun i37 => 
 true=true∧∀ b38:Nat,w0.heap.size≤b38→m9 b38=none→let m39:=AM.upd m9 b38 (.cells #[.int .i64 i33,.int .i64 i34,.int .i64 i35,.int .i64 i36,.int .i64 i37] 36);
 awp Tryz.prog w0.heap.size (Builtin.append_ #[22,22] 22 #[.slice x5 x5n x5c,.slice (some ⟨b38,0,none⟩) 1 1]) m39 fun v40 m41 =>
 ∃ (A42:Option Addr) (n43 c44:Nat),v40=.slice A42 n43 c44∧KI_∧(.slice x0 x0n x0c:Value)=.slice x0 x0n x0c∧(.slice x9 x9n x9c:Value)=.slice x9 x9n x9c∧(.int .i64 x10:Value)=.int .i64 x10∧true=true∧true=true∧∃ n':Nat,n'<n0∧I0 n' A42 n43 c44 (IntKind.wrap .i64 (x11+1)) m41))) (
 (decide ((i2:Int)≥0))=false∧LI_ m9 b3 0 fun i45=>LI_ m9 b3 1 fun i46=>LI_ m9 b3 2 fun i47=>LI_ m9 b3 3 fun i48=>LI_ m9 b3 4 fun i49 => 
 true=true∧∀ b50:Nat,w0.heap.size≤b50→m9 b50=none→let m51:=AM.upd m9 b50 (.cells #[.int .i64 i45,.int .i64 i46,.int .i64 i47,.int .i64 i48,.int .i64 i49] 36);
 awp Tryz.prog w0.heap.size (Builtin.append_ #[22,22] 22 #[.slice x5 x5n x5c,.slice (some ⟨b50,0,none⟩) 1 1]) m51 fun v52 m53 =>
 ∃ (A54:Option Addr) (n55 c56:Nat),v52=.slice A54 n55 c56∧KI_∧(.slice x0 x0n x0c:Value)=.slice x0 x0n x0c∧(.slice x9 x9n x9c:Value)=.slice x9 x9n x9c∧(.int .i64 x10:Value)=.int .i64 x10∧true=true∧true=true∧∃ n':Nat,n'<n0∧I0 n' A54 n55 c56 (IntKind.wrap .i64 (x11+1)) m53))) (
 (.slice x0 x0n x0c:Value)=.slice x0 x0n x0c∧(.slice x9 x9n x9c:Value)=.slice x9 x9n x9c∧(.int .i64 x10:Value)=.int .i64 x10∧true=true∧E0_0 x5 x5n x5c m))))
 (h_e0:∀ (σ:Sg) (x5:Option Addr) (x5n:Nat) (x5c:Nat) (m:AM),E0_0 x5 x5n x5c m→(
 RetP R (.slice x5 x5n x5c) m)) :
 vcS Tryz.prog w0 qs28 (sub c28 [1,1,0,1,0]) σ m (blockS 0 (thenS (fun σ m=>vcS Tryz.prog w0 qs28 (sub c28 [1,1,1]) σ m (retQ Tryz.prog Tryz.f28 R)) (retQ Tryz.prog Tryz.f28 R))):=by
  rw [show sub c28 [1,1,0,1,0]=.loop (sub c28 [1,1,0,1,0,0]) from by kernel_rfl]
  refine loopQ (fun n0 σ m=>σ 0=.slice x0 x0n x0c∧σ 9=.slice x9 x9n x9c∧σ 10=.int .i64 x10∧okS (σ 5)=true∧okI .i64 (σ 11)=true∧I0 n0 (vSA (σ 5)) (vSN (σ 5)) (vSC (σ 5)) (vI (σ 11)) m) N (fun n0=>(lq28_11010 R x0 x0n x0c x9 x9n x9c x10 I0 E0_0 n0)) ⟨h0,h9,h10,(by rw [h5]; rfl),(by rw [h11]; rfl),(by rw [h5,h11]; exact h_0)⟩ ?_ ?_ ?_
  · rintro n0 σ m ⟨kk0,kk1,kk2,kk3,kk4,n',hlt,hI⟩; exact ⟨n',hlt,kk0,kk1,kk2,kk3,kk4,hI⟩
  · intro n0 e σ m hne h
    cases e with
    | normal=>exact absurd rfl hne
    | ret=>exact h
    | exit id =>
      by_cases e0:id=0
      · subst e0
        obtain ⟨kk0,kk1,kk2,kk3,hE⟩:=h
        have es:(upd (upd (upd (upd σ 0 (.slice x0 x0n x0c)) 9 (.slice x9 x9n x9c)) 10 (.int .i64 x10)) 5 (.slice (vSA (σ 5)) (vSN (σ 5)) (vSC (σ 5))))=σ:=by rw [upd_id kk0,upd_id kk1,upd_id kk2,upd_id (ok_slice kk3)]
        exact cast (congrArg (fun s=>(blockS 0 (thenS (fun σ m=>vcS Tryz.prog w0 qs28 (sub c28 [1,1,1]) σ m (retQ Tryz.prog Tryz.f28 R)) (retQ Tryz.prog Tryz.f28 R))) (.exit 0) s m) es) (cast (by kernel_rfl) (h_e0 σ (vSA (σ 5)) (vSN (σ 5)) (vSC (σ 5)) m hE))
      · replace h:=(if_neg e0:(if id=0 then _ else _)=_).mp h
        exact False.elim h
    | _=>exact False.elim h
  · rintro n0 σ m ⟨kk0,kk1,kk2,kk3,kk4,hI⟩
    have es:(upd (upd (upd (upd (upd σ 0 (.slice x0 x0n x0c)) 5 (.slice (vSA (σ 5)) (vSN (σ 5)) (vSC (σ 5)))) 9 (.slice x9 x9n x9c)) 10 (.int .i64 x10)) 11 (.int .i64 (vI (σ 11))))=σ:=by rw [upd_id kk0,upd_id (ok_slice kk3),upd_id kk1,upd_id kk2,upd_id (ok_int kk4)]
    exact cast (congrArg (fun s=>vcS Tryz.prog w0 qs28 (sub c28 [1,1,0,1,0,0]) s m (lq28_11010 R x0 x0n x0c x9 x9n x9c x10 I0 E0_0 n0)) es) (cast (by kernel_rfl) (h_s n0 σ (vSA (σ 5)) (vSN (σ 5)) (vSC (σ 5)) (vI (σ 11)) m hI))

def qs71:Nat→List (Nat × Nat):=fun i=>match i with | _=>[]
noncomputable def c71:Code:=bodyOf Tryz.f71
theorem cf71 (w0:World) (m:AM) (x0:Int) (x1:Int) (pc:Nat) (R:Value→AM→Prop) (h :
 ∃ (A1:Option Addr) (n2 c3:Nat),m.cell ⟨pc,0,none⟩=some (.slice A1 n2 c3) ∧ 
 ((0:Int)≤x0∧x0<((n2:Nat):Int))∧nilO A1 fun a4 =>
 LA_ m (a4.add ((x0:Int).toNat*1)) fun i5 => 
 ∃ (A6:Option Addr) (n7 c8:Nat),m.cell ⟨pc,0,none⟩=some (.slice A6 n7 c8) ∧ 
 ((0:Int)≤x1∧x1<((n7:Nat):Int))∧nilO A6 fun a9 =>
 LA_ m (a9.add ((x1:Int).toNat*1)) fun i10 => 
 KI_∧RetP R (.bool (decide ((i5:Int)>i10))) m):CallsA Tryz.prog w0 71 #[.int .i64 x0,.int .i64 x1,pt_ pc] m R :=
  callsA_of (c:=c71) (args:=[.int .i64 x0,.int .i64 x1,pt_ pc]) (by kernel_rfl) Tryz.func71 (by kernel_rfl) qs71 (by kernel_rfl) (by kernel_rfl) (cast (by kernel_rfl) h)

def qs45:Nat→List (Nat × Nat):=fun i=>match i with | _=>[]
noncomputable def c45:Code:=bodyOf Tryz.f45
theorem cf45 (w0:World) (m:AM) (x0:Option Addr) (x0n x0c:Nat) (R:Value→AM→Prop) (h :
 CallsA Tryz.prog w0 67 #[.slice x0 x0n x0c] m fun r4 m5 =>
 ∃ (A1:Option Addr) (n2 c3:Nat),r4=.slice A1 n2 c3∧∀ b6:Nat,w0.heap.size≤b6→m5 b6=none→let m7:=AM.upd m5 b6 (.cells #[.slice none 0 0] 23);
 StC w0.heap.size m7 ⟨b6,0,none⟩ (.slice A1 n2 c3) fun m8 =>
 true=true∧∀ b9:Nat,w0.heap.size≤b9→m8 b9=none→let m10:=AM.upd m8 b9 (.cells #[.int .i64 (-1)] 3);
 CallsA Tryz.prog w0 68 #[.slice (some ⟨b9,0,none⟩) 1 1,.int .i64 ((x0n:Nat):Int)] m10 fun r14 m15 =>
 ∃ (A11:Option Addr) (n12 c13:Nat),r14=.slice A11 n12 c13∧vcS Tryz.prog w0 qs45 (sub c45 [1,1,1,1,0,1,0]) (upd (upd (upd (upd (upd (upd (upd (upd (upd (upd (upd (upd (upd (argS [.slice x0 x0n x0c]) 2 (.slice none 0 0)) 11 (.slice x0 x0n x0c)) 12 (.slice A1 n2 c3)) 3 (pt_ b6)) 13 (.slice (some ⟨b9,0,none⟩) 1 1)) 14 (.slice x0 x0n x0c)) 15 (.int .i64 ((x0n:Nat):Int))) 16 (.slice A11 n12 c13)) 4 (.slice A11 n12 c13)) 5 (.slice none 0 0)) 17 (.slice x0 x0n x0c)) 18 (.int .i64 ((x0n:Nat):Int))) 6 (.int .i64 ((x0n:Nat):Int))) m15 (blockS 0 (thenS (fun σ m=>vcS Tryz.prog w0 qs45 (sub c45 [1,1,1,1,1]) σ m (retQ Tryz.prog Tryz.f45 R)) (retQ Tryz.prog Tryz.f45 R)))):CallsA Tryz.prog w0 45 #[.slice x0 x0n x0c] m R :=
  callsA_of (c:=c45) (args:=[.slice x0 x0n x0c]) (by kernel_rfl) Tryz.func45 (by kernel_rfl) qs45 (by kernel_rfl) (by kernel_rfl) (cast (by kernel_rfl) h)
def lq45_1111010 (R:Value→AM→Prop) (x0:Option Addr) (x0n x0c:Nat) (x3:Nat) (x4:Option Addr) (x4n x4c:Nat) (I0:Nat→Option Addr→Nat→Nat→Int→AM→Prop) (E0_0:Option Addr→Nat→Nat→AM→Prop) (n0:Nat):Exit→Sg→AM→Prop
 | .normal,σ,m=>σ 0=.slice x0 x0n x0c∧σ 3=.pointer (some ⟨x3,0,none⟩)∧σ 4=.slice x4 x4n x4c∧okS (σ 5)=true∧okI .i64 (σ 6)=true∧∃ n':Nat,n'<n0∧I0 n' (vSA (σ 5)) (vSN (σ 5)) (vSC (σ 5)) (vI (σ 6)) m
 | .exit id,σ,m=>if id=0 then σ 0=.slice x0 x0n x0c∧σ 3=.pointer (some ⟨x3,0,none⟩)∧σ 4=.slice x4 x4n x4c∧okS (σ 5)=true∧E0_0 (vSA (σ 5)) (vSN (σ 5)) (vSC (σ 5)) m else False
 | .ret,σ,m=>retQ Tryz.prog Tryz.f45 R .ret σ m
 | _,_,_=>False
theorem vl45_1111010 (w0:World) (m:AM) (σ:Sg) (R:Value→AM→Prop)  (x0:Option Addr) (x0n x0c:Nat) (x3:Nat) (x4:Option Addr) (x4n x4c:Nat) (x5:Option Addr) (x5n x5c:Nat) (x6:Int) (I0:Nat→Option Addr→Nat→Nat→Int→AM→Prop) (E0_0:Option Addr→Nat→Nat→AM→Prop) (N:Nat) (h0:σ 0=.slice x0 x0n x0c) (h3:σ 3=.pointer (some ⟨x3,0,none⟩)) (h4:σ 4=.slice x4 x4n x4c) (h5:σ 5=.slice x5 x5n x5c) (h6:σ 6=.int .i64 x6)
 (h_0:I0 N x5 x5n x5c x6 m)
 (h_s:∀ (n0:Nat) (σ:Sg) (x5:Option Addr) (x5n:Nat) (x5c:Nat) (x6:Int) (m:AM),I0 n0 x5 x5n x5c x6 m→(
 KI_∧(bcase (decide ((x6:Int)>0)) (
 ∀ b16:Nat,w0.heap.size≤b16→m b16=none→let m17:=AM.upd m b16 (.cells #[.map none,.slice none 0 0] 91);
 vcS Tryz.prog w0 qs45 (sub c45 [1,1,1,1,0,1,0,0,1,0,1,0,1,0]) (upd (upd (upd (upd (upd (upd (upd (upd (upd (upd (upd σ 0 (.slice x0 x0n x0c)) 3 (pt_ x3)) 4 (.slice x4 x4n x4c)) 5 (.slice x5 x5n x5c)) 6 (.int .i64 x6)) 19 (.int .i64 x6)) 20 (.bool (decide ((x6:Int)>0)))) 7 (pt_ b16)) 21 (.slice x0 x0n x0c)) 22 (.int .i64 ((x0n:Nat):Int))) 23 (.int .i64 0)) m17 (blockS 2 (thenS (fun σ m=>vcS Tryz.prog w0 qs45 (sub c45 [1,1,1,1,0,1,0,0,1,0,1,1]) σ m (blockS 1 (lq45_1111010 R x0 x0n x0c x3 x4 x4n x4c I0 E0_0 n0))) (blockS 1 (lq45_1111010 R x0 x0n x0c x3 x4 x4n x4c I0 E0_0 n0))))) (
 (.slice x0 x0n x0c:Value)=.slice x0 x0n x0c∧(.pointer (some ⟨x3,0,none⟩):Value)=.pointer (some ⟨x3,0,none⟩)∧(.slice x4 x4n x4c:Value)=.slice x4 x4n x4c∧true=true∧E0_0 x5 x5n x5c m))))
 (h_e0:∀ (σ:Sg) (x5:Option Addr) (x5n:Nat) (x5c:Nat) (m:AM),E0_0 x5 x5n x5c m→(
 RetP R (.slice x5 x5n x5c) m)) :
 vcS Tryz.prog w0 qs45 (sub c45 [1,1,1,1,0,1,0]) σ m (blockS 0 (thenS (fun σ m=>vcS Tryz.prog w0 qs45 (sub c45 [1,1,1,1,1]) σ m (retQ Tryz.prog Tryz.f45 R)) (retQ Tryz.prog Tryz.f45 R))):=by
  rw [show sub c45 [1,1,1,1,0,1,0]=.loop (sub c45 [1,1,1,1,0,1,0,0]) from by kernel_rfl]
  refine loopQ (fun n0 σ m=>σ 0=.slice x0 x0n x0c∧σ 3=.pointer (some ⟨x3,0,none⟩)∧σ 4=.slice x4 x4n x4c∧okS (σ 5)=true∧okI .i64 (σ 6)=true∧I0 n0 (vSA (σ 5)) (vSN (σ 5)) (vSC (σ 5)) (vI (σ 6)) m) N (fun n0=>(lq45_1111010 R x0 x0n x0c x3 x4 x4n x4c I0 E0_0 n0)) ⟨h0,h3,h4,(by rw [h5]; rfl),(by rw [h6]; rfl),(by rw [h5,h6]; exact h_0)⟩ ?_ ?_ ?_
  · rintro n0 σ m ⟨kk0,kk1,kk2,kk3,kk4,n',hlt,hI⟩; exact ⟨n',hlt,kk0,kk1,kk2,kk3,kk4,hI⟩
  · intro n0 e σ m hne h
    cases e with
    | normal=>exact absurd rfl hne
    | ret=>exact h
    | exit id =>
      by_cases e0:id=0
      · subst e0
        obtain ⟨kk0,kk1,kk2,kk3,hE⟩:=h
        have es:(upd (upd (upd (upd σ 0 (.slice x0 x0n x0c)) 3 (pt_ x3)) 4 (.slice x4 x4n x4c)) 5 (.slice (vSA (σ 5)) (vSN (σ 5)) (vSC (σ 5))))=σ:=by rw [upd_id kk0,upd_id kk1,upd_id kk2,upd_id (ok_slice kk3)]
        exact cast (congrArg (fun s=>(blockS 0 (thenS (fun σ m=>vcS Tryz.prog w0 qs45 (sub c45 [1,1,1,1,1]) σ m (retQ Tryz.prog Tryz.f45 R)) (retQ Tryz.prog Tryz.f45 R))) (.exit 0) s m) es) (cast (by kernel_rfl) (h_e0 σ (vSA (σ 5)) (vSN (σ 5)) (vSC (σ 5)) m hE))
      · replace h:=(if_neg e0:(if id=0 then _ else _)=_).mp h
        exact False.elim h
    | _=>exact False.elim h
  · rintro n0 σ m ⟨kk0,kk1,kk2,kk3,kk4,hI⟩
    have es:(upd (upd (upd (upd (upd σ 0 (.slice x0 x0n x0c)) 3 (pt_ x3)) 4 (.slice x4 x4n x4c)) 5 (.slice (vSA (σ 5)) (vSN (σ 5)) (vSC (σ 5)))) 6 (.int .i64 (vI (σ 6))))=σ:=by rw [upd_id kk0,upd_id kk1,upd_id kk2,upd_id (ok_slice kk3),upd_id (ok_int kk4)]
    exact cast (congrArg (fun s=>vcS Tryz.prog w0 qs45 (sub c45 [1,1,1,1,0,1,0,0]) s m (lq45_1111010 R x0 x0n x0c x3 x4 x4n x4c I0 E0_0 n0)) es) (cast (by kernel_rfl) (h_s n0 σ (vSA (σ 5)) (vSN (σ 5)) (vSC (σ 5)) (vI (σ 6)) m hI))
def lq45_11110100101010 (R:Value→AM→Prop) (x0:Option Addr) (x0n x0c:Nat) (x3:Nat) (x4:Option Addr) (x4n x4c:Nat) (x5:Option Addr) (x5n x5c:Nat) (x6:Int) (x7:Nat) (x22:Int) (I1:Nat→Int→AM→Prop) (E1_2:AM→Prop) (n1:Nat):Exit→Sg→AM→Prop
 | .normal,σ,m=>σ 0=.slice x0 x0n x0c∧σ 3=.pointer (some ⟨x3,0,none⟩)∧σ 4=.slice x4 x4n x4c∧σ 5=.slice x5 x5n x5c∧σ 6=.int .i64 x6∧σ 7=.pointer (some ⟨x7,0,none⟩)∧σ 22=.int .i64 x22∧okI .i64 (σ 23)=true∧∃ n':Nat,n'<n1∧I1 n' (vI (σ 23)) m
 | .exit id,σ,m=>if id=2 then σ 0=.slice x0 x0n x0c∧σ 3=.pointer (some ⟨x3,0,none⟩)∧σ 4=.slice x4 x4n x4c∧σ 5=.slice x5 x5n x5c∧σ 6=.int .i64 x6∧σ 7=.pointer (some ⟨x7,0,none⟩)∧σ 22=.int .i64 x22∧E1_2  m else False
 | .ret,σ,m=>retQ Tryz.prog Tryz.f45 R .ret σ m
 | _,_,_=>False
theorem vl45_11110100101010 (w0:World) (m:AM) (σ:Sg) (R:Value→AM→Prop) (n0:Nat) (I0:Nat→Option Addr→Nat→Nat→Int→AM→Prop) (E0_0:Option Addr→Nat→Nat→AM→Prop) (x0:Option Addr) (x0n x0c:Nat) (x3:Nat) (x4:Option Addr) (x4n x4c:Nat) (x5:Option Addr) (x5n x5c:Nat) (x6:Int) (x7:Nat) (x22:Int) (x23:Int) (I1:Nat→Int→AM→Prop) (E1_2:AM→Prop) (N:Nat) (h0:σ 0=.slice x0 x0n x0c) (h3:σ 3=.pointer (some ⟨x3,0,none⟩)) (h4:σ 4=.slice x4 x4n x4c) (h5:σ 5=.slice x5 x5n x5c) (h6:σ 6=.int .i64 x6) (h7:σ 7=.pointer (some ⟨x7,0,none⟩)) (h22:σ 22=.int .i64 x22) (h23:σ 23=.int .i64 x23)
 (h_0:I1 N x23 m)
 (h_s:∀ (n1:Nat) (σ:Sg) (x23:Int) (m:AM),I1 n1 x23 m→(
 KI_∧(bcase (decide ((x23:Int)<x22)) (
 CallsA Tryz.prog w0 69 #[.slice x0 x0n x0c,.slice x4 x4n x4c,.int .i64 x23,.int .i64 ((x5n:Nat):Int)] m fun r19 m20 =>
 ∃ t18:Bool,r19=.bool t18∧(bcase t18 (
 CallsA Tryz.prog w0 61 #[pt_ x7,.int .i64 x23] m20 fun r22 m23 =>
 ∃ t21:Bool,r22=.bool t21∧KI_∧(.slice x0 x0n x0c:Value)=.slice x0 x0n x0c∧(.pointer (some ⟨x3,0,none⟩):Value)=.pointer (some ⟨x3,0,none⟩)∧(.slice x4 x4n x4c:Value)=.slice x4 x4n x4c∧(.slice x5 x5n x5c:Value)=.slice x5 x5n x5c∧(.int .i64 x6:Value)=.int .i64 x6∧(.pointer (some ⟨x7,0,none⟩):Value)=.pointer (some ⟨x7,0,none⟩)∧(.int .i64 x22:Value)=.int .i64 x22∧true=true∧∃ n':Nat,n'<n1∧I1 n' (IntKind.wrap .i64 (x23+1)) m23) (
 KI_∧(.slice x0 x0n x0c:Value)=.slice x0 x0n x0c∧(.pointer (some ⟨x3,0,none⟩):Value)=.pointer (some ⟨x3,0,none⟩)∧(.slice x4 x4n x4c:Value)=.slice x4 x4n x4c∧(.slice x5 x5n x5c:Value)=.slice x5 x5n x5c∧(.int .i64 x6:Value)=.int .i64 x6∧(.pointer (some ⟨x7,0,none⟩):Value)=.pointer (some ⟨x7,0,none⟩)∧(.int .i64 x22:Value)=.int .i64 x22∧true=true∧∃ n':Nat,n'<n1∧I1 n' (IntKind.wrap .i64 (x23+1)) m20))) (
 (.slice x0 x0n x0c:Value)=.slice x0 x0n x0c∧(.pointer (some ⟨x3,0,none⟩):Value)=.pointer (some ⟨x3,0,none⟩)∧(.slice x4 x4n x4c:Value)=.slice x4 x4n x4c∧(.slice x5 x5n x5c:Value)=.slice x5 x5n x5c∧(.int .i64 x6:Value)=.int .i64 x6∧(.pointer (some ⟨x7,0,none⟩):Value)=.pointer (some ⟨x7,0,none⟩)∧(.int .i64 x22:Value)=.int .i64 x22∧E1_2  m))))
 (h_e2:∀ (σ:Sg)  (m:AM),E1_2  m→(
 CallsA Tryz.prog w0 64 #[pt_ x7] m fun r25 m26 =>
 ∃ v24:Value,r25=v24∧CallsA Tryz.prog w0 70 #[v24,.func (.func 71) #[] #[pt_ x3]] m26 fun r29 m30 =>
 ∃ i27:Int,∃ t28:Bool,r29=.tuple #[.int .i64 i27,.bool t28]∧(bcase (!t28) (
 true=true∧∀ b33:Nat,w0.heap.size≤b33→m30 b33=none→let m34:=AM.upd m30 b33 (.cells #[.int .i64 (-1)] 3);
 awp Tryz.prog w0.heap.size (Builtin.append_ #[23,23] 23 #[.slice x5 x5n x5c,.slice (some ⟨b33,0,none⟩) 1 1]) m34 fun v35 m36 =>
 ∃ (A37:Option Addr) (n38 c39:Nat),v35=.slice A37 n38 c39∧(.slice x0 x0n x0c:Value)=.slice x0 x0n x0c∧(.pointer (some ⟨x3,0,none⟩):Value)=.pointer (some ⟨x3,0,none⟩)∧(.slice x4 x4n x4c:Value)=.slice x4 x4n x4c∧true=true∧true=true∧∃ n':Nat,n'<n0∧I0 n' A37 n38 c39 x6 m36) (
 ((0:Int)≤i27∧i27<((x4n:Nat):Int))∧nilO x4 fun a40 =>
 StC w0.heap.size m30 (a40.add ((i27:Int).toNat*1)) (.int .i64 ((x5n:Nat):Int)) fun m41 =>
 true=true∧∀ b42:Nat,w0.heap.size≤b42→m41 b42=none→let m43:=AM.upd m41 b42 (.cells #[.int .i64 i27] 3);
 awp Tryz.prog w0.heap.size (Builtin.append_ #[23,23] 23 #[.slice x5 x5n x5c,.slice (some ⟨b42,0,none⟩) 1 1]) m43 fun v44 m45 =>
 ∃ (A46:Option Addr) (n47 c48:Nat),v44=.slice A46 n47 c48∧KI_∧(.slice x0 x0n x0c:Value)=.slice x0 x0n x0c∧(.pointer (some ⟨x3,0,none⟩):Value)=.pointer (some ⟨x3,0,none⟩)∧(.slice x4 x4n x4c:Value)=.slice x4 x4n x4c∧true=true∧true=true∧∃ n':Nat,n'<n0∧I0 n' A46 n47 c48 (IntKind.wrap .i64 (x6-1)) m45)))) :
 vcS Tryz.prog w0 qs45 (sub c45 [1,1,1,1,0,1,0,0,1,0,1,0,1,0]) σ m (blockS 2 (thenS (fun σ m=>vcS Tryz.prog w0 qs45 (sub c45 [1,1,1,1,0,1,0,0,1,0,1,1]) σ m (blockS 1 (lq45_1111010 R x0 x0n x0c x3 x4 x4n x4c I0 E0_0 n0))) (blockS 1 (lq45_1111010 R x0 x0n x0c x3 x4 x4n x4c I0 E0_0 n0)))):=by
  rw [show sub c45 [1,1,1,1,0,1,0,0,1,0,1,0,1,0]=.loop (sub c45 [1,1,1,1,0,1,0,0,1,0,1,0,1,0,0]) from by kernel_rfl]
  refine loopQ (fun n1 σ m=>σ 0=.slice x0 x0n x0c∧σ 3=.pointer (some ⟨x3,0,none⟩)∧σ 4=.slice x4 x4n x4c∧σ 5=.slice x5 x5n x5c∧σ 6=.int .i64 x6∧σ 7=.pointer (some ⟨x7,0,none⟩)∧σ 22=.int .i64 x22∧okI .i64 (σ 23)=true∧I1 n1 (vI (σ 23)) m) N (fun n1=>(lq45_11110100101010 R x0 x0n x0c x3 x4 x4n x4c x5 x5n x5c x6 x7 x22 I1 E1_2 n1)) ⟨h0,h3,h4,h5,h6,h7,h22,(by rw [h23]; rfl),(by rw [h23]; exact h_0)⟩ ?_ ?_ ?_
  · rintro n1 σ m ⟨kk0,kk1,kk2,kk3,kk4,kk5,kk6,kk7,n',hlt,hI⟩; exact ⟨n',hlt,kk0,kk1,kk2,kk3,kk4,kk5,kk6,kk7,hI⟩
  · intro n1 e σ m hne h
    cases e with
    | normal=>exact absurd rfl hne
    | ret=>exact h
    | exit id =>
      by_cases e2:id=2
      · subst e2
        obtain ⟨kk0,kk1,kk2,kk3,kk4,kk5,kk6,hE⟩:=h
        have es:(upd (upd (upd (upd (upd (upd (upd σ 0 (.slice x0 x0n x0c)) 3 (pt_ x3)) 4 (.slice x4 x4n x4c)) 5 (.slice x5 x5n x5c)) 6 (.int .i64 x6)) 7 (pt_ x7)) 22 (.int .i64 x22))=σ:=by rw [upd_id kk0,upd_id kk1,upd_id kk2,upd_id kk3,upd_id kk4,upd_id kk5,upd_id kk6]
        exact cast (congrArg (fun s=>(blockS 2 (thenS (fun σ m=>vcS Tryz.prog w0 qs45 (sub c45 [1,1,1,1,0,1,0,0,1,0,1,1]) σ m (blockS 1 (lq45_1111010 R x0 x0n x0c x3 x4 x4n x4c I0 E0_0 n0))) (blockS 1 (lq45_1111010 R x0 x0n x0c x3 x4 x4n x4c I0 E0_0 n0)))) (.exit 2) s m) es) (cast (by kernel_rfl) (h_e2 σ  m hE))
      · replace h:=(if_neg e2:(if id=2 then _ else _)=_).mp h
        exact False.elim h
    | _=>exact False.elim h
  · rintro n1 σ m ⟨kk0,kk1,kk2,kk3,kk4,kk5,kk6,kk7,hI⟩
    have es:(upd (upd (upd (upd (upd (upd (upd (upd σ 0 (.slice x0 x0n x0c)) 3 (pt_ x3)) 4 (.slice x4 x4n x4c)) 5 (.slice x5 x5n x5c)) 6 (.int .i64 x6)) 7 (pt_ x7)) 22 (.int .i64 x22)) 23 (.int .i64 (vI (σ 23))))=σ:=by rw [upd_id kk0,upd_id kk1,upd_id kk2,upd_id kk3,upd_id kk4,upd_id kk5,upd_id kk6,upd_id (ok_int kk7)]
    exact cast (congrArg (fun s=>vcS Tryz.prog w0 qs45 (sub c45 [1,1,1,1,0,1,0,0,1,0,1,0,1,0,0]) s m (lq45_11110100101010 R x0 x0n x0c x3 x4 x4n x4c x5 x5n x5c x6 x7 x22 I1 E1_2 n1)) es) (cast (by kernel_rfl) (h_s n1 σ (vI (σ 23)) m hI))

def qs27:Nat→List (Nat × Nat):=fun i=>match i with | 1000016=>[(0,0)] | _=>[]
noncomputable def c27:Code:=bodyOf Tryz.f27
theorem cf27 (w0:World) (m:AM) (x0:Option Addr) (x0n x0c:Nat) (R:Value→AM→Prop) (h :
 KI_∧(bcase ((((x0n:Nat):Int):Int) == 0) (
 RetP R (.slice none 0 0) m) (
 KI_∧((0:Int)≤(IntKind.wrap .i64 (((x0n:Nat):Int)-1))∧(IntKind.wrap .i64 (((x0n:Nat):Int)-1))<((x0n:Nat):Int))∧nilO x0 fun a1 =>
 ∃ i2:Int,m.cell (a1.add ((IntKind.wrap .i64 (((x0n:Nat):Int)-1):Int).toNat*5))=some (.int .i64 i2)∧∃ i3:Int,m.cell ((a1.add ((IntKind.wrap .i64 (((x0n:Nat):Int)-1):Int).toNat*5)).add 1)=some (.int .i64 i3)∧∃ i4:Int,m.cell ((a1.add ((IntKind.wrap .i64 (((x0n:Nat):Int)-1):Int).toNat*5)).add 2)=some (.int .i64 i4)∧∃ i5:Int,m.cell ((a1.add ((IntKind.wrap .i64 (((x0n:Nat):Int)-1):Int).toNat*5)).add 3)=some (.int .i64 i5)∧∃ i6:Int,m.cell ((a1.add ((IntKind.wrap .i64 (((x0n:Nat):Int)-1):Int).toNat*5)).add 4)=some (.int .i64 i6) ∧ 
 ∀ b7:Nat,w0.heap.size≤b7→m b7=none→let m8:=AM.upd m b7 (.cells #[.int .i64 0,.int .i64 0,.int .i64 0,.int .i64 0,.int .i64 0] 36);
 SI_ w0.heap.size m8 b7 0 i2 fun m9 =>
 SI_ w0.heap.size m9 b7 1 i3 fun m10 =>
 SI_ w0.heap.size m10 b7 2 i4 fun m11 =>
 SI_ w0.heap.size m11 b7 3 i5 fun m12 =>
 SI_ w0.heap.size m12 b7 4 i6 fun m13 =>
 LI_ m13 b7 0 fun i14=>LI_ m13 b7 1 fun i15=>LI_ m13 b7 2 fun i16=>LI_ m13 b7 3 fun i17=>LI_ m13 b7 4 fun i18 => 
 CallsA Tryz.prog w0 44 #[.agg #[.int .i64 i14,.int .i64 i15,.int .i64 i16,.int .i64 i17,.int .i64 i18]] m13 fun r20 m21 =>
 ∃ t19:Bool,r20=.bool t19∧(bcase (!t19) (
 CallsA Tryz.prog w0 45 #[.slice x0 x0n x0c] m21 fun r25 m26 =>
 ∃ (A22:Option Addr) (n23 c24:Nat),r25=.slice A22 n23 c24∧KI_∧((0:Int)≤(IntKind.wrap .i64 (((n23:Nat):Int)-1))∧(IntKind.wrap .i64 (((n23:Nat):Int)-1))<((n23:Nat):Int))∧nilO A22 fun a27 =>
 ∃ i28:Int,m26.cell (a27.add ((IntKind.wrap .i64 (((n23:Nat):Int)-1):Int).toNat*1))=some (.int .i64 i28) ∧ 
 KI_∧(bcase (decide ((i28:Int)≥0)) (
 ((0:Int)≤i28∧i28<((x0n:Nat):Int))∧nilO x0 fun a29 =>
 LA_ m26 (a29.add ((i28:Int).toNat*5)) fun i30=>∃ i31:Int,m26.cell ((a29.add ((i28:Int).toNat*5)).add 1)=some (.int .i64 i31)∧∃ i32:Int,m26.cell ((a29.add ((i28:Int).toNat*5)).add 2)=some (.int .i64 i32)∧∃ i33:Int,m26.cell ((a29.add ((i28:Int).toNat*5)).add 3)=some (.int .i64 i33)∧∃ i34:Int,m26.cell ((a29.add ((i28:Int).toNat*5)).add 4)=some (.int .i64 i34) ∧ 
 CallsA Tryz.prog w0 46 #[.agg #[.int .i64 i30,.int .i64 i31,.int .i64 i32,.int .i64 i33,.int .i64 i34]] m26 fun r36 m37 =>
 ∃ t35:Bool,r36=.bool t35∧(bcase (bif decide ((i28:Int)≥0) then t35 else false) (
 true=true∧∀ b38:Nat,w0.heap.size≤b38→m37 b38=none→let m39:=AM.upd m37 b38 (.cells #[.int .i64 (-1)] 3);
 awp Tryz.prog w0.heap.size (Builtin.append_ #[23,23] 23 #[.slice A22 n23 c24,.slice (some ⟨b38,0,none⟩) 1 1]) m39 fun v40 m41 =>
 ∃ (A42:Option Addr) (n43 c44:Nat),v40=.slice A42 n43 c44∧RetP R (.slice A42 n43 c44) m41) (
 RetP R (.slice A22 n23 c24) m37))) (
 (decide ((i28:Int)≥0))=false∧RetP R (.slice A22 n23 c24) m26))) (
 (0:Int)≤(IntKind.wrap .i64 (((x0n:Nat):Int)-1))∧((IntKind.wrap .i64 (((x0n:Nat):Int)-1):Int).toNat)≤x0c∧0≤((IntKind.wrap .i64 (((x0n:Nat):Int)-1):Int).toNat) ∧
 CallsA Tryz.prog w0 45 #[.slice (if x0c=0 then x0 else Option.map (fun x=>Addr.add x (0*5)) x0) (((IntKind.wrap .i64 (((x0n:Nat):Int)-1):Int).toNat)-0) (x0c-0)] m21 fun r48 m49 =>
 ∃ (A45:Option Addr) (n46 c47:Nat),r48=.slice A45 n46 c47∧KI_∧KI_∧(bcase (decide (((IntKind.wrap .i64 (((n46:Nat):Int)-1)):Int)≥0)) (
 ((0:Int)≤(IntKind.wrap .i64 (((n46:Nat):Int)-1))∧(IntKind.wrap .i64 (((n46:Nat):Int)-1))<((n46:Nat):Int))∧nilO A45 fun a50 =>
 ∃ i51:Int,m49.cell (a50.add ((IntKind.wrap .i64 (((n46:Nat):Int)-1):Int).toNat*1))=some (.int .i64 i51) ∧ 
 ((0:Int)≤i51∧i51<((x0n:Nat):Int))∧nilO x0 fun a52 =>
 LA_ m49 (a52.add ((i51:Int).toNat*5)) fun i53=>∃ i54:Int,m49.cell ((a52.add ((i51:Int).toNat*5)).add 1)=some (.int .i64 i54)∧∃ i55:Int,m49.cell ((a52.add ((i51:Int).toNat*5)).add 2)=some (.int .i64 i55)∧∃ i56:Int,m49.cell ((a52.add ((i51:Int).toNat*5)).add 3)=some (.int .i64 i56)∧∃ i57:Int,m49.cell ((a52.add ((i51:Int).toNat*5)).add 4)=some (.int .i64 i57) ∧ 
 ∀ b58:Nat,w0.heap.size≤b58→m49 b58=none→let m59:=AM.upd m49 b58 (.cells #[.int .i64 0,.int .i64 0,.int .i64 0,.int .i64 0,.int .i64 0] 36);
 SI_ w0.heap.size m59 b58 0 i53 fun m60 =>
 SI_ w0.heap.size m60 b58 1 i54 fun m61 =>
 SI_ w0.heap.size m61 b58 2 i55 fun m62 =>
 SI_ w0.heap.size m62 b58 3 i56 fun m63 =>
 SI_ w0.heap.size m63 b58 4 i57 fun m64 =>
 LI_ m64 b58 0 fun i65=>LI_ m64 b58 1 fun i66=>LI_ m64 b58 2 fun i67=>LI_ m64 b58 3 fun i68=>LI_ m64 b58 4 fun i69 => 
 CallsA Tryz.prog w0 46 #[.agg #[.int .i64 i65,.int .i64 i66,.int .i64 i67,.int .i64 i68,.int .i64 i69]] m64 fun r71 m72 =>
 ∃ t70:Bool,r71=.bool t70∧(bcase (!t70) (
 LI_ m72 b58 0 fun i73=>LI_ m72 b58 1 fun i74=>LI_ m72 b58 2 fun i75=>LI_ m72 b58 3 fun i76=>LI_ m72 b58 4 fun i77 => 
 LI_ m72 b7 0 fun i78=>LI_ m72 b7 1 fun i79=>LI_ m72 b7 2 fun i80=>LI_ m72 b7 3 fun i81=>LI_ m72 b7 4 fun i82 => 
 CallsA Tryz.prog w0 47 #[.agg #[.int .i64 i73,.int .i64 i74,.int .i64 i75,.int .i64 i76,.int .i64 i77],.agg #[.int .i64 i78,.int .i64 i79,.int .i64 i80,.int .i64 i81,.int .i64 i82]] m72 fun r84 m85 =>
 ∃ i83:Int,r84=.int .i64 i83∧KI_∧(bcase (bif !t70 then (i83:Int) == 0 else false) (
 (0:Int)≤(IntKind.wrap .i64 (((n46:Nat):Int)-1))∧((IntKind.wrap .i64 (((n46:Nat):Int)-1):Int).toNat)≤c47∧0≤((IntKind.wrap .i64 (((n46:Nat):Int)-1):Int).toNat) ∧
 LI_ m85 b7 0 fun i86=>LI_ m85 b7 1 fun i87=>LI_ m85 b7 2 fun i88=>LI_ m85 b7 3 fun i89=>LI_ m85 b7 4 fun i90 => 
 CallsA Tryz.prog w0 48 #[.slice x0 x0n x0c,.slice (if c47=0 then A45 else Option.map (fun x=>Addr.add x (0*1)) A45) (((IntKind.wrap .i64 (((n46:Nat):Int)-1):Int).toNat)-0) (c47-0),.agg #[.int .i64 i86,.int .i64 i87,.int .i64 i88,.int .i64 i89,.int .i64 i90],.int .i64 (IntKind.wrap .i64 (((n46:Nat):Int)-1))] m85 fun r92 m93 =>
 ∃ t91:Bool,r92=.bool t91∧vcS Tryz.prog w0 qs27 (sub c27 [1,1,1,1,1,1,0,1,1,0,1,1]) (upd (upd (upd (upd (upd (upd (upd (upd (upd (upd (upd (upd (upd (upd (upd (upd (upd (upd (upd (upd (upd (upd (upd (upd (upd (upd (upd (upd (upd (upd (upd (upd (upd (upd (upd (upd (upd (upd (upd (upd (upd (upd (upd (upd (upd (upd (upd (upd (upd (upd (upd (upd (upd (argS [.slice x0 x0n x0c]) 2 (.slice none 0 0)) 10 (.slice x0 x0n x0c)) 11 (.int .i64 ((x0n:Nat):Int))) 12 (.bool ((((x0n:Nat):Int):Int) == 0))) 13 (.slice x0 x0n x0c)) 14 (.int .i64 ((x0n:Nat):Int))) 15 (.int .i64 (IntKind.wrap .i64 (((x0n:Nat):Int)-1)))) 3 (.int .i64 (IntKind.wrap .i64 (((x0n:Nat):Int)-1)))) 16 (.slice x0 x0n x0c)) 17 (.int .i64 (IntKind.wrap .i64 (((x0n:Nat):Int)-1)))) 18 (.pointer (some (a1.add ((IntKind.wrap .i64 (((x0n:Nat):Int)-1):Int).toNat*5))))) 19 (.agg #[.int .i64 i2,.int .i64 i3,.int .i64 i4,.int .i64 i5,.int .i64 i6])) 4 (pt_ b7)) 20 (.agg #[.int .i64 i14,.int .i64 i15,.int .i64 i16,.int .i64 i17,.int .i64 i18])) 21 (.bool t19)) 22 (.bool (!t19))) 44 (.slice x0 x0n x0c)) 45 (.int .i64 (IntKind.wrap .i64 (((x0n:Nat):Int)-1)))) 46 (.slice (if x0c=0 then x0 else Option.map (fun x=>Addr.add x (0*5)) x0) (((IntKind.wrap .i64 (((x0n:Nat):Int)-1):Int).toNat)-0) (x0c-0))) 47 (.slice A45 n46 c47)) 7 (.slice A45 n46 c47)) 48 (.slice A45 n46 c47)) 49 (.int .i64 ((n46:Nat):Int))) 50 (.int .i64 (IntKind.wrap .i64 (((n46:Nat):Int)-1)))) 8 (.int .i64 (IntKind.wrap .i64 (((n46:Nat):Int)-1)))) 51 (.int .i64 (IntKind.wrap .i64 (((n46:Nat):Int)-1)))) 52 (.bool (decide (((IntKind.wrap .i64 (((n46:Nat):Int)-1)):Int)≥0)))) 53 (.slice x0 x0n x0c)) 54 (.slice A45 n46 c47)) 55 (.int .i64 (IntKind.wrap .i64 (((n46:Nat):Int)-1)))) 56 (.pointer (some (a50.add ((IntKind.wrap .i64 (((n46:Nat):Int)-1):Int).toNat*1))))) 57 (.int .i64 i51)) 58 (.pointer (some (a52.add ((i51:Int).toNat*5))))) 59 (.agg #[.int .i64 i53,.int .i64 i54,.int .i64 i55,.int .i64 i56,.int .i64 i57])) 9 (pt_ b58)) 60 (.agg #[.int .i64 i65,.int .i64 i66,.int .i64 i67,.int .i64 i68,.int .i64 i69])) 61 (.bool t70)) 62 (.bool (!t70))) 63 (.bool (!t70))) 64 (.agg #[.int .i64 i73,.int .i64 i74,.int .i64 i75,.int .i64 i76,.int .i64 i77])) 65 (.agg #[.int .i64 i78,.int .i64 i79,.int .i64 i80,.int .i64 i81,.int .i64 i82])) 66 (.int .i64 i83)) 67 (.bool ((i83:Int) == 0))) 68 (.bool (bif !t70 then (i83:Int) == 0 else false))) 69 (.bool (bif !t70 then (i83:Int) == 0 else false))) 70 (.slice x0 x0n x0c)) 71 (.slice A45 n46 c47)) 72 (.int .i64 (IntKind.wrap .i64 (((n46:Nat):Int)-1)))) 73 (.slice (if c47=0 then A45 else Option.map (fun x=>Addr.add x (0*1)) A45) (((IntKind.wrap .i64 (((n46:Nat):Int)-1):Int).toNat)-0) (c47-0))) 74 (.agg #[.int .i64 i86,.int .i64 i87,.int .i64 i88,.int .i64 i89,.int .i64 i90])) 75 (.int .i64 (IntKind.wrap .i64 (((n46:Nat):Int)-1)))) 76 (.bool t91)) 77 (.bool (bif bif !t70 then (i83:Int) == 0 else false then t91 else false))) m93 (thenS (fun σ m=>vcS Tryz.prog w0 qs27 (sub c27 [1,1,1,1,1,1,1]) σ m (retQ Tryz.prog Tryz.f27 R)) (retQ Tryz.prog Tryz.f27 R))) (
 (bif !t70 then (i83:Int) == 0 else false)=false∧vcS Tryz.prog w0 qs27 (sub c27 [1,1,1,1,1,1,0,1,1,0,1,1]) (upd (upd (upd (upd (upd (upd (upd (upd (upd (upd (upd (upd (upd (upd (upd (upd (upd (upd (upd (upd (upd (upd (upd (upd (upd (upd (upd (upd (upd (upd (upd (upd (upd (upd (upd (upd (upd (upd (upd (upd (upd (upd (upd (upd (upd (upd (upd (upd (upd (upd (upd (upd (upd (argS [.slice x0 x0n x0c]) 2 (.slice none 0 0)) 10 (.slice x0 x0n x0c)) 11 (.int .i64 ((x0n:Nat):Int))) 12 (.bool ((((x0n:Nat):Int):Int) == 0))) 13 (.slice x0 x0n x0c)) 14 (.int .i64 ((x0n:Nat):Int))) 15 (.int .i64 (IntKind.wrap .i64 (((x0n:Nat):Int)-1)))) 3 (.int .i64 (IntKind.wrap .i64 (((x0n:Nat):Int)-1)))) 16 (.slice x0 x0n x0c)) 17 (.int .i64 (IntKind.wrap .i64 (((x0n:Nat):Int)-1)))) 18 (.pointer (some (a1.add ((IntKind.wrap .i64 (((x0n:Nat):Int)-1):Int).toNat*5))))) 19 (.agg #[.int .i64 i2,.int .i64 i3,.int .i64 i4,.int .i64 i5,.int .i64 i6])) 4 (pt_ b7)) 20 (.agg #[.int .i64 i14,.int .i64 i15,.int .i64 i16,.int .i64 i17,.int .i64 i18])) 21 (.bool t19)) 22 (.bool (!t19))) 44 (.slice x0 x0n x0c)) 45 (.int .i64 (IntKind.wrap .i64 (((x0n:Nat):Int)-1)))) 46 (.slice (if x0c=0 then x0 else Option.map (fun x=>Addr.add x (0*5)) x0) (((IntKind.wrap .i64 (((x0n:Nat):Int)-1):Int).toNat)-0) (x0c-0))) 47 (.slice A45 n46 c47)) 7 (.slice A45 n46 c47)) 48 (.slice A45 n46 c47)) 49 (.int .i64 ((n46:Nat):Int))) 50 (.int .i64 (IntKind.wrap .i64 (((n46:Nat):Int)-1)))) 8 (.int .i64 (IntKind.wrap .i64 (((n46:Nat):Int)-1)))) 51 (.int .i64 (IntKind.wrap .i64 (((n46:Nat):Int)-1)))) 52 (.bool (decide (((IntKind.wrap .i64 (((n46:Nat):Int)-1)):Int)≥0)))) 53 (.slice x0 x0n x0c)) 54 (.slice A45 n46 c47)) 55 (.int .i64 (IntKind.wrap .i64 (((n46:Nat):Int)-1)))) 56 (.pointer (some (a50.add ((IntKind.wrap .i64 (((n46:Nat):Int)-1):Int).toNat*1))))) 57 (.int .i64 i51)) 58 (.pointer (some (a52.add ((i51:Int).toNat*5))))) 59 (.agg #[.int .i64 i53,.int .i64 i54,.int .i64 i55,.int .i64 i56,.int .i64 i57])) 9 (pt_ b58)) 60 (.agg #[.int .i64 i65,.int .i64 i66,.int .i64 i67,.int .i64 i68,.int .i64 i69])) 61 (.bool t70)) 62 (.bool (!t70))) 63 (.bool (!t70))) 64 (.agg #[.int .i64 i73,.int .i64 i74,.int .i64 i75,.int .i64 i76,.int .i64 i77])) 65 (.agg #[.int .i64 i78,.int .i64 i79,.int .i64 i80,.int .i64 i81,.int .i64 i82])) 66 (.int .i64 i83)) 67 (.bool ((i83:Int) == 0))) 68 (.bool (bif !t70 then (i83:Int) == 0 else false))) 69 (.bool (bif !t70 then (i83:Int) == 0 else false))) 70 (undef)) 71 (undef)) 72 (undef)) 73 (undef)) 74 (undef)) 75 (undef)) 76 (undef)) 77 (.bool false)) m85 (thenS (fun σ m=>vcS Tryz.prog w0 qs27 (sub c27 [1,1,1,1,1,1,1]) σ m (retQ Tryz.prog Tryz.f27 R)) (retQ Tryz.prog Tryz.f27 R))))) (
 (!t70)=false∧false=false∧vcS Tryz.prog w0 qs27 (sub c27 [1,1,1,1,1,1,0,1,1,0,1,1]) (upd (upd (upd (upd (upd (upd (upd (upd (upd (upd (upd (upd (upd (upd (upd (upd (upd (upd (upd (upd (upd (upd (upd (upd (upd (upd (upd (upd (upd (upd (upd (upd (upd (upd (upd (upd (upd (upd (upd (upd (upd (upd (upd (upd (upd (upd (upd (upd (upd (upd (upd (upd (upd (argS [.slice x0 x0n x0c]) 2 (.slice none 0 0)) 10 (.slice x0 x0n x0c)) 11 (.int .i64 ((x0n:Nat):Int))) 12 (.bool ((((x0n:Nat):Int):Int) == 0))) 13 (.slice x0 x0n x0c)) 14 (.int .i64 ((x0n:Nat):Int))) 15 (.int .i64 (IntKind.wrap .i64 (((x0n:Nat):Int)-1)))) 3 (.int .i64 (IntKind.wrap .i64 (((x0n:Nat):Int)-1)))) 16 (.slice x0 x0n x0c)) 17 (.int .i64 (IntKind.wrap .i64 (((x0n:Nat):Int)-1)))) 18 (.pointer (some (a1.add ((IntKind.wrap .i64 (((x0n:Nat):Int)-1):Int).toNat*5))))) 19 (.agg #[.int .i64 i2,.int .i64 i3,.int .i64 i4,.int .i64 i5,.int .i64 i6])) 4 (pt_ b7)) 20 (.agg #[.int .i64 i14,.int .i64 i15,.int .i64 i16,.int .i64 i17,.int .i64 i18])) 21 (.bool t19)) 22 (.bool (!t19))) 44 (.slice x0 x0n x0c)) 45 (.int .i64 (IntKind.wrap .i64 (((x0n:Nat):Int)-1)))) 46 (.slice (if x0c=0 then x0 else Option.map (fun x=>Addr.add x (0*5)) x0) (((IntKind.wrap .i64 (((x0n:Nat):Int)-1):Int).toNat)-0) (x0c-0))) 47 (.slice A45 n46 c47)) 7 (.slice A45 n46 c47)) 48 (.slice A45 n46 c47)) 49 (.int .i64 ((n46:Nat):Int))) 50 (.int .i64 (IntKind.wrap .i64 (((n46:Nat):Int)-1)))) 8 (.int .i64 (IntKind.wrap .i64 (((n46:Nat):Int)-1)))) 51 (.int .i64 (IntKind.wrap .i64 (((n46:Nat):Int)-1)))) 52 (.bool (decide (((IntKind.wrap .i64 (((n46:Nat):Int)-1)):Int)≥0)))) 53 (.slice x0 x0n x0c)) 54 (.slice A45 n46 c47)) 55 (.int .i64 (IntKind.wrap .i64 (((n46:Nat):Int)-1)))) 56 (.pointer (some (a50.add ((IntKind.wrap .i64 (((n46:Nat):Int)-1):Int).toNat*1))))) 57 (.int .i64 i51)) 58 (.pointer (some (a52.add ((i51:Int).toNat*5))))) 59 (.agg #[.int .i64 i53,.int .i64 i54,.int .i64 i55,.int .i64 i56,.int .i64 i57])) 9 (pt_ b58)) 60 (.agg #[.int .i64 i65,.int .i64 i66,.int .i64 i67,.int .i64 i68,.int .i64 i69])) 61 (.bool t70)) 62 (.bool (!t70))) 63 (.bool (!t70))) 64 (undef)) 65 (undef)) 66 (undef)) 67 (undef)) 68 (.bool false)) 69 (.bool false)) 70 (undef)) 71 (undef)) 72 (undef)) 73 (undef)) 74 (undef)) 75 (undef)) 76 (undef)) 77 (.bool false)) m72 (thenS (fun σ m=>vcS Tryz.prog w0 qs27 (sub c27 [1,1,1,1,1,1,1]) σ m (retQ Tryz.prog Tryz.f27 R)) (retQ Tryz.prog Tryz.f27 R))))) (
 vcS Tryz.prog w0 qs27 (sub c27 [1,1,1,1,1,1,1]) (upd (upd (upd (upd (upd (upd (upd (upd (upd (upd (upd (upd (upd (upd (upd (upd (upd (upd (upd (upd (upd (upd (upd (upd (upd (upd (upd (argS [.slice x0 x0n x0c]) 2 (.slice none 0 0)) 10 (.slice x0 x0n x0c)) 11 (.int .i64 ((x0n:Nat):Int))) 12 (.bool ((((x0n:Nat):Int):Int) == 0))) 13 (.slice x0 x0n x0c)) 14 (.int .i64 ((x0n:Nat):Int))) 15 (.int .i64 (IntKind.wrap .i64 (((x0n:Nat):Int)-1)))) 3 (.int .i64 (IntKind.wrap .i64 (((x0n:Nat):Int)-1)))) 16 (.slice x0 x0n x0c)) 17 (.int .i64 (IntKind.wrap .i64 (((x0n:Nat):Int)-1)))) 18 (.pointer (some (a1.add ((IntKind.wrap .i64 (((x0n:Nat):Int)-1):Int).toNat*5))))) 19 (.agg #[.int .i64 i2,.int .i64 i3,.int .i64 i4,.int .i64 i5,.int .i64 i6])) 4 (pt_ b7)) 20 (.agg #[.int .i64 i14,.int .i64 i15,.int .i64 i16,.int .i64 i17,.int .i64 i18])) 21 (.bool t19)) 22 (.bool (!t19))) 44 (.slice x0 x0n x0c)) 45 (.int .i64 (IntKind.wrap .i64 (((x0n:Nat):Int)-1)))) 46 (.slice (if x0c=0 then x0 else Option.map (fun x=>Addr.add x (0*5)) x0) (((IntKind.wrap .i64 (((x0n:Nat):Int)-1):Int).toNat)-0) (x0c-0))) 47 (.slice A45 n46 c47)) 7 (.slice A45 n46 c47)) 48 (.slice A45 n46 c47)) 49 (.int .i64 ((n46:Nat):Int))) 50 (.int .i64 (IntKind.wrap .i64 (((n46:Nat):Int)-1)))) 8 (.int .i64 (IntKind.wrap .i64 (((n46:Nat):Int)-1)))) 51 (.int .i64 (IntKind.wrap .i64 (((n46:Nat):Int)-1)))) 52 (.bool (decide (((IntKind.wrap .i64 (((n46:Nat):Int)-1)):Int)≥0)))) m49 (retQ Tryz.prog Tryz.f27 R)))))))):CallsA Tryz.prog w0 27 #[.slice x0 x0n x0c] m R :=
  callsA_of (c:=c27) (args:=[.slice x0 x0n x0c]) (by kernel_rfl) Tryz.func27 (by kernel_rfl) qs27 (by kernel_rfl) (by kernel_rfl) (cast (by kernel_rfl) h)
theorem vk27_111111011011 (w0:World) (m:AM) (σ:Sg) (R:Value→AM→Prop)  (x0:Option Addr) (x0n x0c:Nat) (x3:Int) (x4:Nat) (x7:Option Addr) (x7n x7c:Nat) (x8:Int) (x77:Bool) (h0:σ 0=.slice x0 x0n x0c) (h3:σ 3=.int .i64 x3) (h4:σ 4=.pointer (some ⟨x4,0,none⟩)) (h7:σ 7=.slice x7 x7n x7c) (h8:σ 8=.int .i64 x8) (h77:σ 77=.bool x77) (h :
 (bcase x77 (
 vcS Tryz.prog w0 qs27 (sub c27 [1,1,1,1,1,1,0,1,1,0,1,1,0,0]) (upd (upd (upd (upd (upd (upd σ 0 (.slice x0 x0n x0c)) 3 (.int .i64 x3)) 4 (pt_ x4)) 7 (.slice x7 x7n x7c)) 8 (.int .i64 x8)) 77 (.bool x77)) m (thenS (fun σ m=>vcS Tryz.prog w0 qs27 (sub c27 [1,1,1,1,1,1,0,1,1,0,1,1,0,1]) σ m (thenS (fun σ m=>vcS Tryz.prog w0 qs27 (sub c27 [1,1,1,1,1,1,1]) σ m (retQ Tryz.prog Tryz.f27 R)) (retQ Tryz.prog Tryz.f27 R))) (thenS (fun σ m=>vcS Tryz.prog w0 qs27 (sub c27 [1,1,1,1,1,1,1]) σ m (retQ Tryz.prog Tryz.f27 R)) (retQ Tryz.prog Tryz.f27 R)))) (
 vcS Tryz.prog w0 qs27 (sub c27 [1,1,1,1,1,1,1]) (upd (upd (upd (upd (upd (upd σ 0 (.slice x0 x0n x0c)) 3 (.int .i64 x3)) 4 (pt_ x4)) 7 (.slice x7 x7n x7c)) 8 (.int .i64 x8)) 77 (.bool x77)) m (retQ Tryz.prog Tryz.f27 R)))) :
 vcS Tryz.prog w0 qs27 (sub c27 [1,1,1,1,1,1,0,1,1,0,1,1]) σ m (thenS (fun σ m=>vcS Tryz.prog w0 qs27 (sub c27 [1,1,1,1,1,1,1]) σ m (retQ Tryz.prog Tryz.f27 R)) (retQ Tryz.prog Tryz.f27 R)):=by
  have es0:(upd (upd (upd (upd (upd (upd σ 0 (.slice x0 x0n x0c)) 3 (.int .i64 x3)) 4 (pt_ x4)) 7 (.slice x7 x7n x7c)) 8 (.int .i64 x8)) 77 (.bool x77))=σ:=by rw [upd_id h0,upd_id h3,upd_id h4,upd_id h7,upd_id h8,upd_id h77]
  exact cast (congrArg (fun s=>vcS Tryz.prog w0 qs27 (sub c27 [1,1,1,1,1,1,0,1,1,0,1,1]) s m (thenS (fun σ m=>vcS Tryz.prog w0 qs27 (sub c27 [1,1,1,1,1,1,1]) σ m (retQ Tryz.prog Tryz.f27 R)) (retQ Tryz.prog Tryz.f27 R))) es0) (cast (by kernel_rfl) h)
theorem vk27_1111111 (w0:World) (m:AM) (σ:Sg) (R:Value→AM→Prop)  (x0:Option Addr) (x0n x0c:Nat) (x3:Int) (x4:Nat) (x7:Option Addr) (x7n x7c:Nat) (h0:σ 0=.slice x0 x0n x0c) (h3:σ 3=.int .i64 x3) (h4:σ 4=.pointer (some ⟨x4,0,none⟩)) (h7:σ 7=.slice x7 x7n x7c) (h :
 vcS Tryz.prog w0 qs27 (sub c27 [1,1,1,1,1,1,1,0,0]) (upd (upd (upd (upd σ 0 (.slice x0 x0n x0c)) 3 (.int .i64 x3)) 4 (pt_ x4)) 7 (.slice x7 x7n x7c)) m (blockS 0 (thenS (fun σ m=>vcS Tryz.prog w0 qs27 (sub c27 [1,1,1,1,1,1,1,1]) σ m (retQ Tryz.prog Tryz.f27 R)) (retQ Tryz.prog Tryz.f27 R)))) :
 vcS Tryz.prog w0 qs27 (sub c27 [1,1,1,1,1,1,1]) σ m (retQ Tryz.prog Tryz.f27 R):=by
  have es0:(upd (upd (upd (upd σ 0 (.slice x0 x0n x0c)) 3 (.int .i64 x3)) 4 (pt_ x4)) 7 (.slice x7 x7n x7c))=σ:=by rw [upd_id h0,upd_id h3,upd_id h4,upd_id h7]
  exact cast (congrArg (fun s=>vcS Tryz.prog w0 qs27 (sub c27 [1,1,1,1,1,1,1]) s m (retQ Tryz.prog Tryz.f27 R)) es0) (cast (by kernel_rfl) h)
def lq27_111111100 (R:Value→AM→Prop) (x0:Option Addr) (x0n x0c:Nat) (x3:Int) (x4:Nat) (I0:Nat→Option Addr→Nat→Nat→AM→Prop) (E0_0:Option Addr→Nat→Nat→AM→Prop) (n0:Nat):Exit→Sg→AM→Prop
 | .normal,σ,m=>σ 0=.slice x0 x0n x0c∧σ 3=.int .i64 x3∧σ 4=.pointer (some ⟨x4,0,none⟩)∧okS (σ 7)=true∧∃ n':Nat,n'<n0∧I0 n' (vSA (σ 7)) (vSN (σ 7)) (vSC (σ 7)) m
 | .exit id,σ,m=>if id=0 then σ 0=.slice x0 x0n x0c∧σ 3=.int .i64 x3∧σ 4=.pointer (some ⟨x4,0,none⟩)∧okS (σ 7)=true∧E0_0 (vSA (σ 7)) (vSN (σ 7)) (vSC (σ 7)) m else False
 | .ret,σ,m=>retQ Tryz.prog Tryz.f27 R .ret σ m
 | _,_,_=>False
theorem vl27_111111100 (w0:World) (m:AM) (σ:Sg) (R:Value→AM→Prop)  (x0:Option Addr) (x0n x0c:Nat) (x3:Int) (x4:Nat) (x7:Option Addr) (x7n x7c:Nat) (I0:Nat→Option Addr→Nat→Nat→AM→Prop) (E0_0:Option Addr→Nat→Nat→AM→Prop) (N:Nat) (h0:σ 0=.slice x0 x0n x0c) (h3:σ 3=.int .i64 x3) (h4:σ 4=.pointer (some ⟨x4,0,none⟩)) (h7:σ 7=.slice x7 x7n x7c)
 (h_0:I0 N x7 x7n x7c m)
 (h_s:∀ (n0:Nat) (σ:Sg) (x7:Option Addr) (x7n:Nat) (x7c:Nat) (m:AM),I0 n0 x7 x7n x7c m→(
 LI_ m x4 0 fun i94=>LI_ m x4 1 fun i95=>LI_ m x4 2 fun i96=>LI_ m x4 3 fun i97=>LI_ m x4 4 fun i98 => 
 CallsA Tryz.prog w0 48 #[.slice x0 x0n x0c,.slice x7 x7n x7c,.agg #[.int .i64 i94,.int .i64 i95,.int .i64 i96,.int .i64 i97,.int .i64 i98],.int .i64 ((x7n:Nat):Int)] m fun r100 m101 =>
 ∃ t99:Bool,r100=.bool t99∧(bcase (!t99) (
 true=true∧∀ b102:Nat,w0.heap.size≤b102→m101 b102=none→let m103:=AM.upd m101 b102 (.cells #[.int .i64 (-1)] 3);
 awp Tryz.prog w0.heap.size (Builtin.append_ #[23,23] 23 #[.slice x7 x7n x7c,.slice (some ⟨b102,0,none⟩) 1 1]) m103 fun v104 m105 =>
 ∃ (A106:Option Addr) (n107 c108:Nat),v104=.slice A106 n107 c108∧(.slice x0 x0n x0c:Value)=.slice x0 x0n x0c∧(.int .i64 x3:Value)=.int .i64 x3∧(.pointer (some ⟨x4,0,none⟩):Value)=.pointer (some ⟨x4,0,none⟩)∧true=true∧∃ n':Nat,n'<n0∧I0 n' A106 n107 c108 m105) (
 (.slice x0 x0n x0c:Value)=.slice x0 x0n x0c∧(.int .i64 x3:Value)=.int .i64 x3∧(.pointer (some ⟨x4,0,none⟩):Value)=.pointer (some ⟨x4,0,none⟩)∧true=true∧E0_0 x7 x7n x7c m101))))
 (h_e0:∀ (σ:Sg) (x7:Option Addr) (x7n:Nat) (x7c:Nat) (m:AM),E0_0 x7 x7n x7c m→(
 true=true∧∀ b109:Nat,w0.heap.size≤b109→m b109=none→let m110:=AM.upd m b109 (.cells #[.int .i64 x3,.int .i64 (-1)] 3);
 awp Tryz.prog w0.heap.size (Builtin.append_ #[23,23] 23 #[.slice x7 x7n x7c,.slice (some ⟨b109,0,none⟩) 2 2]) m110 fun v111 m112 =>
 ∃ (A113:Option Addr) (n114 c115:Nat),v111=.slice A113 n114 c115∧RetP R (.slice A113 n114 c115) m112)) :
 vcS Tryz.prog w0 qs27 (sub c27 [1,1,1,1,1,1,1,0,0]) σ m (blockS 0 (thenS (fun σ m=>vcS Tryz.prog w0 qs27 (sub c27 [1,1,1,1,1,1,1,1]) σ m (retQ Tryz.prog Tryz.f27 R)) (retQ Tryz.prog Tryz.f27 R))):=by
  rw [show sub c27 [1,1,1,1,1,1,1,0,0]=.loop (sub c27 [1,1,1,1,1,1,1,0,0,0]) from by kernel_rfl]
  refine loopQ (fun n0 σ m=>σ 0=.slice x0 x0n x0c∧σ 3=.int .i64 x3∧σ 4=.pointer (some ⟨x4,0,none⟩)∧okS (σ 7)=true∧I0 n0 (vSA (σ 7)) (vSN (σ 7)) (vSC (σ 7)) m) N (fun n0=>(lq27_111111100 R x0 x0n x0c x3 x4 I0 E0_0 n0)) ⟨h0,h3,h4,(by rw [h7]; rfl),(by rw [h7]; exact h_0)⟩ ?_ ?_ ?_
  · rintro n0 σ m ⟨kk0,kk1,kk2,kk3,n',hlt,hI⟩; exact ⟨n',hlt,kk0,kk1,kk2,kk3,hI⟩
  · intro n0 e σ m hne h
    cases e with
    | normal=>exact absurd rfl hne
    | ret=>exact h
    | exit id =>
      by_cases e0:id=0
      · subst e0
        obtain ⟨kk0,kk1,kk2,kk3,hE⟩:=h
        have es:(upd (upd (upd (upd σ 0 (.slice x0 x0n x0c)) 3 (.int .i64 x3)) 4 (pt_ x4)) 7 (.slice (vSA (σ 7)) (vSN (σ 7)) (vSC (σ 7))))=σ:=by rw [upd_id kk0,upd_id kk1,upd_id kk2,upd_id (ok_slice kk3)]
        exact cast (congrArg (fun s=>(blockS 0 (thenS (fun σ m=>vcS Tryz.prog w0 qs27 (sub c27 [1,1,1,1,1,1,1,1]) σ m (retQ Tryz.prog Tryz.f27 R)) (retQ Tryz.prog Tryz.f27 R))) (.exit 0) s m) es) (cast (by kernel_rfl) (h_e0 σ (vSA (σ 7)) (vSN (σ 7)) (vSC (σ 7)) m hE))
      · replace h:=(if_neg e0:(if id=0 then _ else _)=_).mp h
        exact False.elim h
    | _=>exact False.elim h
  · rintro n0 σ m ⟨kk0,kk1,kk2,kk3,hI⟩
    have es:(upd (upd (upd (upd σ 0 (.slice x0 x0n x0c)) 3 (.int .i64 x3)) 4 (pt_ x4)) 7 (.slice (vSA (σ 7)) (vSN (σ 7)) (vSC (σ 7))))=σ:=by rw [upd_id kk0,upd_id kk1,upd_id kk2,upd_id (ok_slice kk3)]
    exact cast (congrArg (fun s=>vcS Tryz.prog w0 qs27 (sub c27 [1,1,1,1,1,1,1,0,0,0]) s m (lq27_111111100 R x0 x0n x0c x3 x4 I0 E0_0 n0)) es) (cast (by kernel_rfl) (h_s n0 σ (vSA (σ 7)) (vSN (σ 7)) (vSC (σ 7)) m hI))
theorem vr27_11111101101100 (w0:World) (m:AM) (σ:Sg) (R:Value→AM→Prop)  (x3:Int) (x7:Option Addr) (x7n x7c:Nat) (x8:Int) (K:Option Addr→Nat→Nat→AM→Prop) (h3:σ 3=.int .i64 x3) (h7:σ 7=.slice x7 x7n x7c) (h8:σ 8=.int .i64 x8)
 (h_t : 
 (0:Int)≤x8∧((x8:Int).toNat)≤x7c∧0≤((x8:Int).toNat) ∧
 ((0:Int)≤x8∧x8<((x7n:Nat):Int))∧nilO x7 fun a116 =>
 (CallsA Tryz.prog w0 19 #[.slice (if x7c=0 then x7 else Option.map (fun x=>Addr.add x (0*1)) x7) (((x8:Int).toNat)-0) (x7c-0)] m fun r120 m121 =>
 ∃ (A117:Option Addr) (n118 c119:Nat),r120=.slice A117 n118 c119∧LA_ m121 (a116.add ((x8:Int).toNat*1)) fun i122 => 
 true=true∧∀ b123:Nat,w0.heap.size≤b123→m121 b123=none→let m124:=AM.upd m121 b123 (.cells #[.int .i64 x3,.int .i64 i122] 3);
 awp Tryz.prog w0.heap.size (Builtin.append_ #[23,23] 23 #[.slice A117 n118 c119,.slice (some ⟨b123,0,none⟩) 2 2]) m124 fun v125 m126 =>
 ∃ (A127:Option Addr) (n128 c129:Nat),v125=.slice A127 n128 c129∧true=true∧true=true∧K A127 n128 c129 m126) ∧
 (LA_ m (a116.add ((x8:Int).toNat*1)) fun i130 => 
 (CallsA Tryz.prog w0 19 #[.slice (if x7c=0 then x7 else Option.map (fun x=>Addr.add x (0*1)) x7) (((x8:Int).toNat)-0) (x7c-0)] m fun r134 m135 =>
 ∃ (A131:Option Addr) (n132 c133:Nat),r134=.slice A131 n132 c133∧true=true∧∀ b136:Nat,w0.heap.size≤b136→m135 b136=none→let m137:=AM.upd m135 b136 (.cells #[.int .i64 x3,.int .i64 i130] 3);
 awp Tryz.prog w0.heap.size (Builtin.append_ #[23,23] 23 #[.slice A131 n132 c133,.slice (some ⟨b136,0,none⟩) 2 2]) m137 fun v138 m139 =>
 ∃ (A140:Option Addr) (n141 c142:Nat),v138=.slice A140 n141 c142∧true=true∧true=true∧K A140 n141 c142 m139) ∧
 (true=true∧∀ b143:Nat,w0.heap.size≤b143→m b143=none→let m144:=AM.upd m b143 (.cells #[.int .i64 x3,.int .i64 i130] 3);
 CallsA Tryz.prog w0 19 #[.slice (if x7c=0 then x7 else Option.map (fun x=>Addr.add x (0*1)) x7) (((x8:Int).toNat)-0) (x7c-0)] m144 fun r148 m149 =>
 ∃ (A145:Option Addr) (n146 c147:Nat),r148=.slice A145 n146 c147∧awp Tryz.prog w0.heap.size (Builtin.append_ #[23,23] 23 #[.slice A145 n146 c147,.slice (some ⟨b143,0,none⟩) 2 2]) m149 fun v150 m151 =>
 ∃ (A152:Option Addr) (n153 c154:Nat),v150=.slice A152 n153 c154∧true=true∧true=true∧K A152 n153 c154 m151)))
 (h_k:∀ (σ:Sg) (y2:Option Addr) (y2n:Nat) (y2c:Nat) (m:AM),K y2 y2n y2c m→(
 RetP R (.slice y2 y2n y2c) m)) :
 vcS Tryz.prog w0 qs27 (sub c27 [1,1,1,1,1,1,0,1,1,0,1,1,0,0]) σ m (thenS (fun σ m=>vcS Tryz.prog w0 qs27 (sub c27 [1,1,1,1,1,1,0,1,1,0,1,1,0,1]) σ m (thenS (fun σ m=>vcS Tryz.prog w0 qs27 (sub c27 [1,1,1,1,1,1,1]) σ m (retQ Tryz.prog Tryz.f27 R)) (retQ Tryz.prog Tryz.f27 R))) (thenS (fun σ m=>vcS Tryz.prog w0 qs27 (sub c27 [1,1,1,1,1,1,1]) σ m (retQ Tryz.prog Tryz.f27 R)) (retQ Tryz.prog Tryz.f27 R))):=by
  have es0:(upd (upd (upd σ 3 (.int .i64 x3)) 7 (.slice x7 x7n x7c)) 8 (.int .i64 x8))=σ:=by rw [upd_id h3,upd_id h7,upd_id h8]
  refine vcS_cut (Q0:=(fun σ m=>okS (σ 2)=true∧K (vSA (σ 2)) (vSN (σ 2)) (vSC (σ 2)) m)) (by kernel_rfl) (cast (congrArg (fun s=>trC Tryz.prog w0 qs27 (sub c27 [1,1,1,1,1,1,0,1,1,0,1,1,0,0]) s m (fun σ m=>okS (σ 2)=true∧K (vSA (σ 2)) (vSN (σ 2)) (vSC (σ 2)) m)) es0) (cast (by kernel_rfl) h_t)) ?_
  rintro σ m ⟨kk0,hK⟩
  have es:(upd σ 2 (.slice (vSA (σ 2)) (vSN (σ 2)) (vSC (σ 2))))=σ:=by rw [upd_id (ok_slice kk0)]
  exact cast (congrArg (fun s=>(thenS (fun σ m=>vcS Tryz.prog w0 qs27 (sub c27 [1,1,1,1,1,1,0,1,1,0,1,1,0,1]) σ m (thenS (fun σ m=>vcS Tryz.prog w0 qs27 (sub c27 [1,1,1,1,1,1,1]) σ m (retQ Tryz.prog Tryz.f27 R)) (retQ Tryz.prog Tryz.f27 R))) (thenS (fun σ m=>vcS Tryz.prog w0 qs27 (sub c27 [1,1,1,1,1,1,1]) σ m (retQ Tryz.prog Tryz.f27 R)) (retQ Tryz.prog Tryz.f27 R))) .normal s m) es) (cast (by kernel_rfl) (h_k σ (vSA (σ 2)) (vSN (σ 2)) (vSC (σ 2)) m hK))

def qs84:Nat→List (Nat × Nat):=fun i=>match i with | _=>[]
noncomputable def c84:Code:=bodyOf Tryz.f84
theorem cf84 (w0:World) (m:AM) (x0:Int) (x1:Int) (R:Value→AM→Prop) (h :
 CallsA Tryz.prog w0 100 #[.int .u64 x0,.int .u64 x1] m fun r3 m4 =>
 ∃ i1:Int,∃ i2:Int,r3=.tuple #[.int .u64 i1,.int .u64 i2]∧RetP R (.tuple #[.int .u64 i1,.int .u64 i2]) m4):CallsA Tryz.prog w0 84 #[.int .u64 x0,.int .u64 x1] m R :=
  callsA_of (c:=c84) (args:=[.int .u64 x0,.int .u64 x1]) (by kernel_rfl) Tryz.func84 (by kernel_rfl) qs84 (by kernel_rfl) (by kernel_rfl) (cast (by kernel_rfl) h)
end Go.Proofs.YtkfemiloehkmhaaGreat.V

namespace Go.Proofs.YtkfemiloehkmhaaGreat.V
open Go Go.Alog Go.Proofs.YtkfemiloehkmhaaGreat.T
set_option linter.unusedVariables false
set_option maxRecDepth 100000

def qs15:Nat→List (Nat × Nat):=fun i=>match i with | 1000009=>[(0,0)] | _=>[]
noncomputable def c15:Code:=bodyOf Tryz.f15
theorem cf15 (w0:World) (m:AM) (x0:Option Addr) (x0n x0c:Nat) (R:Value→AM→Prop) (h :
 ∀ b1:Nat,w0.heap.size≤b1→m b1=none→let m2:=AM.upd m b1 (.cells #[.slice none 0 0,.slice none 0 0,.map none,.slice none 0 0] 42);
 ∀ b3:Nat,w0.heap.size≤b3→m2 b3=none→let m4:=AM.upd m2 b3 (.map #[] 0);
 true=true∧∀ b5:Nat,w0.heap.size≤b5→m4 b5=none→let m6:=AM.upd m4 b5 (.cells #[.slice none 0 0,.slice none 0 0,.map none,.slice none 0 0] 42);
 StC w0.heap.size m6 ⟨b5,0,none⟩ (.slice none 0 0) fun m7 =>
 StC w0.heap.size m7 ⟨b5,1,none⟩ (.slice none 0 0) fun m8 =>
 StC w0.heap.size m8 ⟨b5,2,none⟩ (.map (some b3)) fun m9 =>
 StC w0.heap.size m9 ⟨b5,3,none⟩ (.slice none 0 0) fun m10 =>
 CallsA Tryz.prog w0 26 #[.slice x0 x0n x0c] m10 fun r14 m15 =>
 ∃ (A11:Option Addr) (n12 c13:Nat),r14=.slice A11 n12 c13∧vcS Tryz.prog w0 qs15 (sub V.c15 [1,1,1,0,1,0]) (upd (upd (upd (upd (upd (upd (upd (upd (upd (upd (argS [.slice x0 x0n x0c]) 2 (pt_ b1)) 12 (.map (some b3))) 13 (.agg #[.slice none 0 0,.slice none 0 0,.map (some b3),.slice none 0 0])) 3 (pt_ b5)) 14 (.func (.func 25) #[] #[pt_ b5])) 4 (.func (.func 25) #[] #[pt_ b5])) 15 (.slice x0 x0n x0c)) 16 (.slice A11 n12 c13)) 17 (.int .i64 ((n12:Nat):Int))) 18 (.int .i64 0)) m15 (blockS 0 (thenS (fun σ m=>vcS Tryz.prog w0 qs15 (sub V.c15 [1,1,1,1]) σ m (retQ Tryz.prog Tryz.f15 R)) (retQ Tryz.prog Tryz.f15 R)))):CallsA Tryz.prog w0 15 #[.slice x0 x0n x0c] m R :=
  callsA_of (c:=c15) (args:=[.slice x0 x0n x0c]) (by kernel_rfl) Tryz.func15 (by kernel_rfl) qs15 (by kernel_rfl) (by kernel_rfl) (cast (by kernel_rfl) h)
def lq15_111010 (R:Value→AM→Prop) (x0:Option Addr) (x0n x0c:Nat) (x2:Nat) (x3:Nat) (x4_0:Nat) (x16:Option Addr) (x16n x16c:Nat) (x17:Int) (I0:Nat→Int→AM→Prop) (E0_0:AM→Prop) (n0:Nat):Exit→Sg→AM→Prop
 | .normal,σ,m=>σ 0=.slice x0 x0n x0c∧σ 2=.pointer (some ⟨x2,0,none⟩)∧σ 3=.pointer (some ⟨x3,0,none⟩)∧σ 4=.func (.func 25) #[] #[pt_ x4_0]∧σ 16=.slice x16 x16n x16c∧σ 17=.int .i64 x17∧okI .i64 (σ 18)=true∧∃ n':Nat,n'<n0∧I0 n' (vI (σ 18)) m
 | .exit id,σ,m=>if id=0 then σ 0=.slice x0 x0n x0c∧σ 2=.pointer (some ⟨x2,0,none⟩)∧σ 3=.pointer (some ⟨x3,0,none⟩)∧σ 4=.func (.func 25) #[] #[pt_ x4_0]∧σ 16=.slice x16 x16n x16c∧σ 17=.int .i64 x17∧E0_0  m else False
 | .ret,σ,m=>retQ Tryz.prog Tryz.f15 R .ret σ m
 | _,_,_=>False
theorem vl15_111010 (w0:World) (m:AM) (σ:Sg) (R:Value→AM→Prop)  (x0:Option Addr) (x0n x0c:Nat) (x2:Nat) (x3:Nat) (x4_0:Nat) (x16:Option Addr) (x16n x16c:Nat) (x17:Int) (x18:Int) (I0:Nat→Int→AM→Prop) (E0_0:AM→Prop) (N:Nat) (h0:σ 0=.slice x0 x0n x0c) (h2:σ 2=.pointer (some ⟨x2,0,none⟩)) (h3:σ 3=.pointer (some ⟨x3,0,none⟩)) (h4:σ 4=.func (.func 25) #[] #[pt_ x4_0]) (h16:σ 16=.slice x16 x16n x16c) (h17:σ 17=.int .i64 x17) (h18:σ 18=.int .i64 x18)
 (h_0:I0 N x18 m)
 (h_s:∀ (n0:Nat) (σ:Sg) (x18:Int) (m:AM),I0 n0 x18 m→(
 KI_∧(bcase (decide ((x18:Int)<x17)) (
 ((0:Int)≤x18∧x18<((x16n:Nat):Int))∧nilO x16 fun a16 =>
 LA_ m (a16.add ((x18:Int).toNat*2)) fun i17=>∃ i18:Int,m.cell ((a16.add ((x18:Int).toNat*2)).add 1)=some (.int .i64 i18) ∧ 
 ∀ b19:Nat,w0.heap.size≤b19→m b19=none→let m20:=AM.upd m b19 (.cells #[.int .i64 0,.int .i64 0] 65);
 SI_ w0.heap.size m20 b19 0 i17 fun m21 =>
 SI_ w0.heap.size m21 b19 1 i18 fun m22 =>
 LI_ m22 b19 0 fun i23 => 
 CallsA Tryz.prog w0 25 #[.int .i64 i23,pt_ x4_0] m22 fun r24 m25 =>
 r24=.tuple #[]∧LI_ m25 b19 0 fun i26 => 
 LI_ m25 b19 1 fun i27 => 
 (0:Int)≤i27∧(0:Int)≤i26∧((i27:Int).toNat)≤x0c∧((i26:Int).toNat)≤((i27:Int).toNat) ∧
 CallsA Tryz.prog w0 27 #[.slice (if x0c=((i26:Int).toNat) then x0 else Option.map (fun x=>Addr.add x ((i26:Int).toNat*5)) x0) (((i27:Int).toNat)-((i26:Int).toNat)) (x0c-((i26:Int).toNat))] m25 fun r31 m32 =>
 ∃ (A28:Option Addr) (n29 c30:Nat),r31=.slice A28 n29 c30∧vcS Tryz.prog w0 qs15 (sub V.c15 [1,1,1,0,1,0,0,1,1,0,0,1,1,1,1,0]) (upd (upd (upd (upd (upd (upd (upd (upd (upd (upd (upd (upd (upd (upd (upd (upd (upd (upd (upd (upd (upd (upd (upd (upd (upd σ 0 (.slice x0 x0n x0c)) 2 (pt_ x2)) 3 (pt_ x3)) 4 (.func (.func 25) #[] #[pt_ x4_0])) 16 (.slice x16 x16n x16c)) 17 (.int .i64 x17)) 18 (.int .i64 x18)) 19 (.bool (decide ((x18:Int)<x17)))) 20 (.pointer (some (a16.add ((x18:Int).toNat*2))))) 21 (.agg #[.int .i64 i17,.int .i64 i18])) 6 (pt_ b19)) 22 (.func (.func 25) #[] #[pt_ x4_0])) 23 (pt_ b19)) 24 (.int .i64 i23)) 25 (.tuple #[])) 26 (.slice x0 x0n x0c)) 27 (pt_ b19)) 28 (.int .i64 i26)) 29 (.pointer (some ⟨b19,1,none⟩))) 30 (.int .i64 i27)) 31 (.slice (if x0c=((i26:Int).toNat) then x0 else Option.map (fun x=>Addr.add x ((i26:Int).toNat*5)) x0) (((i27:Int).toNat)-((i26:Int).toNat)) (x0c-((i26:Int).toNat)))) 7 (.slice (if x0c=((i26:Int).toNat) then x0 else Option.map (fun x=>Addr.add x ((i26:Int).toNat*5)) x0) (((i27:Int).toNat)-((i26:Int).toNat)) (x0c-((i26:Int).toNat)))) 32 (.slice (if x0c=((i26:Int).toNat) then x0 else Option.map (fun x=>Addr.add x ((i26:Int).toNat*5)) x0) (((i27:Int).toNat)-((i26:Int).toNat)) (x0c-((i26:Int).toNat)))) 33 (.slice A28 n29 c30)) 8 (.slice A28 n29 c30)) m32 (thenS (fun σ m=>vcS Tryz.prog w0 qs15 (sub V.c15 [1,1,1,0,1,0,0,1,1,0,0,1,1,1,1,1]) σ m (blockS 1 (thenS (fun σ m=>vcS Tryz.prog w0 qs15 (sub V.c15 [1,1,1,0,1,0,0,1,1,1]) σ m (lq15_111010 R x0 x0n x0c x2 x3 x4_0 x16 x16n x16c x17 I0 E0_0 n0)) (lq15_111010 R x0 x0n x0c x2 x3 x4_0 x16 x16n x16c x17 I0 E0_0 n0)))) (blockS 1 (thenS (fun σ m=>vcS Tryz.prog w0 qs15 (sub V.c15 [1,1,1,0,1,0,0,1,1,1]) σ m (lq15_111010 R x0 x0n x0c x2 x3 x4_0 x16 x16n x16c x17 I0 E0_0 n0)) (lq15_111010 R x0 x0n x0c x2 x3 x4_0 x16 x16n x16c x17 I0 E0_0 n0))))) (
 (.slice x0 x0n x0c:Value)=.slice x0 x0n x0c∧(.pointer (some ⟨x2,0,none⟩):Value)=.pointer (some ⟨x2,0,none⟩)∧(.pointer (some ⟨x3,0,none⟩):Value)=.pointer (some ⟨x3,0,none⟩)∧(.func (.func 25) #[] #[pt_ x4_0]:Value)=.func (.func 25) #[] #[pt_ x4_0]∧(.slice x16 x16n x16c:Value)=.slice x16 x16n x16c∧(.int .i64 x17:Value)=.int .i64 x17∧E0_0  m))))
 (h_e0:∀ (σ:Sg)  (m:AM),E0_0  m→(
 CallsA Tryz.prog w0 25 #[.int .i64 ((x0n:Nat):Int),pt_ x4_0] m fun r33 m34 =>
 r33=.tuple #[]∧∃ (A35:Option Addr) (n36 c37:Nat),m34.cell ⟨x3,0,none⟩=some (.slice A35 n36 c37)∧∃ (A38:Option Addr) (n39 c40:Nat),m34.cell ⟨x3,1,none⟩=some (.slice A38 n39 c40)∧∃ r41:Option Nat,m34.cell ⟨x3,2,none⟩=some (.map r41)∧∃ (A42:Option Addr) (n43 c44:Nat),m34.cell ⟨x3,3,none⟩=some (.slice A42 n43 c44) ∧ 
 StC w0.heap.size m34 ⟨x2,0,none⟩ (.slice A35 n36 c37) fun m45 =>
 StC w0.heap.size m45 ⟨x2,1,none⟩ (.slice A38 n39 c40) fun m46 =>
 StC w0.heap.size m46 ⟨x2,2,none⟩ (.map r41) fun m47 =>
 StC w0.heap.size m47 ⟨x2,3,none⟩ (.slice A42 n43 c44) fun m48 =>
 ∃ (A49:Option Addr) (n50 c51:Nat),m48.cell ⟨x2,0,none⟩=some (.slice A49 n50 c51)∧∃ (A52:Option Addr) (n53 c54:Nat),m48.cell ⟨x2,1,none⟩=some (.slice A52 n53 c54)∧∃ r55:Option Nat,m48.cell ⟨x2,2,none⟩=some (.map r55)∧∃ (A56:Option Addr) (n57 c58:Nat),m48.cell ⟨x2,3,none⟩=some (.slice A56 n57 c58)∧RetP R (.agg #[.slice A49 n50 c51,.slice A52 n53 c54,.map r55,.slice A56 n57 c58]) m48)) :
 vcS Tryz.prog w0 qs15 (sub V.c15 [1,1,1,0,1,0]) σ m (blockS 0 (thenS (fun σ m=>vcS Tryz.prog w0 qs15 (sub V.c15 [1,1,1,1]) σ m (retQ Tryz.prog Tryz.f15 R)) (retQ Tryz.prog Tryz.f15 R))):=by
  rw [show sub V.c15 [1,1,1,0,1,0]=.loop (sub V.c15 [1,1,1,0,1,0,0]) from by kernel_rfl]
  refine loopQ (fun n0 σ m=>σ 0=.slice x0 x0n x0c∧σ 2=.pointer (some ⟨x2,0,none⟩)∧σ 3=.pointer (some ⟨x3,0,none⟩)∧σ 4=.func (.func 25) #[] #[pt_ x4_0]∧σ 16=.slice x16 x16n x16c∧σ 17=.int .i64 x17∧okI .i64 (σ 18)=true∧I0 n0 (vI (σ 18)) m) N (fun n0=>(lq15_111010 R x0 x0n x0c x2 x3 x4_0 x16 x16n x16c x17 I0 E0_0 n0)) ⟨h0,h2,h3,h4,h16,h17,(by rw [h18]; rfl),(by rw [h18]; exact h_0)⟩ ?_ ?_ ?_
  · rintro n0 σ m ⟨kk0,kk1,kk2,kk3,kk4,kk5,kk6,n',hlt,hI⟩; exact ⟨n',hlt,kk0,kk1,kk2,kk3,kk4,kk5,kk6,hI⟩
  · intro n0 e σ m hne h
    cases e with
    | normal=>exact absurd rfl hne
    | ret=>exact h
    | exit id =>
      by_cases e0:id=0
      · subst e0
        obtain ⟨kk0,kk1,kk2,kk3,kk4,kk5,hE⟩:=h
        have es:(upd (upd (upd (upd (upd (upd σ 0 (.slice x0 x0n x0c)) 2 (pt_ x2)) 3 (pt_ x3)) 4 (.func (.func 25) #[] #[pt_ x4_0])) 16 (.slice x16 x16n x16c)) 17 (.int .i64 x17))=σ:=by rw [upd_id kk0,upd_id kk1,upd_id kk2,upd_id kk3,upd_id kk4,upd_id kk5]
        exact cast (congrArg (fun s=>(blockS 0 (thenS (fun σ m=>vcS Tryz.prog w0 qs15 (sub V.c15 [1,1,1,1]) σ m (retQ Tryz.prog Tryz.f15 R)) (retQ Tryz.prog Tryz.f15 R))) (.exit 0) s m) es) (cast (by kernel_rfl) (h_e0 σ  m hE))
      · replace h:=(if_neg e0:(if id=0 then _ else _)=_).mp h
        exact False.elim h
    | _=>exact False.elim h
  · rintro n0 σ m ⟨kk0,kk1,kk2,kk3,kk4,kk5,kk6,hI⟩
    have es:(upd (upd (upd (upd (upd (upd (upd σ 0 (.slice x0 x0n x0c)) 2 (pt_ x2)) 3 (pt_ x3)) 4 (.func (.func 25) #[] #[pt_ x4_0])) 16 (.slice x16 x16n x16c)) 17 (.int .i64 x17)) 18 (.int .i64 (vI (σ 18))))=σ:=by rw [upd_id kk0,upd_id kk1,upd_id kk2,upd_id kk3,upd_id kk4,upd_id kk5,upd_id (ok_int kk6)]
    exact cast (congrArg (fun s=>vcS Tryz.prog w0 qs15 (sub V.c15 [1,1,1,0,1,0,0]) s m (lq15_111010 R x0 x0n x0c x2 x3 x4_0 x16 x16n x16c x17 I0 E0_0 n0)) es) (cast (by kernel_rfl) (h_s n0 σ (vI (σ 18)) m hI))
theorem vr15_1110100110011110 (w0:World) (m:AM) (σ:Sg) (R:Value→AM→Prop) (n0:Nat) (I0:Nat→Int→AM→Prop) (E0_0:AM→Prop) (x0:Option Addr) (x0n x0c:Nat) (x2:Nat) (x3:Nat) (x4_0:Nat) (x6:Nat) (x7:Option Addr) (x7n x7c:Nat) (x8:Option Addr) (x8n x8c:Nat) (x16:Option Addr) (x16n x16c:Nat) (x17:Int) (x18:Int) (K:AM→Prop) (h0:σ 0=.slice x0 x0n x0c) (h2:σ 2=.pointer (some ⟨x2,0,none⟩)) (h3:σ 3=.pointer (some ⟨x3,0,none⟩)) (h4:σ 4=.func (.func 25) #[] #[pt_ x4_0]) (h6:σ 6=.pointer (some ⟨x6,0,none⟩)) (h7:σ 7=.slice x7 x7n x7c) (h8:σ 8=.slice x8 x8n x8c) (h16:σ 16=.slice x16 x16n x16c) (h17:σ 17=.int .i64 x17) (h18:σ 18=.int .i64 x18)
 (h_t : 
 (∃ (A59:Option Addr) (n60 c61:Nat),m.cell ⟨x3,0,none⟩=some (.slice A59 n60 c61) ∧ 
 CallsA Tryz.prog w0 28 #[.slice x7 x7n x7c,.slice x8 x8n x8c] m fun r65 m66 =>
 ∃ (A62:Option Addr) (n63 c64:Nat),r65=.slice A62 n63 c64∧awp Tryz.prog w0.heap.size (Builtin.append_ #[22,22] 22 #[.slice A59 n60 c61,.slice A62 n63 c64]) m66 fun v67 m68 =>
 ∃ (A69:Option Addr) (n70 c71:Nat),v67=.slice A69 n70 c71∧StC w0.heap.size m68 ⟨x3,0,none⟩ (.slice A69 n70 c71) fun m72 =>
 true=true∧(.slice x0 x0n x0c:Value)=.slice x0 x0n x0c∧(.pointer (some ⟨x2,0,none⟩):Value)=.pointer (some ⟨x2,0,none⟩)∧(.pointer (some ⟨x3,0,none⟩):Value)=.pointer (some ⟨x3,0,none⟩)∧(.func (.func 25) #[] #[pt_ x4_0]:Value)=.func (.func 25) #[] #[pt_ x4_0]∧(.pointer (some ⟨x6,0,none⟩):Value)=.pointer (some ⟨x6,0,none⟩)∧(.slice x8 x8n x8c:Value)=.slice x8 x8n x8c∧(.slice x16 x16n x16c:Value)=.slice x16 x16n x16c∧(.int .i64 x17:Value)=.int .i64 x17∧(.int .i64 x18:Value)=.int .i64 x18∧K  m72) ∧
 (CallsA Tryz.prog w0 28 #[.slice x7 x7n x7c,.slice x8 x8n x8c] m fun r76 m77 =>
 ∃ (A73:Option Addr) (n74 c75:Nat),r76=.slice A73 n74 c75∧∃ (A78:Option Addr) (n79 c80:Nat),m77.cell ⟨x3,0,none⟩=some (.slice A78 n79 c80) ∧ 
 awp Tryz.prog w0.heap.size (Builtin.append_ #[22,22] 22 #[.slice A78 n79 c80,.slice A73 n74 c75]) m77 fun v81 m82 =>
 ∃ (A83:Option Addr) (n84 c85:Nat),v81=.slice A83 n84 c85∧StC w0.heap.size m82 ⟨x3,0,none⟩ (.slice A83 n84 c85) fun m86 =>
 true=true∧(.slice x0 x0n x0c:Value)=.slice x0 x0n x0c∧(.pointer (some ⟨x2,0,none⟩):Value)=.pointer (some ⟨x2,0,none⟩)∧(.pointer (some ⟨x3,0,none⟩):Value)=.pointer (some ⟨x3,0,none⟩)∧(.func (.func 25) #[] #[pt_ x4_0]:Value)=.func (.func 25) #[] #[pt_ x4_0]∧(.pointer (some ⟨x6,0,none⟩):Value)=.pointer (some ⟨x6,0,none⟩)∧(.slice x8 x8n x8c:Value)=.slice x8 x8n x8c∧(.slice x16 x16n x16c:Value)=.slice x16 x16n x16c∧(.int .i64 x17:Value)=.int .i64 x17∧(.int .i64 x18:Value)=.int .i64 x18∧K  m86))
 (h_k:∀ (σ:Sg)  (m:AM),K  m→(
 vcS Tryz.prog w0 qs15 (sub V.c15 [1,1,1,0,1,0,0,1,1,0,0,1,1,1,1,1,1,0]) (upd (upd (upd (upd (upd (upd (upd (upd (upd (upd (upd (upd σ 0 (.slice x0 x0n x0c)) 2 (pt_ x2)) 3 (pt_ x3)) 4 (.func (.func 25) #[] #[pt_ x4_0])) 6 (pt_ x6)) 8 (.slice x8 x8n x8c)) 16 (.slice x16 x16n x16c)) 17 (.int .i64 x17)) 18 (.int .i64 x18)) 41 (.slice x8 x8n x8c)) 42 (.int .i64 ((x8n:Nat):Int))) 43 (.int .i64 0)) m (blockS 2 (blockS 1 (thenS (fun σ m=>vcS Tryz.prog w0 qs15 (sub V.c15 [1,1,1,0,1,0,0,1,1,1]) σ m (lq15_111010 R x0 x0n x0c x2 x3 x4_0 x16 x16n x16c x17 I0 E0_0 n0)) (lq15_111010 R x0 x0n x0c x2 x3 x4_0 x16 x16n x16c x17 I0 E0_0 n0)))))) :
 vcS Tryz.prog w0 qs15 (sub V.c15 [1,1,1,0,1,0,0,1,1,0,0,1,1,1,1,0]) σ m (thenS (fun σ m=>vcS Tryz.prog w0 qs15 (sub V.c15 [1,1,1,0,1,0,0,1,1,0,0,1,1,1,1,1]) σ m (blockS 1 (thenS (fun σ m=>vcS Tryz.prog w0 qs15 (sub V.c15 [1,1,1,0,1,0,0,1,1,1]) σ m (lq15_111010 R x0 x0n x0c x2 x3 x4_0 x16 x16n x16c x17 I0 E0_0 n0)) (lq15_111010 R x0 x0n x0c x2 x3 x4_0 x16 x16n x16c x17 I0 E0_0 n0)))) (blockS 1 (thenS (fun σ m=>vcS Tryz.prog w0 qs15 (sub V.c15 [1,1,1,0,1,0,0,1,1,1]) σ m (lq15_111010 R x0 x0n x0c x2 x3 x4_0 x16 x16n x16c x17 I0 E0_0 n0)) (lq15_111010 R x0 x0n x0c x2 x3 x4_0 x16 x16n x16c x17 I0 E0_0 n0)))):=by
  have es0:(upd (upd (upd (upd (upd (upd (upd (upd (upd (upd σ 0 (.slice x0 x0n x0c)) 2 (pt_ x2)) 3 (pt_ x3)) 4 (.func (.func 25) #[] #[pt_ x4_0])) 6 (pt_ x6)) 7 (.slice x7 x7n x7c)) 8 (.slice x8 x8n x8c)) 16 (.slice x16 x16n x16c)) 17 (.int .i64 x17)) 18 (.int .i64 x18))=σ:=by rw [upd_id h0,upd_id h2,upd_id h3,upd_id h4,upd_id h6,upd_id h7,upd_id h8,upd_id h16,upd_id h17,upd_id h18]
  refine vcS_cut (Q0:=(fun σ m=>σ 0=.slice x0 x0n x0c∧σ 2=.pointer (some ⟨x2,0,none⟩)∧σ 3=.pointer (some ⟨x3,0,none⟩)∧σ 4=.func (.func 25) #[] #[pt_ x4_0]∧σ 6=.pointer (some ⟨x6,0,none⟩)∧σ 8=.slice x8 x8n x8c∧σ 16=.slice x16 x16n x16c∧σ 17=.int .i64 x17∧σ 18=.int .i64 x18∧K  m)) (by kernel_rfl) (cast (congrArg (fun s=>trC Tryz.prog w0 qs15 (sub V.c15 [1,1,1,0,1,0,0,1,1,0,0,1,1,1,1,0]) s m (fun σ m=>σ 0=.slice x0 x0n x0c∧σ 2=.pointer (some ⟨x2,0,none⟩)∧σ 3=.pointer (some ⟨x3,0,none⟩)∧σ 4=.func (.func 25) #[] #[pt_ x4_0]∧σ 6=.pointer (some ⟨x6,0,none⟩)∧σ 8=.slice x8 x8n x8c∧σ 16=.slice x16 x16n x16c∧σ 17=.int .i64 x17∧σ 18=.int .i64 x18∧K  m)) es0) (cast (by kernel_rfl) h_t)) ?_
  rintro σ m ⟨kk0,kk1,kk2,kk3,kk4,kk5,kk6,kk7,kk8,hK⟩
  have es:(upd (upd (upd (upd (upd (upd (upd (upd (upd σ 0 (.slice x0 x0n x0c)) 2 (pt_ x2)) 3 (pt_ x3)) 4 (.func (.func 25) #[] #[pt_ x4_0])) 6 (pt_ x6)) 8 (.slice x8 x8n x8c)) 16 (.slice x16 x16n x16c)) 17 (.int .i64 x17)) 18 (.int .i64 x18))=σ:=by rw [upd_id kk0,upd_id kk1,upd_id kk2,upd_id kk3,upd_id kk4,upd_id kk5,upd_id kk6,upd_id kk7,upd_id kk8]
  exact cast (congrArg (fun s=>(thenS (fun σ m=>vcS Tryz.prog w0 qs15 (sub V.c15 [1,1,1,0,1,0,0,1,1,0,0,1,1,1,1,1]) σ m (blockS 1 (thenS (fun σ m=>vcS Tryz.prog w0 qs15 (sub V.c15 [1,1,1,0,1,0,0,1,1,1]) σ m (lq15_111010 R x0 x0n x0c x2 x3 x4_0 x16 x16n x16c x17 I0 E0_0 n0)) (lq15_111010 R x0 x0n x0c x2 x3 x4_0 x16 x16n x16c x17 I0 E0_0 n0)))) (blockS 1 (thenS (fun σ m=>vcS Tryz.prog w0 qs15 (sub V.c15 [1,1,1,0,1,0,0,1,1,1]) σ m (lq15_111010 R x0 x0n x0c x2 x3 x4_0 x16 x16n x16c x17 I0 E0_0 n0)) (lq15_111010 R x0 x0n x0c x2 x3 x4_0 x16 x16n x16c x17 I0 E0_0 n0)))) .normal s m) es) (cast (by kernel_rfl) (h_k σ  m hK))
def lq15_111010011001111110 (R:Value→AM→Prop) (x0:Option Addr) (x0n x0c:Nat) (x2:Nat) (x3:Nat) (x4_0:Nat) (x6:Nat) (x16:Option Addr) (x16n x16c:Nat) (x17:Int) (x18:Int) (x41:Option Addr) (x41n x41c:Nat) (x42:Int) (I1:Nat→Int→AM→Prop) (E1_2:AM→Prop) (n1:Nat):Exit→Sg→AM→Prop
 | .normal,σ,m=>σ 0=.slice x0 x0n x0c∧σ 2=.pointer (some ⟨x2,0,none⟩)∧σ 3=.pointer (some ⟨x3,0,none⟩)∧σ 4=.func (.func 25) #[] #[pt_ x4_0]∧σ 6=.pointer (some ⟨x6,0,none⟩)∧σ 16=.slice x16 x16n x16c∧σ 17=.int .i64 x17∧σ 18=.int .i64 x18∧σ 41=.slice x41 x41n x41c∧σ 42=.int .i64 x42∧okI .i64 (σ 43)=true∧∃ n':Nat,n'<n1∧I1 n' (vI (σ 43)) m
 | .exit id,σ,m=>if id=2 then σ 0=.slice x0 x0n x0c∧σ 2=.pointer (some ⟨x2,0,none⟩)∧σ 3=.pointer (some ⟨x3,0,none⟩)∧σ 4=.func (.func 25) #[] #[pt_ x4_0]∧σ 6=.pointer (some ⟨x6,0,none⟩)∧σ 16=.slice x16 x16n x16c∧σ 17=.int .i64 x17∧σ 18=.int .i64 x18∧σ 41=.slice x41 x41n x41c∧σ 42=.int .i64 x42∧E1_2  m else False
 | .ret,σ,m=>retQ Tryz.prog Tryz.f15 R .ret σ m
 | _,_,_=>False
theorem vl15_111010011001111110 (w0:World) (m:AM) (σ:Sg) (R:Value→AM→Prop) (n0:Nat) (I0:Nat→Int→AM→Prop) (E0_0:AM→Prop) (x0:Option Addr) (x0n x0c:Nat) (x2:Nat) (x3:Nat) (x4_0:Nat) (x6:Nat) (x16:Option Addr) (x16n x16c:Nat) (x17:Int) (x18:Int) (x41:Option Addr) (x41n x41c:Nat) (x42:Int) (x43:Int) (I1:Nat→Int→AM→Prop) (E1_2:AM→Prop) (N:Nat) (h0:σ 0=.slice x0 x0n x0c) (h2:σ 2=.pointer (some ⟨x2,0,none⟩)) (h3:σ 3=.pointer (some ⟨x3,0,none⟩)) (h4:σ 4=.func (.func 25) #[] #[pt_ x4_0]) (h6:σ 6=.pointer (some ⟨x6,0,none⟩)) (h16:σ 16=.slice x16 x16n x16c) (h17:σ 17=.int .i64 x17) (h18:σ 18=.int .i64 x18) (h41:σ 41=.slice x41 x41n x41c) (h42:σ 42=.int .i64 x42) (h43:σ 43=.int .i64 x43)
 (h_0:I1 N x43 m)
 (h_s:∀ (n1:Nat) (σ:Sg) (x43:Int) (m:AM),I1 n1 x43 m→(
 KI_∧(bcase (decide ((x43:Int)<x42)) (
 ((0:Int)≤x43∧x43<((x41n:Nat):Int))∧nilO x41 fun a87 =>
 LA_ m (a87.add ((x43:Int).toNat*1)) fun i88 => 
 KI_∧(bcase (decide ((i88:Int)≥0)) (
 LI_ m x6 0 fun i89 => 
 KI_∧∃ (A90:Option Addr) (n91 c92:Nat),m.cell ⟨x3,3,none⟩=some (.slice A90 n91 c92) ∧ 
 true=true∧∀ b93:Nat,w0.heap.size≤b93→m b93=none→let m94:=AM.upd m b93 (.cells #[.int .i64 (IntKind.wrap .i64 (i89+i88))] 3);
 awp Tryz.prog w0.heap.size (Builtin.append_ #[23,23] 23 #[.slice A90 n91 c92,.slice (some ⟨b93,0,none⟩) 1 1]) m94 fun v95 m96 =>
 ∃ (A97:Option Addr) (n98 c99:Nat),v95=.slice A97 n98 c99∧StC w0.heap.size m96 ⟨x3,3,none⟩ (.slice A97 n98 c99) fun m100 =>
 KI_∧(.slice x0 x0n x0c:Value)=.slice x0 x0n x0c∧(.pointer (some ⟨x2,0,none⟩):Value)=.pointer (some ⟨x2,0,none⟩)∧(.pointer (some ⟨x3,0,none⟩):Value)=.pointer (some ⟨x3,0,none⟩)∧(.func (.func 25) #[] #[pt_ x4_0]:Value)=.func (.func 25) #[] #[pt_ x4_0]∧(.pointer (some ⟨x6,0,none⟩):Value)=.pointer (some ⟨x6,0,none⟩)∧(.slice x16 x16n x16c:Value)=.slice x16 x16n x16c∧(.int .i64 x17:Value)=.int .i64 x17∧(.int .i64 x18:Value)=.int .i64 x18∧(.slice x41 x41n x41c:Value)=.slice x41 x41n x41c∧(.int .i64 x42:Value)=.int .i64 x42∧true=true∧∃ n':Nat,n'<n1∧I1 n' (IntKind.wrap .i64 (x43+1)) m100) (
 ∃ (A101:Option Addr) (n102 c103:Nat),m.cell ⟨x3,3,none⟩=some (.slice A101 n102 c103) ∧ 
 true=true∧∀ b104:Nat,w0.heap.size≤b104→m b104=none→let m105:=AM.upd m b104 (.cells #[.int .i64 (-1)] 3);
 awp Tryz.prog w0.heap.size (Builtin.append_ #[23,23] 23 #[.slice A101 n102 c103,.slice (some ⟨b104,0,none⟩) 1 1]) m105 fun v106 m107 =>
 ∃ (A108:Option Addr) (n109 c110:Nat),v106=.slice A108 n109 c110∧StC w0.heap.size m107 ⟨x3,3,none⟩ (.slice A108 n109 c110) fun m111 =>
 KI_∧(.slice x0 x0n x0c:Value)=.slice x0 x0n x0c∧(.pointer (some ⟨x2,0,none⟩):Value)=.pointer (some ⟨x2,0,none⟩)∧(.pointer (some ⟨x3,0,none⟩):Value)=.pointer (some ⟨x3,0,none⟩)∧(.func (.func 25) #[] #[pt_ x4_0]:Value)=.func (.func 25) #[] #[pt_ x4_0]∧(.pointer (some ⟨x6,0,none⟩):Value)=.pointer (some ⟨x6,0,none⟩)∧(.slice x16 x16n x16c:Value)=.slice x16 x16n x16c∧(.int .i64 x17:Value)=.int .i64 x17∧(.int .i64 x18:Value)=.int .i64 x18∧(.slice x41 x41n x41c:Value)=.slice x41 x41n x41c∧(.int .i64 x42:Value)=.int .i64 x42∧true=true∧∃ n':Nat,n'<n1∧I1 n' (IntKind.wrap .i64 (x43+1)) m111))) (
 (.slice x0 x0n x0c:Value)=.slice x0 x0n x0c∧(.pointer (some ⟨x2,0,none⟩):Value)=.pointer (some ⟨x2,0,none⟩)∧(.pointer (some ⟨x3,0,none⟩):Value)=.pointer (some ⟨x3,0,none⟩)∧(.func (.func 25) #[] #[pt_ x4_0]:Value)=.func (.func 25) #[] #[pt_ x4_0]∧(.pointer (some ⟨x6,0,none⟩):Value)=.pointer (some ⟨x6,0,none⟩)∧(.slice x16 x16n x16c:Value)=.slice x16 x16n x16c∧(.int .i64 x17:Value)=.int .i64 x17∧(.int .i64 x18:Value)=.int .i64 x18∧(.slice x41 x41n x41c:Value)=.slice x41 x41n x41c∧(.int .i64 x42:Value)=.int .i64 x42∧E1_2  m))))
 (h_e2:∀ (σ:Sg)  (m:AM),E1_2  m→(
 KI_∧(.slice x0 x0n x0c:Value)=.slice x0 x0n x0c∧(.pointer (some ⟨x2,0,none⟩):Value)=.pointer (some ⟨x2,0,none⟩)∧(.pointer (some ⟨x3,0,none⟩):Value)=.pointer (some ⟨x3,0,none⟩)∧(.func (.func 25) #[] #[pt_ x4_0]:Value)=.func (.func 25) #[] #[pt_ x4_0]∧(.slice x16 x16n x16c:Value)=.slice x16 x16n x16c∧(.int .i64 x17:Value)=.int .i64 x17∧true=true∧∃ n':Nat,n'<n0∧I0 n' (IntKind.wrap .i64 (x18+1)) m)) :
 vcS Tryz.prog w0 qs15 (sub V.c15 [1,1,1,0,1,0,0,1,1,0,0,1,1,1,1,1,1,0]) σ m (blockS 2 (blockS 1 (thenS (fun σ m=>vcS Tryz.prog w0 qs15 (sub V.c15 [1,1,1,0,1,0,0,1,1,1]) σ m (lq15_111010 R x0 x0n x0c x2 x3 x4_0 x16 x16n x16c x17 I0 E0_0 n0)) (lq15_111010 R x0 x0n x0c x2 x3 x4_0 x16 x16n x16c x17 I0 E0_0 n0)))):=by
  rw [show sub V.c15 [1,1,1,0,1,0,0,1,1,0,0,1,1,1,1,1,1,0]=.loop (sub V.c15 [1,1,1,0,1,0,0,1,1,0,0,1,1,1,1,1,1,0,0]) from by kernel_rfl]
  refine loopQ (fun n1 σ m=>σ 0=.slice x0 x0n x0c∧σ 2=.pointer (some ⟨x2,0,none⟩)∧σ 3=.pointer (some ⟨x3,0,none⟩)∧σ 4=.func (.func 25) #[] #[pt_ x4_0]∧σ 6=.pointer (some ⟨x6,0,none⟩)∧σ 16=.slice x16 x16n x16c∧σ 17=.int .i64 x17∧σ 18=.int .i64 x18∧σ 41=.slice x41 x41n x41c∧σ 42=.int .i64 x42∧okI .i64 (σ 43)=true∧I1 n1 (vI (σ 43)) m) N (fun n1=>(lq15_111010011001111110 R x0 x0n x0c x2 x3 x4_0 x6 x16 x16n x16c x17 x18 x41 x41n x41c x42 I1 E1_2 n1)) ⟨h0,h2,h3,h4,h6,h16,h17,h18,h41,h42,(by rw [h43]; rfl),(by rw [h43]; exact h_0)⟩ ?_ ?_ ?_
  · rintro n1 σ m ⟨kk0,kk1,kk2,kk3,kk4,kk5,kk6,kk7,kk8,kk9,kk10,n',hlt,hI⟩; exact ⟨n',hlt,kk0,kk1,kk2,kk3,kk4,kk5,kk6,kk7,kk8,kk9,kk10,hI⟩
  · intro n1 e σ m hne h
    cases e with
    | normal=>exact absurd rfl hne
    | ret=>exact h
    | exit id =>
      by_cases e2:id=2
      · subst e2
        obtain ⟨kk0,kk1,kk2,kk3,kk4,kk5,kk6,kk7,kk8,kk9,hE⟩:=h
        have es:(upd (upd (upd (upd (upd (upd (upd (upd (upd (upd σ 0 (.slice x0 x0n x0c)) 2 (pt_ x2)) 3 (pt_ x3)) 4 (.func (.func 25) #[] #[pt_ x4_0])) 6 (pt_ x6)) 16 (.slice x16 x16n x16c)) 17 (.int .i64 x17)) 18 (.int .i64 x18)) 41 (.slice x41 x41n x41c)) 42 (.int .i64 x42))=σ:=by rw [upd_id kk0,upd_id kk1,upd_id kk2,upd_id kk3,upd_id kk4,upd_id kk5,upd_id kk6,upd_id kk7,upd_id kk8,upd_id kk9]
        exact cast (congrArg (fun s=>(blockS 2 (blockS 1 (thenS (fun σ m=>vcS Tryz.prog w0 qs15 (sub V.c15 [1,1,1,0,1,0,0,1,1,1]) σ m (lq15_111010 R x0 x0n x0c x2 x3 x4_0 x16 x16n x16c x17 I0 E0_0 n0)) (lq15_111010 R x0 x0n x0c x2 x3 x4_0 x16 x16n x16c x17 I0 E0_0 n0)))) (.exit 2) s m) es) (cast (by kernel_rfl) (h_e2 σ  m hE))
      · replace h:=(if_neg e2:(if id=2 then _ else _)=_).mp h
        exact False.elim h
    | _=>exact False.elim h
  · rintro n1 σ m ⟨kk0,kk1,kk2,kk3,kk4,kk5,kk6,kk7,kk8,kk9,kk10,hI⟩
    have es:(upd (upd (upd (upd (upd (upd (upd (upd (upd (upd (upd σ 0 (.slice x0 x0n x0c)) 2 (pt_ x2)) 3 (pt_ x3)) 4 (.func (.func 25) #[] #[pt_ x4_0])) 6 (pt_ x6)) 16 (.slice x16 x16n x16c)) 17 (.int .i64 x17)) 18 (.int .i64 x18)) 41 (.slice x41 x41n x41c)) 42 (.int .i64 x42)) 43 (.int .i64 (vI (σ 43))))=σ:=by rw [upd_id kk0,upd_id kk1,upd_id kk2,upd_id kk3,upd_id kk4,upd_id kk5,upd_id kk6,upd_id kk7,upd_id kk8,upd_id kk9,upd_id (ok_int kk10)]
    exact cast (congrArg (fun s=>vcS Tryz.prog w0 qs15 (sub V.c15 [1,1,1,0,1,0,0,1,1,0,0,1,1,1,1,1,1,0,0]) s m (lq15_111010011001111110 R x0 x0n x0c x2 x3 x4_0 x6 x16 x16n x16c x17 x18 x41 x41n x41c x42 I1 E1_2 n1)) es) (cast (by kernel_rfl) (h_s n1 σ (vI (σ 43)) m hI))

def qs25:Nat→List (Nat × Nat):=fun i=>match i with | _=>[]
noncomputable def c25:Code:=bodyOf Tryz.f25
theorem cf25 (w0:World) (m:AM) (x0:Int) (pc:Nat) (R:Value→AM→Prop) (h :
 ∃ r1:Option Nat,m.cell ⟨pc,2,none⟩=some (.map r1) ∧ 
 ∃ (A2:Option Addr) (n3 c4:Nat),m.cell ⟨pc,0,none⟩=some (.slice A2 n3 c4) ∧ 
 awp Tryz.prog w0.heap.size (Instr.mapUpdate 40 (.map r1) (.int .i64 x0) (.int .i64 ((n3:Nat):Int))) m fun _ m5 =>
 ∃ (A6:Option Addr) (n7 c8:Nat),m5.cell ⟨pc,1,none⟩=some (.slice A6 n7 c8) ∧ 
 ∃ (A9:Option Addr) (n10 c11:Nat),m5.cell ⟨pc,0,none⟩=some (.slice A9 n10 c11) ∧ 
 true=true∧∀ b12:Nat,w0.heap.size≤b12→m5 b12=none→let m13:=AM.upd m5 b12 (.cells #[.int .i64 ((n10:Nat):Int)] 3);
 awp Tryz.prog w0.heap.size (Builtin.append_ #[23,23] 23 #[.slice A6 n7 c8,.slice (some ⟨b12,0,none⟩) 1 1]) m13 fun v14 m15 =>
 ∃ (A16:Option Addr) (n17 c18:Nat),v14=.slice A16 n17 c18∧StC w0.heap.size m15 ⟨pc,1,none⟩ (.slice A16 n17 c18) fun m19 =>
 RetP R (.tuple #[]) m19):CallsA Tryz.prog w0 25 #[.int .i64 x0,pt_ pc] m R :=
  callsA_of (c:=c25) (args:=[.int .i64 x0,pt_ pc]) (by kernel_rfl) Tryz.func25 (by kernel_rfl) qs25 (by kernel_rfl) (by kernel_rfl) (cast (by kernel_rfl) h)

def qs6:Nat→List (Nat × Nat):=fun i=>match i with | _=>[]
noncomputable def c6:Code:=bodyOf Tryz.f6
theorem cf6 (w0:World) (m:AM) (x0:Option Addr) (x0n x0c:Nat) (R:Value→AM→Prop) (h :
 CallsA Tryz.prog w0 14 #[.slice x0 x0n x0c] m fun r2 m3 =>
 ∃ t1:Bool,r2=.bool t1∧(bcase (!t1) (
 RetP R (.tuple #[.slice none 0 0,.slice none 0 0,.int .i64 1]) m3) (
 CallsA Tryz.prog w0 15 #[.slice x0 x0n x0c] m3 fun r14 m15 =>
 ∃ (A4:Option Addr) (n5 c6:Nat),∃ (A7:Option Addr) (n8 c9:Nat),∃ r10:Option Nat,∃ (A11:Option Addr) (n12 c13:Nat),r14=.agg #[.slice A4 n5 c6,.slice A7 n8 c9,.map r10,.slice A11 n12 c13]∧∀ b16:Nat,w0.heap.size≤b16→m15 b16=none→let m17:=AM.upd m15 b16 (.cells #[.slice none 0 0,.slice none 0 0,.map none,.slice none 0 0] 42);
 StC w0.heap.size m17 ⟨b16,0,none⟩ (.slice A4 n5 c6) fun m18 =>
 StC w0.heap.size m18 ⟨b16,1,none⟩ (.slice A7 n8 c9) fun m19 =>
 StC w0.heap.size m19 ⟨b16,2,none⟩ (.map r10) fun m20 =>
 StC w0.heap.size m20 ⟨b16,3,none⟩ (.slice A11 n12 c13) fun m21 =>
 ∃ (A22:Option Addr) (n23 c24:Nat),m21.cell ⟨b16,0,none⟩=some (.slice A22 n23 c24) ∧ 
 KI_∧(bcase (decide ((((n23:Nat):Int):Int)>4096)) (
 RetP R (.tuple #[.slice none 0 0,.slice none 0 0,.int .i64 4]) m21) (
 ∃ (A25:Option Addr) (n26 c27:Nat),m21.cell ⟨b16,3,none⟩=some (.slice A25 n26 c27) ∧ 
 vcS Tryz.prog w0 qs6 (sub V.c6 [1,1,1,1,0,1,0]) (upd (upd (upd (upd (upd (upd (upd (upd (upd (upd (upd (upd (upd (upd (upd (upd (upd (argS [.slice x0 x0n x0c]) 2 (.slice none 0 0)) 3 (.slice none 0 0)) 4 (.int .i64 0)) 11 (.slice x0 x0n x0c)) 12 (.bool t1)) 13 (.bool (!t1))) 14 (.slice x0 x0n x0c)) 15 (.agg #[.slice A4 n5 c6,.slice A7 n8 c9,.map r10,.slice A11 n12 c13])) 5 (pt_ b16)) 16 (pt_ b16)) 17 (.slice A22 n23 c24)) 18 (.int .i64 ((n23:Nat):Int))) 19 (.bool (decide ((((n23:Nat):Int):Int)>4096)))) 20 (.pointer (some ⟨b16,3,none⟩))) 21 (.slice A25 n26 c27)) 22 (.int .i64 ((n26:Nat):Int))) 23 (.int .i64 0)) m21 (blockS 0 (thenS (fun σ m=>vcS Tryz.prog w0 qs6 (sub V.c6 [1,1,1,1,1]) σ m (retQ Tryz.prog Tryz.f6 R)) (retQ Tryz.prog Tryz.f6 R)))))))):CallsA Tryz.prog w0 6 #[.slice x0 x0n x0c] m R :=
  callsA_of (c:=c6) (args:=[.slice x0 x0n x0c]) (by kernel_rfl) Tryz.func6 (by kernel_rfl) qs6 (by kernel_rfl) (by kernel_rfl) (cast (by kernel_rfl) h)
def lq6_1111010 (R:Value→AM→Prop) (x0:Option Addr) (x0n x0c:Nat) (x5:Nat) (x21:Option Addr) (x21n x21c:Nat) (x22:Int) (I0:Nat→Int→AM→Prop) (E0_0:AM→Prop) (n0:Nat):Exit→Sg→AM→Prop
 | .normal,σ,m=>σ 0=.slice x0 x0n x0c∧σ 5=.pointer (some ⟨x5,0,none⟩)∧σ 21=.slice x21 x21n x21c∧σ 22=.int .i64 x22∧okI .i64 (σ 23)=true∧∃ n':Nat,n'<n0∧I0 n' (vI (σ 23)) m
 | .exit id,σ,m=>if id=0 then σ 0=.slice x0 x0n x0c∧σ 5=.pointer (some ⟨x5,0,none⟩)∧σ 21=.slice x21 x21n x21c∧σ 22=.int .i64 x22∧E0_0  m else False
 | .ret,σ,m=>retQ Tryz.prog Tryz.f6 R .ret σ m
 | _,_,_=>False
theorem vl6_1111010 (w0:World) (m:AM) (σ:Sg) (R:Value→AM→Prop)  (x0:Option Addr) (x0n x0c:Nat) (x5:Nat) (x21:Option Addr) (x21n x21c:Nat) (x22:Int) (x23:Int) (I0:Nat→Int→AM→Prop) (E0_0:AM→Prop) (N:Nat) (h0:σ 0=.slice x0 x0n x0c) (h5:σ 5=.pointer (some ⟨x5,0,none⟩)) (h21:σ 21=.slice x21 x21n x21c) (h22:σ 22=.int .i64 x22) (h23:σ 23=.int .i64 x23)
 (h_0:I0 N x23 m)
 (h_s:∀ (n0:Nat) (σ:Sg) (x23:Int) (m:AM),I0 n0 x23 m→(
 KI_∧(bcase (decide ((x23:Int)<x22)) (
 ((0:Int)≤x23∧x23<((x21n:Nat):Int))∧nilO x21 fun a28 =>
 LA_ m (a28.add ((x23:Int).toNat*1)) fun i29 => 
 KI_∧(bcase (decide ((i29:Int)<0)) (
 KI_∧(.slice x0 x0n x0c:Value)=.slice x0 x0n x0c∧(.pointer (some ⟨x5,0,none⟩):Value)=.pointer (some ⟨x5,0,none⟩)∧(.slice x21 x21n x21c:Value)=.slice x21 x21n x21c∧(.int .i64 x22:Value)=.int .i64 x22∧true=true∧∃ n':Nat,n'<n0∧I0 n' (IntKind.wrap .i64 (x23+1)) m) (
 ((0:Int)≤i29∧i29<((x0n:Nat):Int))∧nilO x0 fun a30 =>
 LA_ m (a30.add ((i29:Int).toNat*5)) fun i31=>∃ i32:Int,m.cell ((a30.add ((i29:Int).toNat*5)).add 1)=some (.int .i64 i32)∧∃ i33:Int,m.cell ((a30.add ((i29:Int).toNat*5)).add 2)=some (.int .i64 i33)∧∃ i34:Int,m.cell ((a30.add ((i29:Int).toNat*5)).add 3)=some (.int .i64 i34)∧∃ i35:Int,m.cell ((a30.add ((i29:Int).toNat*5)).add 4)=some (.int .i64 i35) ∧ 
 CallsA Tryz.prog w0 16 #[.agg #[.int .i64 i31,.int .i64 i32,.int .i64 i33,.int .i64 i34,.int .i64 i35],.int .i64 i29] m fun r38 m39 =>
 ∃ i36:Int,∃ t37:Bool,r38=.tuple #[.int .i64 i36,.bool t37]∧(bcase (!t37) (
 KI_∧(.slice x0 x0n x0c:Value)=.slice x0 x0n x0c∧(.pointer (some ⟨x5,0,none⟩):Value)=.pointer (some ⟨x5,0,none⟩)∧(.slice x21 x21n x21c:Value)=.slice x21 x21n x21c∧(.int .i64 x22:Value)=.int .i64 x22∧true=true∧∃ n':Nat,n'<n0∧I0 n' (IntKind.wrap .i64 (x23+1)) m39) (
 ∃ (A42:Option Addr) (n43 c44:Nat),m39.cell ⟨x5,0,none⟩=some (.slice A42 n43 c44) ∧ 
 ((0:Int)≤x23∧x23<((n43:Nat):Int))∧nilO A42 fun a45 =>
 LA_ m39 (a45.add ((x23:Int).toNat*5)) fun i46=>∃ i47:Int,m39.cell ((a45.add ((x23:Int).toNat*5)).add 1)=some (.int .i64 i47)∧∃ i48:Int,m39.cell ((a45.add ((x23:Int).toNat*5)).add 2)=some (.int .i64 i48)∧∃ i49:Int,m39.cell ((a45.add ((x23:Int).toNat*5)).add 3)=some (.int .i64 i49)∧∃ i50:Int,m39.cell ((a45.add ((x23:Int).toNat*5)).add 4)=some (.int .i64 i50) ∧ 
 ∀ b51:Nat,w0.heap.size≤b51→m39 b51=none→let m52:=AM.upd m39 b51 (.cells #[.int .i64 0,.int .i64 0,.int .i64 0,.int .i64 0,.int .i64 0] 36);
 SI_ w0.heap.size m52 b51 0 i46 fun m53 =>
 SI_ w0.heap.size m53 b51 1 i47 fun m54 =>
 SI_ w0.heap.size m54 b51 2 i48 fun m55 =>
 SI_ w0.heap.size m55 b51 3 i49 fun m56 =>
 SI_ w0.heap.size m56 b51 4 i50 fun m57 =>
 ∃ r58:Option Nat,m57.cell ⟨x5,2,none⟩=some (.map r58) ∧ 
 ∃ i59:Int,rval Tryz.prog m57 (Instr.lookup 40 (.map r58) (.int .i64 i36) false)=some (.int .i64 i59) ∧
 SI_ w0.heap.size m57 b51 4 i59 fun m60 =>
 LI_ m60 b51 0 fun i61 => 
 KI_∧(bcase ((i61:Int) == 15) (
 ((i61:Int) == 15)=true∧LI_ m60 b51 4 fun i62 => 
 KI_∧KI_∧StC w0.heap.size m60 ⟨b51,4,none⟩ (.int .i64 (IntKind.wrap .i64 (i62-(IntKind.wrap .i64 (x23+1))))) fun m63 =>
 vcS Tryz.prog w0 qs6 (sub V.c6 [1,1,1,1,0,1,0,0,1,1,0,0,1,1,1,1,1,1,1]) (upd (upd (upd (upd (upd (upd (upd (upd (upd (upd (upd (upd (upd (upd (upd (upd (upd (upd (upd (upd (upd (upd (upd (upd (upd (upd (upd (upd (upd (upd (upd (upd (upd (upd (upd (upd (upd (upd (upd (upd (upd (upd (upd (upd (upd (upd (upd (upd (upd (upd (upd σ 0 (.slice x0 x0n x0c)) 5 (pt_ x5)) 21 (.slice x21 x21n x21c)) 22 (.int .i64 x22)) 23 (.int .i64 x23)) 24 (.bool (decide ((x23:Int)<x22)))) 25 (.int .i64 x23)) 26 (.pointer (some (a28.add ((x23:Int).toNat*1))))) 27 (.int .i64 i29)) 6 (.int .i64 x23)) 7 (.int .i64 i29)) 28 (.int .i64 i29)) 29 (.bool (decide ((i29:Int)<0)))) 31 (.slice x0 x0n x0c)) 32 (.int .i64 i29)) 33 (.pointer (some (a30.add ((i29:Int).toNat*5))))) 34 (.agg #[.int .i64 i31,.int .i64 i32,.int .i64 i33,.int .i64 i34,.int .i64 i35])) 35 (.int .i64 i29)) 36 (.tuple #[.int .i64 i36,.bool t37])) 30 (.tuple #[.int .i64 i36,.bool t37])) 37 (.int .i64 i36)) 38 (.bool t37)) 8 (.int .i64 i36)) 9 (.bool t37)) 39 (.bool t37)) 40 (.bool (!t37))) 41 (pt_ x5)) 42 (.slice A42 n43 c44)) 43 (.int .i64 x23)) 44 (.pointer (some (a45.add ((x23:Int).toNat*5))))) 45 (.agg #[.int .i64 i46,.int .i64 i47,.int .i64 i48,.int .i64 i49,.int .i64 i50])) 10 (pt_ b51)) 46 (.pointer (some ⟨x5,2,none⟩))) 47 (.map r58)) 48 (.int .i64 i36)) 49 (.int .i64 i59)) 50 (.pointer (some ⟨b51,4,none⟩))) 51 (pt_ b51)) 52 (.int .i64 i61)) 53 (.bool ((i61:Int) == 15))) 54 (.bool ((i61:Int) == 15))) 55 (undef)) 56 (undef)) 57 (undef)) 58 (.bool true)) 59 (.pointer (some ⟨b51,4,none⟩))) 60 (.int .i64 i62)) 61 (.int .i64 x23)) 62 (.int .i64 (IntKind.wrap .i64 (x23+1)))) 63 (.int .i64 (IntKind.wrap .i64 (i62-(IntKind.wrap .i64 (x23+1)))))) 64 (.pointer (some ⟨b51,4,none⟩))) m63 (blockS 1 (thenS (fun σ m=>vcS Tryz.prog w0 qs6 (sub V.c6 [1,1,1,1,0,1,0,0,1,1,1]) σ m (lq6_1111010 R x0 x0n x0c x5 x21 x21n x21c x22 I0 E0_0 n0)) (lq6_1111010 R x0 x0n x0c x5 x21 x21n x21c x22 I0 E0_0 n0)))) (
 LI_ m60 b51 0 fun i64 => 
 KI_∧(bcase (bif (i61:Int) == 15 then true else (i64:Int) == 16) (
 LI_ m60 b51 4 fun i65 => 
 KI_∧KI_∧StC w0.heap.size m60 ⟨b51,4,none⟩ (.int .i64 (IntKind.wrap .i64 (i65-(IntKind.wrap .i64 (x23+1))))) fun m66 =>
 vcS Tryz.prog w0 qs6 (sub V.c6 [1,1,1,1,0,1,0,0,1,1,0,0,1,1,1,1,1,1,1]) (upd (upd (upd (upd (upd (upd (upd (upd (upd (upd (upd (upd (upd (upd (upd (upd (upd (upd (upd (upd (upd (upd (upd (upd (upd (upd (upd (upd (upd (upd (upd (upd (upd (upd (upd (upd (upd (upd (upd (upd (upd (upd (upd (upd (upd (upd (upd (upd (upd (upd (upd σ 0 (.slice x0 x0n x0c)) 5 (pt_ x5)) 21 (.slice x21 x21n x21c)) 22 (.int .i64 x22)) 23 (.int .i64 x23)) 24 (.bool (decide ((x23:Int)<x22)))) 25 (.int .i64 x23)) 26 (.pointer (some (a28.add ((x23:Int).toNat*1))))) 27 (.int .i64 i29)) 6 (.int .i64 x23)) 7 (.int .i64 i29)) 28 (.int .i64 i29)) 29 (.bool (decide ((i29:Int)<0)))) 31 (.slice x0 x0n x0c)) 32 (.int .i64 i29)) 33 (.pointer (some (a30.add ((i29:Int).toNat*5))))) 34 (.agg #[.int .i64 i31,.int .i64 i32,.int .i64 i33,.int .i64 i34,.int .i64 i35])) 35 (.int .i64 i29)) 36 (.tuple #[.int .i64 i36,.bool t37])) 30 (.tuple #[.int .i64 i36,.bool t37])) 37 (.int .i64 i36)) 38 (.bool t37)) 8 (.int .i64 i36)) 9 (.bool t37)) 39 (.bool t37)) 40 (.bool (!t37))) 41 (pt_ x5)) 42 (.slice A42 n43 c44)) 43 (.int .i64 x23)) 44 (.pointer (some (a45.add ((x23:Int).toNat*5))))) 45 (.agg #[.int .i64 i46,.int .i64 i47,.int .i64 i48,.int .i64 i49,.int .i64 i50])) 10 (pt_ b51)) 46 (.pointer (some ⟨x5,2,none⟩))) 47 (.map r58)) 48 (.int .i64 i36)) 49 (.int .i64 i59)) 50 (.pointer (some ⟨b51,4,none⟩))) 51 (pt_ b51)) 52 (.int .i64 i61)) 53 (.bool ((i61:Int) == 15))) 54 (.bool ((i61:Int) == 15))) 55 (pt_ b51)) 56 (.int .i64 i64)) 57 (.bool ((i64:Int) == 16))) 58 (.bool (bif (i61:Int) == 15 then true else (i64:Int) == 16))) 59 (.pointer (some ⟨b51,4,none⟩))) 60 (.int .i64 i65)) 61 (.int .i64 x23)) 62 (.int .i64 (IntKind.wrap .i64 (x23+1)))) 63 (.int .i64 (IntKind.wrap .i64 (i65-(IntKind.wrap .i64 (x23+1)))))) 64 (.pointer (some ⟨b51,4,none⟩))) m66 (blockS 1 (thenS (fun σ m=>vcS Tryz.prog w0 qs6 (sub V.c6 [1,1,1,1,0,1,0,0,1,1,1]) σ m (lq6_1111010 R x0 x0n x0c x5 x21 x21n x21c x22 I0 E0_0 n0)) (lq6_1111010 R x0 x0n x0c x5 x21 x21n x21c x22 I0 E0_0 n0)))) (
 vcS Tryz.prog w0 qs6 (sub V.c6 [1,1,1,1,0,1,0,0,1,1,0,0,1,1,1,1,1,1,1]) (upd (upd (upd (upd (upd (upd (upd (upd (upd (upd (upd (upd (upd (upd (upd (upd (upd (upd (upd (upd (upd (upd (upd (upd (upd (upd (upd (upd (upd (upd (upd (upd (upd (upd (upd (upd (upd (upd (upd (upd (upd (upd (upd (upd (upd σ 0 (.slice x0 x0n x0c)) 5 (pt_ x5)) 21 (.slice x21 x21n x21c)) 22 (.int .i64 x22)) 23 (.int .i64 x23)) 24 (.bool (decide ((x23:Int)<x22)))) 25 (.int .i64 x23)) 26 (.pointer (some (a28.add ((x23:Int).toNat*1))))) 27 (.int .i64 i29)) 6 (.int .i64 x23)) 7 (.int .i64 i29)) 28 (.int .i64 i29)) 29 (.bool (decide ((i29:Int)<0)))) 31 (.slice x0 x0n x0c)) 32 (.int .i64 i29)) 33 (.pointer (some (a30.add ((i29:Int).toNat*5))))) 34 (.agg #[.int .i64 i31,.int .i64 i32,.int .i64 i33,.int .i64 i34,.int .i64 i35])) 35 (.int .i64 i29)) 36 (.tuple #[.int .i64 i36,.bool t37])) 30 (.tuple #[.int .i64 i36,.bool t37])) 37 (.int .i64 i36)) 38 (.bool t37)) 8 (.int .i64 i36)) 9 (.bool t37)) 39 (.bool t37)) 40 (.bool (!t37))) 41 (pt_ x5)) 42 (.slice A42 n43 c44)) 43 (.int .i64 x23)) 44 (.pointer (some (a45.add ((x23:Int).toNat*5))))) 45 (.agg #[.int .i64 i46,.int .i64 i47,.int .i64 i48,.int .i64 i49,.int .i64 i50])) 10 (pt_ b51)) 46 (.pointer (some ⟨x5,2,none⟩))) 47 (.map r58)) 48 (.int .i64 i36)) 49 (.int .i64 i59)) 50 (.pointer (some ⟨b51,4,none⟩))) 51 (pt_ b51)) 52 (.int .i64 i61)) 53 (.bool ((i61:Int) == 15))) 54 (.bool ((i61:Int) == 15))) 55 (pt_ b51)) 56 (.int .i64 i64)) 57 (.bool ((i64:Int) == 16))) 58 (.bool (bif (i61:Int) == 15 then true else (i64:Int) == 16))) m60 (blockS 1 (thenS (fun σ m=>vcS Tryz.prog w0 qs6 (sub V.c6 [1,1,1,1,0,1,0,0,1,1,1]) σ m (lq6_1111010 R x0 x0n x0c x5 x21 x21n x21c x22 I0 E0_0 n0)) (lq6_1111010 R x0 x0n x0c x5 x21 x21n x21c x22 I0 E0_0 n0)))))))))))) (
 (.slice x0 x0n x0c:Value)=.slice x0 x0n x0c∧(.pointer (some ⟨x5,0,none⟩):Value)=.pointer (some ⟨x5,0,none⟩)∧(.slice x21 x21n x21c:Value)=.slice x21 x21n x21c∧(.int .i64 x22:Value)=.int .i64 x22∧E0_0  m))))
 (h_e0:∀ (σ:Sg)  (m:AM),E0_0  m→(
 ∃ (A67:Option Addr) (n68 c69:Nat),m.cell ⟨x5,0,none⟩=some (.slice A67 n68 c69) ∧ 
 ∃ (A70:Option Addr) (n71 c72:Nat),m.cell ⟨x5,1,none⟩=some (.slice A70 n71 c72) ∧ 
 RetP R (.tuple #[.slice A67 n68 c69,.slice A70 n71 c72,.int .i64 0]) m)) :
 vcS Tryz.prog w0 qs6 (sub V.c6 [1,1,1,1,0,1,0]) σ m (blockS 0 (thenS (fun σ m=>vcS Tryz.prog w0 qs6 (sub V.c6 [1,1,1,1,1]) σ m (retQ Tryz.prog Tryz.f6 R)) (retQ Tryz.prog Tryz.f6 R))):=by
  rw [show sub V.c6 [1,1,1,1,0,1,0]=.loop (sub V.c6 [1,1,1,1,0,1,0,0]) from by kernel_rfl]
  refine loopQ (fun n0 σ m=>σ 0=.slice x0 x0n x0c∧σ 5=.pointer (some ⟨x5,0,none⟩)∧σ 21=.slice x21 x21n x21c∧σ 22=.int .i64 x22∧okI .i64 (σ 23)=true∧I0 n0 (vI (σ 23)) m) N (fun n0=>(lq6_1111010 R x0 x0n x0c x5 x21 x21n x21c x22 I0 E0_0 n0)) ⟨h0,h5,h21,h22,(by rw [h23]; rfl),(by rw [h23]; exact h_0)⟩ ?_ ?_ ?_
  · rintro n0 σ m ⟨kk0,kk1,kk2,kk3,kk4,n',hlt,hI⟩; exact ⟨n',hlt,kk0,kk1,kk2,kk3,kk4,hI⟩
  · intro n0 e σ m hne h
    cases e with
    | normal=>exact absurd rfl hne
    | ret=>exact h
    | exit id =>
      by_cases e0:id=0
      · subst e0
        obtain ⟨kk0,kk1,kk2,kk3,hE⟩:=h
        have es:(upd (upd (upd (upd σ 0 (.slice x0 x0n x0c)) 5 (pt_ x5)) 21 (.slice x21 x21n x21c)) 22 (.int .i64 x22))=σ:=by rw [upd_id kk0,upd_id kk1,upd_id kk2,upd_id kk3]
        exact cast (congrArg (fun s=>(blockS 0 (thenS (fun σ m=>vcS Tryz.prog w0 qs6 (sub V.c6 [1,1,1,1,1]) σ m (retQ Tryz.prog Tryz.f6 R)) (retQ Tryz.prog Tryz.f6 R))) (.exit 0) s m) es) (cast (by kernel_rfl) (h_e0 σ  m hE))
      · replace h:=(if_neg e0:(if id=0 then _ else _)=_).mp h
        exact False.elim h
    | _=>exact False.elim h
  · rintro n0 σ m ⟨kk0,kk1,kk2,kk3,kk4,hI⟩
    have es:(upd (upd (upd (upd (upd σ 0 (.slice x0 x0n x0c)) 5 (pt_ x5)) 21 (.slice x21 x21n x21c)) 22 (.int .i64 x22)) 23 (.int .i64 (vI (σ 23))))=σ:=by rw [upd_id kk0,upd_id kk1,upd_id kk2,upd_id kk3,upd_id (ok_int kk4)]
    exact cast (congrArg (fun s=>vcS Tryz.prog w0 qs6 (sub V.c6 [1,1,1,1,0,1,0,0]) s m (lq6_1111010 R x0 x0n x0c x5 x21 x21n x21c x22 I0 E0_0 n0)) es) (cast (by kernel_rfl) (h_s n0 σ (vI (σ 23)) m hI))
theorem vk6_1111010011001111111 (w0:World) (m:AM) (σ:Sg) (R:Value→AM→Prop) (n0:Nat) (I0:Nat→Int→AM→Prop) (E0_0:AM→Prop) (x0:Option Addr) (x0n x0c:Nat) (x5:Nat) (x6:Int) (x10:Nat) (x21:Option Addr) (x21n x21c:Nat) (x22:Int) (x23:Int) (h0:σ 0=.slice x0 x0n x0c) (h5:σ 5=.pointer (some ⟨x5,0,none⟩)) (h6:σ 6=.int .i64 x6) (h10:σ 10=.pointer (some ⟨x10,0,none⟩)) (h21:σ 21=.slice x21 x21n x21c) (h22:σ 22=.int .i64 x22) (h23:σ 23=.int .i64 x23) (h :
 LI_ m x10 0 fun i73=>LI_ m x10 1 fun i74=>LI_ m x10 2 fun i75=>LI_ m x10 3 fun i76=>LI_ m x10 4 fun i77 => 
 CallsA Tryz.prog w0 17 #[.agg #[.int .i64 i73,.int .i64 i74,.int .i64 i75,.int .i64 i76,.int .i64 i77]] m fun r79 m80 =>
 ∃ t78:Bool,r79=.bool t78∧(bcase (!t78) (
 RetP R (.tuple #[.slice none 0 0,.slice none 0 0,.int .i64 3]) m80) (
 ∃ (A81:Option Addr) (n82 c83:Nat),m80.cell ⟨x5,0,none⟩=some (.slice A81 n82 c83) ∧ 
 LI_ m80 x10 0 fun i84=>LI_ m80 x10 1 fun i85=>LI_ m80 x10 2 fun i86=>LI_ m80 x10 3 fun i87=>LI_ m80 x10 4 fun i88 => 
 ((0:Int)≤x6∧x6<((n82:Nat):Int))∧nilO A81 fun a89 =>
 StC w0.heap.size m80 (a89.add ((x6:Int).toNat*5)) (.int .i64 i84) fun m90 =>
 StC w0.heap.size m90 ((a89.add ((x6:Int).toNat*5)).add 1) (.int .i64 i85) fun m91 =>
 StC w0.heap.size m91 ((a89.add ((x6:Int).toNat*5)).add 2) (.int .i64 i86) fun m92 =>
 StC w0.heap.size m92 ((a89.add ((x6:Int).toNat*5)).add 3) (.int .i64 i87) fun m93 =>
 StC w0.heap.size m93 ((a89.add ((x6:Int).toNat*5)).add 4) (.int .i64 i88) fun m94 =>
 KI_∧(.slice x0 x0n x0c:Value)=.slice x0 x0n x0c∧(.pointer (some ⟨x5,0,none⟩):Value)=.pointer (some ⟨x5,0,none⟩)∧(.slice x21 x21n x21c:Value)=.slice x21 x21n x21c∧(.int .i64 x22:Value)=.int .i64 x22∧true=true∧∃ n':Nat,n'<n0∧I0 n' (IntKind.wrap .i64 (x23+1)) m94))) :
 vcS Tryz.prog w0 qs6 (sub V.c6 [1,1,1,1,0,1,0,0,1,1,0,0,1,1,1,1,1,1,1]) σ m (blockS 1 (thenS (fun σ m=>vcS Tryz.prog w0 qs6 (sub V.c6 [1,1,1,1,0,1,0,0,1,1,1]) σ m (lq6_1111010 R x0 x0n x0c x5 x21 x21n x21c x22 I0 E0_0 n0)) (lq6_1111010 R x0 x0n x0c x5 x21 x21n x21c x22 I0 E0_0 n0))):=by
  have es0:(upd (upd (upd (upd (upd (upd (upd σ 0 (.slice x0 x0n x0c)) 5 (pt_ x5)) 6 (.int .i64 x6)) 10 (pt_ x10)) 21 (.slice x21 x21n x21c)) 22 (.int .i64 x22)) 23 (.int .i64 x23))=σ:=by rw [upd_id h0,upd_id h5,upd_id h6,upd_id h10,upd_id h21,upd_id h22,upd_id h23]
  exact cast (congrArg (fun s=>vcS Tryz.prog w0 qs6 (sub V.c6 [1,1,1,1,0,1,0,0,1,1,0,0,1,1,1,1,1,1,1]) s m (blockS 1 (thenS (fun σ m=>vcS Tryz.prog w0 qs6 (sub V.c6 [1,1,1,1,0,1,0,0,1,1,1]) σ m (lq6_1111010 R x0 x0n x0c x5 x21 x21n x21c x22 I0 E0_0 n0)) (lq6_1111010 R x0 x0n x0c x5 x21 x21n x21c x22 I0 E0_0 n0)))) es0) (cast (by kernel_rfl) h)
end Go.Proofs.YtkfemiloehkmhaaGreat.V

