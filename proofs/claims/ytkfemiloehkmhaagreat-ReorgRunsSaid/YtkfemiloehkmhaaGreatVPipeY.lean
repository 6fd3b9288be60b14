/- YtkfemiloehkmhaaGreat: a text of our own, by an AI agent: VPipeY -/
import Derived.Test.YtkfemiloehkmhaaGreatCoreA
import Derived.Test.YtkfemiloehkmhaaGreatTabY
namespace Go.Proofs.YtkfemiloehkmhaaGreat.V
open Go Go.Alog Go.Proofs.YtkfemiloehkmhaaGreat.T
set_option linter.unusedVariables false
set_option maxRecDepth 100000

def qs37:Nat→List (Nat × Nat):=fun i=>match i with | _=>[]
noncomputable def c37:Code:=bodyOf Tryz.f37
theorem cf37 (w0:World) (m:AM) (x0:Nat) (R:Value→AM→Prop) (h :
 LB_ m x0 73 fun t1=>LI_ m x0 74 fun i2=>LI_ m x0 75 fun i3=>LI_ m x0 76 fun i4=>LI_ m x0 77 fun i5=>LI_ m x0 78 fun i6=>LI_ m x0 79 fun i7=>LI_ m x0 80 fun i8=>LI_ m x0 81 fun i9=>LI_ m x0 82 fun i10=>LI_ m x0 83 fun i11=>LI_ m x0 84 fun i12 => 
 ∀ b13:Nat,w0.heap.size≤b13→m b13=none→let m14:=AM.upd m b13 (.cells #[.bool false,.int .i64 0,.int .i64 0,.int .i64 0,.int .i64 0,.int .i64 0,.int .i64 0,.int .i64 0,.int .i64 0,.int .i64 0,.int .i64 0,.int .i64 0] 58);
 StC w0.heap.size m14 ⟨b13,0,none⟩ (.bool t1) fun m15 =>
 SI_ w0.heap.size m15 b13 1 i2 fun m16 =>
 SI_ w0.heap.size m16 b13 2 i3 fun m17 =>
 SI_ w0.heap.size m17 b13 3 i4 fun m18 =>
 SI_ w0.heap.size m18 b13 4 i5 fun m19 =>
 SI_ w0.heap.size m19 b13 5 i6 fun m20 =>
 SI_ w0.heap.size m20 b13 6 i7 fun m21 =>
 SI_ w0.heap.size m21 b13 7 i8 fun m22 =>
 SI_ w0.heap.size m22 b13 8 i9 fun m23 =>
 SI_ w0.heap.size m23 b13 9 i10 fun m24 =>
 SI_ w0.heap.size m24 b13 10 i11 fun m25 =>
 SI_ w0.heap.size m25 b13 11 i12 fun m26 =>
 LB_ m26 b13 0 fun t27 => 
 (bcase t27 (
 LI_ m26 b13 7 fun i28 => 
 KI_∧(bcase (bif t27 then (i28:Int) != 0 else false) (
 LI_ m26 b13 7 fun i29 => 
 LI_ m26 b13 8 fun i30 => 
 ((0:Int)≤i29∧i29<((32:Nat):Int)) ∧
 StC w0.heap.size m26 ((⟨x0,2,none⟩:Addr).add ((i29:Int).toNat*1)) (.int .i64 i30) fun m31 =>
 true=true∧StC w0.heap.size m31 ⟨x0,73,none⟩ (.bool false) fun m32 =>
 SI_ w0.heap.size m32 x0 74 0 fun m33 =>
 SI_ w0.heap.size m33 x0 75 0 fun m34 =>
 SI_ w0.heap.size m34 x0 76 0 fun m35 =>
 SI_ w0.heap.size m35 x0 77 0 fun m36 =>
 SI_ w0.heap.size m36 x0 78 0 fun m37 =>
 SI_ w0.heap.size m37 x0 79 0 fun m38 =>
 SI_ w0.heap.size m38 x0 80 0 fun m39 =>
 SI_ w0.heap.size m39 x0 81 0 fun m40 =>
 SI_ w0.heap.size m40 x0 82 0 fun m41 =>
 SI_ w0.heap.size m41 x0 83 0 fun m42 =>
 SI_ w0.heap.size m42 x0 84 0 fun m43 =>
 RetP R (.tuple #[]) m43) (
 true=true∧StC w0.heap.size m26 ⟨x0,73,none⟩ (.bool false) fun m44 =>
 SI_ w0.heap.size m44 x0 74 0 fun m45 =>
 SI_ w0.heap.size m45 x0 75 0 fun m46 =>
 SI_ w0.heap.size m46 x0 76 0 fun m47 =>
 SI_ w0.heap.size m47 x0 77 0 fun m48 =>
 SI_ w0.heap.size m48 x0 78 0 fun m49 =>
 SI_ w0.heap.size m49 x0 79 0 fun m50 =>
 SI_ w0.heap.size m50 x0 80 0 fun m51 =>
 SI_ w0.heap.size m51 x0 81 0 fun m52 =>
 SI_ w0.heap.size m52 x0 82 0 fun m53 =>
 SI_ w0.heap.size m53 x0 83 0 fun m54 =>
 SI_ w0.heap.size m54 x0 84 0 fun m55 =>
 RetP R (.tuple #[]) m55))) (
 t27=false∧true=true∧StC w0.heap.size m26 ⟨x0,73,none⟩ (.bool false) fun m56 =>
 SI_ w0.heap.size m56 x0 74 0 fun m57 =>
 SI_ w0.heap.size m57 x0 75 0 fun m58 =>
 SI_ w0.heap.size m58 x0 76 0 fun m59 =>
 SI_ w0.heap.size m59 x0 77 0 fun m60 =>
 SI_ w0.heap.size m60 x0 78 0 fun m61 =>
 SI_ w0.heap.size m61 x0 79 0 fun m62 =>
 SI_ w0.heap.size m62 x0 80 0 fun m63 =>
 SI_ w0.heap.size m63 x0 81 0 fun m64 =>
 SI_ w0.heap.size m64 x0 82 0 fun m65 =>
 SI_ w0.heap.size m65 x0 83 0 fun m66 =>
 SI_ w0.heap.size m66 x0 84 0 fun m67 =>
 RetP R (.tuple #[]) m67))):CallsA Tryz.prog w0 37 #[pt_ x0] m R :=
  callsA_of (c:=c37) (args:=[pt_ x0]) (by kernel_rfl) Tryz.func37 (by kernel_rfl) qs37 (by kernel_rfl) (by kernel_rfl) (cast (by kernel_rfl) h)

def qs57:Nat→List (Nat × Nat):=fun i=>match i with | _=>[]
noncomputable def c57:Code:=bodyOf Tryz.f57
theorem cf57 (w0:World) (m:AM) (x0:Nat) (x1_0:Bool) (x1_1:Int) (x1_2:Int) (x1_3:Int) (x1_4:Int) (x1_5:Int) (x1_6:Int) (x1_7:Int) (x1_8:Int) (x1_9:Int) (x1_10:Int) (x1_11:Int) (R:Value→AM→Prop) (h :
 ∀ b1:Nat,w0.heap.size≤b1→m b1=none→let m2:=AM.upd m b1 (.cells #[.bool x1_0,.int .i64 x1_1,.int .i64 x1_2,.int .i64 x1_3,.int .i64 x1_4,.int .i64 x1_5,.int .i64 x1_6,.int .i64 x1_7,.int .i64 x1_8,.int .i64 x1_9,.int .i64 x1_10,.int .i64 x1_11] 58);
 ∀ b3:Nat,w0.heap.size≤b3→m2 b3=none→let m4:=AM.upd m2 b3 (.cells #[.bool false,.int .i64 0,.int .i64 0,.int .i64 0,.int .i64 0,.int .i64 0,.int .i64 0,.int .i64 0,.int .i64 0,.int .i64 0,.int .i64 0,.int .i64 0] 58);
 LI_ m4 b1 5 fun i5 => 
 KI_∧(bcase ((i5:Int) == 0) (
 SI_ w0.heap.size m4 b1 11 1 fun m6 =>
 vcS Tryz.prog w0 qs57 (sub c57 [1,1]) (upd (upd (upd (upd (upd (upd (upd (upd (argS [pt_ x0,.agg #[.bool x1_0,.int .i64 x1_1,.int .i64 x1_2,.int .i64 x1_3,.int .i64 x1_4,.int .i64 x1_5,.int .i64 x1_6,.int .i64 x1_7,.int .i64 x1_8,.int .i64 x1_9,.int .i64 x1_10,.int .i64 x1_11]]) 3 (pt_ b1)) 4 (pt_ b3)) 5 (.pointer (some ⟨b1,1,none⟩))) 6 (.pointer (some ⟨b1,5,none⟩))) 7 (.int .i64 i5)) 9 (.bool ((i5:Int) == 0))) 8 (.bool ((i5:Int) == 0))) 10 (.pointer (some ⟨b1,11,none⟩))) m6 (retQ Tryz.prog Tryz.f57 R)) (
 KI_∧(bcase ((i5:Int) == 1) (
 ∃ (A7:Option Addr) (n8 c9:Nat),m4.cell ⟨x0,35,none⟩=some (.slice A7 n8 c9) ∧ 
 KI_∧(bcase ((((n8:Nat):Int):Int) == 0) (
 SI_ w0.heap.size m4 b1 11 6 fun m10 =>
 LB_ m10 b1 0 fun t11=>LI_ m10 b1 1 fun i12=>LI_ m10 b1 2 fun i13=>LI_ m10 b1 3 fun i14=>LI_ m10 b1 4 fun i15=>LI_ m10 b1 5 fun i16=>LI_ m10 b1 6 fun i17=>LI_ m10 b1 7 fun i18=>LI_ m10 b1 8 fun i19=>LI_ m10 b1 9 fun i20=>LI_ m10 b1 10 fun i21=>LI_ m10 b1 11 fun i22 => 
 StC w0.heap.size m10 ⟨b3,0,none⟩ (.bool t11) fun m23 =>
 SI_ w0.heap.size m23 b3 1 i12 fun m24 =>
 SI_ w0.heap.size m24 b3 2 i13 fun m25 =>
 SI_ w0.heap.size m25 b3 3 i14 fun m26 =>
 SI_ w0.heap.size m26 b3 4 i15 fun m27 =>
 SI_ w0.heap.size m27 b3 5 i16 fun m28 =>
 SI_ w0.heap.size m28 b3 6 i17 fun m29 =>
 SI_ w0.heap.size m29 b3 7 i18 fun m30 =>
 SI_ w0.heap.size m30 b3 8 i19 fun m31 =>
 SI_ w0.heap.size m31 b3 9 i20 fun m32 =>
 SI_ w0.heap.size m32 b3 10 i21 fun m33 =>
 SI_ w0.heap.size m33 b3 11 i22 fun m34 =>
 LB_ m34 b3 0 fun t35=>LI_ m34 b3 1 fun i36=>LI_ m34 b3 2 fun i37=>LI_ m34 b3 3 fun i38=>LI_ m34 b3 4 fun i39=>LI_ m34 b3 5 fun i40=>LI_ m34 b3 6 fun i41=>LI_ m34 b3 7 fun i42=>LI_ m34 b3 8 fun i43=>LI_ m34 b3 9 fun i44=>LI_ m34 b3 10 fun i45=>LI_ m34 b3 11 fun i46=>RetP R (.agg #[.bool t35,.int .i64 i36,.int .i64 i37,.int .i64 i38,.int .i64 i39,.int .i64 i40,.int .i64 i41,.int .i64 i42,.int .i64 i43,.int .i64 i44,.int .i64 i45,.int .i64 i46]) m34) (
 ∃ (A47:Option Addr) (n48 c49:Nat),m4.cell ⟨x0,35,none⟩=some (.slice A47 n48 c49) ∧ 
 ((0:Int)≤0∧0<((n48:Nat):Int))∧nilO A47 fun a50 =>
 LA_ m4 (a50.add (0)) fun i51 => 
 CallsA Tryz.prog w0 54 #[.int .i64 i51] m4 fun r53 m54 =>
 ∃ i52:Int,r53=.int .i64 i52∧SI_ w0.heap.size m54 b1 8 i52 fun m55 =>
 ∃ (A56:Option Addr) (n57 c58:Nat),m55.cell ⟨x0,35,none⟩=some (.slice A56 n57 c58) ∧ 
 (0:Int)≤1∧n57≤c58∧((1:Int).toNat)≤n57 ∧
 StC w0.heap.size m55 ⟨x0,35,none⟩ (.slice (if c58=((1:Int).toNat) then A56 else Option.map (fun x=>Addr.add x ((1:Int).toNat*1)) A56) (n57-((1:Int).toNat)) (c58-((1:Int).toNat))) fun m59 =>
 vcS Tryz.prog w0 qs57 (sub c57 [1,1]) (upd (upd (upd (upd (upd (upd (upd (upd (upd (upd (upd (upd (upd (upd (upd (upd (upd (upd (upd (upd (upd (upd (upd (upd (upd (upd (upd (upd (upd (upd (upd (argS [pt_ x0,.agg #[.bool x1_0,.int .i64 x1_1,.int .i64 x1_2,.int .i64 x1_3,.int .i64 x1_4,.int .i64 x1_5,.int .i64 x1_6,.int .i64 x1_7,.int .i64 x1_8,.int .i64 x1_9,.int .i64 x1_10,.int .i64 x1_11]]) 3 (pt_ b1)) 4 (pt_ b3)) 5 (.pointer (some ⟨b1,1,none⟩))) 6 (.pointer (some ⟨b1,5,none⟩))) 7 (.int .i64 i5)) 9 (.bool ((i5:Int) == 0))) 8 (.bool ((i5:Int) == 0))) 12 (.bool ((i5:Int) == 1))) 11 (.bool ((i5:Int) == 1))) 13 (pt_ x0)) 14 (pt_ x0)) 15 (.pointer (some ⟨x0,35,none⟩))) 16 (.slice A7 n8 c9)) 17 (.int .i64 ((n8:Nat):Int))) 18 (.bool ((((n8:Nat):Int):Int) == 0))) 21 (pt_ x0)) 22 (pt_ x0)) 23 (.pointer (some ⟨x0,35,none⟩))) 24 (.slice A47 n48 c49)) 25 (.pointer (some (a50.add (0))))) 26 (.int .i64 i51)) 27 (.int .i64 i52)) 28 (.pointer (some ⟨b1,8,none⟩))) 29 (pt_ x0)) 30 (pt_ x0)) 31 (pt_ x0)) 32 (.pointer (some ⟨x0,35,none⟩))) 33 (.slice A56 n57 c58)) 34 (.slice (if c58=((1:Int).toNat) then A56 else Option.map (fun x=>Addr.add x ((1:Int).toNat*1)) A56) (n57-((1:Int).toNat)) (c58-((1:Int).toNat)))) 35 (pt_ x0)) 36 (.pointer (some ⟨x0,35,none⟩))) m59 (retQ Tryz.prog Tryz.f57 R)))) (
 KI_∧(bcase ((i5:Int) == 2) (
 ∃ (A60:Option Addr) (n61 c62:Nat),m4.cell ⟨x0,36,none⟩=some (.slice A60 n61 c62) ∧ 
 KI_∧(bcase (decide ((((n61:Nat):Int):Int)≥10000)) (
 SI_ w0.heap.size m4 b1 11 9 fun m63 =>
 LB_ m63 b1 0 fun t64=>LI_ m63 b1 1 fun i65=>LI_ m63 b1 2 fun i66=>LI_ m63 b1 3 fun i67=>LI_ m63 b1 4 fun i68=>LI_ m63 b1 5 fun i69=>LI_ m63 b1 6 fun i70=>LI_ m63 b1 7 fun i71=>LI_ m63 b1 8 fun i72=>LI_ m63 b1 9 fun i73=>LI_ m63 b1 10 fun i74=>LI_ m63 b1 11 fun i75 => 
 StC w0.heap.size m63 ⟨b3,0,none⟩ (.bool t64) fun m76 =>
 SI_ w0.heap.size m76 b3 1 i65 fun m77 =>
 SI_ w0.heap.size m77 b3 2 i66 fun m78 =>
 SI_ w0.heap.size m78 b3 3 i67 fun m79 =>
 SI_ w0.heap.size m79 b3 4 i68 fun m80 =>
 SI_ w0.heap.size m80 b3 5 i69 fun m81 =>
 SI_ w0.heap.size m81 b3 6 i70 fun m82 =>
 SI_ w0.heap.size m82 b3 7 i71 fun m83 =>
 SI_ w0.heap.size m83 b3 8 i72 fun m84 =>
 SI_ w0.heap.size m84 b3 9 i73 fun m85 =>
 SI_ w0.heap.size m85 b3 10 i74 fun m86 =>
 SI_ w0.heap.size m86 b3 11 i75 fun m87 =>
 LB_ m87 b3 0 fun t88=>LI_ m87 b3 1 fun i89=>LI_ m87 b3 2 fun i90=>LI_ m87 b3 3 fun i91=>LI_ m87 b3 4 fun i92=>LI_ m87 b3 5 fun i93=>LI_ m87 b3 6 fun i94=>LI_ m87 b3 7 fun i95=>LI_ m87 b3 8 fun i96=>LI_ m87 b3 9 fun i97=>LI_ m87 b3 10 fun i98=>LI_ m87 b3 11 fun i99=>RetP R (.agg #[.bool t88,.int .i64 i89,.int .i64 i90,.int .i64 i91,.int .i64 i92,.int .i64 i93,.int .i64 i94,.int .i64 i95,.int .i64 i96,.int .i64 i97,.int .i64 i98,.int .i64 i99]) m87) (
 ∃ (A100:Option Addr) (n101 c102:Nat),m4.cell ⟨x0,36,none⟩=some (.slice A100 n101 c102) ∧ 
 LI_ m4 b1 9 fun i103 => 
 true=true∧∀ b104:Nat,w0.heap.size≤b104→m4 b104=none→let m105:=AM.upd m4 b104 (.cells #[.int .i64 i103] 3);
 awp Tryz.prog w0.heap.size (Builtin.append_ #[23,23] 23 #[.slice A100 n101 c102,.slice (some ⟨b104,0,none⟩) 1 1]) m105 fun v106 m107 =>
 ∃ (A108:Option Addr) (n109 c110:Nat),v106=.slice A108 n109 c110∧StC w0.heap.size m107 ⟨x0,36,none⟩ (.slice A108 n109 c110) fun m111 =>
 vcS Tryz.prog w0 qs57 (sub c57 [1,1]) (upd (upd (upd (upd (upd (upd (upd (upd (upd (upd (upd (upd (upd (upd (upd (upd (upd (upd (upd (upd (upd (upd (upd (upd (upd (upd (upd (upd (argS [pt_ x0,.agg #[.bool x1_0,.int .i64 x1_1,.int .i64 x1_2,.int .i64 x1_3,.int .i64 x1_4,.int .i64 x1_5,.int .i64 x1_6,.int .i64 x1_7,.int .i64 x1_8,.int .i64 x1_9,.int .i64 x1_10,.int .i64 x1_11]]) 3 (pt_ b1)) 4 (pt_ b3)) 5 (.pointer (some ⟨b1,1,none⟩))) 6 (.pointer (some ⟨b1,5,none⟩))) 7 (.int .i64 i5)) 9 (.bool ((i5:Int) == 0))) 8 (.bool ((i5:Int) == 0))) 12 (.bool ((i5:Int) == 1))) 11 (.bool ((i5:Int) == 1))) 38 (.bool ((i5:Int) == 2))) 37 (.bool ((i5:Int) == 2))) 39 (pt_ x0)) 40 (pt_ x0)) 41 (.pointer (some ⟨x0,36,none⟩))) 42 (.slice A60 n61 c62)) 43 (.int .i64 ((n61:Nat):Int))) 44 (.bool (decide ((((n61:Nat):Int):Int)≥10000)))) 47 (pt_ x0)) 48 (pt_ x0)) 49 (pt_ x0)) 50 (.pointer (some ⟨x0,36,none⟩))) 51 (.slice A100 n101 c102)) 52 (.pointer (some ⟨b1,9,none⟩))) 53 (.int .i64 i103)) 54 (.slice (some ⟨b104,0,none⟩) 1 1)) 55 (.slice A108 n109 c110)) 56 (pt_ x0)) 57 (.pointer (some ⟨x0,36,none⟩))) m111 (retQ Tryz.prog Tryz.f57 R)))) (
 vcS Tryz.prog w0 qs57 (sub c57 [1,1]) (upd (upd (upd (upd (upd (upd (upd (upd (upd (upd (upd (argS [pt_ x0,.agg #[.bool x1_0,.int .i64 x1_1,.int .i64 x1_2,.int .i64 x1_3,.int .i64 x1_4,.int .i64 x1_5,.int .i64 x1_6,.int .i64 x1_7,.int .i64 x1_8,.int .i64 x1_9,.int .i64 x1_10,.int .i64 x1_11]]) 3 (pt_ b1)) 4 (pt_ b3)) 5 (.pointer (some ⟨b1,1,none⟩))) 6 (.pointer (some ⟨b1,5,none⟩))) 7 (.int .i64 i5)) 9 (.bool ((i5:Int) == 0))) 8 (.bool ((i5:Int) == 0))) 12 (.bool ((i5:Int) == 1))) 11 (.bool ((i5:Int) == 1))) 38 (.bool ((i5:Int) == 2))) 37 (.bool ((i5:Int) == 2))) m4 (retQ Tryz.prog Tryz.f57 R)))))))):CallsA Tryz.prog w0 57 #[pt_ x0,.agg #[.bool x1_0,.int .i64 x1_1,.int .i64 x1_2,.int .i64 x1_3,.int .i64 x1_4,.int .i64 x1_5,.int .i64 x1_6,.int .i64 x1_7,.int .i64 x1_8,.int .i64 x1_9,.int .i64 x1_10,.int .i64 x1_11]] m R :=
  callsA_of (c:=c57) (args:=[pt_ x0,.agg #[.bool x1_0,.int .i64 x1_1,.int .i64 x1_2,.int .i64 x1_3,.int .i64 x1_4,.int .i64 x1_5,.int .i64 x1_6,.int .i64 x1_7,.int .i64 x1_8,.int .i64 x1_9,.int .i64 x1_10,.int .i64 x1_11]]) (by kernel_rfl) Tryz.func57 (by kernel_rfl) qs57 (by kernel_rfl) (by kernel_rfl) (cast (by kernel_rfl) h)
theorem vk57_11 (w0:World) (m:AM) (σ:Sg) (R:Value→AM→Prop)  (x3:Nat) (x4:Nat) (h3:σ 3=.pointer (some ⟨x3,0,none⟩)) (h4:σ 4=.pointer (some ⟨x4,0,none⟩)) (h :
 LB_ m x3 0 fun t112=>LI_ m x3 1 fun i113=>LI_ m x3 2 fun i114=>LI_ m x3 3 fun i115=>LI_ m x3 4 fun i116=>LI_ m x3 5 fun i117=>LI_ m x3 6 fun i118=>LI_ m x3 7 fun i119=>LI_ m x3 8 fun i120=>LI_ m x3 9 fun i121=>LI_ m x3 10 fun i122=>LI_ m x3 11 fun i123 => 
 StC w0.heap.size m ⟨x4,0,none⟩ (.bool t112) fun m124 =>
 SI_ w0.heap.size m124 x4 1 i113 fun m125 =>
 SI_ w0.heap.size m125 x4 2 i114 fun m126 =>
 SI_ w0.heap.size m126 x4 3 i115 fun m127 =>
 SI_ w0.heap.size m127 x4 4 i116 fun m128 =>
 SI_ w0.heap.size m128 x4 5 i117 fun m129 =>
 SI_ w0.heap.size m129 x4 6 i118 fun m130 =>
 SI_ w0.heap.size m130 x4 7 i119 fun m131 =>
 SI_ w0.heap.size m131 x4 8 i120 fun m132 =>
 SI_ w0.heap.size m132 x4 9 i121 fun m133 =>
 SI_ w0.heap.size m133 x4 10 i122 fun m134 =>
 SI_ w0.heap.size m134 x4 11 i123 fun m135 =>
 LB_ m135 x4 0 fun t136=>LI_ m135 x4 1 fun i137=>LI_ m135 x4 2 fun i138=>LI_ m135 x4 3 fun i139=>LI_ m135 x4 4 fun i140=>LI_ m135 x4 5 fun i141=>LI_ m135 x4 6 fun i142=>LI_ m135 x4 7 fun i143=>LI_ m135 x4 8 fun i144=>LI_ m135 x4 9 fun i145=>LI_ m135 x4 10 fun i146=>LI_ m135 x4 11 fun i147=>RetP R (.agg #[.bool t136,.int .i64 i137,.int .i64 i138,.int .i64 i139,.int .i64 i140,.int .i64 i141,.int .i64 i142,.int .i64 i143,.int .i64 i144,.int .i64 i145,.int .i64 i146,.int .i64 i147]) m135) :
 vcS Tryz.prog w0 qs57 (sub c57 [1,1]) σ m (retQ Tryz.prog Tryz.f57 R):=by
  have es0:(upd (upd σ 3 (pt_ x3)) 4 (pt_ x4))=σ:=by rw [upd_id h3,upd_id h4]
  exact cast (congrArg (fun s=>vcS Tryz.prog w0 qs57 (sub c57 [1,1]) s m (retQ Tryz.prog Tryz.f57 R)) es0) (cast (by kernel_rfl) h)

def qs38:Nat→List (Nat × Nat):=fun i=>match i with | _=>[]
noncomputable def c38:Code:=bodyOf Tryz.f38
theorem cf38 (w0:World) (m:AM) (x0:Nat) (R:Value→AM→Prop) (h :
 LB_ m x0 61 fun t1=>LI_ m x0 62 fun i2=>LI_ m x0 63 fun i3=>LI_ m x0 64 fun i4=>LI_ m x0 65 fun i5=>LI_ m x0 66 fun i6=>LI_ m x0 67 fun i7=>LI_ m x0 68 fun i8=>LI_ m x0 69 fun i9=>LI_ m x0 70 fun i10=>LI_ m x0 71 fun i11=>LI_ m x0 72 fun i12 => 
 ∀ b13:Nat,w0.heap.size≤b13→m b13=none→let m14:=AM.upd m b13 (.cells #[.bool false,.int .i64 0,.int .i64 0,.int .i64 0,.int .i64 0,.int .i64 0,.int .i64 0,.int .i64 0,.int .i64 0,.int .i64 0,.int .i64 0,.int .i64 0] 58);
 StC w0.heap.size m14 ⟨b13,0,none⟩ (.bool t1) fun m15 =>
 SI_ w0.heap.size m15 b13 1 i2 fun m16 =>
 SI_ w0.heap.size m16 b13 2 i3 fun m17 =>
 SI_ w0.heap.size m17 b13 3 i4 fun m18 =>
 SI_ w0.heap.size m18 b13 4 i5 fun m19 =>
 SI_ w0.heap.size m19 b13 5 i6 fun m20 =>
 SI_ w0.heap.size m20 b13 6 i7 fun m21 =>
 SI_ w0.heap.size m21 b13 7 i8 fun m22 =>
 SI_ w0.heap.size m22 b13 8 i9 fun m23 =>
 SI_ w0.heap.size m23 b13 9 i10 fun m24 =>
 SI_ w0.heap.size m24 b13 10 i11 fun m25 =>
 SI_ w0.heap.size m25 b13 11 i12 fun m26 =>
 true=true∧StC w0.heap.size m26 ⟨x0,61,none⟩ (.bool false) fun m27 =>
 SI_ w0.heap.size m27 x0 62 0 fun m28 =>
 SI_ w0.heap.size m28 x0 63 0 fun m29 =>
 SI_ w0.heap.size m29 x0 64 0 fun m30 =>
 SI_ w0.heap.size m30 x0 65 0 fun m31 =>
 SI_ w0.heap.size m31 x0 66 0 fun m32 =>
 SI_ w0.heap.size m32 x0 67 0 fun m33 =>
 SI_ w0.heap.size m33 x0 68 0 fun m34 =>
 SI_ w0.heap.size m34 x0 69 0 fun m35 =>
 SI_ w0.heap.size m35 x0 70 0 fun m36 =>
 SI_ w0.heap.size m36 x0 71 0 fun m37 =>
 SI_ w0.heap.size m37 x0 72 0 fun m38 =>
 LB_ m38 b13 0 fun t39 => 
 (bcase (!t39) (
 (!t39)=true∧LI_ m38 b13 11 fun i40 => 
 RetP R (.int .i64 i40) m38) (
 LI_ m38 b13 11 fun i41 => 
 KI_∧(bcase (bif !t39 then true else (i41:Int) != 0) (
 LI_ m38 b13 11 fun i42 => 
 RetP R (.int .i64 i42) m38) (
 LI_ m38 b13 1 fun i43 => 
 KI_∧(bcase ((i43:Int) == 12) (
 ∃ p44:Option Addr,m38.cell ⟨x0,1,none⟩=some (.pointer p44) ∧ 
 LI_ m38 b13 10 fun i45 => 
 CallsA Tryz.prog w0 50 #[.pointer p44,.int .i64 i45] m38 fun r48 m49 =>
 ∃ i46:Int,∃ t47:Bool,r48=.tuple #[.int .i64 i46,.bool t47]∧(bcase (!t47) (
 RetP R (.int .i64 3) m49) (
 SI_ w0.heap.size m49 b13 8 i46 fun m52 =>
 vcS Tryz.prog w0 qs38 (sub c38 [1,1,1,1,1]) (upd (upd (upd (upd (upd (upd (upd (upd (upd (upd (upd (upd (upd (upd (upd (upd (upd (upd (upd (upd (upd (upd (upd (upd (upd (upd (upd (upd (upd (upd (upd (upd (upd (upd (upd (upd (upd (upd (upd (argS [pt_ x0]) 2 (.int .i64 0)) 6 (pt_ x0)) 7 (pt_ x0)) 8 (.pointer (some ⟨x0,61,none⟩))) 9 (.agg #[.bool t1,.int .i64 i2,.int .i64 i3,.int .i64 i4,.int .i64 i5,.int .i64 i6,.int .i64 i7,.int .i64 i8,.int .i64 i9,.int .i64 i10,.int .i64 i11,.int .i64 i12])) 3 (pt_ b13)) 10 (pt_ x0)) 11 (.agg #[.bool false,.int .i64 0,.int .i64 0,.int .i64 0,.int .i64 0,.int .i64 0,.int .i64 0,.int .i64 0,.int .i64 0,.int .i64 0,.int .i64 0,.int .i64 0])) 12 (pt_ x0)) 13 (.pointer (some ⟨x0,61,none⟩))) 14 (pt_ b13)) 15 (.bool t39)) 16 (.bool (!t39))) 17 (.bool (!t39))) 18 (.pointer (some ⟨b13,11,none⟩))) 19 (.int .i64 i41)) 20 (.bool ((i41:Int) != 0))) 21 (.bool (bif !t39 then true else (i41:Int) != 0))) 24 (.pointer (some ⟨b13,1,none⟩))) 25 (.pointer (some ⟨b13,1,none⟩))) 26 (.int .i64 i43)) 28 (.bool ((i43:Int) == 12))) 27 (.bool ((i43:Int) == 12))) 30 (pt_ x0)) 31 (pt_ x0)) 32 (.pointer (some ⟨x0,1,none⟩))) 33 (.pointer p44)) 34 (.pointer (some ⟨b13,10,none⟩))) 35 (.int .i64 i45)) 36 (.tuple #[.int .i64 i46,.bool t47])) 29 (.tuple #[.int .i64 i46,.bool t47])) 37 (.int .i64 i46)) 38 (.bool t47)) 4 (.int .i64 i46)) 5 (.bool t47)) 39 (.bool t47)) 40 (.bool (!t47))) 41 (.int .i64 i46)) 42 (.pointer (some ⟨b13,8,none⟩))) m52 (retQ Tryz.prog Tryz.f38 R)))) (
 KI_∧(bcase ((i43:Int) == 13) (
 ∃ p53:Option Addr,m38.cell ⟨x0,1,none⟩=some (.pointer p53) ∧ 
 LI_ m38 b13 10 fun i54 => 
 LI_ m38 b13 9 fun i55 => 
 CallsA Tryz.prog w0 52 #[.pointer p53,.int .i64 i54,.int .i64 i55] m38 fun r57 m58 =>
 ∃ t56:Bool,r57=.bool t56∧(bcase (!t56) (
 RetP R (.int .i64 3) m58) (
 vcS Tryz.prog w0 qs38 (sub c38 [1,1,1,1,1]) (upd (upd (upd (upd (upd (upd (upd (upd (upd (upd (upd (upd (upd (upd (upd (upd (upd (upd (upd (upd (upd (upd (upd (upd (upd (upd (upd (upd (upd (upd (upd (upd (upd (upd (upd (argS [pt_ x0]) 2 (.int .i64 0)) 6 (pt_ x0)) 7 (pt_ x0)) 8 (.pointer (some ⟨x0,61,none⟩))) 9 (.agg #[.bool t1,.int .i64 i2,.int .i64 i3,.int .i64 i4,.int .i64 i5,.int .i64 i6,.int .i64 i7,.int .i64 i8,.int .i64 i9,.int .i64 i10,.int .i64 i11,.int .i64 i12])) 3 (pt_ b13)) 10 (pt_ x0)) 11 (.agg #[.bool false,.int .i64 0,.int .i64 0,.int .i64 0,.int .i64 0,.int .i64 0,.int .i64 0,.int .i64 0,.int .i64 0,.int .i64 0,.int .i64 0,.int .i64 0])) 12 (pt_ x0)) 13 (.pointer (some ⟨x0,61,none⟩))) 14 (pt_ b13)) 15 (.bool t39)) 16 (.bool (!t39))) 17 (.bool (!t39))) 18 (.pointer (some ⟨b13,11,none⟩))) 19 (.int .i64 i41)) 20 (.bool ((i41:Int) != 0))) 21 (.bool (bif !t39 then true else (i41:Int) != 0))) 24 (.pointer (some ⟨b13,1,none⟩))) 25 (.pointer (some ⟨b13,1,none⟩))) 26 (.int .i64 i43)) 28 (.bool ((i43:Int) == 12))) 27 (.bool ((i43:Int) == 12))) 44 (.bool ((i43:Int) == 13))) 43 (.bool ((i43:Int) == 13))) 45 (pt_ x0)) 46 (pt_ x0)) 47 (.pointer (some ⟨x0,1,none⟩))) 48 (.pointer p53)) 49 (.pointer (some ⟨b13,10,none⟩))) 50 (.int .i64 i54)) 51 (.pointer (some ⟨b13,9,none⟩))) 52 (.int .i64 i55)) 53 (.bool t56)) 54 (.bool (!t56))) m58 (retQ Tryz.prog Tryz.f38 R)))) (
 KI_∧(bcase ((i43:Int) == 20) (
 LB_ m38 b13 0 fun t59=>LI_ m38 b13 1 fun i60=>LI_ m38 b13 2 fun i61=>LI_ m38 b13 3 fun i62=>LI_ m38 b13 4 fun i63=>LI_ m38 b13 5 fun i64=>LI_ m38 b13 6 fun i65=>LI_ m38 b13 7 fun i66=>LI_ m38 b13 8 fun i67=>LI_ m38 b13 9 fun i68=>LI_ m38 b13 10 fun i69=>LI_ m38 b13 11 fun i70 => 
 CallsA Tryz.prog w0 57 #[pt_ x0,.agg #[.bool t59,.int .i64 i60,.int .i64 i61,.int .i64 i62,.int .i64 i63,.int .i64 i64,.int .i64 i65,.int .i64 i66,.int .i64 i67,.int .i64 i68,.int .i64 i69,.int .i64 i70]] m38 fun r83 m84 =>
 ∃ t71:Bool,∃ i72:Int,∃ i73:Int,∃ i74:Int,∃ i75:Int,∃ i76:Int,∃ i77:Int,∃ i78:Int,∃ i79:Int,∃ i80:Int,∃ i81:Int,∃ i82:Int,r83=.agg #[.bool t71,.int .i64 i72,.int .i64 i73,.int .i64 i74,.int .i64 i75,.int .i64 i76,.int .i64 i77,.int .i64 i78,.int .i64 i79,.int .i64 i80,.int .i64 i81,.int .i64 i82]∧StC w0.heap.size m84 ⟨b13,0,none⟩ (.bool t71) fun m85 =>
 SI_ w0.heap.size m85 b13 1 i72 fun m86 =>
 SI_ w0.heap.size m86 b13 2 i73 fun m87 =>
 SI_ w0.heap.size m87 b13 3 i74 fun m88 =>
 SI_ w0.heap.size m88 b13 4 i75 fun m89 =>
 SI_ w0.heap.size m89 b13 5 i76 fun m90 =>
 SI_ w0.heap.size m90 b13 6 i77 fun m91 =>
 SI_ w0.heap.size m91 b13 7 i78 fun m92 =>
 SI_ w0.heap.size m92 b13 8 i79 fun m93 =>
 SI_ w0.heap.size m93 b13 9 i80 fun m94 =>
 SI_ w0.heap.size m94 b13 10 i81 fun m95 =>
 SI_ w0.heap.size m95 b13 11 i82 fun m96 =>
 vcS Tryz.prog w0 qs38 (sub c38 [1,1,1,1,1]) (upd (upd (upd (upd (upd (upd (upd (upd (upd (upd (upd (upd (upd (upd (upd (upd (upd (upd (upd (upd (upd (upd (upd (upd (upd (upd (upd (upd (upd (upd (argS [pt_ x0]) 2 (.int .i64 0)) 6 (pt_ x0)) 7 (pt_ x0)) 8 (.pointer (some ⟨x0,61,none⟩))) 9 (.agg #[.bool t1,.int .i64 i2,.int .i64 i3,.int .i64 i4,.int .i64 i5,.int .i64 i6,.int .i64 i7,.int .i64 i8,.int .i64 i9,.int .i64 i10,.int .i64 i11,.int .i64 i12])) 3 (pt_ b13)) 10 (pt_ x0)) 11 (.agg #[.bool false,.int .i64 0,.int .i64 0,.int .i64 0,.int .i64 0,.int .i64 0,.int .i64 0,.int .i64 0,.int .i64 0,.int .i64 0,.int .i64 0,.int .i64 0])) 12 (pt_ x0)) 13 (.pointer (some ⟨x0,61,none⟩))) 14 (pt_ b13)) 15 (.bool t39)) 16 (.bool (!t39))) 17 (.bool (!t39))) 18 (.pointer (some ⟨b13,11,none⟩))) 19 (.int .i64 i41)) 20 (.bool ((i41:Int) != 0))) 21 (.bool (bif !t39 then true else (i41:Int) != 0))) 24 (.pointer (some ⟨b13,1,none⟩))) 25 (.pointer (some ⟨b13,1,none⟩))) 26 (.int .i64 i43)) 28 (.bool ((i43:Int) == 12))) 27 (.bool ((i43:Int) == 12))) 44 (.bool ((i43:Int) == 13))) 43 (.bool ((i43:Int) == 13))) 56 (.bool ((i43:Int) == 20))) 55 (.bool ((i43:Int) == 20))) 57 (pt_ x0)) 58 (.agg #[.bool t59,.int .i64 i60,.int .i64 i61,.int .i64 i62,.int .i64 i63,.int .i64 i64,.int .i64 i65,.int .i64 i66,.int .i64 i67,.int .i64 i68,.int .i64 i69,.int .i64 i70])) 59 (.agg #[.bool t71,.int .i64 i72,.int .i64 i73,.int .i64 i74,.int .i64 i75,.int .i64 i76,.int .i64 i77,.int .i64 i78,.int .i64 i79,.int .i64 i80,.int .i64 i81,.int .i64 i82])) m96 (retQ Tryz.prog Tryz.f38 R)) (
 vcS Tryz.prog w0 qs38 (sub c38 [1,1,1,1,1]) (upd (upd (upd (upd (upd (upd (upd (upd (upd (upd (upd (upd (upd (upd (upd (upd (upd (upd (upd (upd (upd (upd (upd (upd (upd (upd (upd (argS [pt_ x0]) 2 (.int .i64 0)) 6 (pt_ x0)) 7 (pt_ x0)) 8 (.pointer (some ⟨x0,61,none⟩))) 9 (.agg #[.bool t1,.int .i64 i2,.int .i64 i3,.int .i64 i4,.int .i64 i5,.int .i64 i6,.int .i64 i7,.int .i64 i8,.int .i64 i9,.int .i64 i10,.int .i64 i11,.int .i64 i12])) 3 (pt_ b13)) 10 (pt_ x0)) 11 (.agg #[.bool false,.int .i64 0,.int .i64 0,.int .i64 0,.int .i64 0,.int .i64 0,.int .i64 0,.int .i64 0,.int .i64 0,.int .i64 0,.int .i64 0,.int .i64 0])) 12 (pt_ x0)) 13 (.pointer (some ⟨x0,61,none⟩))) 14 (pt_ b13)) 15 (.bool t39)) 16 (.bool (!t39))) 17 (.bool (!t39))) 18 (.pointer (some ⟨b13,11,none⟩))) 19 (.int .i64 i41)) 20 (.bool ((i41:Int) != 0))) 21 (.bool (bif !t39 then true else (i41:Int) != 0))) 24 (.pointer (some ⟨b13,1,none⟩))) 25 (.pointer (some ⟨b13,1,none⟩))) 26 (.int .i64 i43)) 28 (.bool ((i43:Int) == 12))) 27 (.bool ((i43:Int) == 12))) 44 (.bool ((i43:Int) == 13))) 43 (.bool ((i43:Int) == 13))) 56 (.bool ((i43:Int) == 20))) 55 (.bool ((i43:Int) == 20))) m38 (retQ Tryz.prog Tryz.f38 R)))))))))))):CallsA Tryz.prog w0 38 #[pt_ x0] m R :=
  callsA_of (c:=c38) (args:=[pt_ x0]) (by kernel_rfl) Tryz.func38 (by kernel_rfl) qs38 (by kernel_rfl) (by kernel_rfl) (cast (by kernel_rfl) h)
theorem vk38_11111 (w0:World) (m:AM) (σ:Sg) (R:Value→AM→Prop)  (x0:Nat) (x3:Nat) (h0:σ 0=.pointer (some ⟨x0,0,none⟩)) (h3:σ 3=.pointer (some ⟨x3,0,none⟩)) (h :
 LB_ m x3 0 fun t97=>LI_ m x3 1 fun i98=>LI_ m x3 2 fun i99=>LI_ m x3 3 fun i100=>LI_ m x3 4 fun i101=>LI_ m x3 5 fun i102=>LI_ m x3 6 fun i103=>LI_ m x3 7 fun i104=>LI_ m x3 8 fun i105=>LI_ m x3 9 fun i106=>LI_ m x3 10 fun i107=>LI_ m x3 11 fun i108 => 
 StC w0.heap.size m ⟨x0,73,none⟩ (.bool t97) fun m109 =>
 SI_ w0.heap.size m109 x0 74 i98 fun m110 =>
 SI_ w0.heap.size m110 x0 75 i99 fun m111 =>
 SI_ w0.heap.size m111 x0 76 i100 fun m112 =>
 SI_ w0.heap.size m112 x0 77 i101 fun m113 =>
 SI_ w0.heap.size m113 x0 78 i102 fun m114 =>
 SI_ w0.heap.size m114 x0 79 i103 fun m115 =>
 SI_ w0.heap.size m115 x0 80 i104 fun m116 =>
 SI_ w0.heap.size m116 x0 81 i105 fun m117 =>
 SI_ w0.heap.size m117 x0 82 i106 fun m118 =>
 SI_ w0.heap.size m118 x0 83 i107 fun m119 =>
 SI_ w0.heap.size m119 x0 84 i108 fun m120 =>
 LI_ m120 x3 11 fun i121 => 
 RetP R (.int .i64 i121) m120) :
 vcS Tryz.prog w0 qs38 (sub c38 [1,1,1,1,1]) σ m (retQ Tryz.prog Tryz.f38 R):=by
  have es0:(upd (upd σ 0 (pt_ x0)) 3 (pt_ x3))=σ:=by rw [upd_id h0,upd_id h3]
  exact cast (congrArg (fun s=>vcS Tryz.prog w0 qs38 (sub c38 [1,1,1,1,1]) s m (retQ Tryz.prog Tryz.f38 R)) es0) (cast (by kernel_rfl) h)

def qs58:Nat→List (Nat × Nat):=fun i=>match i with | _=>[]
noncomputable def c58:Code:=bodyOf Tryz.f58
theorem cf58 (w0:World) (m:AM) (x0:Int) (x1_0:Bool) (x1_1:Int) (x1_2:Int) (x1_3:Int) (x1_4:Int) (x1_5:Int) (x1_6:Int) (x1_7:Int) (x1_8:Int) (x1_9:Int) (x1_10:Int) (x1_11:Int) (x2_0:Int) (x2_1:Int) (x2_2:Int) (x2_3:Int) (x2_4:Int) (x2_5:Int) (x2_6:Int) (x2_7:Int) (x2_8:Int) (x2_9:Int) (x2_10:Int) (x2_11:Int) (x2_12:Int) (x2_13:Int) (x2_14:Int) (x2_15:Int) (x2_16:Int) (x2_17:Int) (x2_18:Int) (x2_19:Int) (x2_20:Int) (x2_21:Int) (x2_22:Int) (x2_23:Int) (x2_24:Int) (x2_25:Int) (x2_26:Int) (x2_27:Int) (x2_28:Int) (x2_29:Int) (x2_30:Int) (x2_31:Int) (R:Value→AM→Prop) (h :
 ∀ b1:Nat,w0.heap.size≤b1→m b1=none→let m2:=AM.upd m b1 (.cells #[.bool x1_0,.int .i64 x1_1,.int .i64 x1_2,.int .i64 x1_3,.int .i64 x1_4,.int .i64 x1_5,.int .i64 x1_6,.int .i64 x1_7,.int .i64 x1_8,.int .i64 x1_9,.int .i64 x1_10,.int .i64 x1_11] 58);
 ∀ b3:Nat,w0.heap.size≤b3→m2 b3=none→let m4:=AM.upd m2 b3 (.cells #[.int .i64 x2_0,.int .i64 x2_1,.int .i64 x2_2,.int .i64 x2_3,.int .i64 x2_4,.int .i64 x2_5,.int .i64 x2_6,.int .i64 x2_7,.int .i64 x2_8,.int .i64 x2_9,.int .i64 x2_10,.int .i64 x2_11,.int .i64 x2_12,.int .i64 x2_13,.int .i64 x2_14,.int .i64 x2_15,.int .i64 x2_16,.int .i64 x2_17,.int .i64 x2_18,.int .i64 x2_19,.int .i64 x2_20,.int .i64 x2_21,.int .i64 x2_22,.int .i64 x2_23,.int .i64 x2_24,.int .i64 x2_25,.int .i64 x2_26,.int .i64 x2_27,.int .i64 x2_28,.int .i64 x2_29,.int .i64 x2_30,.int .i64 x2_31] 51);
 KI_∧(bcase ((x0:Int) != 0) (
 LB_ m4 b1 0 fun t5 => 
 (bcase (bif (x0:Int) != 0 then t5 else false) (
 LI_ m4 b1 7 fun i6 => 
 KI_∧(bcase (bif bif (x0:Int) != 0 then t5 else false then (i6:Int) == x0 else false) (
 LI_ m4 b1 1 fun i7=>LI_ m4 b1 2 fun i8=>LI_ m4 b1 3 fun i9=>LI_ m4 b1 4 fun i10=>LI_ m4 b1 5 fun i11 => 
 CallsA Tryz.prog w0 46 #[.agg #[.int .i64 i7,.int .i64 i8,.int .i64 i9,.int .i64 i10,.int .i64 i11]] m4 fun r13 m14 =>
 ∃ t12:Bool,r13=.bool t12∧(bcase (bif bif bif (x0:Int) != 0 then t5 else false then (i6:Int) == x0 else false then !t12 else false) (
 LI_ m14 b1 8 fun i15 => 
 RetP R (.int .i64 i15) m14) (
 ((0:Int)≤x0∧x0<((32:Nat):Int)) ∧
 LA_ m14 ((⟨b3,0,none⟩:Addr).add ((x0:Int).toNat*1)) fun i16 => 
 RetP R (.int .i64 i16) m14))) (
 (bif bif (x0:Int) != 0 then t5 else false then (i6:Int) == x0 else false)=false∧((0:Int)≤x0∧x0<((32:Nat):Int)) ∧
 LA_ m4 ((⟨b3,0,none⟩:Addr).add ((x0:Int).toNat*1)) fun i17 => 
 RetP R (.int .i64 i17) m4))) (
 (bif (x0:Int) != 0 then t5 else false)=false∧false=false∧((0:Int)≤x0∧x0<((32:Nat):Int)) ∧
 LA_ m4 ((⟨b3,0,none⟩:Addr).add ((x0:Int).toNat*1)) fun i18 => 
 RetP R (.int .i64 i18) m4))) (
 ((x0:Int) != 0)=false∧false=false∧false=false∧((0:Int)≤x0∧x0<((32:Nat):Int)) ∧
 LA_ m4 ((⟨b3,0,none⟩:Addr).add ((x0:Int).toNat*1)) fun i19 => 
 RetP R (.int .i64 i19) m4))):CallsA Tryz.prog w0 58 #[.int .i64 x0,.agg #[.bool x1_0,.int .i64 x1_1,.int .i64 x1_2,.int .i64 x1_3,.int .i64 x1_4,.int .i64 x1_5,.int .i64 x1_6,.int .i64 x1_7,.int .i64 x1_8,.int .i64 x1_9,.int .i64 x1_10,.int .i64 x1_11],.agg #[.int .i64 x2_0,.int .i64 x2_1,.int .i64 x2_2,.int .i64 x2_3,.int .i64 x2_4,.int .i64 x2_5,.int .i64 x2_6,.int .i64 x2_7,.int .i64 x2_8,.int .i64 x2_9,.int .i64 x2_10,.int .i64 x2_11,.int .i64 x2_12,.int .i64 x2_13,.int .i64 x2_14,.int .i64 x2_15,.int .i64 x2_16,.int .i64 x2_17,.int .i64 x2_18,.int .i64 x2_19,.int .i64 x2_20,.int .i64 x2_21,.int .i64 x2_22,.int .i64 x2_23,.int .i64 x2_24,.int .i64 x2_25,.int .i64 x2_26,.int .i64 x2_27,.int .i64 x2_28,.int .i64 x2_29,.int .i64 x2_30,.int .i64 x2_31]] m R :=
  callsA_of (c:=c58) (args:=[.int .i64 x0,.agg #[.bool x1_0,.int .i64 x1_1,.int .i64 x1_2,.int .i64 x1_3,.int .i64 x1_4,.int .i64 x1_5,.int .i64 x1_6,.int .i64 x1_7,.int .i64 x1_8,.int .i64 x1_9,.int .i64 x1_10,.int .i64 x1_11],.agg #[.int .i64 x2_0,.int .i64 x2_1,.int .i64 x2_2,.int .i64 x2_3,.int .i64 x2_4,.int .i64 x2_5,.int .i64 x2_6,.int .i64 x2_7,.int .i64 x2_8,.int .i64 x2_9,.int .i64 x2_10,.int .i64 x2_11,.int .i64 x2_12,.int .i64 x2_13,.int .i64 x2_14,.int .i64 x2_15,.int .i64 x2_16,.int .i64 x2_17,.int .i64 x2_18,.int .i64 x2_19,.int .i64 x2_20,.int .i64 x2_21,.int .i64 x2_22,.int .i64 x2_23,.int .i64 x2_24,.int .i64 x2_25,.int .i64 x2_26,.int .i64 x2_27,.int .i64 x2_28,.int .i64 x2_29,.int .i64 x2_30,.int .i64 x2_31]]) (by kernel_rfl) Tryz.func58 (by kernel_rfl) qs58 (by kernel_rfl) (by kernel_rfl) (cast (by kernel_rfl) h)

def qs39:Nat→List (Nat × Nat):=fun i=>match i with | 4=>[(8,2),(17,2),(26,2)] | _=>[]
noncomputable def c39:Code:=bodyOf Tryz.f39
theorem cf39 (w0:World) (m:AM) (x0:Nat) (x1_0:Bool) (x1_1:Int) (x1_2:Int) (x1_3:Int) (x1_4:Int) (x1_5:Int) (x1_6:Int) (x1_7:Int) (x1_8:Int) (x1_9:Int) (x1_10:Int) (x1_11:Int) (R:Value→AM→Prop) (h :
 ∀ b1:Nat,w0.heap.size≤b1→m b1=none→let m2:=AM.upd m b1 (.cells #[.bool x1_0,.int .i64 x1_1,.int .i64 x1_2,.int .i64 x1_3,.int .i64 x1_4,.int .i64 x1_5,.int .i64 x1_6,.int .i64 x1_7,.int .i64 x1_8,.int .i64 x1_9,.int .i64 x1_10,.int .i64 x1_11] 58);
 LB_ m2 x0 49 fun t3=>LI_ m2 x0 50 fun i4=>LI_ m2 x0 51 fun i5=>LI_ m2 x0 52 fun i6=>LI_ m2 x0 53 fun i7=>LI_ m2 x0 54 fun i8=>LI_ m2 x0 55 fun i9=>LI_ m2 x0 56 fun i10=>LI_ m2 x0 57 fun i11=>LI_ m2 x0 58 fun i12=>LI_ m2 x0 59 fun i13=>LI_ m2 x0 60 fun i14 => 
 ∀ b15:Nat,w0.heap.size≤b15→m2 b15=none→let m16:=AM.upd m2 b15 (.cells #[.bool false,.int .i64 0,.int .i64 0,.int .i64 0,.int .i64 0,.int .i64 0,.int .i64 0,.int .i64 0,.int .i64 0,.int .i64 0,.int .i64 0,.int .i64 0] 58);
 StC w0.heap.size m16 ⟨b15,0,none⟩ (.bool t3) fun m17 =>
 SI_ w0.heap.size m17 b15 1 i4 fun m18 =>
 SI_ w0.heap.size m18 b15 2 i5 fun m19 =>
 SI_ w0.heap.size m19 b15 3 i6 fun m20 =>
 SI_ w0.heap.size m20 b15 4 i7 fun m21 =>
 SI_ w0.heap.size m21 b15 5 i8 fun m22 =>
 SI_ w0.heap.size m22 b15 6 i9 fun m23 =>
 SI_ w0.heap.size m23 b15 7 i10 fun m24 =>
 SI_ w0.heap.size m24 b15 8 i11 fun m25 =>
 SI_ w0.heap.size m25 b15 9 i12 fun m26 =>
 SI_ w0.heap.size m26 b15 10 i13 fun m27 =>
 SI_ w0.heap.size m27 b15 11 i14 fun m28 =>
 true=true∧StC w0.heap.size m28 ⟨x0,49,none⟩ (.bool false) fun m29 =>
 SI_ w0.heap.size m29 x0 50 0 fun m30 =>
 SI_ w0.heap.size m30 x0 51 0 fun m31 =>
 SI_ w0.heap.size m31 x0 52 0 fun m32 =>
 SI_ w0.heap.size m32 x0 53 0 fun m33 =>
 SI_ w0.heap.size m33 x0 54 0 fun m34 =>
 SI_ w0.heap.size m34 x0 55 0 fun m35 =>
 SI_ w0.heap.size m35 x0 56 0 fun m36 =>
 SI_ w0.heap.size m36 x0 57 0 fun m37 =>
 SI_ w0.heap.size m37 x0 58 0 fun m38 =>
 SI_ w0.heap.size m38 x0 59 0 fun m39 =>
 SI_ w0.heap.size m39 x0 60 0 fun m40 =>
 LB_ m40 b15 0 fun t41 => 
 (bcase t41 (
 LI_ m40 b15 11 fun i42 => 
 KI_∧(bcase (bif t41 then (i42:Int) == 0 else false) (
 LI_ m40 b15 2 fun i43 => 
 LB_ m40 b1 0 fun t44=>LI_ m40 b1 1 fun i45=>LI_ m40 b1 2 fun i46=>LI_ m40 b1 3 fun i47=>LI_ m40 b1 4 fun i48=>LI_ m40 b1 5 fun i49=>LI_ m40 b1 6 fun i50=>LI_ m40 b1 7 fun i51=>LI_ m40 b1 8 fun i52=>LI_ m40 b1 9 fun i53=>LI_ m40 b1 10 fun i54=>LI_ m40 b1 11 fun i55 => 
 LI_ m40 x0 2 fun i56=>LI_ m40 x0 3 fun i57=>LI_ m40 x0 4 fun i58=>LI_ m40 x0 5 fun i59=>LI_ m40 x0 6 fun i60=>LI_ m40 x0 7 fun i61=>LI_ m40 x0 8 fun i62=>LI_ m40 x0 9 fun i63=>LI_ m40 x0 10 fun i64=>LI_ m40 x0 11 fun i65=>LI_ m40 x0 12 fun i66=>LI_ m40 x0 13 fun i67=>LI_ m40 x0 14 fun i68=>LI_ m40 x0 15 fun i69=>LI_ m40 x0 16 fun i70=>LI_ m40 x0 17 fun i71=>LI_ m40 x0 18 fun i72=>LI_ m40 x0 19 fun i73=>LI_ m40 x0 20 fun i74=>LI_ m40 x0 21 fun i75=>LI_ m40 x0 22 fun i76=>LI_ m40 x0 23 fun i77=>LI_ m40 x0 24 fun i78=>LI_ m40 x0 25 fun i79=>LI_ m40 x0 26 fun i80=>LI_ m40 x0 27 fun i81=>LI_ m40 x0 28 fun i82=>LI_ m40 x0 29 fun i83=>LI_ m40 x0 30 fun i84=>LI_ m40 x0 31 fun i85=>LI_ m40 x0 32 fun i86=>LI_ m40 x0 33 fun i87 => 
 ∃ i88:Int,  CallsA Tryz.prog w0 58 #[.int .i64 i43,.agg #[.bool t44,.int .i64 i45,.int .i64 i46,.int .i64 i47,.int .i64 i48,.int .i64 i49,.int .i64 i50,.int .i64 i51,.int .i64 i52,.int .i64 i53,.int .i64 i54,.int .i64 i55],.agg #[.int .i64 i56,.int .i64 i57,.int .i64 i58,.int .i64 i59,.int .i64 i60,.int .i64 i61,.int .i64 i62,.int .i64 i63,.int .i64 i64,.int .i64 i65,.int .i64 i66,.int .i64 i67,.int .i64 i68,.int .i64 i69,.int .i64 i70,.int .i64 i71,.int .i64 i72,.int .i64 i73,.int .i64 i74,.int .i64 i75,.int .i64 i76,.int .i64 i77,.int .i64 i78,.int .i64 i79,.int .i64 i80,.int .i64 i81,.int .i64 i82,.int .i64 i83,.int .i64 i84,.int .i64 i85,.int .i64 i86,.int .i64 i87]] m40 (fun r89 m90=>r89=.int .i64 i88∧m90=m40) ∧
 LI_ m40 b15 3 fun i91 => 
 LB_ m40 b1 0 fun t92=>LI_ m40 b1 1 fun i93=>LI_ m40 b1 2 fun i94=>LI_ m40 b1 3 fun i95=>LI_ m40 b1 4 fun i96=>LI_ m40 b1 5 fun i97=>LI_ m40 b1 6 fun i98=>LI_ m40 b1 7 fun i99=>LI_ m40 b1 8 fun i100=>LI_ m40 b1 9 fun i101=>LI_ m40 b1 10 fun i102=>LI_ m40 b1 11 fun i103 => 
 LI_ m40 x0 2 fun i104=>LI_ m40 x0 3 fun i105=>LI_ m40 x0 4 fun i106=>LI_ m40 x0 5 fun i107=>LI_ m40 x0 6 fun i108=>LI_ m40 x0 7 fun i109=>LI_ m40 x0 8 fun i110=>LI_ m40 x0 9 fun i111=>LI_ m40 x0 10 fun i112=>LI_ m40 x0 11 fun i113=>LI_ m40 x0 12 fun i114=>LI_ m40 x0 13 fun i115=>LI_ m40 x0 14 fun i116=>LI_ m40 x0 15 fun i117=>LI_ m40 x0 16 fun i118=>LI_ m40 x0 17 fun i119=>LI_ m40 x0 18 fun i120=>LI_ m40 x0 19 fun i121=>LI_ m40 x0 20 fun i122=>LI_ m40 x0 21 fun i123=>LI_ m40 x0 22 fun i124=>LI_ m40 x0 23 fun i125=>LI_ m40 x0 24 fun i126=>LI_ m40 x0 25 fun i127=>LI_ m40 x0 26 fun i128=>LI_ m40 x0 27 fun i129=>LI_ m40 x0 28 fun i130=>LI_ m40 x0 29 fun i131=>LI_ m40 x0 30 fun i132=>LI_ m40 x0 31 fun i133=>LI_ m40 x0 32 fun i134=>LI_ m40 x0 33 fun i135 => 
 ∃ i136:Int,  CallsA Tryz.prog w0 58 #[.int .i64 i91,.agg #[.bool t92,.int .i64 i93,.int .i64 i94,.int .i64 i95,.int .i64 i96,.int .i64 i97,.int .i64 i98,.int .i64 i99,.int .i64 i100,.int .i64 i101,.int .i64 i102,.int .i64 i103],.agg #[.int .i64 i104,.int .i64 i105,.int .i64 i106,.int .i64 i107,.int .i64 i108,.int .i64 i109,.int .i64 i110,.int .i64 i111,.int .i64 i112,.int .i64 i113,.int .i64 i114,.int .i64 i115,.int .i64 i116,.int .i64 i117,.int .i64 i118,.int .i64 i119,.int .i64 i120,.int .i64 i121,.int .i64 i122,.int .i64 i123,.int .i64 i124,.int .i64 i125,.int .i64 i126,.int .i64 i127,.int .i64 i128,.int .i64 i129,.int .i64 i130,.int .i64 i131,.int .i64 i132,.int .i64 i133,.int .i64 i134,.int .i64 i135]] m40 (fun r137 m138=>r137=.int .i64 i136∧m138=m40) ∧
 LI_ m40 b15 4 fun i139 => 
 LB_ m40 b1 0 fun t140=>LI_ m40 b1 1 fun i141=>LI_ m40 b1 2 fun i142=>LI_ m40 b1 3 fun i143=>LI_ m40 b1 4 fun i144=>LI_ m40 b1 5 fun i145=>LI_ m40 b1 6 fun i146=>LI_ m40 b1 7 fun i147=>LI_ m40 b1 8 fun i148=>LI_ m40 b1 9 fun i149=>LI_ m40 b1 10 fun i150=>LI_ m40 b1 11 fun i151 => 
 LI_ m40 x0 2 fun i152=>LI_ m40 x0 3 fun i153=>LI_ m40 x0 4 fun i154=>LI_ m40 x0 5 fun i155=>LI_ m40 x0 6 fun i156=>LI_ m40 x0 7 fun i157=>LI_ m40 x0 8 fun i158=>LI_ m40 x0 9 fun i159=>LI_ m40 x0 10 fun i160=>LI_ m40 x0 11 fun i161=>LI_ m40 x0 12 fun i162=>LI_ m40 x0 13 fun i163=>LI_ m40 x0 14 fun i164=>LI_ m40 x0 15 fun i165=>LI_ m40 x0 16 fun i166=>LI_ m40 x0 17 fun i167=>LI_ m40 x0 18 fun i168=>LI_ m40 x0 19 fun i169=>LI_ m40 x0 20 fun i170=>LI_ m40 x0 21 fun i171=>LI_ m40 x0 22 fun i172=>LI_ m40 x0 23 fun i173=>LI_ m40 x0 24 fun i174=>LI_ m40 x0 25 fun i175=>LI_ m40 x0 26 fun i176=>LI_ m40 x0 27 fun i177=>LI_ m40 x0 28 fun i178=>LI_ m40 x0 29 fun i179=>LI_ m40 x0 30 fun i180=>LI_ m40 x0 31 fun i181=>LI_ m40 x0 32 fun i182=>LI_ m40 x0 33 fun i183 => 
 ∃ i184:Int,  CallsA Tryz.prog w0 58 #[.int .i64 i139,.agg #[.bool t140,.int .i64 i141,.int .i64 i142,.int .i64 i143,.int .i64 i144,.int .i64 i145,.int .i64 i146,.int .i64 i147,.int .i64 i148,.int .i64 i149,.int .i64 i150,.int .i64 i151],.agg #[.int .i64 i152,.int .i64 i153,.int .i64 i154,.int .i64 i155,.int .i64 i156,.int .i64 i157,.int .i64 i158,.int .i64 i159,.int .i64 i160,.int .i64 i161,.int .i64 i162,.int .i64 i163,.int .i64 i164,.int .i64 i165,.int .i64 i166,.int .i64 i167,.int .i64 i168,.int .i64 i169,.int .i64 i170,.int .i64 i171,.int .i64 i172,.int .i64 i173,.int .i64 i174,.int .i64 i175,.int .i64 i176,.int .i64 i177,.int .i64 i178,.int .i64 i179,.int .i64 i180,.int .i64 i181,.int .i64 i182,.int .i64 i183]] m40 (fun r185 m186=>r185=.int .i64 i184∧m186=m40) ∧
 LI_ m40 b15 1 fun i187=>LI_ m40 b15 2 fun i188=>LI_ m40 b15 3 fun i189=>LI_ m40 b15 4 fun i190=>LI_ m40 b15 5 fun i191 => 
 CallsA Tryz.prog w0 59 #[.agg #[.int .i64 i187,.int .i64 i188,.int .i64 i189,.int .i64 i190,.int .i64 i191]] m40 fun r193 m194 =>
 ∃ i192:Int,r193=.int .i64 i192∧SI_ w0.heap.size m194 b15 7 i192 fun m195 =>
 LI_ m195 b15 5 fun i196 => 
 CallsA Tryz.prog w0 51 #[.int .i64 i136,.int .i64 i196] m195 fun r198 m199 =>
 ∃ i197:Int,r198=.int .i64 i197∧SI_ w0.heap.size m199 b15 10 i197 fun m200 =>
 SI_ w0.heap.size m200 b15 9 i88 fun m201 =>
 LI_ m201 b15 1 fun i202 => 
 KI_∧(bcase ((i202:Int) == 14) (
 KI_∧(bcase (decide ((i88:Int)<0)) (
 (decide ((i88:Int)<0))=true∧vcS Tryz.prog w0 qs39 (sub c39 [1,1,1,0,1,0,1,1,1,1,0,1,0,1]) (upd (upd (upd (upd (upd (upd (upd (upd (upd (upd (upd (upd (upd (upd (upd (upd (upd (upd (upd (upd (upd (upd (upd (upd (upd (upd (upd (upd (upd (upd (upd (upd (upd (upd (upd (upd (upd (upd (upd (upd (upd (upd (upd (upd (upd (upd (upd (upd (upd (upd (upd (upd (upd (upd (upd (upd (upd (upd (upd (upd (upd (upd (upd (upd (upd (upd (upd (upd (upd (upd (upd (upd (upd (argS [pt_ x0,.agg #[.bool x1_0,.int .i64 x1_1,.int .i64 x1_2,.int .i64 x1_3,.int .i64 x1_4,.int .i64 x1_5,.int .i64 x1_6,.int .i64 x1_7,.int .i64 x1_8,.int .i64 x1_9,.int .i64 x1_10,.int .i64 x1_11]]) 3 (pt_ b1)) 8 (pt_ x0)) 9 (pt_ x0)) 10 (.pointer (some ⟨x0,49,none⟩))) 11 (.agg #[.bool t3,.int .i64 i4,.int .i64 i5,.int .i64 i6,.int .i64 i7,.int .i64 i8,.int .i64 i9,.int .i64 i10,.int .i64 i11,.int .i64 i12,.int .i64 i13,.int .i64 i14])) 4 (pt_ b15)) 12 (pt_ x0)) 13 (.agg #[.bool false,.int .i64 0,.int .i64 0,.int .i64 0,.int .i64 0,.int .i64 0,.int .i64 0,.int .i64 0,.int .i64 0,.int .i64 0,.int .i64 0,.int .i64 0])) 14 (pt_ x0)) 15 (.pointer (some ⟨x0,49,none⟩))) 16 (pt_ b15)) 17 (.bool t41)) 18 (.bool t41)) 19 (.pointer (some ⟨b15,11,none⟩))) 20 (.int .i64 i42)) 21 (.bool ((i42:Int) == 0))) 22 (.bool (bif t41 then (i42:Int) == 0 else false))) 23 (.pointer (some ⟨b15,1,none⟩))) 24 (.pointer (some ⟨b15,2,none⟩))) 25 (.int .i64 i43)) 26 (.agg #[.bool t44,.int .i64 i45,.int .i64 i46,.int .i64 i47,.int .i64 i48,.int .i64 i49,.int .i64 i50,.int .i64 i51,.int .i64 i52,.int .i64 i53,.int .i64 i54,.int .i64 i55])) 27 (pt_ x0)) 28 (pt_ x0)) 29 (.pointer (some ⟨x0,2,none⟩))) 30 (.agg #[.int .i64 i56,.int .i64 i57,.int .i64 i58,.int .i64 i59,.int .i64 i60,.int .i64 i61,.int .i64 i62,.int .i64 i63,.int .i64 i64,.int .i64 i65,.int .i64 i66,.int .i64 i67,.int .i64 i68,.int .i64 i69,.int .i64 i70,.int .i64 i71,.int .i64 i72,.int .i64 i73,.int .i64 i74,.int .i64 i75,.int .i64 i76,.int .i64 i77,.int .i64 i78,.int .i64 i79,.int .i64 i80,.int .i64 i81,.int .i64 i82,.int .i64 i83,.int .i64 i84,.int .i64 i85,.int .i64 i86,.int .i64 i87])) 31 (.int .i64 i88)) 32 (.pointer (some ⟨b15,1,none⟩))) 33 (.pointer (some ⟨b15,3,none⟩))) 34 (.int .i64 i91)) 35 (.agg #[.bool t92,.int .i64 i93,.int .i64 i94,.int .i64 i95,.int .i64 i96,.int .i64 i97,.int .i64 i98,.int .i64 i99,.int .i64 i100,.int .i64 i101,.int .i64 i102,.int .i64 i103])) 36 (pt_ x0)) 37 (pt_ x0)) 38 (.pointer (some ⟨x0,2,none⟩))) 39 (.agg #[.int .i64 i104,.int .i64 i105,.int .i64 i106,.int .i64 i107,.int .i64 i108,.int .i64 i109,.int .i64 i110,.int .i64 i111,.int .i64 i112,.int .i64 i113,.int .i64 i114,.int .i64 i115,.int .i64 i116,.int .i64 i117,.int .i64 i118,.int .i64 i119,.int .i64 i120,.int .i64 i121,.int .i64 i122,.int .i64 i123,.int .i64 i124,.int .i64 i125,.int .i64 i126,.int .i64 i127,.int .i64 i128,.int .i64 i129,.int .i64 i130,.int .i64 i131,.int .i64 i132,.int .i64 i133,.int .i64 i134,.int .i64 i135])) 40 (.int .i64 i136)) 41 (.pointer (some ⟨b15,1,none⟩))) 42 (.pointer (some ⟨b15,4,none⟩))) 43 (.int .i64 i139)) 44 (.agg #[.bool t140,.int .i64 i141,.int .i64 i142,.int .i64 i143,.int .i64 i144,.int .i64 i145,.int .i64 i146,.int .i64 i147,.int .i64 i148,.int .i64 i149,.int .i64 i150,.int .i64 i151])) 45 (pt_ x0)) 46 (pt_ x0)) 47 (.pointer (some ⟨x0,2,none⟩))) 48 (.agg #[.int .i64 i152,.int .i64 i153,.int .i64 i154,.int .i64 i155,.int .i64 i156,.int .i64 i157,.int .i64 i158,.int .i64 i159,.int .i64 i160,.int .i64 i161,.int .i64 i162,.int .i64 i163,.int .i64 i164,.int .i64 i165,.int .i64 i166,.int .i64 i167,.int .i64 i168,.int .i64 i169,.int .i64 i170,.int .i64 i171,.int .i64 i172,.int .i64 i173,.int .i64 i174,.int .i64 i175,.int .i64 i176,.int .i64 i177,.int .i64 i178,.int .i64 i179,.int .i64 i180,.int .i64 i181,.int .i64 i182,.int .i64 i183])) 49 (.int .i64 i184)) 5 (.int .i64 i88)) 6 (.int .i64 i136)) 7 (.int .i64 i184)) 50 (.pointer (some ⟨b15,1,none⟩))) 51 (.agg #[.int .i64 i187,.int .i64 i188,.int .i64 i189,.int .i64 i190,.int .i64 i191])) 52 (.int .i64 i192)) 53 (.pointer (some ⟨b15,7,none⟩))) 54 (.int .i64 i136)) 55 (.pointer (some ⟨b15,1,none⟩))) 56 (.pointer (some ⟨b15,5,none⟩))) 57 (.int .i64 i196)) 58 (.int .i64 i197)) 59 (.int .i64 i88)) 60 (.pointer (some ⟨b15,10,none⟩))) 61 (.pointer (some ⟨b15,9,none⟩))) 62 (.pointer (some ⟨b15,1,none⟩))) 63 (.pointer (some ⟨b15,1,none⟩))) 64 (.int .i64 i202)) 77 (.bool ((i202:Int) == 14))) 76 (.bool ((i202:Int) == 14))) 78 (.int .i64 i88)) 79 (.bool (decide ((i88:Int)<0)))) 80 (.bool (decide ((i88:Int)<0)))) 81 (undef)) 82 (undef)) 83 (undef)) 84 (undef)) 85 (undef)) 86 (.bool true)) m201 (blockS 0 (thenS (fun σ m=>vcS Tryz.prog w0 qs39 (sub c39 [1,1,1,1]) σ m (retQ Tryz.prog Tryz.f39 R)) (retQ Tryz.prog Tryz.f39 R)))) (
 LI_ m201 b15 5 fun i203 => 
 KI_∧vcS Tryz.prog w0 qs39 (sub c39 [1,1,1,0,1,0,1,1,1,1,0,1,0,1]) (upd (upd (upd (upd (upd (upd (upd (upd (upd (upd (upd (upd (upd (upd (upd (upd (upd (upd (upd (upd (upd (upd (upd (upd (upd (upd (upd (upd (upd (upd (upd (upd (upd (upd (upd (upd (upd (upd (upd (upd (upd (upd (upd (upd (upd (upd (upd (upd (upd (upd (upd (upd (upd (upd (upd (upd (upd (upd (upd (upd (upd (upd (upd (upd (upd (upd (upd (upd (upd (upd (upd (upd (upd (argS [pt_ x0,.agg #[.bool x1_0,.int .i64 x1_1,.int .i64 x1_2,.int .i64 x1_3,.int .i64 x1_4,.int .i64 x1_5,.int .i64 x1_6,.int .i64 x1_7,.int .i64 x1_8,.int .i64 x1_9,.int .i64 x1_10,.int .i64 x1_11]]) 3 (pt_ b1)) 8 (pt_ x0)) 9 (pt_ x0)) 10 (.pointer (some ⟨x0,49,none⟩))) 11 (.agg #[.bool t3,.int .i64 i4,.int .i64 i5,.int .i64 i6,.int .i64 i7,.int .i64 i8,.int .i64 i9,.int .i64 i10,.int .i64 i11,.int .i64 i12,.int .i64 i13,.int .i64 i14])) 4 (pt_ b15)) 12 (pt_ x0)) 13 (.agg #[.bool false,.int .i64 0,.int .i64 0,.int .i64 0,.int .i64 0,.int .i64 0,.int .i64 0,.int .i64 0,.int .i64 0,.int .i64 0,.int .i64 0,.int .i64 0])) 14 (pt_ x0)) 15 (.pointer (some ⟨x0,49,none⟩))) 16 (pt_ b15)) 17 (.bool t41)) 18 (.bool t41)) 19 (.pointer (some ⟨b15,11,none⟩))) 20 (.int .i64 i42)) 21 (.bool ((i42:Int) == 0))) 22 (.bool (bif t41 then (i42:Int) == 0 else false))) 23 (.pointer (some ⟨b15,1,none⟩))) 24 (.pointer (some ⟨b15,2,none⟩))) 25 (.int .i64 i43)) 26 (.agg #[.bool t44,.int .i64 i45,.int .i64 i46,.int .i64 i47,.int .i64 i48,.int .i64 i49,.int .i64 i50,.int .i64 i51,.int .i64 i52,.int .i64 i53,.int .i64 i54,.int .i64 i55])) 27 (pt_ x0)) 28 (pt_ x0)) 29 (.pointer (some ⟨x0,2,none⟩))) 30 (.agg #[.int .i64 i56,.int .i64 i57,.int .i64 i58,.int .i64 i59,.int .i64 i60,.int .i64 i61,.int .i64 i62,.int .i64 i63,.int .i64 i64,.int .i64 i65,.int .i64 i66,.int .i64 i67,.int .i64 i68,.int .i64 i69,.int .i64 i70,.int .i64 i71,.int .i64 i72,.int .i64 i73,.int .i64 i74,.int .i64 i75,.int .i64 i76,.int .i64 i77,.int .i64 i78,.int .i64 i79,.int .i64 i80,.int .i64 i81,.int .i64 i82,.int .i64 i83,.int .i64 i84,.int .i64 i85,.int .i64 i86,.int .i64 i87])) 31 (.int .i64 i88)) 32 (.pointer (some ⟨b15,1,none⟩))) 33 (.pointer (some ⟨b15,3,none⟩))) 34 (.int .i64 i91)) 35 (.agg #[.bool t92,.int .i64 i93,.int .i64 i94,.int .i64 i95,.int .i64 i96,.int .i64 i97,.int .i64 i98,.int .i64 i99,.int .i64 i100,.int .i64 i101,.int .i64 i102,.int .i64 i103])) 36 (pt_ x0)) 37 (pt_ x0)) 38 (.pointer (some ⟨x0,2,none⟩))) 39 (.agg #[.int .i64 i104,.int .i64 i105,.int .i64 i106,.int .i64 i107,.int .i64 i108,.int .i64 i109,.int .i64 i110,.int .i64 i111,.int .i64 i112,.int .i64 i113,.int .i64 i114,.int .i64 i115,.int .i64 i116,.int .i64 i117,.int .i64 i118,.int .i64 i119,.int .i64 i120,.int .i64 i121,.int .i64 i122,.int .i64 i123,.int .i64 i124,.int .i64 i125,.int .i64 i126,.int .i64 i127,.int .i64 i128,.int .i64 i129,.int .i64 i130,.int .i64 i131,.int .i64 i132,.int .i64 i133,.int .i64 i134,.int .i64 i135])) 40 (.int .i64 i136)) 41 (.pointer (some ⟨b15,1,none⟩))) 42 (.pointer (some ⟨b15,4,none⟩))) 43 (.int .i64 i139)) 44 (.agg #[.bool t140,.int .i64 i141,.int .i64 i142,.int .i64 i143,.int .i64 i144,.int .i64 i145,.int .i64 i146,.int .i64 i147,.int .i64 i148,.int .i64 i149,.int .i64 i150,.int .i64 i151])) 45 (pt_ x0)) 46 (pt_ x0)) 47 (.pointer (some ⟨x0,2,none⟩))) 48 (.agg #[.int .i64 i152,.int .i64 i153,.int .i64 i154,.int .i64 i155,.int .i64 i156,.int .i64 i157,.int .i64 i158,.int .i64 i159,.int .i64 i160,.int .i64 i161,.int .i64 i162,.int .i64 i163,.int .i64 i164,.int .i64 i165,.int .i64 i166,.int .i64 i167,.int .i64 i168,.int .i64 i169,.int .i64 i170,.int .i64 i171,.int .i64 i172,.int .i64 i173,.int .i64 i174,.int .i64 i175,.int .i64 i176,.int .i64 i177,.int .i64 i178,.int .i64 i179,.int .i64 i180,.int .i64 i181,.int .i64 i182,.int .i64 i183])) 49 (.int .i64 i184)) 5 (.int .i64 i88)) 6 (.int .i64 i136)) 7 (.int .i64 i184)) 50 (.pointer (some ⟨b15,1,none⟩))) 51 (.agg #[.int .i64 i187,.int .i64 i188,.int .i64 i189,.int .i64 i190,.int .i64 i191])) 52 (.int .i64 i192)) 53 (.pointer (some ⟨b15,7,none⟩))) 54 (.int .i64 i136)) 55 (.pointer (some ⟨b15,1,none⟩))) 56 (.pointer (some ⟨b15,5,none⟩))) 57 (.int .i64 i196)) 58 (.int .i64 i197)) 59 (.int .i64 i88)) 60 (.pointer (some ⟨b15,10,none⟩))) 61 (.pointer (some ⟨b15,9,none⟩))) 62 (.pointer (some ⟨b15,1,none⟩))) 63 (.pointer (some ⟨b15,1,none⟩))) 64 (.int .i64 i202)) 77 (.bool ((i202:Int) == 14))) 76 (.bool ((i202:Int) == 14))) 78 (.int .i64 i88)) 79 (.bool (decide ((i88:Int)<0)))) 80 (.bool (decide ((i88:Int)<0)))) 81 (.int .i64 i88)) 82 (.pointer (some ⟨b15,1,none⟩))) 83 (.pointer (some ⟨b15,5,none⟩))) 84 (.int .i64 i203)) 85 (.bool (decide ((i88:Int)≥i203)))) 86 (.bool (bif decide ((i88:Int)<0) then true else decide ((i88:Int)≥i203)))) m201 (blockS 0 (thenS (fun σ m=>vcS Tryz.prog w0 qs39 (sub c39 [1,1,1,1]) σ m (retQ Tryz.prog Tryz.f39 R)) (retQ Tryz.prog Tryz.f39 R)))))) (
 KI_∧(bcase ((i202:Int) == 18) (
 LI_ m201 b15 6 fun i204 => 
 KI_∧SI_ w0.heap.size m201 b15 8 (IntKind.wrap .i64 (i204+2)) fun m205 =>
 vcS Tryz.prog w0 qs39 (sub c39 [1,1,1,1]) (upd (upd (upd (upd (upd (upd (upd (upd (upd (upd (upd (upd (upd (upd (upd (upd (upd (upd (upd (upd (upd (upd (upd (upd (upd (upd (upd (upd (upd (upd (upd (upd (upd (upd (upd (upd (upd (upd (upd (upd (upd (upd (upd (upd (upd (upd (upd (upd (upd (upd (upd (upd (upd (upd (upd (upd (upd (upd (upd (upd (upd (upd (upd (upd (upd (upd (upd (upd (upd (upd (argS [pt_ x0,.agg #[.bool x1_0,.int .i64 x1_1,.int .i64 x1_2,.int .i64 x1_3,.int .i64 x1_4,.int .i64 x1_5,.int .i64 x1_6,.int .i64 x1_7,.int .i64 x1_8,.int .i64 x1_9,.int .i64 x1_10,.int .i64 x1_11]]) 3 (pt_ b1)) 8 (pt_ x0)) 9 (pt_ x0)) 10 (.pointer (some ⟨x0,49,none⟩))) 11 (.agg #[.bool t3,.int .i64 i4,.int .i64 i5,.int .i64 i6,.int .i64 i7,.int .i64 i8,.int .i64 i9,.int .i64 i10,.int .i64 i11,.int .i64 i12,.int .i64 i13,.int .i64 i14])) 4 (pt_ b15)) 12 (pt_ x0)) 13 (.agg #[.bool false,.int .i64 0,.int .i64 0,.int .i64 0,.int .i64 0,.int .i64 0,.int .i64 0,.int .i64 0,.int .i64 0,.int .i64 0,.int .i64 0,.int .i64 0])) 14 (pt_ x0)) 15 (.pointer (some ⟨x0,49,none⟩))) 16 (pt_ b15)) 17 (.bool t41)) 18 (.bool t41)) 19 (.pointer (some ⟨b15,11,none⟩))) 20 (.int .i64 i42)) 21 (.bool ((i42:Int) == 0))) 22 (.bool (bif t41 then (i42:Int) == 0 else false))) 23 (.pointer (some ⟨b15,1,none⟩))) 24 (.pointer (some ⟨b15,2,none⟩))) 25 (.int .i64 i43)) 26 (.agg #[.bool t44,.int .i64 i45,.int .i64 i46,.int .i64 i47,.int .i64 i48,.int .i64 i49,.int .i64 i50,.int .i64 i51,.int .i64 i52,.int .i64 i53,.int .i64 i54,.int .i64 i55])) 27 (pt_ x0)) 28 (pt_ x0)) 29 (.pointer (some ⟨x0,2,none⟩))) 30 (.agg #[.int .i64 i56,.int .i64 i57,.int .i64 i58,.int .i64 i59,.int .i64 i60,.int .i64 i61,.int .i64 i62,.int .i64 i63,.int .i64 i64,.int .i64 i65,.int .i64 i66,.int .i64 i67,.int .i64 i68,.int .i64 i69,.int .i64 i70,.int .i64 i71,.int .i64 i72,.int .i64 i73,.int .i64 i74,.int .i64 i75,.int .i64 i76,.int .i64 i77,.int .i64 i78,.int .i64 i79,.int .i64 i80,.int .i64 i81,.int .i64 i82,.int .i64 i83,.int .i64 i84,.int .i64 i85,.int .i64 i86,.int .i64 i87])) 31 (.int .i64 i88)) 32 (.pointer (some ⟨b15,1,none⟩))) 33 (.pointer (some ⟨b15,3,none⟩))) 34 (.int .i64 i91)) 35 (.agg #[.bool t92,.int .i64 i93,.int .i64 i94,.int .i64 i95,.int .i64 i96,.int .i64 i97,.int .i64 i98,.int .i64 i99,.int .i64 i100,.int .i64 i101,.int .i64 i102,.int .i64 i103])) 36 (pt_ x0)) 37 (pt_ x0)) 38 (.pointer (some ⟨x0,2,none⟩))) 39 (.agg #[.int .i64 i104,.int .i64 i105,.int .i64 i106,.int .i64 i107,.int .i64 i108,.int .i64 i109,.int .i64 i110,.int .i64 i111,.int .i64 i112,.int .i64 i113,.int .i64 i114,.int .i64 i115,.int .i64 i116,.int .i64 i117,.int .i64 i118,.int .i64 i119,.int .i64 i120,.int .i64 i121,.int .i64 i122,.int .i64 i123,.int .i64 i124,.int .i64 i125,.int .i64 i126,.int .i64 i127,.int .i64 i128,.int .i64 i129,.int .i64 i130,.int .i64 i131,.int .i64 i132,.int .i64 i133,.int .i64 i134,.int .i64 i135])) 40 (.int .i64 i136)) 41 (.pointer (some ⟨b15,1,none⟩))) 42 (.pointer (some ⟨b15,4,none⟩))) 43 (.int .i64 i139)) 44 (.agg #[.bool t140,.int .i64 i141,.int .i64 i142,.int .i64 i143,.int .i64 i144,.int .i64 i145,.int .i64 i146,.int .i64 i147,.int .i64 i148,.int .i64 i149,.int .i64 i150,.int .i64 i151])) 45 (pt_ x0)) 46 (pt_ x0)) 47 (.pointer (some ⟨x0,2,none⟩))) 48 (.agg #[.int .i64 i152,.int .i64 i153,.int .i64 i154,.int .i64 i155,.int .i64 i156,.int .i64 i157,.int .i64 i158,.int .i64 i159,.int .i64 i160,.int .i64 i161,.int .i64 i162,.int .i64 i163,.int .i64 i164,.int .i64 i165,.int .i64 i166,.int .i64 i167,.int .i64 i168,.int .i64 i169,.int .i64 i170,.int .i64 i171,.int .i64 i172,.int .i64 i173,.int .i64 i174,.int .i64 i175,.int .i64 i176,.int .i64 i177,.int .i64 i178,.int .i64 i179,.int .i64 i180,.int .i64 i181,.int .i64 i182,.int .i64 i183])) 49 (.int .i64 i184)) 5 (.int .i64 i88)) 6 (.int .i64 i136)) 7 (.int .i64 i184)) 50 (.pointer (some ⟨b15,1,none⟩))) 51 (.agg #[.int .i64 i187,.int .i64 i188,.int .i64 i189,.int .i64 i190,.int .i64 i191])) 52 (.int .i64 i192)) 53 (.pointer (some ⟨b15,7,none⟩))) 54 (.int .i64 i136)) 55 (.pointer (some ⟨b15,1,none⟩))) 56 (.pointer (some ⟨b15,5,none⟩))) 57 (.int .i64 i196)) 58 (.int .i64 i197)) 59 (.int .i64 i88)) 60 (.pointer (some ⟨b15,10,none⟩))) 61 (.pointer (some ⟨b15,9,none⟩))) 62 (.pointer (some ⟨b15,1,none⟩))) 63 (.pointer (some ⟨b15,1,none⟩))) 64 (.int .i64 i202)) 77 (.bool ((i202:Int) == 14))) 76 (.bool ((i202:Int) == 14))) 97 (.bool ((i202:Int) == 18))) 96 (.bool ((i202:Int) == 18))) 98 (.pointer (some ⟨b15,6,none⟩))) 99 (.int .i64 i204)) 100 (.int .i64 (IntKind.wrap .i64 (i204+2)))) 101 (.pointer (some ⟨b15,8,none⟩))) m205 (retQ Tryz.prog Tryz.f39 R)) (
 KI_∧(bcase ((i202:Int) == 20) (
 LB_ m201 b1 0 fun t206=>LI_ m201 b1 1 fun i207=>LI_ m201 b1 2 fun i208=>LI_ m201 b1 3 fun i209=>LI_ m201 b1 4 fun i210=>LI_ m201 b1 5 fun i211=>LI_ m201 b1 6 fun i212=>LI_ m201 b1 7 fun i213=>LI_ m201 b1 8 fun i214=>LI_ m201 b1 9 fun i215=>LI_ m201 b1 10 fun i216=>LI_ m201 b1 11 fun i217 => 
 LI_ m201 x0 2 fun i218=>LI_ m201 x0 3 fun i219=>LI_ m201 x0 4 fun i220=>LI_ m201 x0 5 fun i221=>LI_ m201 x0 6 fun i222=>LI_ m201 x0 7 fun i223=>LI_ m201 x0 8 fun i224=>LI_ m201 x0 9 fun i225=>LI_ m201 x0 10 fun i226=>LI_ m201 x0 11 fun i227=>LI_ m201 x0 12 fun i228=>LI_ m201 x0 13 fun i229=>LI_ m201 x0 14 fun i230=>LI_ m201 x0 15 fun i231=>LI_ m201 x0 16 fun i232=>LI_ m201 x0 17 fun i233=>LI_ m201 x0 18 fun i234=>LI_ m201 x0 19 fun i235=>LI_ m201 x0 20 fun i236=>LI_ m201 x0 21 fun i237=>LI_ m201 x0 22 fun i238=>LI_ m201 x0 23 fun i239=>LI_ m201 x0 24 fun i240=>LI_ m201 x0 25 fun i241=>LI_ m201 x0 26 fun i242=>LI_ m201 x0 27 fun i243=>LI_ m201 x0 28 fun i244=>LI_ m201 x0 29 fun i245=>LI_ m201 x0 30 fun i246=>LI_ m201 x0 31 fun i247=>LI_ m201 x0 32 fun i248=>LI_ m201 x0 33 fun i249 => 
 CallsA Tryz.prog w0 58 #[.int .i64 4,.agg #[.bool t206,.int .i64 i207,.int .i64 i208,.int .i64 i209,.int .i64 i210,.int .i64 i211,.int .i64 i212,.int .i64 i213,.int .i64 i214,.int .i64 i215,.int .i64 i216,.int .i64 i217],.agg #[.int .i64 i218,.int .i64 i219,.int .i64 i220,.int .i64 i221,.int .i64 i222,.int .i64 i223,.int .i64 i224,.int .i64 i225,.int .i64 i226,.int .i64 i227,.int .i64 i228,.int .i64 i229,.int .i64 i230,.int .i64 i231,.int .i64 i232,.int .i64 i233,.int .i64 i234,.int .i64 i235,.int .i64 i236,.int .i64 i237,.int .i64 i238,.int .i64 i239,.int .i64 i240,.int .i64 i241,.int .i64 i242,.int .i64 i243,.int .i64 i244,.int .i64 i245,.int .i64 i246,.int .i64 i247,.int .i64 i248,.int .i64 i249]] m201 fun r251 m252 =>
 ∃ i250:Int,r251=.int .i64 i250∧SI_ w0.heap.size m252 b15 9 i250 fun m253 =>
 vcS Tryz.prog w0 qs39 (sub c39 [1,1,1,1]) (upd (upd (upd (upd (upd (upd (upd (upd (upd (upd (upd (upd (upd (upd (upd (upd (upd (upd (upd (upd (upd (upd (upd (upd (upd (upd (upd (upd (upd (upd (upd (upd (upd (upd (upd (upd (upd (upd (upd (upd (upd (upd (upd (upd (upd (upd (upd (upd (upd (upd (upd (upd (upd (upd (upd (upd (upd (upd (upd (upd (upd (upd (upd (upd (upd (upd (upd (upd (upd (upd (upd (upd (upd (upd (upd (argS [pt_ x0,.agg #[.bool x1_0,.int .i64 x1_1,.int .i64 x1_2,.int .i64 x1_3,.int .i64 x1_4,.int .i64 x1_5,.int .i64 x1_6,.int .i64 x1_7,.int .i64 x1_8,.int .i64 x1_9,.int .i64 x1_10,.int .i64 x1_11]]) 3 (pt_ b1)) 8 (pt_ x0)) 9 (pt_ x0)) 10 (.pointer (some ⟨x0,49,none⟩))) 11 (.agg #[.bool t3,.int .i64 i4,.int .i64 i5,.int .i64 i6,.int .i64 i7,.int .i64 i8,.int .i64 i9,.int .i64 i10,.int .i64 i11,.int .i64 i12,.int .i64 i13,.int .i64 i14])) 4 (pt_ b15)) 12 (pt_ x0)) 13 (.agg #[.bool false,.int .i64 0,.int .i64 0,.int .i64 0,.int .i64 0,.int .i64 0,.int .i64 0,.int .i64 0,.int .i64 0,.int .i64 0,.int .i64 0,.int .i64 0])) 14 (pt_ x0)) 15 (.pointer (some ⟨x0,49,none⟩))) 16 (pt_ b15)) 17 (.bool t41)) 18 (.bool t41)) 19 (.pointer (some ⟨b15,11,none⟩))) 20 (.int .i64 i42)) 21 (.bool ((i42:Int) == 0))) 22 (.bool (bif t41 then (i42:Int) == 0 else false))) 23 (.pointer (some ⟨b15,1,none⟩))) 24 (.pointer (some ⟨b15,2,none⟩))) 25 (.int .i64 i43)) 26 (.agg #[.bool t44,.int .i64 i45,.int .i64 i46,.int .i64 i47,.int .i64 i48,.int .i64 i49,.int .i64 i50,.int .i64 i51,.int .i64 i52,.int .i64 i53,.int .i64 i54,.int .i64 i55])) 27 (pt_ x0)) 28 (pt_ x0)) 29 (.pointer (some ⟨x0,2,none⟩))) 30 (.agg #[.int .i64 i56,.int .i64 i57,.int .i64 i58,.int .i64 i59,.int .i64 i60,.int .i64 i61,.int .i64 i62,.int .i64 i63,.int .i64 i64,.int .i64 i65,.int .i64 i66,.int .i64 i67,.int .i64 i68,.int .i64 i69,.int .i64 i70,.int .i64 i71,.int .i64 i72,.int .i64 i73,.int .i64 i74,.int .i64 i75,.int .i64 i76,.int .i64 i77,.int .i64 i78,.int .i64 i79,.int .i64 i80,.int .i64 i81,.int .i64 i82,.int .i64 i83,.int .i64 i84,.int .i64 i85,.int .i64 i86,.int .i64 i87])) 31 (.int .i64 i88)) 32 (.pointer (some ⟨b15,1,none⟩))) 33 (.pointer (some ⟨b15,3,none⟩))) 34 (.int .i64 i91)) 35 (.agg #[.bool t92,.int .i64 i93,.int .i64 i94,.int .i64 i95,.int .i64 i96,.int .i64 i97,.int .i64 i98,.int .i64 i99,.int .i64 i100,.int .i64 i101,.int .i64 i102,.int .i64 i103])) 36 (pt_ x0)) 37 (pt_ x0)) 38 (.pointer (some ⟨x0,2,none⟩))) 39 (.agg #[.int .i64 i104,.int .i64 i105,.int .i64 i106,.int .i64 i107,.int .i64 i108,.int .i64 i109,.int .i64 i110,.int .i64 i111,.int .i64 i112,.int .i64 i113,.int .i64 i114,.int .i64 i115,.int .i64 i116,.int .i64 i117,.int .i64 i118,.int .i64 i119,.int .i64 i120,.int .i64 i121,.int .i64 i122,.int .i64 i123,.int .i64 i124,.int .i64 i125,.int .i64 i126,.int .i64 i127,.int .i64 i128,.int .i64 i129,.int .i64 i130,.int .i64 i131,.int .i64 i132,.int .i64 i133,.int .i64 i134,.int .i64 i135])) 40 (.int .i64 i136)) 41 (.pointer (some ⟨b15,1,none⟩))) 42 (.pointer (some ⟨b15,4,none⟩))) 43 (.int .i64 i139)) 44 (.agg #[.bool t140,.int .i64 i141,.int .i64 i142,.int .i64 i143,.int .i64 i144,.int .i64 i145,.int .i64 i146,.int .i64 i147,.int .i64 i148,.int .i64 i149,.int .i64 i150,.int .i64 i151])) 45 (pt_ x0)) 46 (pt_ x0)) 47 (.pointer (some ⟨x0,2,none⟩))) 48 (.agg #[.int .i64 i152,.int .i64 i153,.int .i64 i154,.int .i64 i155,.int .i64 i156,.int .i64 i157,.int .i64 i158,.int .i64 i159,.int .i64 i160,.int .i64 i161,.int .i64 i162,.int .i64 i163,.int .i64 i164,.int .i64 i165,.int .i64 i166,.int .i64 i167,.int .i64 i168,.int .i64 i169,.int .i64 i170,.int .i64 i171,.int .i64 i172,.int .i64 i173,.int .i64 i174,.int .i64 i175,.int .i64 i176,.int .i64 i177,.int .i64 i178,.int .i64 i179,.int .i64 i180,.int .i64 i181,.int .i64 i182,.int .i64 i183])) 49 (.int .i64 i184)) 5 (.int .i64 i88)) 6 (.int .i64 i136)) 7 (.int .i64 i184)) 50 (.pointer (some ⟨b15,1,none⟩))) 51 (.agg #[.int .i64 i187,.int .i64 i188,.int .i64 i189,.int .i64 i190,.int .i64 i191])) 52 (.int .i64 i192)) 53 (.pointer (some ⟨b15,7,none⟩))) 54 (.int .i64 i136)) 55 (.pointer (some ⟨b15,1,none⟩))) 56 (.pointer (some ⟨b15,5,none⟩))) 57 (.int .i64 i196)) 58 (.int .i64 i197)) 59 (.int .i64 i88)) 60 (.pointer (some ⟨b15,10,none⟩))) 61 (.pointer (some ⟨b15,9,none⟩))) 62 (.pointer (some ⟨b15,1,none⟩))) 63 (.pointer (some ⟨b15,1,none⟩))) 64 (.int .i64 i202)) 77 (.bool ((i202:Int) == 14))) 76 (.bool ((i202:Int) == 14))) 97 (.bool ((i202:Int) == 18))) 96 (.bool ((i202:Int) == 18))) 103 (.bool ((i202:Int) == 20))) 102 (.bool ((i202:Int) == 20))) 104 (.agg #[.bool t206,.int .i64 i207,.int .i64 i208,.int .i64 i209,.int .i64 i210,.int .i64 i211,.int .i64 i212,.int .i64 i213,.int .i64 i214,.int .i64 i215,.int .i64 i216,.int .i64 i217])) 105 (pt_ x0)) 106 (pt_ x0)) 107 (.pointer (some ⟨x0,2,none⟩))) 108 (.agg #[.int .i64 i218,.int .i64 i219,.int .i64 i220,.int .i64 i221,.int .i64 i222,.int .i64 i223,.int .i64 i224,.int .i64 i225,.int .i64 i226,.int .i64 i227,.int .i64 i228,.int .i64 i229,.int .i64 i230,.int .i64 i231,.int .i64 i232,.int .i64 i233,.int .i64 i234,.int .i64 i235,.int .i64 i236,.int .i64 i237,.int .i64 i238,.int .i64 i239,.int .i64 i240,.int .i64 i241,.int .i64 i242,.int .i64 i243,.int .i64 i244,.int .i64 i245,.int .i64 i246,.int .i64 i247,.int .i64 i248,.int .i64 i249])) 109 (.int .i64 i250)) 110 (.pointer (some ⟨b15,9,none⟩))) m253 (retQ Tryz.prog Tryz.f39 R)) (
 LI_ m201 b15 1 fun i254=>LI_ m201 b15 2 fun i255=>LI_ m201 b15 3 fun i256=>LI_ m201 b15 4 fun i257=>LI_ m201 b15 5 fun i258 => 
 CallsA Tryz.prog w0 33 #[.agg #[.int .i64 i254,.int .i64 i255,.int .i64 i256,.int .i64 i257,.int .i64 i258],.int .i64 i136,.int .i64 i184] m201 fun r262 m263 =>
 ∃ i259:Int,∃ i260:Int,∃ t261:Bool,r262=.tuple #[.int .i64 i259,.int .i64 i260,.bool t261]∧SI_ w0.heap.size m263 b15 8 i259 fun m267 =>
 SI_ w0.heap.size m267 b15 11 i260 fun m268 =>
 vcS Tryz.prog w0 qs39 (sub c39 [1,1,1,1]) (upd (upd (upd (upd (upd (upd (upd (upd (upd (upd (upd (upd (upd (upd (upd (upd (upd (upd (upd (upd (upd (upd (upd (upd (upd (upd (upd (upd (upd (upd (upd (upd (upd (upd (upd (upd (upd (upd (upd (upd (upd (upd (upd (upd (upd (upd (upd (upd (upd (upd (upd (upd (upd (upd (upd (upd (upd (upd (upd (upd (upd (upd (upd (upd (upd (upd (upd (upd (upd (upd (upd (upd (upd (upd (upd (upd (upd (upd (upd (argS [pt_ x0,.agg #[.bool x1_0,.int .i64 x1_1,.int .i64 x1_2,.int .i64 x1_3,.int .i64 x1_4,.int .i64 x1_5,.int .i64 x1_6,.int .i64 x1_7,.int .i64 x1_8,.int .i64 x1_9,.int .i64 x1_10,.int .i64 x1_11]]) 3 (pt_ b1)) 8 (pt_ x0)) 9 (pt_ x0)) 10 (.pointer (some ⟨x0,49,none⟩))) 11 (.agg #[.bool t3,.int .i64 i4,.int .i64 i5,.int .i64 i6,.int .i64 i7,.int .i64 i8,.int .i64 i9,.int .i64 i10,.int .i64 i11,.int .i64 i12,.int .i64 i13,.int .i64 i14])) 4 (pt_ b15)) 12 (pt_ x0)) 13 (.agg #[.bool false,.int .i64 0,.int .i64 0,.int .i64 0,.int .i64 0,.int .i64 0,.int .i64 0,.int .i64 0,.int .i64 0,.int .i64 0,.int .i64 0,.int .i64 0])) 14 (pt_ x0)) 15 (.pointer (some ⟨x0,49,none⟩))) 16 (pt_ b15)) 17 (.bool t41)) 18 (.bool t41)) 19 (.pointer (some ⟨b15,11,none⟩))) 20 (.int .i64 i42)) 21 (.bool ((i42:Int) == 0))) 22 (.bool (bif t41 then (i42:Int) == 0 else false))) 23 (.pointer (some ⟨b15,1,none⟩))) 24 (.pointer (some ⟨b15,2,none⟩))) 25 (.int .i64 i43)) 26 (.agg #[.bool t44,.int .i64 i45,.int .i64 i46,.int .i64 i47,.int .i64 i48,.int .i64 i49,.int .i64 i50,.int .i64 i51,.int .i64 i52,.int .i64 i53,.int .i64 i54,.int .i64 i55])) 27 (pt_ x0)) 28 (pt_ x0)) 29 (.pointer (some ⟨x0,2,none⟩))) 30 (.agg #[.int .i64 i56,.int .i64 i57,.int .i64 i58,.int .i64 i59,.int .i64 i60,.int .i64 i61,.int .i64 i62,.int .i64 i63,.int .i64 i64,.int .i64 i65,.int .i64 i66,.int .i64 i67,.int .i64 i68,.int .i64 i69,.int .i64 i70,.int .i64 i71,.int .i64 i72,.int .i64 i73,.int .i64 i74,.int .i64 i75,.int .i64 i76,.int .i64 i77,.int .i64 i78,.int .i64 i79,.int .i64 i80,.int .i64 i81,.int .i64 i82,.int .i64 i83,.int .i64 i84,.int .i64 i85,.int .i64 i86,.int .i64 i87])) 31 (.int .i64 i88)) 32 (.pointer (some ⟨b15,1,none⟩))) 33 (.pointer (some ⟨b15,3,none⟩))) 34 (.int .i64 i91)) 35 (.agg #[.bool t92,.int .i64 i93,.int .i64 i94,.int .i64 i95,.int .i64 i96,.int .i64 i97,.int .i64 i98,.int .i64 i99,.int .i64 i100,.int .i64 i101,.int .i64 i102,.int .i64 i103])) 36 (pt_ x0)) 37 (pt_ x0)) 38 (.pointer (some ⟨x0,2,none⟩))) 39 (.agg #[.int .i64 i104,.int .i64 i105,.int .i64 i106,.int .i64 i107,.int .i64 i108,.int .i64 i109,.int .i64 i110,.int .i64 i111,.int .i64 i112,.int .i64 i113,.int .i64 i114,.int .i64 i115,.int .i64 i116,.int .i64 i117,.int .i64 i118,.int .i64 i119,.int .i64 i120,.int .i64 i121,.int .i64 i122,.int .i64 i123,.int .i64 i124,.int .i64 i125,.int .i64 i126,.int .i64 i127,.int .i64 i128,.int .i64 i129,.int .i64 i130,.int .i64 i131,.int .i64 i132,.int .i64 i133,.int .i64 i134,.int .i64 i135])) 40 (.int .i64 i136)) 41 (.pointer (some ⟨b15,1,none⟩))) 42 (.pointer (some ⟨b15,4,none⟩))) 43 (.int .i64 i139)) 44 (.agg #[.bool t140,.int .i64 i141,.int .i64 i142,.int .i64 i143,.int .i64 i144,.int .i64 i145,.int .i64 i146,.int .i64 i147,.int .i64 i148,.int .i64 i149,.int .i64 i150,.int .i64 i151])) 45 (pt_ x0)) 46 (pt_ x0)) 47 (.pointer (some ⟨x0,2,none⟩))) 48 (.agg #[.int .i64 i152,.int .i64 i153,.int .i64 i154,.int .i64 i155,.int .i64 i156,.int .i64 i157,.int .i64 i158,.int .i64 i159,.int .i64 i160,.int .i64 i161,.int .i64 i162,.int .i64 i163,.int .i64 i164,.int .i64 i165,.int .i64 i166,.int .i64 i167,.int .i64 i168,.int .i64 i169,.int .i64 i170,.int .i64 i171,.int .i64 i172,.int .i64 i173,.int .i64 i174,.int .i64 i175,.int .i64 i176,.int .i64 i177,.int .i64 i178,.int .i64 i179,.int .i64 i180,.int .i64 i181,.int .i64 i182,.int .i64 i183])) 49 (.int .i64 i184)) 5 (.int .i64 i88)) 6 (.int .i64 i136)) 7 (.int .i64 i184)) 50 (.pointer (some ⟨b15,1,none⟩))) 51 (.agg #[.int .i64 i187,.int .i64 i188,.int .i64 i189,.int .i64 i190,.int .i64 i191])) 52 (.int .i64 i192)) 53 (.pointer (some ⟨b15,7,none⟩))) 54 (.int .i64 i136)) 55 (.pointer (some ⟨b15,1,none⟩))) 56 (.pointer (some ⟨b15,5,none⟩))) 57 (.int .i64 i196)) 58 (.int .i64 i197)) 59 (.int .i64 i88)) 60 (.pointer (some ⟨b15,10,none⟩))) 61 (.pointer (some ⟨b15,9,none⟩))) 62 (.pointer (some ⟨b15,1,none⟩))) 63 (.pointer (some ⟨b15,1,none⟩))) 64 (.int .i64 i202)) 77 (.bool ((i202:Int) == 14))) 76 (.bool ((i202:Int) == 14))) 97 (.bool ((i202:Int) == 18))) 96 (.bool ((i202:Int) == 18))) 103 (.bool ((i202:Int) == 20))) 102 (.bool ((i202:Int) == 20))) 66 (.pointer (some ⟨b15,1,none⟩))) 67 (.agg #[.int .i64 i254,.int .i64 i255,.int .i64 i256,.int .i64 i257,.int .i64 i258])) 68 (.int .i64 i136)) 69 (.int .i64 i184)) 70 (.tuple #[.int .i64 i259,.int .i64 i260,.bool t261])) 65 (.tuple #[.int .i64 i259,.int .i64 i260,.bool t261])) 71 (.int .i64 i259)) 72 (.int .i64 i260)) 73 (.bool t261)) 74 (.pointer (some ⟨b15,8,none⟩))) 75 (.pointer (some ⟨b15,11,none⟩))) m268 (retQ Tryz.prog Tryz.f39 R)))))))) (
 vcS Tryz.prog w0 qs39 (sub c39 [1,1,1,1]) (upd (upd (upd (upd (upd (upd (upd (upd (upd (upd (upd (upd (upd (upd (upd (upd (upd (argS [pt_ x0,.agg #[.bool x1_0,.int .i64 x1_1,.int .i64 x1_2,.int .i64 x1_3,.int .i64 x1_4,.int .i64 x1_5,.int .i64 x1_6,.int .i64 x1_7,.int .i64 x1_8,.int .i64 x1_9,.int .i64 x1_10,.int .i64 x1_11]]) 3 (pt_ b1)) 8 (pt_ x0)) 9 (pt_ x0)) 10 (.pointer (some ⟨x0,49,none⟩))) 11 (.agg #[.bool t3,.int .i64 i4,.int .i64 i5,.int .i64 i6,.int .i64 i7,.int .i64 i8,.int .i64 i9,.int .i64 i10,.int .i64 i11,.int .i64 i12,.int .i64 i13,.int .i64 i14])) 4 (pt_ b15)) 12 (pt_ x0)) 13 (.agg #[.bool false,.int .i64 0,.int .i64 0,.int .i64 0,.int .i64 0,.int .i64 0,.int .i64 0,.int .i64 0,.int .i64 0,.int .i64 0,.int .i64 0,.int .i64 0])) 14 (pt_ x0)) 15 (.pointer (some ⟨x0,49,none⟩))) 16 (pt_ b15)) 17 (.bool t41)) 18 (.bool t41)) 19 (.pointer (some ⟨b15,11,none⟩))) 20 (.int .i64 i42)) 21 (.bool ((i42:Int) == 0))) 22 (.bool (bif t41 then (i42:Int) == 0 else false))) m40 (retQ Tryz.prog Tryz.f39 R)))) (
 t41=false∧vcS Tryz.prog w0 qs39 (sub c39 [1,1,1,1]) (upd (upd (upd (upd (upd (upd (upd (upd (upd (upd (upd (upd (upd (upd (upd (upd (upd (argS [pt_ x0,.agg #[.bool x1_0,.int .i64 x1_1,.int .i64 x1_2,.int .i64 x1_3,.int .i64 x1_4,.int .i64 x1_5,.int .i64 x1_6,.int .i64 x1_7,.int .i64 x1_8,.int .i64 x1_9,.int .i64 x1_10,.int .i64 x1_11]]) 3 (pt_ b1)) 8 (pt_ x0)) 9 (pt_ x0)) 10 (.pointer (some ⟨x0,49,none⟩))) 11 (.agg #[.bool t3,.int .i64 i4,.int .i64 i5,.int .i64 i6,.int .i64 i7,.int .i64 i8,.int .i64 i9,.int .i64 i10,.int .i64 i11,.int .i64 i12,.int .i64 i13,.int .i64 i14])) 4 (pt_ b15)) 12 (pt_ x0)) 13 (.agg #[.bool false,.int .i64 0,.int .i64 0,.int .i64 0,.int .i64 0,.int .i64 0,.int .i64 0,.int .i64 0,.int .i64 0,.int .i64 0,.int .i64 0,.int .i64 0])) 14 (pt_ x0)) 15 (.pointer (some ⟨x0,49,none⟩))) 16 (pt_ b15)) 17 (.bool t41)) 18 (.bool t41)) 19 (undef)) 20 (undef)) 21 (undef)) 22 (.bool false)) m40 (retQ Tryz.prog Tryz.f39 R)))):CallsA Tryz.prog w0 39 #[pt_ x0,.agg #[.bool x1_0,.int .i64 x1_1,.int .i64 x1_2,.int .i64 x1_3,.int .i64 x1_4,.int .i64 x1_5,.int .i64 x1_6,.int .i64 x1_7,.int .i64 x1_8,.int .i64 x1_9,.int .i64 x1_10,.int .i64 x1_11]] m R :=
  callsA_of (c:=c39) (args:=[pt_ x0,.agg #[.bool x1_0,.int .i64 x1_1,.int .i64 x1_2,.int .i64 x1_3,.int .i64 x1_4,.int .i64 x1_5,.int .i64 x1_6,.int .i64 x1_7,.int .i64 x1_8,.int .i64 x1_9,.int .i64 x1_10,.int .i64 x1_11]]) (by kernel_rfl) Tryz.func39 (by kernel_rfl) qs39 (by kernel_rfl) (by kernel_rfl) (cast (by kernel_rfl) h)
theorem vk39_11101011110101 (w0:World) (m:AM) (σ:Sg) (R:Value→AM→Prop)  (x0:Nat) (x4:Nat) (x86:Bool) (h0:σ 0=.pointer (some ⟨x0,0,none⟩)) (h4:σ 4=.pointer (some ⟨x4,0,none⟩)) (h86:σ 86=.bool x86) (h :
 (bcase x86 (
 SI_ w0.heap.size m x4 11 5 fun m269 =>
 LI_ m269 x4 3 fun i270 => 
 KI_∧(bcase ((i270:Int) != 0) (
 LI_ m269 x4 3 fun i271 => 
 SI_ w0.heap.size m269 x4 11 i271 fun m272 =>
 vcS Tryz.prog w0 qs39 (sub c39 [1,1,1,1]) (upd (upd (upd (upd (upd (upd (upd (upd (upd (upd (upd (upd σ 0 (pt_ x0)) 4 (pt_ x4)) 86 (.bool x86)) 87 (.pointer (some ⟨x4,11,none⟩))) 88 (.pointer (some ⟨x4,1,none⟩))) 89 (.pointer (some ⟨x4,3,none⟩))) 90 (.int .i64 i270)) 91 (.bool ((i270:Int) != 0))) 92 (.pointer (some ⟨x4,1,none⟩))) 93 (.pointer (some ⟨x4,3,none⟩))) 94 (.int .i64 i271)) 95 (.pointer (some ⟨x4,11,none⟩))) m272 (retQ Tryz.prog Tryz.f39 R)) (
 vcS Tryz.prog w0 qs39 (sub c39 [1,1,1,1]) (upd (upd (upd (upd (upd (upd (upd (upd σ 0 (pt_ x0)) 4 (pt_ x4)) 86 (.bool x86)) 87 (.pointer (some ⟨x4,11,none⟩))) 88 (.pointer (some ⟨x4,1,none⟩))) 89 (.pointer (some ⟨x4,3,none⟩))) 90 (.int .i64 i270)) 91 (.bool ((i270:Int) != 0))) m269 (retQ Tryz.prog Tryz.f39 R)))) (
 vcS Tryz.prog w0 qs39 (sub c39 [1,1,1,1]) (upd (upd (upd σ 0 (pt_ x0)) 4 (pt_ x4)) 86 (.bool x86)) m (retQ Tryz.prog Tryz.f39 R)))) :
 vcS Tryz.prog w0 qs39 (sub c39 [1,1,1,0,1,0,1,1,1,1,0,1,0,1]) σ m (blockS 0 (thenS (fun σ m=>vcS Tryz.prog w0 qs39 (sub c39 [1,1,1,1]) σ m (retQ Tryz.prog Tryz.f39 R)) (retQ Tryz.prog Tryz.f39 R))):=by
  have es0:(upd (upd (upd σ 0 (pt_ x0)) 4 (pt_ x4)) 86 (.bool x86))=σ:=by rw [upd_id h0,upd_id h4,upd_id h86]
  exact cast (congrArg (fun s=>vcS Tryz.prog w0 qs39 (sub c39 [1,1,1,0,1,0,1,1,1,1,0,1,0,1]) s m (blockS 0 (thenS (fun σ m=>vcS Tryz.prog w0 qs39 (sub c39 [1,1,1,1]) σ m (retQ Tryz.prog Tryz.f39 R)) (retQ Tryz.prog Tryz.f39 R)))) es0) (cast (by kernel_rfl) h)
theorem vk39_1111 (w0:World) (m:AM) (σ:Sg) (R:Value→AM→Prop)  (x0:Nat) (x4:Nat) (h0:σ 0=.pointer (some ⟨x0,0,none⟩)) (h4:σ 4=.pointer (some ⟨x4,0,none⟩)) (h :
 LB_ m x4 0 fun t273=>LI_ m x4 1 fun i274=>LI_ m x4 2 fun i275=>LI_ m x4 3 fun i276=>LI_ m x4 4 fun i277=>LI_ m x4 5 fun i278=>LI_ m x4 6 fun i279=>LI_ m x4 7 fun i280=>LI_ m x4 8 fun i281=>LI_ m x4 9 fun i282=>LI_ m x4 10 fun i283=>LI_ m x4 11 fun i284 => 
 StC w0.heap.size m ⟨x0,61,none⟩ (.bool t273) fun m285 =>
 SI_ w0.heap.size m285 x0 62 i274 fun m286 =>
 SI_ w0.heap.size m286 x0 63 i275 fun m287 =>
 SI_ w0.heap.size m287 x0 64 i276 fun m288 =>
 SI_ w0.heap.size m288 x0 65 i277 fun m289 =>
 SI_ w0.heap.size m289 x0 66 i278 fun m290 =>
 SI_ w0.heap.size m290 x0 67 i279 fun m291 =>
 SI_ w0.heap.size m291 x0 68 i280 fun m292 =>
 SI_ w0.heap.size m292 x0 69 i281 fun m293 =>
 SI_ w0.heap.size m293 x0 70 i282 fun m294 =>
 SI_ w0.heap.size m294 x0 71 i283 fun m295 =>
 SI_ w0.heap.size m295 x0 72 i284 fun m296 =>
 RetP R (.tuple #[]) m296) :
 vcS Tryz.prog w0 qs39 (sub c39 [1,1,1,1]) σ m (retQ Tryz.prog Tryz.f39 R):=by
  have es0:(upd (upd σ 0 (pt_ x0)) 4 (pt_ x4))=σ:=by rw [upd_id h0,upd_id h4]
  exact cast (congrArg (fun s=>vcS Tryz.prog w0 qs39 (sub c39 [1,1,1,1]) s m (retQ Tryz.prog Tryz.f39 R)) es0) (cast (by kernel_rfl) h)

def qs60:Nat→List (Nat × Nat):=fun i=>match i with | 2=>[(12,2)] | _=>[]
noncomputable def c60:Code:=bodyOf Tryz.f60
theorem cf60 (w0:World) (m:AM) (x0:Nat) (x1:Int) (R:Value→AM→Prop) (h :
 KI_∧(bcase ((x1:Int) != 0) (
 LB_ m x0 73 fun t1 => 
 (bcase (bif (x1:Int) != 0 then t1 else false) (
 LI_ m x0 80 fun i2 => 
 KI_∧(bcase (bif bif (x1:Int) != 0 then t1 else false then (i2:Int) == x1 else false) (
 LB_ m x0 61 fun t3=>LI_ m x0 62 fun i4=>LI_ m x0 63 fun i5=>LI_ m x0 64 fun i6=>LI_ m x0 65 fun i7=>LI_ m x0 66 fun i8=>LI_ m x0 67 fun i9=>LI_ m x0 68 fun i10=>LI_ m x0 69 fun i11=>LI_ m x0 70 fun i12=>LI_ m x0 71 fun i13=>LI_ m x0 72 fun i14 => 
 LI_ m x0 81 fun i15 => 
 ∃ i16:Int,∃ i17:Int,∃ i18:Int,∃ i19:Int,∃ i20:Int,∃ i21:Int,∃ i22:Int,∃ i23:Int,∃ i24:Int,∃ i25:Int,∃ i26:Int,∃ i27:Int,∃ i28:Int,∃ i29:Int,∃ i30:Int,∃ i31:Int,∃ i32:Int,∃ i33:Int,∃ i34:Int,∃ i35:Int,∃ i36:Int,∃ i37:Int,∃ i38:Int,∃ i39:Int,∃ i40:Int,∃ i41:Int,∃ i42:Int,∃ i43:Int,∃ i44:Int,∃ i45:Int,∃ i46:Int,∃ i47:Int,  CallsA Tryz.prog w0 77 #[pt_ x0,.int .i64 x1,.int .i64 i15] m (fun r48 m49=>r48=.agg #[.int .i64 i16,.int .i64 i17,.int .i64 i18,.int .i64 i19,.int .i64 i20,.int .i64 i21,.int .i64 i22,.int .i64 i23,.int .i64 i24,.int .i64 i25,.int .i64 i26,.int .i64 i27,.int .i64 i28,.int .i64 i29,.int .i64 i30,.int .i64 i31,.int .i64 i32,.int .i64 i33,.int .i64 i34,.int .i64 i35,.int .i64 i36,.int .i64 i37,.int .i64 i38,.int .i64 i39,.int .i64 i40,.int .i64 i41,.int .i64 i42,.int .i64 i43,.int .i64 i44,.int .i64 i45,.int .i64 i46,.int .i64 i47]∧m49=m) ∧
 CallsA Tryz.prog w0 58 #[.int .i64 x1,.agg #[.bool t3,.int .i64 i4,.int .i64 i5,.int .i64 i6,.int .i64 i7,.int .i64 i8,.int .i64 i9,.int .i64 i10,.int .i64 i11,.int .i64 i12,.int .i64 i13,.int .i64 i14],.agg #[.int .i64 i16,.int .i64 i17,.int .i64 i18,.int .i64 i19,.int .i64 i20,.int .i64 i21,.int .i64 i22,.int .i64 i23,.int .i64 i24,.int .i64 i25,.int .i64 i26,.int .i64 i27,.int .i64 i28,.int .i64 i29,.int .i64 i30,.int .i64 i31,.int .i64 i32,.int .i64 i33,.int .i64 i34,.int .i64 i35,.int .i64 i36,.int .i64 i37,.int .i64 i38,.int .i64 i39,.int .i64 i40,.int .i64 i41,.int .i64 i42,.int .i64 i43,.int .i64 i44,.int .i64 i45,.int .i64 i46,.int .i64 i47]] m fun r51 m52 =>
 ∃ i50:Int,r51=.int .i64 i50∧RetP R (.int .i64 i50) m52) (
 vcS Tryz.prog w0 qs60 (sub c60 [1,1]) (upd (upd (upd (upd (upd (upd (upd (upd (upd (upd (upd (upd (upd (upd (upd (upd (upd (upd (upd (argS [pt_ x0,.int .i64 x1]) 4 (.int .i64 0)) 5 (.int .i64 x1)) 6 (.bool ((x1:Int) != 0))) 7 (.bool ((x1:Int) != 0))) 8 (pt_ x0)) 9 (pt_ x0)) 10 (.pointer (some ⟨x0,73,none⟩))) 11 (.pointer (some ⟨x0,73,none⟩))) 12 (.bool t1)) 13 (.bool (bif (x1:Int) != 0 then t1 else false))) 14 (.bool (bif (x1:Int) != 0 then t1 else false))) 15 (pt_ x0)) 16 (pt_ x0)) 17 (.pointer (some ⟨x0,73,none⟩))) 18 (.pointer (some ⟨x0,80,none⟩))) 19 (.int .i64 i2)) 20 (.int .i64 x1)) 21 (.bool ((i2:Int) == x1))) 22 (.bool (bif bif (x1:Int) != 0 then t1 else false then (i2:Int) == x1 else false))) m (retQ Tryz.prog Tryz.f60 R)))) (
 (bif (x1:Int) != 0 then t1 else false)=false∧vcS Tryz.prog w0 qs60 (sub c60 [1,1]) (upd (upd (upd (upd (upd (upd (upd (upd (upd (upd (upd (upd (upd (upd (upd (upd (upd (upd (upd (argS [pt_ x0,.int .i64 x1]) 4 (.int .i64 0)) 5 (.int .i64 x1)) 6 (.bool ((x1:Int) != 0))) 7 (.bool ((x1:Int) != 0))) 8 (pt_ x0)) 9 (pt_ x0)) 10 (.pointer (some ⟨x0,73,none⟩))) 11 (.pointer (some ⟨x0,73,none⟩))) 12 (.bool t1)) 13 (.bool (bif (x1:Int) != 0 then t1 else false))) 14 (.bool (bif (x1:Int) != 0 then t1 else false))) 15 (undef)) 16 (undef)) 17 (undef)) 18 (undef)) 19 (undef)) 20 (undef)) 21 (undef)) 22 (.bool false)) m (retQ Tryz.prog Tryz.f60 R)))) (
 ((x1:Int) != 0)=false∧false=false∧vcS Tryz.prog w0 qs60 (sub c60 [1,1]) (upd (upd (upd (upd (upd (upd (upd (upd (upd (upd (upd (upd (upd (upd (upd (upd (upd (upd (upd (argS [pt_ x0,.int .i64 x1]) 4 (.int .i64 0)) 5 (.int .i64 x1)) 6 (.bool ((x1:Int) != 0))) 7 (.bool ((x1:Int) != 0))) 8 (undef)) 9 (undef)) 10 (undef)) 11 (undef)) 12 (undef)) 13 (.bool false)) 14 (.bool false)) 15 (undef)) 16 (undef)) 17 (undef)) 18 (undef)) 19 (undef)) 20 (undef)) 21 (undef)) 22 (.bool false)) m (retQ Tryz.prog Tryz.f60 R)))):CallsA Tryz.prog w0 60 #[pt_ x0,.int .i64 x1] m R :=
  callsA_of (c:=c60) (args:=[pt_ x0,.int .i64 x1]) (by kernel_rfl) Tryz.func60 (by kernel_rfl) qs60 (by kernel_rfl) (by kernel_rfl) (cast (by kernel_rfl) h)
theorem vk60_11 (w0:World) (m:AM) (σ:Sg) (R:Value→AM→Prop)  (x0:Nat) (x1:Int) (h0:σ 0=.pointer (some ⟨x0,0,none⟩)) (h1:σ 1=.int .i64 x1) (h :
 LB_ m x0 61 fun t53=>LI_ m x0 62 fun i54=>LI_ m x0 63 fun i55=>LI_ m x0 64 fun i56=>LI_ m x0 65 fun i57=>LI_ m x0 66 fun i58=>LI_ m x0 67 fun i59=>LI_ m x0 68 fun i60=>LI_ m x0 69 fun i61=>LI_ m x0 70 fun i62=>LI_ m x0 71 fun i63=>LI_ m x0 72 fun i64 => 
 LI_ m x0 2 fun i65=>LI_ m x0 3 fun i66=>LI_ m x0 4 fun i67=>LI_ m x0 5 fun i68=>LI_ m x0 6 fun i69=>LI_ m x0 7 fun i70=>LI_ m x0 8 fun i71=>LI_ m x0 9 fun i72=>LI_ m x0 10 fun i73=>LI_ m x0 11 fun i74=>LI_ m x0 12 fun i75=>LI_ m x0 13 fun i76=>LI_ m x0 14 fun i77=>LI_ m x0 15 fun i78=>LI_ m x0 16 fun i79=>LI_ m x0 17 fun i80=>LI_ m x0 18 fun i81=>LI_ m x0 19 fun i82=>LI_ m x0 20 fun i83=>LI_ m x0 21 fun i84=>LI_ m x0 22 fun i85=>LI_ m x0 23 fun i86=>LI_ m x0 24 fun i87=>LI_ m x0 25 fun i88=>LI_ m x0 26 fun i89=>LI_ m x0 27 fun i90=>LI_ m x0 28 fun i91=>LI_ m x0 29 fun i92=>LI_ m x0 30 fun i93=>LI_ m x0 31 fun i94=>LI_ m x0 32 fun i95=>LI_ m x0 33 fun i96 => 
 CallsA Tryz.prog w0 58 #[.int .i64 x1,.agg #[.bool t53,.int .i64 i54,.int .i64 i55,.int .i64 i56,.int .i64 i57,.int .i64 i58,.int .i64 i59,.int .i64 i60,.int .i64 i61,.int .i64 i62,.int .i64 i63,.int .i64 i64],.agg #[.int .i64 i65,.int .i64 i66,.int .i64 i67,.int .i64 i68,.int .i64 i69,.int .i64 i70,.int .i64 i71,.int .i64 i72,.int .i64 i73,.int .i64 i74,.int .i64 i75,.int .i64 i76,.int .i64 i77,.int .i64 i78,.int .i64 i79,.int .i64 i80,.int .i64 i81,.int .i64 i82,.int .i64 i83,.int .i64 i84,.int .i64 i85,.int .i64 i86,.int .i64 i87,.int .i64 i88,.int .i64 i89,.int .i64 i90,.int .i64 i91,.int .i64 i92,.int .i64 i93,.int .i64 i94,.int .i64 i95,.int .i64 i96]] m fun r98 m99 =>
 ∃ i97:Int,r98=.int .i64 i97∧RetP R (.int .i64 i97) m99) :
 vcS Tryz.prog w0 qs60 (sub c60 [1,1]) σ m (retQ Tryz.prog Tryz.f60 R):=by
  have es0:(upd (upd σ 0 (pt_ x0)) 1 (.int .i64 x1))=σ:=by rw [upd_id h0,upd_id h1]
  exact cast (congrArg (fun s=>vcS Tryz.prog w0 qs60 (sub c60 [1,1]) s m (retQ Tryz.prog Tryz.f60 R)) es0) (cast (by kernel_rfl) h)

def qs77:Nat→List (Nat × Nat):=fun i=>match i with | _=>[]
noncomputable def c77:Code:=bodyOf Tryz.f77
theorem cf77 (w0:World) (m:AM) (x0:Nat) (x1:Int) (x2:Int) (R:Value→AM→Prop) (h :
 ∀ b1:Nat,w0.heap.size≤b1→m b1=none→let m2:=AM.upd m b1 (.cells #[.int .i64 0,.int .i64 0,.int .i64 0,.int .i64 0,.int .i64 0,.int .i64 0,.int .i64 0,.int .i64 0,.int .i64 0,.int .i64 0,.int .i64 0,.int .i64 0,.int .i64 0,.int .i64 0,.int .i64 0,.int .i64 0,.int .i64 0,.int .i64 0,.int .i64 0,.int .i64 0,.int .i64 0,.int .i64 0,.int .i64 0,.int .i64 0,.int .i64 0,.int .i64 0,.int .i64 0,.int .i64 0,.int .i64 0,.int .i64 0,.int .i64 0,.int .i64 0] 51);
 LI_ m2 x0 2 fun i3=>LI_ m2 x0 3 fun i4=>LI_ m2 x0 4 fun i5=>LI_ m2 x0 5 fun i6=>LI_ m2 x0 6 fun i7=>LI_ m2 x0 7 fun i8=>LI_ m2 x0 8 fun i9=>LI_ m2 x0 9 fun i10=>LI_ m2 x0 10 fun i11=>LI_ m2 x0 11 fun i12=>LI_ m2 x0 12 fun i13=>LI_ m2 x0 13 fun i14=>LI_ m2 x0 14 fun i15=>LI_ m2 x0 15 fun i16=>LI_ m2 x0 16 fun i17=>LI_ m2 x0 17 fun i18=>LI_ m2 x0 18 fun i19=>LI_ m2 x0 19 fun i20=>LI_ m2 x0 20 fun i21=>LI_ m2 x0 21 fun i22=>LI_ m2 x0 22 fun i23=>LI_ m2 x0 23 fun i24=>LI_ m2 x0 24 fun i25=>LI_ m2 x0 25 fun i26=>LI_ m2 x0 26 fun i27=>LI_ m2 x0 27 fun i28=>LI_ m2 x0 28 fun i29=>LI_ m2 x0 29 fun i30=>LI_ m2 x0 30 fun i31=>LI_ m2 x0 31 fun i32=>LI_ m2 x0 32 fun i33=>LI_ m2 x0 33 fun i34 => 
 ∀ b35:Nat,w0.heap.size≤b35→m2 b35=none→let m36:=AM.upd m2 b35 (.cells #[.int .i64 0,.int .i64 0,.int .i64 0,.int .i64 0,.int .i64 0,.int .i64 0,.int .i64 0,.int .i64 0,.int .i64 0,.int .i64 0,.int .i64 0,.int .i64 0,.int .i64 0,.int .i64 0,.int .i64 0,.int .i64 0,.int .i64 0,.int .i64 0,.int .i64 0,.int .i64 0,.int .i64 0,.int .i64 0,.int .i64 0,.int .i64 0,.int .i64 0,.int .i64 0,.int .i64 0,.int .i64 0,.int .i64 0,.int .i64 0,.int .i64 0,.int .i64 0] 51);
 SI_ w0.heap.size m36 b35 0 i3 fun m37 =>
 SI_ w0.heap.size m37 b35 1 i4 fun m38 =>
 SI_ w0.heap.size m38 b35 2 i5 fun m39 =>
 SI_ w0.heap.size m39 b35 3 i6 fun m40 =>
 SI_ w0.heap.size m40 b35 4 i7 fun m41 =>
 SI_ w0.heap.size m41 b35 5 i8 fun m42 =>
 SI_ w0.heap.size m42 b35 6 i9 fun m43 =>
 SI_ w0.heap.size m43 b35 7 i10 fun m44 =>
 SI_ w0.heap.size m44 b35 8 i11 fun m45 =>
 SI_ w0.heap.size m45 b35 9 i12 fun m46 =>
 SI_ w0.heap.size m46 b35 10 i13 fun m47 =>
 SI_ w0.heap.size m47 b35 11 i14 fun m48 =>
 SI_ w0.heap.size m48 b35 12 i15 fun m49 =>
 SI_ w0.heap.size m49 b35 13 i16 fun m50 =>
 SI_ w0.heap.size m50 b35 14 i17 fun m51 =>
 SI_ w0.heap.size m51 b35 15 i18 fun m52 =>
 SI_ w0.heap.size m52 b35 16 i19 fun m53 =>
 SI_ w0.heap.size m53 b35 17 i20 fun m54 =>
 SI_ w0.heap.size m54 b35 18 i21 fun m55 =>
 SI_ w0.heap.size m55 b35 19 i22 fun m56 =>
 SI_ w0.heap.size m56 b35 20 i23 fun m57 =>
 SI_ w0.heap.size m57 b35 21 i24 fun m58 =>
 SI_ w0.heap.size m58 b35 22 i25 fun m59 =>
 SI_ w0.heap.size m59 b35 23 i26 fun m60 =>
 SI_ w0.heap.size m60 b35 24 i27 fun m61 =>
 SI_ w0.heap.size m61 b35 25 i28 fun m62 =>
 SI_ w0.heap.size m62 b35 26 i29 fun m63 =>
 SI_ w0.heap.size m63 b35 27 i30 fun m64 =>
 SI_ w0.heap.size m64 b35 28 i31 fun m65 =>
 SI_ w0.heap.size m65 b35 29 i32 fun m66 =>
 SI_ w0.heap.size m66 b35 30 i33 fun m67 =>
 SI_ w0.heap.size m67 b35 31 i34 fun m68 =>
 ((0:Int)≤x1∧x1<((32:Nat):Int)) ∧
 StC w0.heap.size m68 ((⟨b35,0,none⟩:Addr).add ((x1:Int).toNat*1)) (.int .i64 x2) fun m69 =>
 LI_ m69 b35 0 fun i70=>LI_ m69 b35 1 fun i71=>LI_ m69 b35 2 fun i72=>LI_ m69 b35 3 fun i73=>LI_ m69 b35 4 fun i74=>LI_ m69 b35 5 fun i75=>LI_ m69 b35 6 fun i76=>LI_ m69 b35 7 fun i77=>LI_ m69 b35 8 fun i78=>LI_ m69 b35 9 fun i79=>LI_ m69 b35 10 fun i80=>LI_ m69 b35 11 fun i81=>LI_ m69 b35 12 fun i82=>LI_ m69 b35 13 fun i83=>LI_ m69 b35 14 fun i84=>LI_ m69 b35 15 fun i85=>LI_ m69 b35 16 fun i86=>LI_ m69 b35 17 fun i87=>LI_ m69 b35 18 fun i88=>LI_ m69 b35 19 fun i89=>LI_ m69 b35 20 fun i90=>LI_ m69 b35 21 fun i91=>LI_ m69 b35 22 fun i92=>LI_ m69 b35 23 fun i93=>LI_ m69 b35 24 fun i94=>LI_ m69 b35 25 fun i95=>LI_ m69 b35 26 fun i96=>LI_ m69 b35 27 fun i97=>LI_ m69 b35 28 fun i98=>LI_ m69 b35 29 fun i99=>LI_ m69 b35 30 fun i100=>LI_ m69 b35 31 fun i101 => 
 SI_ w0.heap.size m69 b1 0 i70 fun m102 =>
 SI_ w0.heap.size m102 b1 1 i71 fun m103 =>
 SI_ w0.heap.size m103 b1 2 i72 fun m104 =>
 SI_ w0.heap.size m104 b1 3 i73 fun m105 =>
 SI_ w0.heap.size m105 b1 4 i74 fun m106 =>
 SI_ w0.heap.size m106 b1 5 i75 fun m107 =>
 SI_ w0.heap.size m107 b1 6 i76 fun m108 =>
 SI_ w0.heap.size m108 b1 7 i77 fun m109 =>
 SI_ w0.heap.size m109 b1 8 i78 fun m110 =>
 SI_ w0.heap.size m110 b1 9 i79 fun m111 =>
 SI_ w0.heap.size m111 b1 10 i80 fun m112 =>
 SI_ w0.heap.size m112 b1 11 i81 fun m113 =>
 SI_ w0.heap.size m113 b1 12 i82 fun m114 =>
 SI_ w0.heap.size m114 b1 13 i83 fun m115 =>
 SI_ w0.heap.size m115 b1 14 i84 fun m116 =>
 SI_ w0.heap.size m116 b1 15 i85 fun m117 =>
 SI_ w0.heap.size m117 b1 16 i86 fun m118 =>
 SI_ w0.heap.size m118 b1 17 i87 fun m119 =>
 SI_ w0.heap.size m119 b1 18 i88 fun m120 =>
 SI_ w0.heap.size m120 b1 19 i89 fun m121 =>
 SI_ w0.heap.size m121 b1 20 i90 fun m122 =>
 SI_ w0.heap.size m122 b1 21 i91 fun m123 =>
 SI_ w0.heap.size m123 b1 22 i92 fun m124 =>
 SI_ w0.heap.size m124 b1 23 i93 fun m125 =>
 SI_ w0.heap.size m125 b1 24 i94 fun m126 =>
 SI_ w0.heap.size m126 b1 25 i95 fun m127 =>
 SI_ w0.heap.size m127 b1 26 i96 fun m128 =>
 SI_ w0.heap.size m128 b1 27 i97 fun m129 =>
 SI_ w0.heap.size m129 b1 28 i98 fun m130 =>
 SI_ w0.heap.size m130 b1 29 i99 fun m131 =>
 SI_ w0.heap.size m131 b1 30 i100 fun m132 =>
 SI_ w0.heap.size m132 b1 31 i101 fun m133 =>
 LI_ m133 b1 0 fun i134=>LI_ m133 b1 1 fun i135=>LI_ m133 b1 2 fun i136=>LI_ m133 b1 3 fun i137=>LI_ m133 b1 4 fun i138=>LI_ m133 b1 5 fun i139=>LI_ m133 b1 6 fun i140=>LI_ m133 b1 7 fun i141=>LI_ m133 b1 8 fun i142=>LI_ m133 b1 9 fun i143=>LI_ m133 b1 10 fun i144=>LI_ m133 b1 11 fun i145=>LI_ m133 b1 12 fun i146=>LI_ m133 b1 13 fun i147=>LI_ m133 b1 14 fun i148=>LI_ m133 b1 15 fun i149=>LI_ m133 b1 16 fun i150=>LI_ m133 b1 17 fun i151=>LI_ m133 b1 18 fun i152=>LI_ m133 b1 19 fun i153=>LI_ m133 b1 20 fun i154=>LI_ m133 b1 21 fun i155=>LI_ m133 b1 22 fun i156=>LI_ m133 b1 23 fun i157=>LI_ m133 b1 24 fun i158=>LI_ m133 b1 25 fun i159=>LI_ m133 b1 26 fun i160=>LI_ m133 b1 27 fun i161=>LI_ m133 b1 28 fun i162=>LI_ m133 b1 29 fun i163=>LI_ m133 b1 30 fun i164=>LI_ m133 b1 31 fun i165=>RetP R (.agg #[.int .i64 i134,.int .i64 i135,.int .i64 i136,.int .i64 i137,.int .i64 i138,.int .i64 i139,.int .i64 i140,.int .i64 i141,.int .i64 i142,.int .i64 i143,.int .i64 i144,.int .i64 i145,.int .i64 i146,.int .i64 i147,.int .i64 i148,.int .i64 i149,.int .i64 i150,.int .i64 i151,.int .i64 i152,.int .i64 i153,.int .i64 i154,.int .i64 i155,.int .i64 i156,.int .i64 i157,.int .i64 i158,.int .i64 i159,.int .i64 i160,.int .i64 i161,.int .i64 i162,.int .i64 i163,.int .i64 i164,.int .i64 i165]) m133):CallsA Tryz.prog w0 77 #[pt_ x0,.int .i64 x1,.int .i64 x2] m R :=
  callsA_of (c:=c77) (args:=[pt_ x0,.int .i64 x1,.int .i64 x2]) (by kernel_rfl) Tryz.func77 (by kernel_rfl) qs77 (by kernel_rfl) (by kernel_rfl) (cast (by kernel_rfl) h)

def qs41:Nat→List (Nat × Nat):=fun i=>match i with | 10=>[(4,2),(9,2)] | _=>[]
noncomputable def c41:Code:=bodyOf Tryz.f41
theorem cf41 (w0:World) (m:AM) (x0:Nat) (R:Value→AM→Prop) (h :
 LB_ m x0 37 fun t1=>LI_ m x0 38 fun i2=>LI_ m x0 39 fun i3=>LI_ m x0 40 fun i4=>LI_ m x0 41 fun i5=>LI_ m x0 42 fun i6=>LI_ m x0 43 fun i7=>LI_ m x0 44 fun i8=>LI_ m x0 45 fun i9=>LI_ m x0 46 fun i10=>LI_ m x0 47 fun i11=>LI_ m x0 48 fun i12 => 
 ∀ b13:Nat,w0.heap.size≤b13→m b13=none→let m14:=AM.upd m b13 (.cells #[.bool false,.int .i64 0,.int .i64 0,.int .i64 0,.int .i64 0,.int .i64 0,.int .i64 0,.int .i64 0,.int .i64 0,.int .i64 0,.int .i64 0,.int .i64 0] 58);
 StC w0.heap.size m14 ⟨b13,0,none⟩ (.bool t1) fun m15 =>
 SI_ w0.heap.size m15 b13 1 i2 fun m16 =>
 SI_ w0.heap.size m16 b13 2 i3 fun m17 =>
 SI_ w0.heap.size m17 b13 3 i4 fun m18 =>
 SI_ w0.heap.size m18 b13 4 i5 fun m19 =>
 SI_ w0.heap.size m19 b13 5 i6 fun m20 =>
 SI_ w0.heap.size m20 b13 6 i7 fun m21 =>
 SI_ w0.heap.size m21 b13 7 i8 fun m22 =>
 SI_ w0.heap.size m22 b13 8 i9 fun m23 =>
 SI_ w0.heap.size m23 b13 9 i10 fun m24 =>
 SI_ w0.heap.size m24 b13 10 i11 fun m25 =>
 SI_ w0.heap.size m25 b13 11 i12 fun m26 =>
 true=true∧StC w0.heap.size m26 ⟨x0,37,none⟩ (.bool false) fun m27 =>
 SI_ w0.heap.size m27 x0 38 0 fun m28 =>
 SI_ w0.heap.size m28 x0 39 0 fun m29 =>
 SI_ w0.heap.size m29 x0 40 0 fun m30 =>
 SI_ w0.heap.size m30 x0 41 0 fun m31 =>
 SI_ w0.heap.size m31 x0 42 0 fun m32 =>
 SI_ w0.heap.size m32 x0 43 0 fun m33 =>
 SI_ w0.heap.size m33 x0 44 0 fun m34 =>
 SI_ w0.heap.size m34 x0 45 0 fun m35 =>
 SI_ w0.heap.size m35 x0 46 0 fun m36 =>
 SI_ w0.heap.size m36 x0 47 0 fun m37 =>
 SI_ w0.heap.size m37 x0 48 0 fun m38 =>
 LB_ m38 b13 0 fun t39=>LI_ m38 b13 1 fun i40=>LI_ m38 b13 2 fun i41=>LI_ m38 b13 3 fun i42=>LI_ m38 b13 4 fun i43=>LI_ m38 b13 5 fun i44=>LI_ m38 b13 6 fun i45=>LI_ m38 b13 7 fun i46=>LI_ m38 b13 8 fun i47=>LI_ m38 b13 9 fun i48=>LI_ m38 b13 10 fun i49=>LI_ m38 b13 11 fun i50 => 
 StC w0.heap.size m38 ⟨x0,49,none⟩ (.bool t39) fun m51 =>
 SI_ w0.heap.size m51 x0 50 i40 fun m52 =>
 SI_ w0.heap.size m52 x0 51 i41 fun m53 =>
 SI_ w0.heap.size m53 x0 52 i42 fun m54 =>
 SI_ w0.heap.size m54 x0 53 i43 fun m55 =>
 SI_ w0.heap.size m55 x0 54 i44 fun m56 =>
 SI_ w0.heap.size m56 x0 55 i45 fun m57 =>
 SI_ w0.heap.size m57 x0 56 i46 fun m58 =>
 SI_ w0.heap.size m58 x0 57 i47 fun m59 =>
 SI_ w0.heap.size m59 x0 58 i48 fun m60 =>
 SI_ w0.heap.size m60 x0 59 i49 fun m61 =>
 SI_ w0.heap.size m61 x0 60 i50 fun m62 =>
 LI_ m62 x0 34 fun i63 => 
 KI_∧LB_ m62 b13 0 fun t64 => 
 (bcase (!t64) (
 (!t64)=true∧RetP R (.int .i64 (IntKind.wrap .i64 (i63+1))) m62) (
 LI_ m62 b13 11 fun i65 => 
 KI_∧(bcase (bif !t64 then true else (i65:Int) != 0) (
 RetP R (.int .i64 (IntKind.wrap .i64 (i63+1))) m62) (
 LI_ m62 b13 1 fun i66 => 
 KI_∧(bcase ((i66:Int) == 15) (
 (bcase ((i66:Int) == 15) (
 LI_ m62 b13 2 fun i67 => 
 ∃ i68:Int,  CallsA Tryz.prog w0 60 #[pt_ x0,.int .i64 i67] m62 (fun r69 m70=>r69=.int .i64 i68∧m70=m62) ∧
 LI_ m62 b13 3 fun i71 => 
 ∃ i72:Int,  CallsA Tryz.prog w0 60 #[pt_ x0,.int .i64 i71] m62 (fun r73 m74=>r73=.int .i64 i72∧m74=m62) ∧
 KI_∧LI_ m62 b13 1 fun i75 => 
 KI_∧(bcase ((((i68:Int) == i72):Bool) == ((i75:Int) == 15)) (
 LI_ m62 b13 6 fun i76 => 
 KI_∧LI_ m62 b13 5 fun i77 => 
 KI_∧RetP R (.int .i64 (IntKind.wrap .i64 ((IntKind.wrap .i64 (i76+1))+i77))) m62) (
 RetP R (.int .i64 (IntKind.wrap .i64 (i63+1))) m62))) (
 KI_∧(bcase ((i66:Int) == 17) (
 (bcase ((i66:Int) == 17) (
 LI_ m62 b13 5 fun i78 => 
 RetP R (.int .i64 i78) m62) (
 KI_∧(bcase ((i66:Int) == 19) (
 LI_ m62 b13 2 fun i79 => 
 CallsA Tryz.prog w0 60 #[pt_ x0,.int .i64 i79] m62 fun r81 m82 =>
 ∃ i80:Int,r81=.int .i64 i80∧RetP R (.int .i64 i80) m82) (
 RetP R (.int .i64 (IntKind.wrap .i64 (i63+1))) m62))))) (
 KI_∧(bcase ((i66:Int) == 18) (
 LI_ m62 b13 5 fun i83 => 
 RetP R (.int .i64 i83) m62) (
 KI_∧(bcase ((i66:Int) == 19) (
 LI_ m62 b13 2 fun i84 => 
 CallsA Tryz.prog w0 60 #[pt_ x0,.int .i64 i84] m62 fun r86 m87 =>
 ∃ i85:Int,r86=.int .i64 i85∧RetP R (.int .i64 i85) m87) (
 RetP R (.int .i64 (IntKind.wrap .i64 (i63+1))) m62))))))))) (
 KI_∧(bcase ((i66:Int) == 16) (
 LI_ m62 b13 2 fun i88 => 
 ∃ i89:Int,  CallsA Tryz.prog w0 60 #[pt_ x0,.int .i64 i88] m62 (fun r90 m91=>r90=.int .i64 i89∧m91=m62) ∧
 LI_ m62 b13 3 fun i92 => 
 ∃ i93:Int,  CallsA Tryz.prog w0 60 #[pt_ x0,.int .i64 i92] m62 (fun r94 m95=>r94=.int .i64 i93∧m95=m62) ∧
 KI_∧LI_ m62 b13 1 fun i96 => 
 KI_∧(bcase ((((i89:Int) == i93):Bool) == ((i96:Int) == 15)) (
 LI_ m62 b13 6 fun i97 => 
 KI_∧LI_ m62 b13 5 fun i98 => 
 KI_∧RetP R (.int .i64 (IntKind.wrap .i64 ((IntKind.wrap .i64 (i97+1))+i98))) m62) (
 RetP R (.int .i64 (IntKind.wrap .i64 (i63+1))) m62))) (
 KI_∧(bcase ((i66:Int) == 17) (
 (bcase ((i66:Int) == 17) (
 LI_ m62 b13 5 fun i99 => 
 RetP R (.int .i64 i99) m62) (
 KI_∧(bcase ((i66:Int) == 19) (
 LI_ m62 b13 2 fun i100 => 
 CallsA Tryz.prog w0 60 #[pt_ x0,.int .i64 i100] m62 fun r102 m103 =>
 ∃ i101:Int,r102=.int .i64 i101∧RetP R (.int .i64 i101) m103) (
 RetP R (.int .i64 (IntKind.wrap .i64 (i63+1))) m62))))) (
 KI_∧(bcase ((i66:Int) == 18) (
 LI_ m62 b13 5 fun i104 => 
 RetP R (.int .i64 i104) m62) (
 KI_∧(bcase ((i66:Int) == 19) (
 LI_ m62 b13 2 fun i105 => 
 CallsA Tryz.prog w0 60 #[pt_ x0,.int .i64 i105] m62 fun r107 m108 =>
 ∃ i106:Int,r107=.int .i64 i106∧RetP R (.int .i64 i106) m108) (
 RetP R (.int .i64 (IntKind.wrap .i64 (i63+1))) m62))))))))))))))):CallsA Tryz.prog w0 41 #[pt_ x0] m R :=
  callsA_of (c:=c41) (args:=[pt_ x0]) (by kernel_rfl) Tryz.func41 (by kernel_rfl) qs41 (by kernel_rfl) (by kernel_rfl) (cast (by kernel_rfl) h)

def qs40:Nat→List (Nat × Nat):=fun i=>match i with | _=>[]
noncomputable def c40:Code:=bodyOf Tryz.f40
theorem cf40 (w0:World) (m:AM) (x0:Nat) (x1:Int) (R:Value→AM→Prop) (h :
 LI_ m x0 34 fun i1 => 
 true=true∧∀ b2:Nat,w0.heap.size≤b2→m b2=none→let m3:=AM.upd m b2 (.cells #[.bool false,.int .i64 0,.int .i64 0,.int .i64 0,.int .i64 0,.int .i64 0,.int .i64 0,.int .i64 0,.int .i64 0,.int .i64 0,.int .i64 0,.int .i64 0] 58);
 StC w0.heap.size m3 ⟨b2,0,none⟩ (.bool true) fun m4 =>
 SI_ w0.heap.size m4 b2 1 0 fun m5 =>
 SI_ w0.heap.size m5 b2 2 0 fun m6 =>
 SI_ w0.heap.size m6 b2 3 0 fun m7 =>
 SI_ w0.heap.size m7 b2 4 0 fun m8 =>
 SI_ w0.heap.size m8 b2 5 0 fun m9 =>
 SI_ w0.heap.size m9 b2 6 i1 fun m10 =>
 SI_ w0.heap.size m10 b2 7 0 fun m11 =>
 SI_ w0.heap.size m11 b2 8 0 fun m12 =>
 SI_ w0.heap.size m12 b2 9 0 fun m13 =>
 SI_ w0.heap.size m13 b2 10 0 fun m14 =>
 SI_ w0.heap.size m14 b2 11 0 fun m15 =>
 LI_ m15 x0 34 fun i16 => 
 KI_∧(bcase (decide ((i16:Int)<0)) (
 (decide ((i16:Int)<0))=true∧SI_ w0.heap.size m15 b2 11 2 fun m17 =>
 vcS Tryz.prog w0 qs40 (sub c40 [1,1]) (upd (upd (upd (upd (upd (upd (upd (upd (upd (upd (upd (upd (upd (upd (upd (upd (upd (upd (upd (upd (upd (upd (upd (upd (upd (argS [pt_ x0,.int .i64 x1]) 5 (pt_ x0)) 6 (pt_ x0)) 7 (.pointer (some ⟨x0,34,none⟩))) 8 (.int .i64 i1)) 9 (.agg #[.bool true,.int .i64 0,.int .i64 0,.int .i64 0,.int .i64 0,.int .i64 0,.int .i64 i1,.int .i64 0,.int .i64 0,.int .i64 0,.int .i64 0,.int .i64 0])) 4 (pt_ b2)) 22 (pt_ x0)) 23 (pt_ x0)) 24 (.pointer (some ⟨x0,34,none⟩))) 25 (.int .i64 i16)) 26 (.bool (decide ((i16:Int)<0)))) 27 (.bool (decide ((i16:Int)<0)))) 28 (undef)) 29 (undef)) 30 (undef)) 31 (undef)) 32 (undef)) 33 (undef)) 34 (undef)) 35 (undef)) 36 (undef)) 37 (undef)) 38 (.bool true)) 21 (.bool true)) 39 (.pointer (some ⟨b2,11,none⟩))) m17 (retQ Tryz.prog Tryz.f40 R)) (
 LI_ m15 x0 34 fun i18 => 
 ∃ (A19:Option Addr) (n20 c21:Nat),m15.cell ⟨x0,0,none⟩=some (.slice A19 n20 c21) ∧ 
 KI_∧(bcase (bif decide ((i16:Int)<0) then true else decide ((i18:Int)≥((n20:Nat):Int))) (
 SI_ w0.heap.size m15 b2 11 2 fun m22 =>
 vcS Tryz.prog w0 qs40 (sub c40 [1,1]) (upd (upd (upd (upd (upd (upd (upd (upd (upd (upd (upd (upd (upd (upd (upd (upd (upd (upd (upd (upd (upd (upd (upd (upd (upd (argS [pt_ x0,.int .i64 x1]) 5 (pt_ x0)) 6 (pt_ x0)) 7 (.pointer (some ⟨x0,34,none⟩))) 8 (.int .i64 i1)) 9 (.agg #[.bool true,.int .i64 0,.int .i64 0,.int .i64 0,.int .i64 0,.int .i64 0,.int .i64 i1,.int .i64 0,.int .i64 0,.int .i64 0,.int .i64 0,.int .i64 0])) 4 (pt_ b2)) 22 (pt_ x0)) 23 (pt_ x0)) 24 (.pointer (some ⟨x0,34,none⟩))) 25 (.int .i64 i16)) 26 (.bool (decide ((i16:Int)<0)))) 27 (.bool (decide ((i16:Int)<0)))) 28 (pt_ x0)) 29 (pt_ x0)) 30 (.pointer (some ⟨x0,34,none⟩))) 31 (.int .i64 i18)) 32 (pt_ x0)) 33 (pt_ x0)) 34 (pt_ x0)) 35 (.slice A19 n20 c21)) 36 (.int .i64 ((n20:Nat):Int))) 37 (.bool (decide ((i18:Int)≥((n20:Nat):Int))))) 38 (.bool (bif decide ((i16:Int)<0) then true else decide ((i18:Int)≥((n20:Nat):Int))))) 21 (.bool (bif decide ((i16:Int)<0) then true else decide ((i18:Int)≥((n20:Nat):Int))))) 39 (.pointer (some ⟨b2,11,none⟩))) m22 (retQ Tryz.prog Tryz.f40 R)) (
 ∃ (A23:Option Addr) (n24 c25:Nat),m15.cell ⟨x0,0,none⟩=some (.slice A23 n24 c25) ∧ 
 LI_ m15 x0 34 fun i26 => 
 ((0:Int)≤i26∧i26<((n24:Nat):Int))∧nilO A23 fun a27 =>
 LA_ m15 (a27.add ((i26:Int).toNat*5)) fun i28=>∃ i29:Int,m15.cell ((a27.add ((i26:Int).toNat*5)).add 1)=some (.int .i64 i29)∧∃ i30:Int,m15.cell ((a27.add ((i26:Int).toNat*5)).add 2)=some (.int .i64 i30)∧∃ i31:Int,m15.cell ((a27.add ((i26:Int).toNat*5)).add 3)=some (.int .i64 i31)∧∃ i32:Int,m15.cell ((a27.add ((i26:Int).toNat*5)).add 4)=some (.int .i64 i32) ∧ 
 CallsA Tryz.prog w0 17 #[.agg #[.int .i64 i28,.int .i64 i29,.int .i64 i30,.int .i64 i31,.int .i64 i32]] m15 fun r34 m35 =>
 ∃ t33:Bool,r34=.bool t33∧(bcase (!t33) (
 SI_ w0.heap.size m35 b2 11 8 fun m36 =>
 vcS Tryz.prog w0 qs40 (sub c40 [1,1]) (upd (upd (upd (upd (upd (upd (upd (upd (upd (upd (upd (upd (upd (upd (upd (upd (upd (upd (upd (upd (upd (upd (upd (upd (upd (upd (upd (upd (upd (upd (upd (upd (upd (upd (upd (upd (upd (upd (argS [pt_ x0,.int .i64 x1]) 5 (pt_ x0)) 6 (pt_ x0)) 7 (.pointer (some ⟨x0,34,none⟩))) 8 (.int .i64 i1)) 9 (.agg #[.bool true,.int .i64 0,.int .i64 0,.int .i64 0,.int .i64 0,.int .i64 0,.int .i64 i1,.int .i64 0,.int .i64 0,.int .i64 0,.int .i64 0,.int .i64 0])) 4 (pt_ b2)) 22 (pt_ x0)) 23 (pt_ x0)) 24 (.pointer (some ⟨x0,34,none⟩))) 25 (.int .i64 i16)) 26 (.bool (decide ((i16:Int)<0)))) 27 (.bool (decide ((i16:Int)<0)))) 28 (pt_ x0)) 29 (pt_ x0)) 30 (.pointer (some ⟨x0,34,none⟩))) 31 (.int .i64 i18)) 32 (pt_ x0)) 33 (pt_ x0)) 34 (pt_ x0)) 35 (.slice A19 n20 c21)) 36 (.int .i64 ((n20:Nat):Int))) 37 (.bool (decide ((i18:Int)≥((n20:Nat):Int))))) 38 (.bool (bif decide ((i16:Int)<0) then true else decide ((i18:Int)≥((n20:Nat):Int))))) 21 (.bool (bif decide ((i16:Int)<0) then true else decide ((i18:Int)≥((n20:Nat):Int))))) 41 (pt_ x0)) 42 (pt_ x0)) 43 (pt_ x0)) 44 (.slice A23 n24 c25)) 45 (pt_ x0)) 46 (pt_ x0)) 47 (.pointer (some ⟨x0,34,none⟩))) 48 (.int .i64 i26)) 49 (.pointer (some (a27.add ((i26:Int).toNat*5))))) 50 (.agg #[.int .i64 i28,.int .i64 i29,.int .i64 i30,.int .i64 i31,.int .i64 i32])) 51 (.bool t33)) 52 (.bool (!t33))) 40 (.bool (!t33))) 53 (.pointer (some ⟨b2,11,none⟩))) m36 (retQ Tryz.prog Tryz.f40 R)) (
 ∃ (A37:Option Addr) (n38 c39:Nat),m35.cell ⟨x0,0,none⟩=some (.slice A37 n38 c39) ∧ 
 LI_ m35 x0 34 fun i40 => 
 ((0:Int)≤i40∧i40<((n38:Nat):Int))∧nilO A37 fun a41 =>
 LA_ m35 (a41.add ((i40:Int).toNat*5)) fun i42=>∃ i43:Int,m35.cell ((a41.add ((i40:Int).toNat*5)).add 1)=some (.int .i64 i43)∧∃ i44:Int,m35.cell ((a41.add ((i40:Int).toNat*5)).add 2)=some (.int .i64 i44)∧∃ i45:Int,m35.cell ((a41.add ((i40:Int).toNat*5)).add 3)=some (.int .i64 i45)∧∃ i46:Int,m35.cell ((a41.add ((i40:Int).toNat*5)).add 4)=some (.int .i64 i46) ∧ 
 SI_ w0.heap.size m35 b2 1 i42 fun m47 =>
 SI_ w0.heap.size m47 b2 2 i43 fun m48 =>
 SI_ w0.heap.size m48 b2 3 i44 fun m49 =>
 SI_ w0.heap.size m49 b2 4 i45 fun m50 =>
 SI_ w0.heap.size m50 b2 5 i46 fun m51 =>
 vcS Tryz.prog w0 qs40 (sub c40 [1,1]) (upd (upd (upd (upd (upd (upd (upd (upd (upd (upd (upd (upd (upd (upd (upd (upd (upd (upd (upd (upd (upd (upd (upd (upd (upd (upd (upd (upd (upd (upd (upd (upd (upd (upd (upd (upd (upd (upd (upd (upd (upd (upd (upd (upd (upd (upd (upd (upd (argS [pt_ x0,.int .i64 x1]) 5 (pt_ x0)) 6 (pt_ x0)) 7 (.pointer (some ⟨x0,34,none⟩))) 8 (.int .i64 i1)) 9 (.agg #[.bool true,.int .i64 0,.int .i64 0,.int .i64 0,.int .i64 0,.int .i64 0,.int .i64 i1,.int .i64 0,.int .i64 0,.int .i64 0,.int .i64 0,.int .i64 0])) 4 (pt_ b2)) 22 (pt_ x0)) 23 (pt_ x0)) 24 (.pointer (some ⟨x0,34,none⟩))) 25 (.int .i64 i16)) 26 (.bool (decide ((i16:Int)<0)))) 27 (.bool (decide ((i16:Int)<0)))) 28 (pt_ x0)) 29 (pt_ x0)) 30 (.pointer (some ⟨x0,34,none⟩))) 31 (.int .i64 i18)) 32 (pt_ x0)) 33 (pt_ x0)) 34 (pt_ x0)) 35 (.slice A19 n20 c21)) 36 (.int .i64 ((n20:Nat):Int))) 37 (.bool (decide ((i18:Int)≥((n20:Nat):Int))))) 38 (.bool (bif decide ((i16:Int)<0) then true else decide ((i18:Int)≥((n20:Nat):Int))))) 21 (.bool (bif decide ((i16:Int)<0) then true else decide ((i18:Int)≥((n20:Nat):Int))))) 41 (pt_ x0)) 42 (pt_ x0)) 43 (pt_ x0)) 44 (.slice A23 n24 c25)) 45 (pt_ x0)) 46 (pt_ x0)) 47 (.pointer (some ⟨x0,34,none⟩))) 48 (.int .i64 i26)) 49 (.pointer (some (a27.add ((i26:Int).toNat*5))))) 50 (.agg #[.int .i64 i28,.int .i64 i29,.int .i64 i30,.int .i64 i31,.int .i64 i32])) 51 (.bool t33)) 52 (.bool (!t33))) 40 (.bool (!t33))) 10 (pt_ x0)) 11 (pt_ x0)) 12 (pt_ x0)) 13 (.slice A37 n38 c39)) 14 (pt_ x0)) 15 (pt_ x0)) 16 (.pointer (some ⟨x0,34,none⟩))) 17 (.int .i64 i40)) 18 (.pointer (some (a41.add ((i40:Int).toNat*5))))) 19 (.agg #[.int .i64 i42,.int .i64 i43,.int .i64 i44,.int .i64 i45,.int .i64 i46])) 20 (.pointer (some ⟨b2,1,none⟩))) m51 (retQ Tryz.prog Tryz.f40 R)))))))):CallsA Tryz.prog w0 40 #[pt_ x0,.int .i64 x1] m R :=
  callsA_of (c:=c40) (args:=[pt_ x0,.int .i64 x1]) (by kernel_rfl) Tryz.func40 (by kernel_rfl) qs40 (by kernel_rfl) (by kernel_rfl) (cast (by kernel_rfl) h)
theorem vk40_11 (w0:World) (m:AM) (σ:Sg) (R:Value→AM→Prop)  (x0:Nat) (x1:Int) (x4:Nat) (h0:σ 0=.pointer (some ⟨x0,0,none⟩)) (h1:σ 1=.int .i64 x1) (h4:σ 4=.pointer (some ⟨x4,0,none⟩)) (h :
 LB_ m x4 0 fun t52=>LI_ m x4 1 fun i53=>LI_ m x4 2 fun i54=>LI_ m x4 3 fun i55=>LI_ m x4 4 fun i56=>LI_ m x4 5 fun i57=>LI_ m x4 6 fun i58=>LI_ m x4 7 fun i59=>LI_ m x4 8 fun i60=>LI_ m x4 9 fun i61=>LI_ m x4 10 fun i62=>LI_ m x4 11 fun i63 => 
 StC w0.heap.size m ⟨x0,37,none⟩ (.bool t52) fun m64 =>
 SI_ w0.heap.size m64 x0 38 i53 fun m65 =>
 SI_ w0.heap.size m65 x0 39 i54 fun m66 =>
 SI_ w0.heap.size m66 x0 40 i55 fun m67 =>
 SI_ w0.heap.size m67 x0 41 i56 fun m68 =>
 SI_ w0.heap.size m68 x0 42 i57 fun m69 =>
 SI_ w0.heap.size m69 x0 43 i58 fun m70 =>
 SI_ w0.heap.size m70 x0 44 i59 fun m71 =>
 SI_ w0.heap.size m71 x0 45 i60 fun m72 =>
 SI_ w0.heap.size m72 x0 46 i61 fun m73 =>
 SI_ w0.heap.size m73 x0 47 i62 fun m74 =>
 SI_ w0.heap.size m74 x0 48 i63 fun m75 =>
 SI_ w0.heap.size m75 x0 34 x1 fun m76 =>
 RetP R (.tuple #[]) m76) :
 vcS Tryz.prog w0 qs40 (sub c40 [1,1]) σ m (retQ Tryz.prog Tryz.f40 R):=by
  have es0:(upd (upd (upd σ 0 (pt_ x0)) 1 (.int .i64 x1)) 4 (pt_ x4))=σ:=by rw [upd_id h0,upd_id h1,upd_id h4]
  exact cast (congrArg (fun s=>vcS Tryz.prog w0 qs40 (sub c40 [1,1]) s m (retQ Tryz.prog Tryz.f40 R)) es0) (cast (by kernel_rfl) h)

def qs22:Nat→List (Nat × Nat):=fun i=>match i with | _=>[]
noncomputable def c22:Code:=bodyOf Tryz.f22
theorem cf22 (w0:World) (m:AM) (x0:Nat) (R:Value→AM→Prop) (h :
 CallsA Tryz.prog w0 37 #[pt_ x0] m fun r1 m2 =>
 r1=.tuple #[]∧LB_ m2 x0 61 fun t3=>LI_ m2 x0 62 fun i4=>LI_ m2 x0 63 fun i5=>LI_ m2 x0 64 fun i6=>LI_ m2 x0 65 fun i7=>LI_ m2 x0 66 fun i8=>LI_ m2 x0 67 fun i9=>LI_ m2 x0 68 fun i10=>LI_ m2 x0 69 fun i11=>LI_ m2 x0 70 fun i12=>LI_ m2 x0 71 fun i13=>LI_ m2 x0 72 fun i14 => 
 ∀ b15:Nat,w0.heap.size≤b15→m2 b15=none→let m16:=AM.upd m2 b15 (.cells #[.bool false,.int .i64 0,.int .i64 0,.int .i64 0,.int .i64 0,.int .i64 0,.int .i64 0,.int .i64 0,.int .i64 0,.int .i64 0,.int .i64 0,.int .i64 0] 58);
 StC w0.heap.size m16 ⟨b15,0,none⟩ (.bool t3) fun m17 =>
 SI_ w0.heap.size m17 b15 1 i4 fun m18 =>
 SI_ w0.heap.size m18 b15 2 i5 fun m19 =>
 SI_ w0.heap.size m19 b15 3 i6 fun m20 =>
 SI_ w0.heap.size m20 b15 4 i7 fun m21 =>
 SI_ w0.heap.size m21 b15 5 i8 fun m22 =>
 SI_ w0.heap.size m22 b15 6 i9 fun m23 =>
 SI_ w0.heap.size m23 b15 7 i10 fun m24 =>
 SI_ w0.heap.size m24 b15 8 i11 fun m25 =>
 SI_ w0.heap.size m25 b15 9 i12 fun m26 =>
 SI_ w0.heap.size m26 b15 10 i13 fun m27 =>
 SI_ w0.heap.size m27 b15 11 i14 fun m28 =>
 CallsA Tryz.prog w0 38 #[pt_ x0] m28 fun r30 m31 =>
 ∃ i29:Int,r30=.int .i64 i29∧LB_ m31 b15 0 fun t32=>LI_ m31 b15 1 fun i33=>LI_ m31 b15 2 fun i34=>LI_ m31 b15 3 fun i35=>LI_ m31 b15 4 fun i36=>LI_ m31 b15 5 fun i37=>LI_ m31 b15 6 fun i38=>LI_ m31 b15 7 fun i39=>LI_ m31 b15 8 fun i40=>LI_ m31 b15 9 fun i41=>LI_ m31 b15 10 fun i42=>LI_ m31 b15 11 fun i43 => 
 CallsA Tryz.prog w0 39 #[pt_ x0,.agg #[.bool t32,.int .i64 i33,.int .i64 i34,.int .i64 i35,.int .i64 i36,.int .i64 i37,.int .i64 i38,.int .i64 i39,.int .i64 i40,.int .i64 i41,.int .i64 i42,.int .i64 i43]] m31 fun r44 m45 =>
 r44=.tuple #[]∧CallsA Tryz.prog w0 41 #[pt_ x0] m45 fun r47 m48 =>
 ∃ i46:Int,r47=.int .i64 i46∧CallsA Tryz.prog w0 40 #[pt_ x0,.int .i64 i46] m48 fun r49 m50 =>
 r49=.tuple #[]∧RetP R (.int .i64 i29) m50):CallsA Tryz.prog w0 22 #[pt_ x0] m R :=
  callsA_of (c:=c22) (args:=[pt_ x0]) (by kernel_rfl) Tryz.func22 (by kernel_rfl) qs22 (by kernel_rfl) (by kernel_rfl) (cast (by kernel_rfl) h)

def qs8:Nat→List (Nat × Nat):=fun i=>match i with | 1000009=>[(0,0)] | _=>[]
noncomputable def c8:Code:=bodyOf Tryz.f8
theorem cf8 (w0:World) (m:AM) (x0:Option Addr) (x0n x0c:Nat) (x1:Int) (x2:Option Addr) (x2n x2c:Nat) (x3:Int) (R:Value→AM→Prop) (h :
 ∀ b1:Nat,w0.heap.size≤b1→m b1=none→let m2:=AM.upd m b1 (.cells #[.int .i64 0,.int .i64 0,.slice none 0 0,.slice none 0 0] 30);
 CallsA Tryz.prog w0 18 #[.int .i64 x1] m2 fun r4 m5 =>
 ∃ p3:Option Addr,r4=.pointer p3∧KI_∧(bcase (decide ((((x0n:Nat):Int):Int)>4096)) (
 (decide ((((x0n:Nat):Int):Int)>4096))=true∧true=true∧SI_ w0.heap.size m5 b1 0 0 fun m6 =>
 SI_ w0.heap.size m6 b1 1 0 fun m7 =>
 StC w0.heap.size m7 ⟨b1,2,none⟩ (.slice none 0 0) fun m8 =>
 StC w0.heap.size m8 ⟨b1,3,none⟩ (.slice none 0 0) fun m9 =>
 LI_ m9 b1 0 fun i10=>LI_ m9 b1 1 fun i11=>∃ (A12:Option Addr) (n13 c14:Nat),m9.cell ⟨b1,2,none⟩=some (.slice A12 n13 c14)∧∃ (A15:Option Addr) (n16 c17:Nat),m9.cell ⟨b1,3,none⟩=some (.slice A15 n16 c17)∧RetP R (.agg #[.int .i64 i10,.int .i64 i11,.slice A12 n13 c14,.slice A15 n16 c17]) m9) (
 (bcase (bif decide ((((x0n:Nat):Int):Int)>4096) then true else Option.isNone p3) (
 true=true∧SI_ w0.heap.size m5 b1 0 0 fun m18 =>
 SI_ w0.heap.size m18 b1 1 0 fun m19 =>
 StC w0.heap.size m19 ⟨b1,2,none⟩ (.slice none 0 0) fun m20 =>
 StC w0.heap.size m20 ⟨b1,3,none⟩ (.slice none 0 0) fun m21 =>
 LI_ m21 b1 0 fun i22=>LI_ m21 b1 1 fun i23=>∃ (A24:Option Addr) (n25 c26:Nat),m21.cell ⟨b1,2,none⟩=some (.slice A24 n25 c26)∧∃ (A27:Option Addr) (n28 c29:Nat),m21.cell ⟨b1,3,none⟩=some (.slice A27 n28 c29)∧RetP R (.agg #[.int .i64 i22,.int .i64 i23,.slice A24 n25 c26,.slice A27 n28 c29]) m21) (
 CallsA Tryz.prog w0 19 #[.slice x2 x2n x2c] m5 fun r33 m34 =>
 ∃ (A30:Option Addr) (n31 c32:Nat),r33=.slice A30 n31 c32∧true=true∧∀ b35:Nat,w0.heap.size≤b35→m34 b35=none→let m36:=AM.upd m34 b35 (.cells #[.slice x0 x0n x0c,.pointer p3,.int .i64 0,.int .i64 0,.int .i64 0,.int .i64 0,.int .i64 0,.int .i64 0,.int .i64 0,.int .i64 0,.int .i64 0,.int .i64 0,.int .i64 0,.int .i64 0,.int .i64 0,.int .i64 0,.int .i64 0,.int .i64 0,.int .i64 0,.int .i64 0,.int .i64 0,.int .i64 0,.int .i64 0,.int .i64 0,.int .i64 0,.int .i64 0,.int .i64 0,.int .i64 0,.int .i64 0,.int .i64 0,.int .i64 0,.int .i64 0,.int .i64 0,.int .i64 0,.int .i64 0,.slice A30 n31 c32,.slice none 0 0,.bool false,.int .i64 0,.int .i64 0,.int .i64 0,.int .i64 0,.int .i64 0,.int .i64 0,.int .i64 0,.int .i64 0,.int .i64 0,.int .i64 0,.int .i64 0,.bool false,.int .i64 0,.int .i64 0,.int .i64 0,.int .i64 0,.int .i64 0,.int .i64 0,.int .i64 0,.int .i64 0,.int .i64 0,.int .i64 0,.int .i64 0,.bool false,.int .i64 0,.int .i64 0,.int .i64 0,.int .i64 0,.int .i64 0,.int .i64 0,.int .i64 0,.int .i64 0,.int .i64 0,.int .i64 0,.int .i64 0,.bool false,.int .i64 0,.int .i64 0,.int .i64 0,.int .i64 0,.int .i64 0,.int .i64 0,.int .i64 0,.int .i64 0,.int .i64 0,.int .i64 0,.int .i64 0] 60);
 ∀ b37:Nat,w0.heap.size≤b37→m36 b37=none→let m38:=AM.upd m36 b37 (.cells #[.int .i64 0,.int .i64 0,.slice none 0 0,.slice none 0 0] 30);
 vcS Tryz.prog w0 qs8 (sub c8 [1,1,1,1,1,0,0]) (upd (upd (upd (upd (upd (upd (upd (upd (upd (upd (upd (upd (upd (upd (upd (upd (upd (upd (upd (argS [.slice x0 x0n x0c,.int .i64 x1,.slice x2 x2n x2c,.int .i64 x3]) 8 (pt_ b1)) 12 (.int .i64 x1)) 13 (.pointer p3)) 9 (.pointer p3)) 14 (.slice x0 x0n x0c)) 15 (.int .i64 ((x0n:Nat):Int))) 16 (.bool (decide ((((x0n:Nat):Int):Int)>4096)))) 17 (.bool (decide ((((x0n:Nat):Int):Int)>4096)))) 18 (.pointer p3)) 19 (.bool (Option.isNone p3))) 20 (.bool (bif decide ((((x0n:Nat):Int):Int)>4096) then true else Option.isNone p3))) 22 (.slice x0 x0n x0c)) 23 (.pointer p3)) 24 (.slice x2 x2n x2c)) 25 (.slice A30 n31 c32)) 26 (.agg #[.slice x0 x0n x0c,.pointer p3,.int .i64 0,.int .i64 0,.int .i64 0,.int .i64 0,.int .i64 0,.int .i64 0,.int .i64 0,.int .i64 0,.int .i64 0,.int .i64 0,.int .i64 0,.int .i64 0,.int .i64 0,.int .i64 0,.int .i64 0,.int .i64 0,.int .i64 0,.int .i64 0,.int .i64 0,.int .i64 0,.int .i64 0,.int .i64 0,.int .i64 0,.int .i64 0,.int .i64 0,.int .i64 0,.int .i64 0,.int .i64 0,.int .i64 0,.int .i64 0,.int .i64 0,.int .i64 0,.int .i64 0,.slice A30 n31 c32,.slice none 0 0,.bool false,.int .i64 0,.int .i64 0,.int .i64 0,.int .i64 0,.int .i64 0,.int .i64 0,.int .i64 0,.int .i64 0,.int .i64 0,.int .i64 0,.int .i64 0,.bool false,.int .i64 0,.int .i64 0,.int .i64 0,.int .i64 0,.int .i64 0,.int .i64 0,.int .i64 0,.int .i64 0,.int .i64 0,.int .i64 0,.int .i64 0,.bool false,.int .i64 0,.int .i64 0,.int .i64 0,.int .i64 0,.int .i64 0,.int .i64 0,.int .i64 0,.int .i64 0,.int .i64 0,.int .i64 0,.int .i64 0,.bool false,.int .i64 0,.int .i64 0,.int .i64 0,.int .i64 0,.int .i64 0,.int .i64 0,.int .i64 0,.int .i64 0,.int .i64 0,.int .i64 0,.int .i64 0])) 27 (pt_ b35)) 10 (pt_ b35)) 11 (pt_ b37)) m38 (blockS 0 (thenS (fun σ m=>vcS Tryz.prog w0 qs8 (sub c8 [1,1,1,1,1,1]) σ m (retQ Tryz.prog Tryz.f8 R)) (retQ Tryz.prog Tryz.f8 R)))))))):CallsA Tryz.prog w0 8 #[.slice x0 x0n x0c,.int .i64 x1,.slice x2 x2n x2c,.int .i64 x3] m R :=
  callsA_of (c:=c8) (args:=[.slice x0 x0n x0c,.int .i64 x1,.slice x2 x2n x2c,.int .i64 x3]) (by kernel_rfl) Tryz.func8 (by kernel_rfl) qs8 (by kernel_rfl) (by kernel_rfl) (cast (by kernel_rfl) h)
def lq8_1111100 (R:Value→AM→Prop) (x3:Int) (x8:Nat) (x9:Option Addr) (x10:Nat) (x11:Nat) (I0:Nat→AM→Prop) (E0_0:AM→Prop) (n0:Nat):Exit→Sg→AM→Prop
 | .normal,σ,m=>σ 3=.int .i64 x3∧σ 8=.pointer (some ⟨x8,0,none⟩)∧σ 9=.pointer x9∧σ 10=.pointer (some ⟨x10,0,none⟩)∧σ 11=.pointer (some ⟨x11,0,none⟩)∧∃ n':Nat,n'<n0∧I0 n'  m
 | .exit id,σ,m=>if id=0 then σ 3=.int .i64 x3∧σ 8=.pointer (some ⟨x8,0,none⟩)∧σ 9=.pointer x9∧σ 10=.pointer (some ⟨x10,0,none⟩)∧σ 11=.pointer (some ⟨x11,0,none⟩)∧E0_0  m else False
 | .ret,σ,m=>retQ Tryz.prog Tryz.f8 R .ret σ m
 | _,_,_=>False
theorem vl8_1111100 (w0:World) (m:AM) (σ:Sg) (R:Value→AM→Prop)  (x3:Int) (x8:Nat) (x9:Option Addr) (x10:Nat) (x11:Nat)  (I0:Nat→AM→Prop) (E0_0:AM→Prop) (N:Nat) (h3:σ 3=.int .i64 x3) (h8:σ 8=.pointer (some ⟨x8,0,none⟩)) (h9:σ 9=.pointer x9) (h10:σ 10=.pointer (some ⟨x10,0,none⟩)) (h11:σ 11=.pointer (some ⟨x11,0,none⟩))
 (h_0:I0 N  m)
 (h_s:∀ (n0:Nat) (σ:Sg)  (m:AM),I0 n0  m→(
 LI_ m x11 0 fun i39 => 
 KI_∧(bcase ((i39:Int) == 0) (
 LI_ m x11 1 fun i40 => 
 KI_∧(bcase (bif (i39:Int) == 0 then decide ((i40:Int)<x3) else false) (
 CallsA Tryz.prog w0 22 #[pt_ x10] m fun r42 m43 =>
 ∃ i41:Int,r42=.int .i64 i41∧SI_ w0.heap.size m43 x11 0 i41 fun m44 =>
 LI_ m44 x11 1 fun i45 => 
 KI_∧SI_ w0.heap.size m44 x11 1 (IntKind.wrap .i64 (i45+1)) fun m46 =>
 (.int .i64 x3:Value)=.int .i64 x3∧(.pointer (some ⟨x8,0,none⟩):Value)=.pointer (some ⟨x8,0,none⟩)∧(.pointer x9:Value)=.pointer x9∧(.pointer (some ⟨x10,0,none⟩):Value)=.pointer (some ⟨x10,0,none⟩)∧(.pointer (some ⟨x11,0,none⟩):Value)=.pointer (some ⟨x11,0,none⟩)∧∃ n':Nat,n'<n0∧I0 n'  m46) (
 (.int .i64 x3:Value)=.int .i64 x3∧(.pointer (some ⟨x8,0,none⟩):Value)=.pointer (some ⟨x8,0,none⟩)∧(.pointer x9:Value)=.pointer x9∧(.pointer (some ⟨x10,0,none⟩):Value)=.pointer (some ⟨x10,0,none⟩)∧(.pointer (some ⟨x11,0,none⟩):Value)=.pointer (some ⟨x11,0,none⟩)∧E0_0  m))) (
 ((i39:Int) == 0)=false∧(.int .i64 x3:Value)=.int .i64 x3∧(.pointer (some ⟨x8,0,none⟩):Value)=.pointer (some ⟨x8,0,none⟩)∧(.pointer x9:Value)=.pointer x9∧(.pointer (some ⟨x10,0,none⟩):Value)=.pointer (some ⟨x10,0,none⟩)∧(.pointer (some ⟨x11,0,none⟩):Value)=.pointer (some ⟨x11,0,none⟩)∧E0_0  m))))
 (h_e0:∀ (σ:Sg)  (m:AM),E0_0  m→(
 vcS Tryz.prog w0 qs8 (sub c8 [1,1,1,1,1,1,0]) (upd (upd (upd (upd (upd σ 3 (.int .i64 x3)) 8 (pt_ x8)) 9 (.pointer x9)) 10 (pt_ x10)) 11 (pt_ x11)) m (thenS (fun σ m=>vcS Tryz.prog w0 qs8 (sub c8 [1,1,1,1,1,1,1]) σ m (retQ Tryz.prog Tryz.f8 R)) (retQ Tryz.prog Tryz.f8 R)))) :
 vcS Tryz.prog w0 qs8 (sub c8 [1,1,1,1,1,0,0]) σ m (blockS 0 (thenS (fun σ m=>vcS Tryz.prog w0 qs8 (sub c8 [1,1,1,1,1,1]) σ m (retQ Tryz.prog Tryz.f8 R)) (retQ Tryz.prog Tryz.f8 R))):=by
  rw [show sub c8 [1,1,1,1,1,0,0]=.loop (sub c8 [1,1,1,1,1,0,0,0]) from by kernel_rfl]
  refine loopQ (fun n0 σ m=>σ 3=.int .i64 x3∧σ 8=.pointer (some ⟨x8,0,none⟩)∧σ 9=.pointer x9∧σ 10=.pointer (some ⟨x10,0,none⟩)∧σ 11=.pointer (some ⟨x11,0,none⟩)∧I0 n0  m) N (fun n0=>(lq8_1111100 R x3 x8 x9 x10 x11 I0 E0_0 n0)) ⟨h3,h8,h9,h10,h11,(by exact h_0)⟩ ?_ ?_ ?_
  · rintro n0 σ m ⟨kk0,kk1,kk2,kk3,kk4,n',hlt,hI⟩; exact ⟨n',hlt,kk0,kk1,kk2,kk3,kk4,hI⟩
  · intro n0 e σ m hne h
    cases e with
    | normal=>exact absurd rfl hne
    | ret=>exact h
    | exit id =>
      by_cases e0:id=0
      · subst e0
        obtain ⟨kk0,kk1,kk2,kk3,kk4,hE⟩:=h
        have es:(upd (upd (upd (upd (upd σ 3 (.int .i64 x3)) 8 (pt_ x8)) 9 (.pointer x9)) 10 (pt_ x10)) 11 (pt_ x11))=σ:=by rw [upd_id kk0,upd_id kk1,upd_id kk2,upd_id kk3,upd_id kk4]
        exact cast (congrArg (fun s=>(blockS 0 (thenS (fun σ m=>vcS Tryz.prog w0 qs8 (sub c8 [1,1,1,1,1,1]) σ m (retQ Tryz.prog Tryz.f8 R)) (retQ Tryz.prog Tryz.f8 R))) (.exit 0) s m) es) (cast (by kernel_rfl) (h_e0 σ  m hE))
      · replace h:=(if_neg e0:(if id=0 then _ else _)=_).mp h
        exact False.elim h
    | _=>exact False.elim h
  · rintro n0 σ m ⟨kk0,kk1,kk2,kk3,kk4,hI⟩
    have es:(upd (upd (upd (upd (upd σ 3 (.int .i64 x3)) 8 (pt_ x8)) 9 (.pointer x9)) 10 (pt_ x10)) 11 (pt_ x11))=σ:=by rw [upd_id kk0,upd_id kk1,upd_id kk2,upd_id kk3,upd_id kk4]
    exact cast (congrArg (fun s=>vcS Tryz.prog w0 qs8 (sub c8 [1,1,1,1,1,0,0,0]) s m (lq8_1111100 R x3 x8 x9 x10 x11 I0 E0_0 n0)) es) (cast (by kernel_rfl) (h_s n0 σ  m hI))
theorem vr8_1111110 (w0:World) (m:AM) (σ:Sg) (R:Value→AM→Prop)  (x8:Nat) (x9:Option Addr) (x10:Nat) (x11:Nat) (K:AM→Prop) (h8:σ 8=.pointer (some ⟨x8,0,none⟩)) (h9:σ 9=.pointer x9) (h10:σ 10=.pointer (some ⟨x10,0,none⟩)) (h11:σ 11=.pointer (some ⟨x11,0,none⟩))
 (h_t : 
 (∃ (A47:Option Addr) (n48 c49:Nat),m.cell ⟨x10,36,none⟩=some (.slice A47 n48 c49) ∧ 
 CallsA Tryz.prog w0 21 #[.pointer x9] m fun r53 m54 =>
 ∃ (A50:Option Addr) (n51 c52:Nat),r53=.slice A50 n51 c52∧StC w0.heap.size m54 ⟨x11,2,none⟩ (.slice A47 n48 c49) fun m55 =>
 StC w0.heap.size m55 ⟨x11,3,none⟩ (.slice A50 n51 c52) fun m56 =>
 true=true∧(.pointer (some ⟨x8,0,none⟩):Value)=.pointer (some ⟨x8,0,none⟩)∧(.pointer (some ⟨x11,0,none⟩):Value)=.pointer (some ⟨x11,0,none⟩)∧K  m56) ∧
 (CallsA Tryz.prog w0 21 #[.pointer x9] m fun r60 m61 =>
 ∃ (A57:Option Addr) (n58 c59:Nat),r60=.slice A57 n58 c59∧∃ (A62:Option Addr) (n63 c64:Nat),m61.cell ⟨x10,36,none⟩=some (.slice A62 n63 c64) ∧ 
 StC w0.heap.size m61 ⟨x11,2,none⟩ (.slice A62 n63 c64) fun m65 =>
 StC w0.heap.size m65 ⟨x11,3,none⟩ (.slice A57 n58 c59) fun m66 =>
 true=true∧(.pointer (some ⟨x8,0,none⟩):Value)=.pointer (some ⟨x8,0,none⟩)∧(.pointer (some ⟨x11,0,none⟩):Value)=.pointer (some ⟨x11,0,none⟩)∧K  m66))
 (h_k:∀ (σ:Sg)  (m:AM),K  m→(
 LI_ m x11 0 fun i67=>LI_ m x11 1 fun i68=>∃ (A69:Option Addr) (n70 c71:Nat),m.cell ⟨x11,2,none⟩=some (.slice A69 n70 c71)∧∃ (A72:Option Addr) (n73 c74:Nat),m.cell ⟨x11,3,none⟩=some (.slice A72 n73 c74) ∧ 
 SI_ w0.heap.size m x8 0 i67 fun m75 =>
 SI_ w0.heap.size m75 x8 1 i68 fun m76 =>
 StC w0.heap.size m76 ⟨x8,2,none⟩ (.slice A69 n70 c71) fun m77 =>
 StC w0.heap.size m77 ⟨x8,3,none⟩ (.slice A72 n73 c74) fun m78 =>
 LI_ m78 x8 0 fun i79=>LI_ m78 x8 1 fun i80=>∃ (A81:Option Addr) (n82 c83:Nat),m78.cell ⟨x8,2,none⟩=some (.slice A81 n82 c83)∧∃ (A84:Option Addr) (n85 c86:Nat),m78.cell ⟨x8,3,none⟩=some (.slice A84 n85 c86)∧RetP R (.agg #[.int .i64 i79,.int .i64 i80,.slice A81 n82 c83,.slice A84 n85 c86]) m78)) :
 vcS Tryz.prog w0 qs8 (sub c8 [1,1,1,1,1,1,0]) σ m (thenS (fun σ m=>vcS Tryz.prog w0 qs8 (sub c8 [1,1,1,1,1,1,1]) σ m (retQ Tryz.prog Tryz.f8 R)) (retQ Tryz.prog Tryz.f8 R)):=by
  have es0:(upd (upd (upd (upd σ 8 (pt_ x8)) 9 (.pointer x9)) 10 (pt_ x10)) 11 (pt_ x11))=σ:=by rw [upd_id h8,upd_id h9,upd_id h10,upd_id h11]
  refine vcS_cut (Q0:=(fun σ m=>σ 8=.pointer (some ⟨x8,0,none⟩)∧σ 11=.pointer (some ⟨x11,0,none⟩)∧K  m)) (by kernel_rfl) (cast (congrArg (fun s=>trC Tryz.prog w0 qs8 (sub c8 [1,1,1,1,1,1,0]) s m (fun σ m=>σ 8=.pointer (some ⟨x8,0,none⟩)∧σ 11=.pointer (some ⟨x11,0,none⟩)∧K  m)) es0) (cast (by kernel_rfl) h_t)) ?_
  rintro σ m ⟨kk0,kk1,hK⟩
  have es:(upd (upd σ 8 (pt_ x8)) 11 (pt_ x11))=σ:=by rw [upd_id kk0,upd_id kk1]
  exact cast (congrArg (fun s=>(thenS (fun σ m=>vcS Tryz.prog w0 qs8 (sub c8 [1,1,1,1,1,1,1]) σ m (retQ Tryz.prog Tryz.f8 R)) (retQ Tryz.prog Tryz.f8 R)) .normal s m) es) (cast (by kernel_rfl) (h_k σ  m hK))
end Go.Proofs.YtkfemiloehkmhaaGreat.V

