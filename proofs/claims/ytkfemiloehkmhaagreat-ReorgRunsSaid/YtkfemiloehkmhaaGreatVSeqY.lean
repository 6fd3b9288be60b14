/- YtkfemiloehkmhaaGreat: a text of our own, by an AI agent: VSeqY -/
import Derived.Test.YtkfemiloehkmhaaGreatCoreA
import Derived.Test.YtkfemiloehkmhaaGreatTabY
namespace Go.Proofs.YtkfemiloehkmhaaGreat.V
open Go Go.Alog Go.Proofs.YtkfemiloehkmhaaGreat.T
set_option linter.unusedVariables false
set_option maxRecDepth 100000

def qs34:Nat→List (Nat × Nat):=fun i=>match i with | _=>[]
noncomputable def c34:Code:=bodyOf Tryz.f34
theorem cf34 (w0:World) (m:AM) (x0:Nat) (x1:Int) (x2:Int) (R:Value→AM→Prop) (h :
 KI_∧(bcase ((x1:Int) != 0) (
 CallsA Tryz.prog w0 54 #[.int .i64 x2] m fun r2 m3 =>
 ∃ i1:Int,r2=.int .i64 i1∧((0:Int)≤x1∧x1<((32:Nat):Int)) ∧
 StC w0.heap.size m3 ((⟨x0,2,none⟩:Addr).add ((x1:Int).toNat*1)) (.int .i64 i1) fun m4 =>
 RetP R (.tuple #[]) m4) (
 RetP R (.tuple #[]) m))):CallsA Tryz.prog w0 34 #[pt_ x0,.int .i64 x1,.int .i64 x2] m R :=
  callsA_of (c:=c34) (args:=[pt_ x0,.int .i64 x1,.int .i64 x2]) (by kernel_rfl) Tryz.func34 (by kernel_rfl) qs34 (by kernel_rfl) (by kernel_rfl) (cast (by kernel_rfl) h)

def qs75:Nat→List (Nat × Nat):=fun i=>match i with | _=>[]
noncomputable def c75:Code:=bodyOf Tryz.f75
theorem cf75 (w0:World) (m:AM) (x0:Bool) (R:Value→AM→Prop) (h :
 (bcase x0 (
 RetP R (.int .i64 1) m) (
 RetP R (.int .i64 0) m))):CallsA Tryz.prog w0 75 #[.bool x0] m R :=
  callsA_of (c:=c75) (args:=[.bool x0]) (by kernel_rfl) Tryz.func75 (by kernel_rfl) qs75 (by kernel_rfl) (by kernel_rfl) (cast (by kernel_rfl) h)

def qs55:Nat→List (Nat × Nat):=fun i=>match i with | _=>[]
noncomputable def c55:Code:=bodyOf Tryz.f55
theorem cf55 (w0:World) (m:AM) (x0_0:Int) (x0_1:Int) (x0_2:Int) (x0_3:Int) (x0_4:Int) (x1:Int) (x2:Int) (R:Value→AM→Prop) (h :
 ∀ b1:Nat,w0.heap.size≤b1→m b1=none→let m2:=AM.upd m b1 (.cells #[.int .i64 x0_0,.int .i64 x0_1,.int .i64 x0_2,.int .i64 x0_3,.int .i64 x0_4] 36);
 LI_ m2 b1 0 fun i3 => 
 KI_∧(bcase ((i3:Int) == 1) (
 KI_∧RetP R (.tuple #[.int .i64 (IntKind.wrap .i64 (x1+x2)),.bool true]) m2) (
 KI_∧(bcase ((i3:Int) == 2) (
 KI_∧RetP R (.tuple #[.int .i64 (IntKind.wrap .i64 (x1-x2)),.bool true]) m2) (
 KI_∧(bcase ((i3:Int) == 3) (
 KI_∧RetP R (.tuple #[.int .i64 (IntKind.wrap .i64 (x1*x2)),.bool true]) m2) (
 KI_∧(bcase ((i3:Int) == 6) (
 KI_∧RetP R (.tuple #[.int .i64 (IntKind.wrap .i64 ((BitVec.ofInt (IntKind.bits .i64) x1 &&& BitVec.ofInt (IntKind.bits .i64) x2).toNat:Int)),.bool true]) m2) (
 KI_∧(bcase ((i3:Int) == 7) (
 KI_∧RetP R (.tuple #[.int .i64 (IntKind.wrap .i64 ((BitVec.ofInt (IntKind.bits .i64) x1 ||| BitVec.ofInt (IntKind.bits .i64) x2).toNat:Int)),.bool true]) m2) (
 KI_∧(bcase ((i3:Int) == 8) (
 KI_∧CallsA Tryz.prog w0 75 #[.bool (decide ((x1:Int)<x2))] m2 fun r5 m6 =>
 ∃ i4:Int,r5=.int .i64 i4∧RetP R (.tuple #[.int .i64 i4,.bool true]) m6) (
 KI_∧(bcase ((i3:Int) == 9) (
 KI_∧CallsA Tryz.prog w0 75 #[.bool ((x1:Int) == x2)] m2 fun r8 m9 =>
 ∃ i7:Int,r8=.int .i64 i7∧RetP R (.tuple #[.int .i64 i7,.bool true]) m9) (
 KI_∧(bcase ((i3:Int) == 10) (
 LI_ m2 b1 4 fun i10 => 
 KI_∧RetP R (.tuple #[.int .i64 (IntKind.wrap .i64 (x1+i10)),.bool true]) m2) (
 KI_∧(bcase ((i3:Int) == 11) (
 LI_ m2 b1 4 fun i11 => 
 (0:Int)≤16∧RetP R (.tuple #[.int .i64 (IntKind.wrap .i64 (i11*2 ^ (min (16:Int).toNat (IntKind.bits .i64)))),.bool true]) m2) (
 RetP R (.tuple #[.int .i64 0,.bool false]) m2))))))))))))))))))):CallsA Tryz.prog w0 55 #[.agg #[.int .i64 x0_0,.int .i64 x0_1,.int .i64 x0_2,.int .i64 x0_3,.int .i64 x0_4],.int .i64 x1,.int .i64 x2] m R :=
  callsA_of (c:=c55) (args:=[.agg #[.int .i64 x0_0,.int .i64 x0_1,.int .i64 x0_2,.int .i64 x0_3,.int .i64 x0_4],.int .i64 x1,.int .i64 x2]) (by kernel_rfl) Tryz.func55 (by kernel_rfl) qs55 (by kernel_rfl) (by kernel_rfl) (cast (by kernel_rfl) h)

def qs33:Nat→List (Nat × Nat):=fun i=>match i with | _=>[]
noncomputable def c33:Code:=bodyOf Tryz.f33
theorem cf33 (w0:World) (m:AM) (x0_0:Int) (x0_1:Int) (x0_2:Int) (x0_3:Int) (x0_4:Int) (x1:Int) (x2:Int) (R:Value→AM→Prop) (h :
 ∀ b1:Nat,w0.heap.size≤b1→m b1=none→let m2:=AM.upd m b1 (.cells #[.int .i64 x0_0,.int .i64 x0_1,.int .i64 x0_2,.int .i64 x0_3,.int .i64 x0_4] 36);
 CallsA Tryz.prog w0 54 #[.int .i64 x1] m2 fun r4 m5 =>
 ∃ i3:Int,r4=.int .i64 i3∧CallsA Tryz.prog w0 54 #[.int .i64 x2] m5 fun r7 m8 =>
 ∃ i6:Int,r7=.int .i64 i6∧LI_ m8 b1 0 fun i9=>LI_ m8 b1 1 fun i10=>LI_ m8 b1 2 fun i11=>LI_ m8 b1 3 fun i12=>LI_ m8 b1 4 fun i13 => 
 CallsA Tryz.prog w0 55 #[.agg #[.int .i64 i9,.int .i64 i10,.int .i64 i11,.int .i64 i12,.int .i64 i13],.int .i64 i3,.int .i64 i6] m8 fun r16 m17 =>
 ∃ i14:Int,∃ t15:Bool,r16=.tuple #[.int .i64 i14,.bool t15]∧LI_ m17 b1 0 fun i20=>LI_ m17 b1 1 fun i21=>LI_ m17 b1 2 fun i22=>LI_ m17 b1 3 fun i23=>LI_ m17 b1 4 fun i24 => 
 CallsA Tryz.prog w0 17 #[.agg #[.int .i64 i20,.int .i64 i21,.int .i64 i22,.int .i64 i23,.int .i64 i24]] m17 fun r26 m27 =>
 ∃ t25:Bool,r26=.bool t25∧(bcase (!t25) (
 RetP R (.tuple #[.int .i64 0,.int .i64 0,.bool false]) m27) (
 (bcase t15 (
 CallsA Tryz.prog w0 54 #[.int .i64 i14] m27 fun r29 m30 =>
 ∃ i28:Int,r29=.int .i64 i28∧RetP R (.tuple #[.int .i64 i28,.int .i64 0,.bool true]) m30) (
 LI_ m27 b1 0 fun i31 => 
 KI_∧(bcase ((i31:Int) != 4) (
 LI_ m27 b1 0 fun i32 => 
 KI_∧(bcase (bif (i31:Int) != 4 then (i32:Int) != 5 else false) (
 RetP R (.tuple #[.int .i64 0,.int .i64 0,.bool false]) m27) (
 CallsA Tryz.prog w0 56 #[.int .i64 i3,.int .i64 i6] m27 fun r36 m37 =>
 ∃ i33:Int,∃ i34:Int,∃ t35:Bool,r36=.tuple #[.int .i64 i33,.int .i64 i34,.bool t35]∧(bcase (!t35) (
 RetP R (.tuple #[.int .i64 0,.int .i64 4,.bool true]) m37) (
 LI_ m37 b1 0 fun i41 => 
 KI_∧(bcase ((i41:Int) == 5) (
 RetP R (.tuple #[.int .i64 i34,.int .i64 0,.bool true]) m37) (
 RetP R (.tuple #[.int .i64 i33,.int .i64 0,.bool true]) m37))))))) (
 ((i31:Int) != 4)=false∧CallsA Tryz.prog w0 56 #[.int .i64 i3,.int .i64 i6] m27 fun r45 m46 =>
 ∃ i42:Int,∃ i43:Int,∃ t44:Bool,r45=.tuple #[.int .i64 i42,.int .i64 i43,.bool t44]∧(bcase (!t44) (
 RetP R (.tuple #[.int .i64 0,.int .i64 4,.bool true]) m46) (
 LI_ m46 b1 0 fun i50 => 
 KI_∧(bcase ((i50:Int) == 5) (
 RetP R (.tuple #[.int .i64 i43,.int .i64 0,.bool true]) m46) (
 RetP R (.tuple #[.int .i64 i42,.int .i64 0,.bool true]) m46))))))))))):CallsA Tryz.prog w0 33 #[.agg #[.int .i64 x0_0,.int .i64 x0_1,.int .i64 x0_2,.int .i64 x0_3,.int .i64 x0_4],.int .i64 x1,.int .i64 x2] m R :=
  callsA_of (c:=c33) (args:=[.agg #[.int .i64 x0_0,.int .i64 x0_1,.int .i64 x0_2,.int .i64 x0_3,.int .i64 x0_4],.int .i64 x1,.int .i64 x2]) (by kernel_rfl) Tryz.func33 (by kernel_rfl) qs33 (by kernel_rfl) (by kernel_rfl) (cast (by kernel_rfl) h)

def qs53:Nat→List (Nat × Nat):=fun i=>match i with | _=>[]
noncomputable def c53:Code:=bodyOf Tryz.f53
theorem cf53 (w0:World) (m:AM) (x0:Nat) (x1:Int) (R:Value→AM→Prop) (h :
 KI_∧(bcase ((x1:Int) == 0) (
 RetP R (.int .i64 1) m) (
 KI_∧(bcase ((x1:Int) == 1) (
 ∃ (A1:Option Addr) (n2 c3:Nat),m.cell ⟨x0,35,none⟩=some (.slice A1 n2 c3) ∧ 
 KI_∧(bcase ((((n2:Nat):Int):Int) == 0) (
 RetP R (.int .i64 6) m) (
 ∃ (A4:Option Addr) (n5 c6:Nat),m.cell ⟨x0,35,none⟩=some (.slice A4 n5 c6) ∧ 
 ((0:Int)≤0∧0<((n5:Nat):Int))∧nilO A4 fun a7 =>
 LA_ m (a7.add (0)) fun i8 => 
 CallsA Tryz.prog w0 34 #[pt_ x0,.int .i64 4,.int .i64 i8] m fun r9 m10 =>
 r9=.tuple #[]∧∃ (A11:Option Addr) (n12 c13:Nat),m10.cell ⟨x0,35,none⟩=some (.slice A11 n12 c13) ∧ 
 (0:Int)≤1∧n12≤c13∧((1:Int).toNat)≤n12 ∧
 StC w0.heap.size m10 ⟨x0,35,none⟩ (.slice (if c13=((1:Int).toNat) then A11 else Option.map (fun x=>Addr.add x ((1:Int).toNat*1)) A11) (n12-((1:Int).toNat)) (c13-((1:Int).toNat))) fun m14 =>
 RetP R (.int .i64 0) m14))) (
 KI_∧(bcase ((x1:Int) == 2) (
 ∃ (A15:Option Addr) (n16 c17:Nat),m.cell ⟨x0,36,none⟩=some (.slice A15 n16 c17) ∧ 
 KI_∧(bcase (decide ((((n16:Nat):Int):Int)≥10000)) (
 RetP R (.int .i64 9) m) (
 ∃ (A18:Option Addr) (n19 c20:Nat),m.cell ⟨x0,36,none⟩=some (.slice A18 n19 c20) ∧ 
 ((0:Int)≤4∧4<((32:Nat):Int)) ∧
 LA_ m ((⟨x0,2,none⟩:Addr).add (4)) fun i21 => 
 true=true∧∀ b22:Nat,w0.heap.size≤b22→m b22=none→let m23:=AM.upd m b22 (.cells #[.int .i64 i21] 3);
 awp Tryz.prog w0.heap.size (Builtin.append_ #[23,23] 23 #[.slice A18 n19 c20,.slice (some ⟨b22,0,none⟩) 1 1]) m23 fun v24 m25 =>
 ∃ (A26:Option Addr) (n27 c28:Nat),v24=.slice A26 n27 c28∧StC w0.heap.size m25 ⟨x0,36,none⟩ (.slice A26 n27 c28) fun m29 =>
 RetP R (.int .i64 0) m29))) (
 RetP R (.int .i64 0) m))))))):CallsA Tryz.prog w0 53 #[pt_ x0,.int .i64 x1] m R :=
  callsA_of (c:=c53) (args:=[pt_ x0,.int .i64 x1]) (by kernel_rfl) Tryz.func53 (by kernel_rfl) qs53 (by kernel_rfl) (by kernel_rfl) (cast (by kernel_rfl) h)

def qs32:Nat→List (Nat × Nat):=fun i=>match i with | 1000004=>[(0,0)] | 1000009=>[(0,0)] | _=>[]
noncomputable def c32:Code:=bodyOf Tryz.f32
theorem cf32 (w0:World) (m:AM) (x0:Nat) (x1_0:Int) (x1_1:Int) (x1_2:Int) (x1_3:Int) (x1_4:Int) (R:Value→AM→Prop) (h :
 ∀ b1:Nat,w0.heap.size≤b1→m b1=none→let m2:=AM.upd m b1 (.cells #[.int .i64 x1_0,.int .i64 x1_1,.int .i64 x1_2,.int .i64 x1_3,.int .i64 x1_4] 36);
 LI_ m2 b1 1 fun i3 => 
 ((0:Int)≤i3∧i3<((32:Nat):Int)) ∧
 LA_ m2 ((⟨x0,2,none⟩:Addr).add ((i3:Int).toNat*1)) fun i4 => 
 LI_ m2 b1 2 fun i5 => 
 ((0:Int)≤i5∧i5<((32:Nat):Int)) ∧
 LA_ m2 ((⟨x0,2,none⟩:Addr).add ((i5:Int).toNat*1)) fun i6 => 
 LI_ m2 b1 0 fun i7 => 
 KI_∧(bcase ((i7:Int) == 12) (
 vcS Tryz.prog w0 qs32 (sub c32 [1,1,0,1,0,1,0,0]) (upd (upd (upd (upd (upd (upd (upd (upd (upd (upd (upd (upd (upd (upd (upd (upd (upd (upd (upd (upd (upd (upd (argS [pt_ x0,.agg #[.int .i64 x1_0,.int .i64 x1_1,.int .i64 x1_2,.int .i64 x1_3,.int .i64 x1_4]]) 3 (pt_ b1)) 4 (.int .i64 0)) 9 (pt_ x0)) 10 (.pointer (some ⟨b1,1,none⟩))) 11 (.int .i64 i3)) 12 (pt_ x0)) 13 (.pointer (some ⟨x0,2,none⟩))) 14 (.pointer (some ((⟨x0,2,none⟩:Addr).add ((i3:Int).toNat*1))))) 15 (.int .i64 i4)) 16 (pt_ x0)) 17 (.pointer (some ⟨b1,2,none⟩))) 18 (.int .i64 i5)) 19 (pt_ x0)) 20 (.pointer (some ⟨x0,2,none⟩))) 21 (.pointer (some ((⟨x0,2,none⟩:Addr).add ((i5:Int).toNat*1))))) 22 (.int .i64 i6)) 5 (.int .i64 i4)) 6 (.int .i64 i6)) 23 (pt_ b1)) 24 (.int .i64 i7)) 26 (.bool ((i7:Int) == 12))) 25 (.bool ((i7:Int) == 12))) m2 (thenS (fun σ m=>vcS Tryz.prog w0 qs32 (sub c32 [1,1,0,1,0,1,0,1]) σ m (blockS 0 (thenS (fun σ m=>vcS Tryz.prog w0 qs32 (sub c32 [1,1,1]) σ m (retQ Tryz.prog Tryz.f32 R)) (retQ Tryz.prog Tryz.f32 R)))) (blockS 0 (thenS (fun σ m=>vcS Tryz.prog w0 qs32 (sub c32 [1,1,1]) σ m (retQ Tryz.prog Tryz.f32 R)) (retQ Tryz.prog Tryz.f32 R))))) (
 KI_∧(bcase ((i7:Int) == 13) (
 vcS Tryz.prog w0 qs32 (sub c32 [1,1,0,1,0,1,1,1,0,0]) (upd (upd (upd (upd (upd (upd (upd (upd (upd (upd (upd (upd (upd (upd (upd (upd (upd (upd (upd (upd (upd (upd (upd (upd (argS [pt_ x0,.agg #[.int .i64 x1_0,.int .i64 x1_1,.int .i64 x1_2,.int .i64 x1_3,.int .i64 x1_4]]) 3 (pt_ b1)) 4 (.int .i64 0)) 9 (pt_ x0)) 10 (.pointer (some ⟨b1,1,none⟩))) 11 (.int .i64 i3)) 12 (pt_ x0)) 13 (.pointer (some ⟨x0,2,none⟩))) 14 (.pointer (some ((⟨x0,2,none⟩:Addr).add ((i3:Int).toNat*1))))) 15 (.int .i64 i4)) 16 (pt_ x0)) 17 (.pointer (some ⟨b1,2,none⟩))) 18 (.int .i64 i5)) 19 (pt_ x0)) 20 (.pointer (some ⟨x0,2,none⟩))) 21 (.pointer (some ((⟨x0,2,none⟩:Addr).add ((i5:Int).toNat*1))))) 22 (.int .i64 i6)) 5 (.int .i64 i4)) 6 (.int .i64 i6)) 23 (pt_ b1)) 24 (.int .i64 i7)) 26 (.bool ((i7:Int) == 12))) 25 (.bool ((i7:Int) == 12))) 47 (.bool ((i7:Int) == 13))) 46 (.bool ((i7:Int) == 13))) m2 (thenS (fun σ m=>vcS Tryz.prog w0 qs32 (sub c32 [1,1,0,1,0,1,1,1,0,1]) σ m (blockS 0 (thenS (fun σ m=>vcS Tryz.prog w0 qs32 (sub c32 [1,1,1]) σ m (retQ Tryz.prog Tryz.f32 R)) (retQ Tryz.prog Tryz.f32 R)))) (blockS 0 (thenS (fun σ m=>vcS Tryz.prog w0 qs32 (sub c32 [1,1,1]) σ m (retQ Tryz.prog Tryz.f32 R)) (retQ Tryz.prog Tryz.f32 R))))) (
 KI_∧(bcase ((i7:Int) == 14) (
 KI_∧(bcase (decide ((i4:Int)<0)) (
 (decide ((i4:Int)<0))=true∧LI_ m2 b1 2 fun i8 => 
 KI_∧(bcase ((i8:Int) == 0) (
 RetP R (.int .i64 5) m2) (
 LI_ m2 b1 2 fun i9 => 
 RetP R (.int .i64 i9) m2))) (
 LI_ m2 b1 4 fun i10 => 
 KI_∧(bcase (bif decide ((i4:Int)<0) then true else decide ((i4:Int)≥i10)) (
 LI_ m2 b1 2 fun i11 => 
 KI_∧(bcase ((i11:Int) == 0) (
 RetP R (.int .i64 5) m2) (
 LI_ m2 b1 2 fun i12 => 
 RetP R (.int .i64 i12) m2))) (
 RetP R (.int .i64 0) m2))))) (
 KI_∧(bcase ((i7:Int) == 20) (
 LI_ m2 b1 4 fun i13 => 
 CallsA Tryz.prog w0 53 #[pt_ x0,.int .i64 i13] m2 fun r15 m16 =>
 ∃ i14:Int,r15=.int .i64 i14∧RetP R (.int .i64 i14) m16) (
 RetP R (.int .i64 0) m2))))))))):CallsA Tryz.prog w0 32 #[pt_ x0,.agg #[.int .i64 x1_0,.int .i64 x1_1,.int .i64 x1_2,.int .i64 x1_3,.int .i64 x1_4]] m R :=
  callsA_of (c:=c32) (args:=[pt_ x0,.agg #[.int .i64 x1_0,.int .i64 x1_1,.int .i64 x1_2,.int .i64 x1_3,.int .i64 x1_4]]) (by kernel_rfl) Tryz.func32 (by kernel_rfl) qs32 (by kernel_rfl) (by kernel_rfl) (cast (by kernel_rfl) h)
theorem vr32_11010100 (w0:World) (m:AM) (σ:Sg) (R:Value→AM→Prop)  (x0:Nat) (x3:Nat) (x6:Int) (K:Int→Bool→AM→Prop) (h0:σ 0=.pointer (some ⟨x0,0,none⟩)) (h3:σ 3=.pointer (some ⟨x3,0,none⟩)) (h6:σ 6=.int .i64 x6)
 (h_t : 
 LI_ m x3 4 fun i17 => 
 (∃ p18:Option Addr,m.cell ⟨x0,1,none⟩=some (.pointer p18) ∧ 
 CallsA Tryz.prog w0 51 #[.int .i64 x6,.int .i64 i17] m fun r20 m21 =>
 ∃ i19:Int,r20=.int .i64 i19∧CallsA Tryz.prog w0 50 #[.pointer p18,.int .i64 i19] m21 fun r24 m25 =>
 ∃ i22:Int,∃ t23:Bool,r24=.tuple #[.int .i64 i22,.bool t23]∧true=true∧(.pointer (some ⟨x0,0,none⟩):Value)=.pointer (some ⟨x0,0,none⟩)∧(.pointer (some ⟨x3,0,none⟩):Value)=.pointer (some ⟨x3,0,none⟩)∧true=true∧true=true∧K i22 t23 m25) ∧
 (CallsA Tryz.prog w0 51 #[.int .i64 x6,.int .i64 i17] m fun r29 m30 =>
 ∃ i28:Int,r29=.int .i64 i28∧∃ p31:Option Addr,m30.cell ⟨x0,1,none⟩=some (.pointer p31) ∧ 
 CallsA Tryz.prog w0 50 #[.pointer p31,.int .i64 i28] m30 fun r34 m35 =>
 ∃ i32:Int,∃ t33:Bool,r34=.tuple #[.int .i64 i32,.bool t33]∧true=true∧(.pointer (some ⟨x0,0,none⟩):Value)=.pointer (some ⟨x0,0,none⟩)∧(.pointer (some ⟨x3,0,none⟩):Value)=.pointer (some ⟨x3,0,none⟩)∧true=true∧true=true∧K i32 t33 m35))
 (h_k:∀ (σ:Sg) (y7:Int) (y8:Bool) (m:AM),K y7 y8 m→(
 (bcase (!y8) (
 RetP R (.int .i64 3) m) (
 LI_ m x3 1 fun i38 => 
 CallsA Tryz.prog w0 34 #[pt_ x0,.int .i64 i38,.int .i64 y7] m fun r39 m40 =>
 r39=.tuple #[]∧RetP R (.int .i64 0) m40)))) :
 vcS Tryz.prog w0 qs32 (sub c32 [1,1,0,1,0,1,0,0]) σ m (thenS (fun σ m=>vcS Tryz.prog w0 qs32 (sub c32 [1,1,0,1,0,1,0,1]) σ m (blockS 0 (thenS (fun σ m=>vcS Tryz.prog w0 qs32 (sub c32 [1,1,1]) σ m (retQ Tryz.prog Tryz.f32 R)) (retQ Tryz.prog Tryz.f32 R)))) (blockS 0 (thenS (fun σ m=>vcS Tryz.prog w0 qs32 (sub c32 [1,1,1]) σ m (retQ Tryz.prog Tryz.f32 R)) (retQ Tryz.prog Tryz.f32 R)))):=by
  have es0:(upd (upd (upd σ 0 (pt_ x0)) 3 (pt_ x3)) 6 (.int .i64 x6))=σ:=by rw [upd_id h0,upd_id h3,upd_id h6]
  refine vcS_cut (Q0:=(fun σ m=>σ 0=.pointer (some ⟨x0,0,none⟩)∧σ 3=.pointer (some ⟨x3,0,none⟩)∧okI .i64 (σ 7)=true∧okB (σ 8)=true∧K (vI (σ 7)) (vB (σ 8)) m)) (by kernel_rfl) (cast (congrArg (fun s=>trC Tryz.prog w0 qs32 (sub c32 [1,1,0,1,0,1,0,0]) s m (fun σ m=>σ 0=.pointer (some ⟨x0,0,none⟩)∧σ 3=.pointer (some ⟨x3,0,none⟩)∧okI .i64 (σ 7)=true∧okB (σ 8)=true∧K (vI (σ 7)) (vB (σ 8)) m)) es0) (cast (by kernel_rfl) h_t)) ?_
  rintro σ m ⟨kk0,kk1,kk2,kk3,hK⟩
  have es:(upd (upd (upd (upd σ 0 (pt_ x0)) 3 (pt_ x3)) 7 (.int .i64 (vI (σ 7)))) 8 (.bool (vB (σ 8))))=σ:=by rw [upd_id kk0,upd_id kk1,upd_id (ok_int kk2),upd_id (ok_bool kk3)]
  exact cast (congrArg (fun s=>(thenS (fun σ m=>vcS Tryz.prog w0 qs32 (sub c32 [1,1,0,1,0,1,0,1]) σ m (blockS 0 (thenS (fun σ m=>vcS Tryz.prog w0 qs32 (sub c32 [1,1,1]) σ m (retQ Tryz.prog Tryz.f32 R)) (retQ Tryz.prog Tryz.f32 R)))) (blockS 0 (thenS (fun σ m=>vcS Tryz.prog w0 qs32 (sub c32 [1,1,1]) σ m (retQ Tryz.prog Tryz.f32 R)) (retQ Tryz.prog Tryz.f32 R)))) .normal s m) es) (cast (by kernel_rfl) (h_k σ (vI (σ 7)) (vB (σ 8)) m hK))
theorem vr32_1101011100 (w0:World) (m:AM) (σ:Sg) (R:Value→AM→Prop)  (x0:Nat) (x3:Nat) (x5:Int) (x6:Int) (K:Bool→AM→Prop) (h0:σ 0=.pointer (some ⟨x0,0,none⟩)) (h3:σ 3=.pointer (some ⟨x3,0,none⟩)) (h5:σ 5=.int .i64 x5) (h6:σ 6=.int .i64 x6)
 (h_t : 
 LI_ m x3 4 fun i41 => 
 (∃ p42:Option Addr,m.cell ⟨x0,1,none⟩=some (.pointer p42) ∧ 
 CallsA Tryz.prog w0 51 #[.int .i64 x6,.int .i64 i41] m fun r44 m45 =>
 ∃ i43:Int,r44=.int .i64 i43∧CallsA Tryz.prog w0 52 #[.pointer p42,.int .i64 i43,.int .i64 x5] m45 fun r47 m48 =>
 ∃ t46:Bool,r47=.bool t46∧true=true∧true=true∧K (!t46) m48) ∧
 (CallsA Tryz.prog w0 51 #[.int .i64 x6,.int .i64 i41] m fun r50 m51 =>
 ∃ i49:Int,r50=.int .i64 i49∧∃ p52:Option Addr,m51.cell ⟨x0,1,none⟩=some (.pointer p52) ∧ 
 CallsA Tryz.prog w0 52 #[.pointer p52,.int .i64 i49,.int .i64 x5] m51 fun r54 m55 =>
 ∃ t53:Bool,r54=.bool t53∧true=true∧true=true∧K (!t53) m55))
 (h_k:∀ (σ:Sg) (y58:Bool) (m:AM),K y58 m→(
 (bcase y58 (
 RetP R (.int .i64 3) m) (
 RetP R (.int .i64 0) m)))) :
 vcS Tryz.prog w0 qs32 (sub c32 [1,1,0,1,0,1,1,1,0,0]) σ m (thenS (fun σ m=>vcS Tryz.prog w0 qs32 (sub c32 [1,1,0,1,0,1,1,1,0,1]) σ m (blockS 0 (thenS (fun σ m=>vcS Tryz.prog w0 qs32 (sub c32 [1,1,1]) σ m (retQ Tryz.prog Tryz.f32 R)) (retQ Tryz.prog Tryz.f32 R)))) (blockS 0 (thenS (fun σ m=>vcS Tryz.prog w0 qs32 (sub c32 [1,1,1]) σ m (retQ Tryz.prog Tryz.f32 R)) (retQ Tryz.prog Tryz.f32 R)))):=by
  have es0:(upd (upd (upd (upd σ 0 (pt_ x0)) 3 (pt_ x3)) 5 (.int .i64 x5)) 6 (.int .i64 x6))=σ:=by rw [upd_id h0,upd_id h3,upd_id h5,upd_id h6]
  refine vcS_cut (Q0:=(fun σ m=>okB (σ 58)=true∧K (vB (σ 58)) m)) (by kernel_rfl) (cast (congrArg (fun s=>trC Tryz.prog w0 qs32 (sub c32 [1,1,0,1,0,1,1,1,0,0]) s m (fun σ m=>okB (σ 58)=true∧K (vB (σ 58)) m)) es0) (cast (by kernel_rfl) h_t)) ?_
  rintro σ m ⟨kk0,hK⟩
  have es:(upd σ 58 (.bool (vB (σ 58))))=σ:=by rw [upd_id (ok_bool kk0)]
  exact cast (congrArg (fun s=>(thenS (fun σ m=>vcS Tryz.prog w0 qs32 (sub c32 [1,1,0,1,0,1,1,1,0,1]) σ m (blockS 0 (thenS (fun σ m=>vcS Tryz.prog w0 qs32 (sub c32 [1,1,1]) σ m (retQ Tryz.prog Tryz.f32 R)) (retQ Tryz.prog Tryz.f32 R)))) (blockS 0 (thenS (fun σ m=>vcS Tryz.prog w0 qs32 (sub c32 [1,1,1]) σ m (retQ Tryz.prog Tryz.f32 R)) (retQ Tryz.prog Tryz.f32 R)))) .normal s m) es) (cast (by kernel_rfl) (h_k σ (vB (σ 58)) m hK))

def qs35:Nat→List (Nat × Nat):=fun i=>match i with | _=>[]
noncomputable def c35:Code:=bodyOf Tryz.f35
theorem cf35 (w0:World) (m:AM) (x0:Nat) (x1_0:Int) (x1_1:Int) (x1_2:Int) (x1_3:Int) (x1_4:Int) (R:Value→AM→Prop) (h :
 ∀ b1:Nat,w0.heap.size≤b1→m b1=none→let m2:=AM.upd m b1 (.cells #[.int .i64 x1_0,.int .i64 x1_1,.int .i64 x1_2,.int .i64 x1_3,.int .i64 x1_4] 36);
 LI_ m2 x0 34 fun i3 => 
 KI_∧LI_ m2 b1 1 fun i4 => 
 ((0:Int)≤i4∧i4<((32:Nat):Int)) ∧
 LA_ m2 ((⟨x0,2,none⟩:Addr).add ((i4:Int).toNat*1)) fun i5 => 
 LI_ m2 b1 2 fun i6 => 
 ((0:Int)≤i6∧i6<((32:Nat):Int)) ∧
 LA_ m2 ((⟨x0,2,none⟩:Addr).add ((i6:Int).toNat*1)) fun i7 => 
 LI_ m2 b1 0 fun i8 => 
 KI_∧(bcase ((i8:Int) == 15) (
 (bcase ((i8:Int) == 15) (
 KI_∧LI_ m2 b1 0 fun i9 => 
 KI_∧(bcase ((((i5:Int) == i7):Bool) == ((i9:Int) == 15)) (
 LI_ m2 b1 4 fun i10 => 
 KI_∧RetP R (.int .i64 (IntKind.wrap .i64 ((IntKind.wrap .i64 (i3+1))+i10))) m2) (
 RetP R (.int .i64 (IntKind.wrap .i64 (i3+1))) m2))) (
 KI_∧(bcase ((i8:Int) == 18) (
 CallsA Tryz.prog w0 34 #[pt_ x0,.int .i64 31,.int .i64 (IntKind.wrap .i64 (i3+1))] m2 fun r11 m12 =>
 r11=.tuple #[]∧LI_ m12 b1 4 fun i13 => 
 RetP R (.int .i64 i13) m12) (
 KI_∧(bcase ((i8:Int) == 17) (
 LI_ m2 b1 4 fun i14 => 
 RetP R (.int .i64 i14) m2) (
 KI_∧(bcase ((i8:Int) == 19) (
 RetP R (.int .i64 i5) m2) (
 RetP R (.int .i64 (IntKind.wrap .i64 (i3+1))) m2))))))))) (
 KI_∧(bcase ((i8:Int) == 16) (
 KI_∧LI_ m2 b1 0 fun i15 => 
 KI_∧(bcase ((((i5:Int) == i7):Bool) == ((i15:Int) == 15)) (
 LI_ m2 b1 4 fun i16 => 
 KI_∧RetP R (.int .i64 (IntKind.wrap .i64 ((IntKind.wrap .i64 (i3+1))+i16))) m2) (
 RetP R (.int .i64 (IntKind.wrap .i64 (i3+1))) m2))) (
 KI_∧(bcase ((i8:Int) == 18) (
 CallsA Tryz.prog w0 34 #[pt_ x0,.int .i64 31,.int .i64 (IntKind.wrap .i64 (i3+1))] m2 fun r17 m18 =>
 r17=.tuple #[]∧LI_ m18 b1 4 fun i19 => 
 RetP R (.int .i64 i19) m18) (
 KI_∧(bcase ((i8:Int) == 17) (
 LI_ m2 b1 4 fun i20 => 
 RetP R (.int .i64 i20) m2) (
 KI_∧(bcase ((i8:Int) == 19) (
 RetP R (.int .i64 i5) m2) (
 RetP R (.int .i64 (IntKind.wrap .i64 (i3+1))) m2))))))))))):CallsA Tryz.prog w0 35 #[pt_ x0,.agg #[.int .i64 x1_0,.int .i64 x1_1,.int .i64 x1_2,.int .i64 x1_3,.int .i64 x1_4]] m R :=
  callsA_of (c:=c35) (args:=[pt_ x0,.agg #[.int .i64 x1_0,.int .i64 x1_1,.int .i64 x1_2,.int .i64 x1_3,.int .i64 x1_4]]) (by kernel_rfl) Tryz.func35 (by kernel_rfl) qs35 (by kernel_rfl) (by kernel_rfl) (cast (by kernel_rfl) h)

def qs20:Nat→List (Nat × Nat):=fun i=>match i with | _=>[]
noncomputable def c20:Code:=bodyOf Tryz.f20
theorem cf20 (w0:World) (m:AM) (x0:Nat) (R:Value→AM→Prop) (h :
 LI_ m x0 34 fun i1 => 
 KI_∧(bcase (decide ((i1:Int)<0)) (
 (decide ((i1:Int)<0))=true∧RetP R (.int .i64 2) m) (
 LI_ m x0 34 fun i2 => 
 ∃ (A3:Option Addr) (n4 c5:Nat),m.cell ⟨x0,0,none⟩=some (.slice A3 n4 c5) ∧ 
 KI_∧(bcase (bif decide ((i1:Int)<0) then true else decide ((i2:Int)≥((n4:Nat):Int))) (
 RetP R (.int .i64 2) m) (
 ∃ (A6:Option Addr) (n7 c8:Nat),m.cell ⟨x0,0,none⟩=some (.slice A6 n7 c8) ∧ 
 LI_ m x0 34 fun i9 => 
 ((0:Int)≤i9∧i9<((n7:Nat):Int))∧nilO A6 fun a10 =>
 LA_ m (a10.add ((i9:Int).toNat*5)) fun i11=>∃ i12:Int,m.cell ((a10.add ((i9:Int).toNat*5)).add 1)=some (.int .i64 i12)∧∃ i13:Int,m.cell ((a10.add ((i9:Int).toNat*5)).add 2)=some (.int .i64 i13)∧∃ i14:Int,m.cell ((a10.add ((i9:Int).toNat*5)).add 3)=some (.int .i64 i14)∧∃ i15:Int,m.cell ((a10.add ((i9:Int).toNat*5)).add 4)=some (.int .i64 i15) ∧ 
 ∀ b16:Nat,w0.heap.size≤b16→m b16=none→let m17:=AM.upd m b16 (.cells #[.int .i64 0,.int .i64 0,.int .i64 0,.int .i64 0,.int .i64 0] 36);
 SI_ w0.heap.size m17 b16 0 i11 fun m18 =>
 SI_ w0.heap.size m18 b16 1 i12 fun m19 =>
 SI_ w0.heap.size m19 b16 2 i13 fun m20 =>
 SI_ w0.heap.size m20 b16 3 i14 fun m21 =>
 SI_ w0.heap.size m21 b16 4 i15 fun m22 =>
 LI_ m22 b16 0 fun i23=>LI_ m22 b16 1 fun i24=>LI_ m22 b16 2 fun i25=>LI_ m22 b16 3 fun i26=>LI_ m22 b16 4 fun i27 => 
 CallsA Tryz.prog w0 17 #[.agg #[.int .i64 i23,.int .i64 i24,.int .i64 i25,.int .i64 i26,.int .i64 i27]] m22 fun r29 m30 =>
 ∃ t28:Bool,r29=.bool t28∧(bcase (!t28) (
 RetP R (.int .i64 8) m30) (
 LI_ m30 b16 0 fun i31=>LI_ m30 b16 1 fun i32=>LI_ m30 b16 2 fun i33=>LI_ m30 b16 3 fun i34=>LI_ m30 b16 4 fun i35 => 
 CallsA Tryz.prog w0 32 #[pt_ x0,.agg #[.int .i64 i31,.int .i64 i32,.int .i64 i33,.int .i64 i34,.int .i64 i35]] m30 fun r37 m38 =>
 ∃ i36:Int,r37=.int .i64 i36∧KI_∧(bcase ((i36:Int) != 0) (
 RetP R (.int .i64 i36) m38) (
 LI_ m38 b16 0 fun i39=>LI_ m38 b16 1 fun i40=>LI_ m38 b16 2 fun i41=>LI_ m38 b16 3 fun i42=>LI_ m38 b16 4 fun i43 => 
 LI_ m38 b16 2 fun i44 => 
 ((0:Int)≤i44∧i44<((32:Nat):Int)) ∧
 LA_ m38 ((⟨x0,2,none⟩:Addr).add ((i44:Int).toNat*1)) fun i45 => 
 LI_ m38 b16 3 fun i46 => 
 ((0:Int)≤i46∧i46<((32:Nat):Int)) ∧
 LA_ m38 ((⟨x0,2,none⟩:Addr).add ((i46:Int).toNat*1)) fun i47 => 
 CallsA Tryz.prog w0 33 #[.agg #[.int .i64 i39,.int .i64 i40,.int .i64 i41,.int .i64 i42,.int .i64 i43],.int .i64 i45,.int .i64 i47] m38 fun r51 m52 =>
 ∃ i48:Int,∃ i49:Int,∃ t50:Bool,r51=.tuple #[.int .i64 i48,.int .i64 i49,.bool t50]∧KI_∧(bcase ((i49:Int) != 0) (
 RetP R (.int .i64 i49) m52) (
 (bcase t50 (
 LI_ m52 b16 1 fun i56 => 
 CallsA Tryz.prog w0 34 #[pt_ x0,.int .i64 i56,.int .i64 i48] m52 fun r57 m58 =>
 r57=.tuple #[]∧LI_ m58 b16 0 fun i59=>LI_ m58 b16 1 fun i60=>LI_ m58 b16 2 fun i61=>LI_ m58 b16 3 fun i62=>LI_ m58 b16 4 fun i63 => 
 CallsA Tryz.prog w0 35 #[pt_ x0,.agg #[.int .i64 i59,.int .i64 i60,.int .i64 i61,.int .i64 i62,.int .i64 i63]] m58 fun r65 m66 =>
 ∃ i64:Int,r65=.int .i64 i64∧SI_ w0.heap.size m66 x0 34 i64 fun m67 =>
 RetP R (.int .i64 0) m67) (
 LI_ m52 b16 0 fun i68=>LI_ m52 b16 1 fun i69=>LI_ m52 b16 2 fun i70=>LI_ m52 b16 3 fun i71=>LI_ m52 b16 4 fun i72 => 
 CallsA Tryz.prog w0 35 #[pt_ x0,.agg #[.int .i64 i68,.int .i64 i69,.int .i64 i70,.int .i64 i71,.int .i64 i72]] m52 fun r74 m75 =>
 ∃ i73:Int,r74=.int .i64 i73∧SI_ w0.heap.size m75 x0 34 i73 fun m76 =>
 RetP R (.int .i64 0) m76))))))))))))):CallsA Tryz.prog w0 20 #[pt_ x0] m R :=
  callsA_of (c:=c20) (args:=[pt_ x0]) (by kernel_rfl) Tryz.func20 (by kernel_rfl) qs20 (by kernel_rfl) (by kernel_rfl) (cast (by kernel_rfl) h)

def qs7:Nat→List (Nat × Nat):=fun i=>match i with | 1000009=>[(0,0)] | _=>[]
noncomputable def c7:Code:=bodyOf Tryz.f7
theorem cf7 (w0:World) (m:AM) (x0:Option Addr) (x0n x0c:Nat) (x1:Int) (x2:Option Addr) (x2n x2c:Nat) (x3:Int) (R:Value→AM→Prop) (h :
 ∀ b1:Nat,w0.heap.size≤b1→m b1=none→let m2:=AM.upd m b1 (.cells #[.int .i64 0,.int .i64 0,.slice none 0 0,.slice none 0 0] 30);
 CallsA Tryz.prog w0 18 #[.int .i64 x1] m2 fun r4 m5 =>
 ∃ p3:Option Addr,r4=.pointer p3∧KI_∧(bcase (decide ((((x0n:Nat):Int):Int)>4096)) (
 (decide ((((x0n:Nat):Int):Int)>4096))=true∧true=true∧SI_ w0.heap.size m5 b1 0 0 fun m6 =>
 SI_ w0.heap.size m6 b1 1 0 fun m7 =>
 StC w0.heap.size m7 ⟨b1,2,none⟩ (.slice none 0 0) fun m8 =>
 StC w0.heap.size m8 ⟨b1,3,none⟩ (.slice none 0 0) fun m9 =>
 LI_ m9 b1 0 fun i10=>LI_ m9 b1 1 fun i11=>∃ (A12:Option Addr) (n13 c14:Nat),m9.cell ⟨b1,2,none⟩=some (.slice A12 n13 c14)∧∃ (A15:Option Addr) (n16 c17:Nat),m9.cell ⟨b1,3,none⟩=some (.slice A15 n16 c17)∧RetP R (.agg #[.int .i64 i10,.int .i64 i11,.slice A12 n13 c14,.slice A15 n16 c17]) m9) (
 (bcase (bif decide ((((x0n:Nat):Int):Int)>4096) then true else Option.isNone p3) (
 true=true∧SI_ w0.heap.size m5 b1 0 0 fun m18 =>
 SI_ w0.heap.size m18 b1 1 0 fun m19 =>
 StC w0.heap.size m19 ⟨b1,2,none⟩ (.slice none 0 0) fun m20 =>
 StC w0.heap.size m20 ⟨b1,3,none⟩ (.slice none 0 0) fun m21 =>
 LI_ m21 b1 0 fun i22=>LI_ m21 b1 1 fun i23=>∃ (A24:Option Addr) (n25 c26:Nat),m21.cell ⟨b1,2,none⟩=some (.slice A24 n25 c26)∧∃ (A27:Option Addr) (n28 c29:Nat),m21.cell ⟨b1,3,none⟩=some (.slice A27 n28 c29)∧RetP R (.agg #[.int .i64 i22,.int .i64 i23,.slice A24 n25 c26,.slice A27 n28 c29]) m21) (
 CallsA Tryz.prog w0 19 #[.slice x2 x2n x2c] m5 fun r33 m34 =>
 ∃ (A30:Option Addr) (n31 c32:Nat),r33=.slice A30 n31 c32∧true=true∧∀ b35:Nat,w0.heap.size≤b35→m34 b35=none→let m36:=AM.upd m34 b35 (.cells #[.slice x0 x0n x0c,.pointer p3,.int .i64 0,.int .i64 0,.int .i64 0,.int .i64 0,.int .i64 0,.int .i64 0,.int .i64 0,.int .i64 0,.int .i64 0,.int .i64 0,.int .i64 0,.int .i64 0,.int .i64 0,.int .i64 0,.int .i64 0,.int .i64 0,.int .i64 0,.int .i64 0,.int .i64 0,.int .i64 0,.int .i64 0,.int .i64 0,.int .i64 0,.int .i64 0,.int .i64 0,.int .i64 0,.int .i64 0,.int .i64 0,.int .i64 0,.int .i64 0,.int .i64 0,.int .i64 0,.int .i64 0,.slice A30 n31 c32,.slice none 0 0] 53);
 ∀ b37:Nat,w0.heap.size≤b37→m36 b37=none→let m38:=AM.upd m36 b37 (.cells #[.int .i64 0,.int .i64 0,.slice none 0 0,.slice none 0 0] 30);
 vcS Tryz.prog w0 qs7 (sub c7 [1,1,1,1,1,0,0]) (upd (upd (upd (upd (upd (upd (upd (upd (upd (upd (upd (upd (upd (upd (upd (upd (upd (upd (upd (argS [.slice x0 x0n x0c,.int .i64 x1,.slice x2 x2n x2c,.int .i64 x3]) 8 (pt_ b1)) 12 (.int .i64 x1)) 13 (.pointer p3)) 9 (.pointer p3)) 14 (.slice x0 x0n x0c)) 15 (.int .i64 ((x0n:Nat):Int))) 16 (.bool (decide ((((x0n:Nat):Int):Int)>4096)))) 17 (.bool (decide ((((x0n:Nat):Int):Int)>4096)))) 18 (.pointer p3)) 19 (.bool (Option.isNone p3))) 20 (.bool (bif decide ((((x0n:Nat):Int):Int)>4096) then true else Option.isNone p3))) 22 (.slice x0 x0n x0c)) 23 (.pointer p3)) 24 (.slice x2 x2n x2c)) 25 (.slice A30 n31 c32)) 26 (.agg #[.slice x0 x0n x0c,.pointer p3,.int .i64 0,.int .i64 0,.int .i64 0,.int .i64 0,.int .i64 0,.int .i64 0,.int .i64 0,.int .i64 0,.int .i64 0,.int .i64 0,.int .i64 0,.int .i64 0,.int .i64 0,.int .i64 0,.int .i64 0,.int .i64 0,.int .i64 0,.int .i64 0,.int .i64 0,.int .i64 0,.int .i64 0,.int .i64 0,.int .i64 0,.int .i64 0,.int .i64 0,.int .i64 0,.int .i64 0,.int .i64 0,.int .i64 0,.int .i64 0,.int .i64 0,.int .i64 0,.int .i64 0,.slice A30 n31 c32,.slice none 0 0])) 27 (pt_ b35)) 10 (pt_ b35)) 11 (pt_ b37)) m38 (blockS 0 (thenS (fun σ m=>vcS Tryz.prog w0 qs7 (sub c7 [1,1,1,1,1,1]) σ m (retQ Tryz.prog Tryz.f7 R)) (retQ Tryz.prog Tryz.f7 R)))))))):CallsA Tryz.prog w0 7 #[.slice x0 x0n x0c,.int .i64 x1,.slice x2 x2n x2c,.int .i64 x3] m R :=
  callsA_of (c:=c7) (args:=[.slice x0 x0n x0c,.int .i64 x1,.slice x2 x2n x2c,.int .i64 x3]) (by kernel_rfl) Tryz.func7 (by kernel_rfl) qs7 (by kernel_rfl) (by kernel_rfl) (cast (by kernel_rfl) h)
def lq7_1111100 (R:Value→AM→Prop) (x3:Int) (x8:Nat) (x9:Option Addr) (x10:Nat) (x11:Nat) (I0:Nat→AM→Prop) (E0_0:AM→Prop) (n0:Nat):Exit→Sg→AM→Prop
 | .normal,σ,m=>σ 3=.int .i64 x3∧σ 8=.pointer (some ⟨x8,0,none⟩)∧σ 9=.pointer x9∧σ 10=.pointer (some ⟨x10,0,none⟩)∧σ 11=.pointer (some ⟨x11,0,none⟩)∧∃ n':Nat,n'<n0∧I0 n'  m
 | .exit id,σ,m=>if id=0 then σ 3=.int .i64 x3∧σ 8=.pointer (some ⟨x8,0,none⟩)∧σ 9=.pointer x9∧σ 10=.pointer (some ⟨x10,0,none⟩)∧σ 11=.pointer (some ⟨x11,0,none⟩)∧E0_0  m else False
 | .ret,σ,m=>retQ Tryz.prog Tryz.f7 R .ret σ m
 | _,_,_=>False
theorem vl7_1111100 (w0:World) (m:AM) (σ:Sg) (R:Value→AM→Prop)  (x3:Int) (x8:Nat) (x9:Option Addr) (x10:Nat) (x11:Nat)  (I0:Nat→AM→Prop) (E0_0:AM→Prop) (N:Nat) (h3:σ 3=.int .i64 x3) (h8:σ 8=.pointer (some ⟨x8,0,none⟩)) (h9:σ 9=.pointer x9) (h10:σ 10=.pointer (some ⟨x10,0,none⟩)) (h11:σ 11=.pointer (some ⟨x11,0,none⟩))
 (h_0:I0 N  m)
 (h_s:∀ (n0:Nat) (σ:Sg)  (m:AM),I0 n0  m→(
 LI_ m x11 0 fun i39 => 
 KI_∧(bcase ((i39:Int) == 0) (
 LI_ m x11 1 fun i40 => 
 KI_∧(bcase (bif (i39:Int) == 0 then decide ((i40:Int)<x3) else false) (
 CallsA Tryz.prog w0 20 #[pt_ x10] m fun r42 m43 =>
 ∃ i41:Int,r42=.int .i64 i41∧SI_ w0.heap.size m43 x11 0 i41 fun m44 =>
 LI_ m44 x11 1 fun i45 => 
 KI_∧SI_ w0.heap.size m44 x11 1 (IntKind.wrap .i64 (i45+1)) fun m46 =>
 (.int .i64 x3:Value)=.int .i64 x3∧(.pointer (some ⟨x8,0,none⟩):Value)=.pointer (some ⟨x8,0,none⟩)∧(.pointer x9:Value)=.pointer x9∧(.pointer (some ⟨x10,0,none⟩):Value)=.pointer (some ⟨x10,0,none⟩)∧(.pointer (some ⟨x11,0,none⟩):Value)=.pointer (some ⟨x11,0,none⟩)∧∃ n':Nat,n'<n0∧I0 n'  m46) (
 (.int .i64 x3:Value)=.int .i64 x3∧(.pointer (some ⟨x8,0,none⟩):Value)=.pointer (some ⟨x8,0,none⟩)∧(.pointer x9:Value)=.pointer x9∧(.pointer (some ⟨x10,0,none⟩):Value)=.pointer (some ⟨x10,0,none⟩)∧(.pointer (some ⟨x11,0,none⟩):Value)=.pointer (some ⟨x11,0,none⟩)∧E0_0  m))) (
 ((i39:Int) == 0)=false∧(.int .i64 x3:Value)=.int .i64 x3∧(.pointer (some ⟨x8,0,none⟩):Value)=.pointer (some ⟨x8,0,none⟩)∧(.pointer x9:Value)=.pointer x9∧(.pointer (some ⟨x10,0,none⟩):Value)=.pointer (some ⟨x10,0,none⟩)∧(.pointer (some ⟨x11,0,none⟩):Value)=.pointer (some ⟨x11,0,none⟩)∧E0_0  m))))
 (h_e0:∀ (σ:Sg)  (m:AM),E0_0  m→(
 vcS Tryz.prog w0 qs7 (sub c7 [1,1,1,1,1,1,0]) (upd (upd (upd (upd (upd σ 3 (.int .i64 x3)) 8 (pt_ x8)) 9 (.pointer x9)) 10 (pt_ x10)) 11 (pt_ x11)) m (thenS (fun σ m=>vcS Tryz.prog w0 qs7 (sub c7 [1,1,1,1,1,1,1]) σ m (retQ Tryz.prog Tryz.f7 R)) (retQ Tryz.prog Tryz.f7 R)))) :
 vcS Tryz.prog w0 qs7 (sub c7 [1,1,1,1,1,0,0]) σ m (blockS 0 (thenS (fun σ m=>vcS Tryz.prog w0 qs7 (sub c7 [1,1,1,1,1,1]) σ m (retQ Tryz.prog Tryz.f7 R)) (retQ Tryz.prog Tryz.f7 R))):=by
  rw [show sub c7 [1,1,1,1,1,0,0]=.loop (sub c7 [1,1,1,1,1,0,0,0]) from by kernel_rfl]
  refine loopQ (fun n0 σ m=>σ 3=.int .i64 x3∧σ 8=.pointer (some ⟨x8,0,none⟩)∧σ 9=.pointer x9∧σ 10=.pointer (some ⟨x10,0,none⟩)∧σ 11=.pointer (some ⟨x11,0,none⟩)∧I0 n0  m) N (fun n0=>(lq7_1111100 R x3 x8 x9 x10 x11 I0 E0_0 n0)) ⟨h3,h8,h9,h10,h11,(by exact h_0)⟩ ?_ ?_ ?_
  · rintro n0 σ m ⟨kk0,kk1,kk2,kk3,kk4,n',hlt,hI⟩; exact ⟨n',hlt,kk0,kk1,kk2,kk3,kk4,hI⟩
  · intro n0 e σ m hne h
    cases e with
    | normal=>exact absurd rfl hne
    | ret=>exact h
    | exit id =>
      by_cases e0:id=0
      · subst e0
        obtain ⟨kk0,kk1,kk2,kk3,kk4,hE⟩:=h
        have es:(upd (upd (upd (upd (upd σ 3 (.int .i64 x3)) 8 (pt_ x8)) 9 (.pointer x9)) 10 (pt_ x10)) 11 (pt_ x11))=σ:=by rw [upd_id kk0,upd_id kk1,upd_id kk2,upd_id kk3,upd_id kk4]
        exact cast (congrArg (fun s=>(blockS 0 (thenS (fun σ m=>vcS Tryz.prog w0 qs7 (sub c7 [1,1,1,1,1,1]) σ m (retQ Tryz.prog Tryz.f7 R)) (retQ Tryz.prog Tryz.f7 R))) (.exit 0) s m) es) (cast (by kernel_rfl) (h_e0 σ  m hE))
      · replace h:=(if_neg e0:(if id=0 then _ else _)=_).mp h
        exact False.elim h
    | _=>exact False.elim h
  · rintro n0 σ m ⟨kk0,kk1,kk2,kk3,kk4,hI⟩
    have es:(upd (upd (upd (upd (upd σ 3 (.int .i64 x3)) 8 (pt_ x8)) 9 (.pointer x9)) 10 (pt_ x10)) 11 (pt_ x11))=σ:=by rw [upd_id kk0,upd_id kk1,upd_id kk2,upd_id kk3,upd_id kk4]
    exact cast (congrArg (fun s=>vcS Tryz.prog w0 qs7 (sub c7 [1,1,1,1,1,0,0,0]) s m (lq7_1111100 R x3 x8 x9 x10 x11 I0 E0_0 n0)) es) (cast (by kernel_rfl) (h_s n0 σ  m hI))
theorem vr7_1111110 (w0:World) (m:AM) (σ:Sg) (R:Value→AM→Prop)  (x8:Nat) (x9:Option Addr) (x10:Nat) (x11:Nat) (K:AM→Prop) (h8:σ 8=.pointer (some ⟨x8,0,none⟩)) (h9:σ 9=.pointer x9) (h10:σ 10=.pointer (some ⟨x10,0,none⟩)) (h11:σ 11=.pointer (some ⟨x11,0,none⟩))
 (h_t : 
 (∃ (A47:Option Addr) (n48 c49:Nat),m.cell ⟨x10,36,none⟩=some (.slice A47 n48 c49) ∧ 
 CallsA Tryz.prog w0 21 #[.pointer x9] m fun r53 m54 =>
 ∃ (A50:Option Addr) (n51 c52:Nat),r53=.slice A50 n51 c52∧StC w0.heap.size m54 ⟨x11,2,none⟩ (.slice A47 n48 c49) fun m55 =>
 StC w0.heap.size m55 ⟨x11,3,none⟩ (.slice A50 n51 c52) fun m56 =>
 true=true∧(.pointer (some ⟨x8,0,none⟩):Value)=.pointer (some ⟨x8,0,none⟩)∧(.pointer (some ⟨x11,0,none⟩):Value)=.pointer (some ⟨x11,0,none⟩)∧K  m56) ∧
 (CallsA Tryz.prog w0 21 #[.pointer x9] m fun r60 m61 =>
 ∃ (A57:Option Addr) (n58 c59:Nat),r60=.slice A57 n58 c59∧∃ (A62:Option Addr) (n63 c64:Nat),m61.cell ⟨x10,36,none⟩=some (.slice A62 n63 c64) ∧ 
 StC w0.heap.size m61 ⟨x11,2,none⟩ (.slice A62 n63 c64) fun m65 =>
 StC w0.heap.size m65 ⟨x11,3,none⟩ (.slice A57 n58 c59) fun m66 =>
 true=true∧(.pointer (some ⟨x8,0,none⟩):Value)=.pointer (some ⟨x8,0,none⟩)∧(.pointer (some ⟨x11,0,none⟩):Value)=.pointer (some ⟨x11,0,none⟩)∧K  m66))
 (h_k:∀ (σ:Sg)  (m:AM),K  m→(
 LI_ m x11 0 fun i67=>LI_ m x11 1 fun i68=>∃ (A69:Option Addr) (n70 c71:Nat),m.cell ⟨x11,2,none⟩=some (.slice A69 n70 c71)∧∃ (A72:Option Addr) (n73 c74:Nat),m.cell ⟨x11,3,none⟩=some (.slice A72 n73 c74) ∧ 
 SI_ w0.heap.size m x8 0 i67 fun m75 =>
 SI_ w0.heap.size m75 x8 1 i68 fun m76 =>
 StC w0.heap.size m76 ⟨x8,2,none⟩ (.slice A69 n70 c71) fun m77 =>
 StC w0.heap.size m77 ⟨x8,3,none⟩ (.slice A72 n73 c74) fun m78 =>
 LI_ m78 x8 0 fun i79=>LI_ m78 x8 1 fun i80=>∃ (A81:Option Addr) (n82 c83:Nat),m78.cell ⟨x8,2,none⟩=some (.slice A81 n82 c83)∧∃ (A84:Option Addr) (n85 c86:Nat),m78.cell ⟨x8,3,none⟩=some (.slice A84 n85 c86)∧RetP R (.agg #[.int .i64 i79,.int .i64 i80,.slice A81 n82 c83,.slice A84 n85 c86]) m78)) :
 vcS Tryz.prog w0 qs7 (sub c7 [1,1,1,1,1,1,0]) σ m (thenS (fun σ m=>vcS Tryz.prog w0 qs7 (sub c7 [1,1,1,1,1,1,1]) σ m (retQ Tryz.prog Tryz.f7 R)) (retQ Tryz.prog Tryz.f7 R)):=by
  have es0:(upd (upd (upd (upd σ 8 (pt_ x8)) 9 (.pointer x9)) 10 (pt_ x10)) 11 (pt_ x11))=σ:=by rw [upd_id h8,upd_id h9,upd_id h10,upd_id h11]
  refine vcS_cut (Q0:=(fun σ m=>σ 8=.pointer (some ⟨x8,0,none⟩)∧σ 11=.pointer (some ⟨x11,0,none⟩)∧K  m)) (by kernel_rfl) (cast (congrArg (fun s=>trC Tryz.prog w0 qs7 (sub c7 [1,1,1,1,1,1,0]) s m (fun σ m=>σ 8=.pointer (some ⟨x8,0,none⟩)∧σ 11=.pointer (some ⟨x11,0,none⟩)∧K  m)) es0) (cast (by kernel_rfl) h_t)) ?_
  rintro σ m ⟨kk0,kk1,hK⟩
  have es:(upd (upd σ 8 (pt_ x8)) 11 (pt_ x11))=σ:=by rw [upd_id kk0,upd_id kk1]
  exact cast (congrArg (fun s=>(thenS (fun σ m=>vcS Tryz.prog w0 qs7 (sub c7 [1,1,1,1,1,1,1]) σ m (retQ Tryz.prog Tryz.f7 R)) (retQ Tryz.prog Tryz.f7 R)) .normal s m) es) (cast (by kernel_rfl) (h_k σ  m hK))
end Go.Proofs.YtkfemiloehkmhaaGreat.V

