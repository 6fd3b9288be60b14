/- YtgjamnhjlaohaaaGreatDoor: a text of our own, by an AI agent -/
import Derived.Test.YtgjamnhjlaohaaaGreatDoorP2T
import Derived.Test.YtgjamnhjlaohaaaGreatDoorProg
import Derived.RangeFuncBox
import Derived.RangeFuncWrites
import Derived.RangeFuncLeaves
import Derived.RangeFuncCalls
import Derived.Shelf.Abstract
import Derived.WalkKit
import Derived.OwnWalkIn
import Derived.TacticsInMore
import Derived.RegionIn
import Derived.Shelf.RegionOpen
import Derived.LoopNIn
import Derived.LoopIn
import Derived.RangeFuncNested
import Derived.TacticsIn
import Derived.OrdersIn
import Derived.Maps.AppendAt
import Derived.Shelf.Sort.Plain
import Derived.Shelf.Slices.In.SortNone
import Derived.Sort.OwnSortedInts
set_option maxRecDepth 100000
set_option maxHeartbeats 400000
set_option linter.unusedSectionVars false
set_option linter.unusedVariables false
set_option linter.unusedSimpArgs false
namespace Go.Proofs.YtgjamnhjlaohaaaGreatDoor.V
open Go Go.Alog Go.Proofs.YtgjamnhjlaohaaaGreatDoor.T
def qs142:Nat->List (Nat × Nat):=fun i=>match i with | 1000008=>[(0,0)] | _=>[]
noncomputable def c142:Code:=bodyOf Tryz.f142
theorem vk142_0 (w0:World) (m:AM) (σ:Sg) (R:Value->AM->Prop) (Q:Exit->Sg->AM->Prop) (x1:ByteArray) (x2_0:Int) (x2_1:Int) (x2_2:Int) (x2_3:Bool) (h1:σ 1=.string x1) (h2:σ 2=.agg #[.int .i64 x2_0,.int .i64 x2_1,.int .i64 x2_2,.bool x2_3]) (h :
 ∀ b1:Nat,w0.heap.size<=b1->m b1=none->let m2:=AM.upd m b1 (.cells #[.string x1] 9);
 ∀ b3:Nat,w0.heap.size<=b3->m2 b3=none->let m4:=AM.upd m2 b3 (.cells #[.int .i64 x2_0,.int .i64 x2_1,.int .i64 x2_2,.bool x2_3] 128);
 Q .normal (upd (upd (upd (upd σ 1 (.string x1)) 2 (.agg #[.int .i64 x2_0,.int .i64 x2_1,.int .i64 x2_2,.bool x2_3])) 4 (pt_ b1)) 5 (pt_ b3)) m4) :
 vcS Tryz.prog w0 qs142 (sub V.c142 [0]) σ m Q:=by
  have es0:(upd (upd σ 1 (.string x1)) 2 (.agg #[.int .i64 x2_0,.int .i64 x2_1,.int .i64 x2_2,.bool x2_3]))=σ:=by rw [upd_id h1,upd_id h2]
  exact cast (congrArg (fun s=>vcS Tryz.prog w0 qs142 (sub V.c142 [0]) s m Q) es0) (cast (by kernel_rfl) h)
theorem vk142_10 (w0:World) (m:AM) (σ:Sg) (R:Value->AM->Prop) (Q:Exit->Sg->AM->Prop)   (h :
 ∀ b5:Nat,w0.heap.size<=b5->m b5=none->let m6:=AM.upd m b5 (.cells #[.slice none 0 0] 22);
 Q .normal (upd σ 6 (pt_ b5)) m6) :
 vcS Tryz.prog w0 qs142 (sub V.c142 [1,0]) σ m Q:=by
  have es0:σ=σ:=by rfl
  exact cast (congrArg (fun s=>vcS Tryz.prog w0 qs142 (sub V.c142 [1,0]) s m Q) es0) (cast (by kernel_rfl) h)
theorem vk142_110 (w0:World) (m:AM) (σ:Sg) (R:Value->AM->Prop) (Q:Exit->Sg->AM->Prop)   (h :
 ∀ b7:Nat,w0.heap.size<=b7->m b7=none->let m8:=AM.upd m b7 (.cells #[.slice none 0 0] 215);
 Q .normal (upd σ 7 (pt_ b7)) m8) :
 vcS Tryz.prog w0 qs142 (sub V.c142 [1,1,0]) σ m Q:=by
  have es0:σ=σ:=by rfl
  exact cast (congrArg (fun s=>vcS Tryz.prog w0 qs142 (sub V.c142 [1,1,0]) s m Q) es0) (cast (by kernel_rfl) h)
theorem vk142_11100 (w0:World) (m:AM) (σ:Sg) (R:Value->AM->Prop) (Q:Exit->Sg->AM->Prop) (x0:Nat) (h0:σ 0=.pointer (some ⟨x0,0,none⟩)) (h :
 CallsA Tryz.prog w0 172 #[.pointer (some ⟨x0,5,none⟩)] m fun r10 m11 =>
 ∃ v9:Value,r10=v9/\Q .normal (upd (upd (upd (upd (upd σ 0 (pt_ x0)) 12 (pt_ x0)) 13 (pt_ x0)) 14 (.pointer (some ⟨x0,5,none⟩))) 15 (v9)) m11) :
 vcS Tryz.prog w0 qs142 (sub V.c142 [1,1,1,0,0]) σ m Q:=by
  have es0:(upd σ 0 (pt_ x0))=σ:=by rw [upd_id h0]
  exact cast (congrArg (fun s=>vcS Tryz.prog w0 qs142 (sub V.c142 [1,1,1,0,0]) s m Q) es0) (cast (by kernel_rfl) h)
theorem vk142_1110100 (w0:World) (m:AM) (σ:Sg) (R:Value->AM->Prop) (Q:Exit->Sg->AM->Prop) (x16:ByteArray) (x17_0:Int) (x17_1:Int) (x17_2:Int) (x17_3:Bool) (h16:σ 16=.string x16) (h17:σ 17=.agg #[.int .i64 x17_0,.int .i64 x17_1,.int .i64 x17_2,.bool x17_3]) (h :
 ∀ b12:Nat,w0.heap.size<=b12->m b12=none->let m13:=AM.upd m b12 (.cells #[.int .i64 0,.int .i64 0,.int .i64 0,.bool false] 128);
 SI_ w0.heap.size m13 b12 0 x17_0 fun m14 =>
 SI_ w0.heap.size m14 b12 1 x17_1 fun m15 =>
 SI_ w0.heap.size m15 b12 2 x17_2 fun m16 =>
 StC w0.heap.size m16 ⟨b12,3,none⟩ (.bool x17_3) fun m17 =>
 Q .normal (upd (upd (upd (upd σ 16 (.string x16)) 17 (.agg #[.int .i64 x17_0,.int .i64 x17_1,.int .i64 x17_2,.bool x17_3])) 8 (.string x16)) 9 (pt_ b12)) m17) :
 vcS Tryz.prog w0 qs142 (sub V.c142 [1,1,1,0,1,0,0]) σ m Q:=by
  have es0:(upd (upd σ 16 (.string x16)) 17 (.agg #[.int .i64 x17_0,.int .i64 x17_1,.int .i64 x17_2,.bool x17_3]))=σ:=by rw [upd_id h16,upd_id h17]
  exact cast (congrArg (fun s=>vcS Tryz.prog w0 qs142 (sub V.c142 [1,1,1,0,1,0,0]) s m Q) es0) (cast (by kernel_rfl) h)
theorem vk142_1110101 (w0:World) (m:AM) (σ:Sg) (R:Value->AM->Prop) (Q:Exit->Sg->AM->Prop) (x4:Nat) (x5:Nat) (x6:Nat) (x7:Nat) (x8:ByteArray) (x9:Nat) (h4:σ 4=.pointer (some ⟨x4,0,none⟩)) (h5:σ 5=.pointer (some ⟨x5,0,none⟩)) (h6:σ 6=.pointer (some ⟨x6,0,none⟩)) (h7:σ 7=.pointer (some ⟨x7,0,none⟩)) (h8:σ 8=.string x8) (h9:σ 9=.pointer (some ⟨x9,0,none⟩)) (h :
 ∃ s18:ByteArray,m.cell ⟨x4,0,none⟩=some (.string s18) /\ 
 (bcase ((x8).toList == (s18).toList) (
 LI_ m x5 0 fun i19=>LI_ m x5 1 fun i20=>LI_ m x5 2 fun i21=>LB_ m x5 3 fun t22 => 
 SI_ w0.heap.size m x9 0 i19 fun m23 =>
 SI_ w0.heap.size m23 x9 1 i20 fun m24 =>
 SI_ w0.heap.size m24 x9 2 i21 fun m25 =>
 StC w0.heap.size m25 ⟨x9,3,none⟩ (.bool t22) fun m26 =>
 vcS Tryz.prog w0 qs142 (sub V.c142 [1,1,1,0,1,0,1,0,1]) (upd (upd (upd (upd (upd (upd (upd (upd (upd (upd σ 4 (pt_ x4)) 5 (pt_ x5)) 6 (pt_ x6)) 7 (pt_ x7)) 8 (.string x8)) 9 (pt_ x9)) 18 (.string x8)) 19 (.string s18)) 20 (.bool ((x8).toList == (s18).toList))) 21 (.agg #[.int .i64 i19,.int .i64 i20,.int .i64 i21,.bool t22])) m26 (blockS 1 Q)) (
 vcS Tryz.prog w0 qs142 (sub V.c142 [1,1,1,0,1,0,1,0,1]) (upd (upd (upd (upd (upd (upd (upd (upd (upd σ 4 (pt_ x4)) 5 (pt_ x5)) 6 (pt_ x6)) 7 (pt_ x7)) 8 (.string x8)) 9 (pt_ x9)) 18 (.string x8)) 19 (.string s18)) 20 (.bool ((x8).toList == (s18).toList))) m (blockS 1 Q)))) :
 vcS Tryz.prog w0 qs142 (sub V.c142 [1,1,1,0,1,0,1]) σ m Q:=by
  have es0:(upd (upd (upd (upd (upd (upd σ 4 (pt_ x4)) 5 (pt_ x5)) 6 (pt_ x6)) 7 (pt_ x7)) 8 (.string x8)) 9 (pt_ x9))=σ:=by rw [upd_id h4,upd_id h5,upd_id h6,upd_id h7,upd_id h8,upd_id h9]
  exact cast (congrArg (fun s=>vcS Tryz.prog w0 qs142 (sub V.c142 [1,1,1,0,1,0,1]) s m Q) es0) (cast (by kernel_rfl) h)
theorem vk142_1111 (w0:World) (m:AM) (σ:Sg) (R:Value->AM->Prop)  (x0:Nat) (x6:Nat) (x7:Nat) (h0:σ 0=.pointer (some ⟨x0,0,none⟩)) (h6:σ 6=.pointer (some ⟨x6,0,none⟩)) (h7:σ 7=.pointer (some ⟨x7,0,none⟩)) (h :
 CallsA Tryz.prog w0 149 #[.pointer (some ⟨x0,5,none⟩)] m fun r28 m29 =>
 ∃ t27:Bool,r28=.bool t27/\CallsA Tryz.prog w0 49 #[.pointer (some ⟨x0,5,none⟩)] m29 fun r30 m31 =>
 r30=.tuple #[]/\∃ (A32:Option Addr) (n33 c34:Nat),m31.cell ⟨x6,0,none⟩=some (.slice A32 n33 c34) /\ 
 vcS Tryz.prog w0 qs142 (sub V.c142 [1,1,1,1,1,1,1,0]) (upd (upd (upd (upd (upd (upd (upd (upd (upd (upd (upd (upd (upd (upd σ 0 (pt_ x0)) 6 (pt_ x6)) 7 (pt_ x7)) 30 (pt_ x0)) 31 (pt_ x0)) 32 (.pointer (some ⟨x0,5,none⟩))) 33 (.bool t27)) 34 (pt_ x0)) 35 (pt_ x0)) 36 (.pointer (some ⟨x0,5,none⟩))) 37 (.tuple #[])) 38 (.slice A32 n33 c34)) 39 (.int .i64 ((n33:Nat):Int))) 40 (.int .i64 0)) m31 (blockS 2 (retQ Tryz.prog Tryz.f142 R))) :
 vcS Tryz.prog w0 qs142 (sub V.c142 [1,1,1,1]) σ m (retQ Tryz.prog Tryz.f142 R):=by
  have es0:(upd (upd (upd σ 0 (pt_ x0)) 6 (pt_ x6)) 7 (pt_ x7))=σ:=by rw [upd_id h0,upd_id h6,upd_id h7]
  exact cast (congrArg (fun s=>vcS Tryz.prog w0 qs142 (sub V.c142 [1,1,1,1]) s m (retQ Tryz.prog Tryz.f142 R)) es0) (cast (by kernel_rfl) h)
def lq142_11111110 (R:Value->AM->Prop) (x0:Nat) (x7:Nat) (x38:Option Addr) (x38n x38c:Nat) (x39:Int) (I0:Nat->Int->AM->Prop) (E0_2:AM->Prop) (n0:Nat):Exit->Sg->AM->Prop
 | .normal,σ,m=>σ 0=.pointer (some ⟨x0,0,none⟩)/\σ 7=.pointer (some ⟨x7,0,none⟩)/\σ 38=.slice x38 x38n x38c/\σ 39=.int .i64 x39/\okI .i64 (σ 40)=true/\∃ n':Nat,n'<n0/\I0 n' (vI (σ 40)) m
 | .exit id,σ,m=>if id=2 then σ 0=.pointer (some ⟨x0,0,none⟩)/\σ 7=.pointer (some ⟨x7,0,none⟩)/\σ 38=.slice x38 x38n x38c/\σ 39=.int .i64 x39/\E0_2  m else False
 | .ret,σ,m=>retQ Tryz.prog Tryz.f142 R .ret σ m
 | _,_,_=>False
theorem vl142_11111110 (w0:World) (m:AM) (σ:Sg) (R:Value->AM->Prop)  (x0:Nat) (x7:Nat) (x38:Option Addr) (x38n x38c:Nat) (x39:Int) (x40:Int) (I0:Nat->Int->AM->Prop) (E0_2:AM->Prop) (N:Nat) (h0:σ 0=.pointer (some ⟨x0,0,none⟩)) (h7:σ 7=.pointer (some ⟨x7,0,none⟩)) (h38:σ 38=.slice x38 x38n x38c) (h39:σ 39=.int .i64 x39) (h40:σ 40=.int .i64 x40)
 (h_0:I0 N x40 m)
 (h_s:∀ (n0:Nat) (σ:Sg) (x40:Int) (m:AM),I0 n0 x40 m->(
 KI_/\(bcase (decide ((x40:Int)<x39)) (
 ((0:Int)<=x40/\x40<((x38n:Nat):Int))/\nilO x38 fun a35 =>
 ∃ s36:ByteArray,m.cell (a35.add ((x40:Int).toNat*1))=some (.string s36) /\ 
 ∃ (A37:Option Addr) (n38 c39:Nat),m.cell ⟨x7,0,none⟩=some (.slice A37 n38 c39) /\ 
 ((0:Int)<=x40/\x40<((n38:Nat):Int))/\nilO A37 fun a40 =>
 LA_ m (a40.add ((x40:Int).toNat*4)) fun i41=>∃ i42:Int,m.cell ((a40.add ((x40:Int).toNat*4)).add 1)=some (.int .i64 i42)/\∃ i43:Int,m.cell ((a40.add ((x40:Int).toNat*4)).add 2)=some (.int .i64 i43)/\∃ t44:Bool,m.cell ((a40.add ((x40:Int).toNat*4)).add 3)=some (.bool t44) /\ 
 CallsA Tryz.prog w0 171 #[.pointer (some ⟨x0,5,none⟩),.string s36,.agg #[.int .i64 i41,.int .i64 i42,.int .i64 i43,.bool t44]] m fun r46 m47 =>
 ∃ t45:Bool,r46=.bool t45/\KI_/\(.pointer (some ⟨x0,0,none⟩):Value)=.pointer (some ⟨x0,0,none⟩)/\(.pointer (some ⟨x7,0,none⟩):Value)=.pointer (some ⟨x7,0,none⟩)/\(.slice x38 x38n x38c:Value)=.slice x38 x38n x38c/\(.int .i64 x39:Value)=.int .i64 x39/\true=true/\∃ n':Nat,n'<n0/\I0 n' (IntKind.wrap .i64 (x40+1)) m47) (
 (.pointer (some ⟨x0,0,none⟩):Value)=.pointer (some ⟨x0,0,none⟩)/\(.pointer (some ⟨x7,0,none⟩):Value)=.pointer (some ⟨x7,0,none⟩)/\(.slice x38 x38n x38c:Value)=.slice x38 x38n x38c/\(.int .i64 x39:Value)=.int .i64 x39/\E0_2  m))))
 (h_e2:∀ (σ:Sg)  (m:AM),E0_2  m->(
 RetP R (.tuple #[]) m)) :
 vcS Tryz.prog w0 qs142 (sub V.c142 [1,1,1,1,1,1,1,0]) σ m (blockS 2 (retQ Tryz.prog Tryz.f142 R)):=by
  rw [show sub V.c142 [1,1,1,1,1,1,1,0]=.loop (sub V.c142 [1,1,1,1,1,1,1,0,0]) from by kernel_rfl]
  refine loopQ (fun n0 σ m=>σ 0=.pointer (some ⟨x0,0,none⟩)/\σ 7=.pointer (some ⟨x7,0,none⟩)/\σ 38=.slice x38 x38n x38c/\σ 39=.int .i64 x39/\okI .i64 (σ 40)=true/\I0 n0 (vI (σ 40)) m) N (fun n0=>(lq142_11111110 R x0 x7 x38 x38n x38c x39 I0 E0_2 n0)) ⟨h0,h7,h38,h39,(by rw [h40]; rfl),(by rw [h40]; exact h_0)⟩ ?_ ?_ ?_
  . rintro n0 σ m ⟨kk0,kk1,kk2,kk3,kk4,n',hlt,hI⟩; exact ⟨n',hlt,kk0,kk1,kk2,kk3,kk4,hI⟩
  . intro n0 e σ m hne h
    cases e with
    | normal=>exact absurd rfl hne
    | ret=>exact h
    | exit id =>
      by_cases e2:id=2
      . subst e2
        obtain ⟨kk0,kk1,kk2,kk3,hE⟩:=h
        have es:(upd (upd (upd (upd σ 0 (pt_ x0)) 7 (pt_ x7)) 38 (.slice x38 x38n x38c)) 39 (.int .i64 x39))=σ:=by rw [upd_id kk0,upd_id kk1,upd_id kk2,upd_id kk3]
        exact cast (congrArg (fun s=>(blockS 2 (retQ Tryz.prog Tryz.f142 R)) (.exit 2) s m) es) (cast (by kernel_rfl) (h_e2 σ  m hE))
      . replace h:=(if_neg e2:(if id=2 then _ else _)=_).mp h
        exact False.elim h
    | _=>exact False.elim h
  . rintro n0 σ m ⟨kk0,kk1,kk2,kk3,kk4,hI⟩
    have es:(upd (upd (upd (upd (upd σ 0 (pt_ x0)) 7 (pt_ x7)) 38 (.slice x38 x38n x38c)) 39 (.int .i64 x39)) 40 (.int .i64 (vI (σ 40))))=σ:=by rw [upd_id kk0,upd_id kk1,upd_id kk2,upd_id kk3,upd_id (ok_int kk4)]
    exact cast (congrArg (fun s=>vcS Tryz.prog w0 qs142 (sub V.c142 [1,1,1,1,1,1,1,0,0]) s m (lq142_11111110 R x0 x7 x38 x38n x38c x39 I0 E0_2 n0)) es) (cast (by kernel_rfl) (h_s n0 σ (vI (σ 40)) m hI))
theorem vr142_111010101 (w0:World) (m:AM) (σ:Sg) (R:Value->AM->Prop) (Q:Exit->Sg->AM->Prop) (x6:Nat) (x7:Nat) (x8:ByteArray) (x9:Nat) (K:AM->Prop) (h6:σ 6=.pointer (some ⟨x6,0,none⟩)) (h7:σ 7=.pointer (some ⟨x7,0,none⟩)) (h8:σ 8=.string x8) (h9:σ 9=.pointer (some ⟨x9,0,none⟩))
 (h_t : 
 ∃ (A48:Option Addr) (n49 c50:Nat),m.cell ⟨x6,0,none⟩=some (.slice A48 n49 c50) /\ 
 (true=true/\∀ b51:Nat,w0.heap.size<=b51->m b51=none->let m52:=AM.upd m b51 (.cells #[.string x8] 9);
 (awp Tryz.prog w0.heap.size (Builtin.append_ #[22,22] 22 #[.slice A48 n49 c50,.slice (some ⟨b51,0,none⟩) 1 1]) m52 fun v53 m54 =>
 ∃ (A55:Option Addr) (n56 c57:Nat),v53=.slice A55 n56 c57/\∃ (A58:Option Addr) (n59 c60:Nat),m54.cell ⟨x7,0,none⟩=some (.slice A58 n59 c60) /\ 
 LI_ m54 x9 0 fun i61=>LI_ m54 x9 1 fun i62=>LI_ m54 x9 2 fun i63=>LB_ m54 x9 3 fun t64 => 
 true=true/\∀ b65:Nat,w0.heap.size<=b65->m54 b65=none->let m66:=AM.upd m54 b65 (.cells #[.int .i64 i61,.int .i64 i62,.int .i64 i63,.bool t64] 128);
 awp Tryz.prog w0.heap.size (Builtin.append_ #[215,215] 215 #[.slice A58 n59 c60,.slice (some ⟨b65,0,none⟩) 1 1]) m66 fun v67 m68 =>
 ∃ (A69:Option Addr) (n70 c71:Nat),v67=.slice A69 n70 c71/\StC w0.heap.size m68 ⟨x6,0,none⟩ (.slice A55 n56 c57) fun m72 =>
 StC w0.heap.size m72 ⟨x7,0,none⟩ (.slice A69 n70 c71) fun m73 =>
 true=true/\K  m73) /\
 (∃ (A74:Option Addr) (n75 c76:Nat),m52.cell ⟨x7,0,none⟩=some (.slice A74 n75 c76) /\ 
 (awp Tryz.prog w0.heap.size (Builtin.append_ #[22,22] 22 #[.slice A48 n49 c50,.slice (some ⟨b51,0,none⟩) 1 1]) m52 fun v77 m78 =>
 ∃ (A79:Option Addr) (n80 c81:Nat),v77=.slice A79 n80 c81/\LI_ m78 x9 0 fun i82=>LI_ m78 x9 1 fun i83=>LI_ m78 x9 2 fun i84=>LB_ m78 x9 3 fun t85 => 
 true=true/\∀ b86:Nat,w0.heap.size<=b86->m78 b86=none->let m87:=AM.upd m78 b86 (.cells #[.int .i64 i82,.int .i64 i83,.int .i64 i84,.bool t85] 128);
 awp Tryz.prog w0.heap.size (Builtin.append_ #[215,215] 215 #[.slice A74 n75 c76,.slice (some ⟨b86,0,none⟩) 1 1]) m87 fun v88 m89 =>
 ∃ (A90:Option Addr) (n91 c92:Nat),v88=.slice A90 n91 c92/\StC w0.heap.size m89 ⟨x6,0,none⟩ (.slice A79 n80 c81) fun m93 =>
 StC w0.heap.size m93 ⟨x7,0,none⟩ (.slice A90 n91 c92) fun m94 =>
 true=true/\K  m94) /\
 (LI_ m52 x9 0 fun i95=>LI_ m52 x9 1 fun i96=>LI_ m52 x9 2 fun i97=>LB_ m52 x9 3 fun t98 => 
 (awp Tryz.prog w0.heap.size (Builtin.append_ #[22,22] 22 #[.slice A48 n49 c50,.slice (some ⟨b51,0,none⟩) 1 1]) m52 fun v99 m100 =>
 ∃ (A101:Option Addr) (n102 c103:Nat),v99=.slice A101 n102 c103/\true=true/\∀ b104:Nat,w0.heap.size<=b104->m100 b104=none->let m105:=AM.upd m100 b104 (.cells #[.int .i64 i95,.int .i64 i96,.int .i64 i97,.bool t98] 128);
 awp Tryz.prog w0.heap.size (Builtin.append_ #[215,215] 215 #[.slice A74 n75 c76,.slice (some ⟨b104,0,none⟩) 1 1]) m105 fun v106 m107 =>
 ∃ (A108:Option Addr) (n109 c110:Nat),v106=.slice A108 n109 c110/\StC w0.heap.size m107 ⟨x6,0,none⟩ (.slice A101 n102 c103) fun m111 =>
 StC w0.heap.size m111 ⟨x7,0,none⟩ (.slice A108 n109 c110) fun m112 =>
 true=true/\K  m112) /\
 (true=true/\∀ b113:Nat,w0.heap.size<=b113->m52 b113=none->let m114:=AM.upd m52 b113 (.cells #[.int .i64 i95,.int .i64 i96,.int .i64 i97,.bool t98] 128);
 awp Tryz.prog w0.heap.size (Builtin.append_ #[22,22] 22 #[.slice A48 n49 c50,.slice (some ⟨b51,0,none⟩) 1 1]) m114 fun v115 m116 =>
 ∃ (A117:Option Addr) (n118 c119:Nat),v115=.slice A117 n118 c119/\awp Tryz.prog w0.heap.size (Builtin.append_ #[215,215] 215 #[.slice A74 n75 c76,.slice (some ⟨b113,0,none⟩) 1 1]) m116 fun v120 m121 =>
 ∃ (A122:Option Addr) (n123 c124:Nat),v120=.slice A122 n123 c124/\StC w0.heap.size m121 ⟨x6,0,none⟩ (.slice A117 n118 c119) fun m125 =>
 StC w0.heap.size m125 ⟨x7,0,none⟩ (.slice A122 n123 c124) fun m126 =>
 true=true/\K  m126))) /\
 (LI_ m52 x9 0 fun i127=>LI_ m52 x9 1 fun i128=>LI_ m52 x9 2 fun i129=>LB_ m52 x9 3 fun t130 => 
 (awp Tryz.prog w0.heap.size (Builtin.append_ #[22,22] 22 #[.slice A48 n49 c50,.slice (some ⟨b51,0,none⟩) 1 1]) m52 fun v131 m132 =>
 ∃ (A133:Option Addr) (n134 c135:Nat),v131=.slice A133 n134 c135/\∃ (A136:Option Addr) (n137 c138:Nat),m132.cell ⟨x7,0,none⟩=some (.slice A136 n137 c138) /\ 
 true=true/\∀ b139:Nat,w0.heap.size<=b139->m132 b139=none->let m140:=AM.upd m132 b139 (.cells #[.int .i64 i127,.int .i64 i128,.int .i64 i129,.bool t130] 128);
 awp Tryz.prog w0.heap.size (Builtin.append_ #[215,215] 215 #[.slice A136 n137 c138,.slice (some ⟨b139,0,none⟩) 1 1]) m140 fun v141 m142 =>
 ∃ (A143:Option Addr) (n144 c145:Nat),v141=.slice A143 n144 c145/\StC w0.heap.size m142 ⟨x6,0,none⟩ (.slice A133 n134 c135) fun m146 =>
 StC w0.heap.size m146 ⟨x7,0,none⟩ (.slice A143 n144 c145) fun m147 =>
 true=true/\K  m147) /\
 (∃ (A148:Option Addr) (n149 c150:Nat),m52.cell ⟨x7,0,none⟩=some (.slice A148 n149 c150) /\ 
 (awp Tryz.prog w0.heap.size (Builtin.append_ #[22,22] 22 #[.slice A48 n49 c50,.slice (some ⟨b51,0,none⟩) 1 1]) m52 fun v151 m152 =>
 ∃ (A153:Option Addr) (n154 c155:Nat),v151=.slice A153 n154 c155/\true=true/\∀ b156:Nat,w0.heap.size<=b156->m152 b156=none->let m157:=AM.upd m152 b156 (.cells #[.int .i64 i127,.int .i64 i128,.int .i64 i129,.bool t130] 128);
 awp Tryz.prog w0.heap.size (Builtin.append_ #[215,215] 215 #[.slice A148 n149 c150,.slice (some ⟨b156,0,none⟩) 1 1]) m157 fun v158 m159 =>
 ∃ (A160:Option Addr) (n161 c162:Nat),v158=.slice A160 n161 c162/\StC w0.heap.size m159 ⟨x6,0,none⟩ (.slice A153 n154 c155) fun m163 =>
 StC w0.heap.size m163 ⟨x7,0,none⟩ (.slice A160 n161 c162) fun m164 =>
 true=true/\K  m164) /\
 (true=true/\∀ b165:Nat,w0.heap.size<=b165->m52 b165=none->let m166:=AM.upd m52 b165 (.cells #[.int .i64 i127,.int .i64 i128,.int .i64 i129,.bool t130] 128);
 awp Tryz.prog w0.heap.size (Builtin.append_ #[22,22] 22 #[.slice A48 n49 c50,.slice (some ⟨b51,0,none⟩) 1 1]) m166 fun v167 m168 =>
 ∃ (A169:Option Addr) (n170 c171:Nat),v167=.slice A169 n170 c171/\awp Tryz.prog w0.heap.size (Builtin.append_ #[215,215] 215 #[.slice A148 n149 c150,.slice (some ⟨b165,0,none⟩) 1 1]) m168 fun v172 m173 =>
 ∃ (A174:Option Addr) (n175 c176:Nat),v172=.slice A174 n175 c176/\StC w0.heap.size m173 ⟨x6,0,none⟩ (.slice A169 n170 c171) fun m177 =>
 StC w0.heap.size m177 ⟨x7,0,none⟩ (.slice A174 n175 c176) fun m178 =>
 true=true/\K  m178)) /\
 (true=true/\∀ b179:Nat,w0.heap.size<=b179->m52 b179=none->let m180:=AM.upd m52 b179 (.cells #[.int .i64 i127,.int .i64 i128,.int .i64 i129,.bool t130] 128);
 (awp Tryz.prog w0.heap.size (Builtin.append_ #[22,22] 22 #[.slice A48 n49 c50,.slice (some ⟨b51,0,none⟩) 1 1]) m180 fun v181 m182 =>
 ∃ (A183:Option Addr) (n184 c185:Nat),v181=.slice A183 n184 c185/\∃ (A186:Option Addr) (n187 c188:Nat),m182.cell ⟨x7,0,none⟩=some (.slice A186 n187 c188) /\ 
 awp Tryz.prog w0.heap.size (Builtin.append_ #[215,215] 215 #[.slice A186 n187 c188,.slice (some ⟨b179,0,none⟩) 1 1]) m182 fun v189 m190 =>
 ∃ (A191:Option Addr) (n192 c193:Nat),v189=.slice A191 n192 c193/\StC w0.heap.size m190 ⟨x6,0,none⟩ (.slice A183 n184 c185) fun m194 =>
 StC w0.heap.size m194 ⟨x7,0,none⟩ (.slice A191 n192 c193) fun m195 =>
 true=true/\K  m195) /\
 (∃ (A196:Option Addr) (n197 c198:Nat),m180.cell ⟨x7,0,none⟩=some (.slice A196 n197 c198) /\ 
 awp Tryz.prog w0.heap.size (Builtin.append_ #[22,22] 22 #[.slice A48 n49 c50,.slice (some ⟨b51,0,none⟩) 1 1]) m180 fun v199 m200 =>
 ∃ (A201:Option Addr) (n202 c203:Nat),v199=.slice A201 n202 c203/\awp Tryz.prog w0.heap.size (Builtin.append_ #[215,215] 215 #[.slice A196 n197 c198,.slice (some ⟨b179,0,none⟩) 1 1]) m200 fun v204 m205 =>
 ∃ (A206:Option Addr) (n207 c208:Nat),v204=.slice A206 n207 c208/\StC w0.heap.size m205 ⟨x6,0,none⟩ (.slice A201 n202 c203) fun m209 =>
 StC w0.heap.size m209 ⟨x7,0,none⟩ (.slice A206 n207 c208) fun m210 =>
 true=true/\K  m210)))) /\
 (∃ (A211:Option Addr) (n212 c213:Nat),m.cell ⟨x7,0,none⟩=some (.slice A211 n212 c213) /\ 
 (true=true/\∀ b214:Nat,w0.heap.size<=b214->m b214=none->let m215:=AM.upd m b214 (.cells #[.string x8] 9);
 (awp Tryz.prog w0.heap.size (Builtin.append_ #[22,22] 22 #[.slice A48 n49 c50,.slice (some ⟨b214,0,none⟩) 1 1]) m215 fun v216 m217 =>
 ∃ (A218:Option Addr) (n219 c220:Nat),v216=.slice A218 n219 c220/\LI_ m217 x9 0 fun i221=>LI_ m217 x9 1 fun i222=>LI_ m217 x9 2 fun i223=>LB_ m217 x9 3 fun t224 => 
 true=true/\∀ b225:Nat,w0.heap.size<=b225->m217 b225=none->let m226:=AM.upd m217 b225 (.cells #[.int .i64 i221,.int .i64 i222,.int .i64 i223,.bool t224] 128);
 awp Tryz.prog w0.heap.size (Builtin.append_ #[215,215] 215 #[.slice A211 n212 c213,.slice (some ⟨b225,0,none⟩) 1 1]) m226 fun v227 m228 =>
 ∃ (A229:Option Addr) (n230 c231:Nat),v227=.slice A229 n230 c231/\StC w0.heap.size m228 ⟨x6,0,none⟩ (.slice A218 n219 c220) fun m232 =>
 StC w0.heap.size m232 ⟨x7,0,none⟩ (.slice A229 n230 c231) fun m233 =>
 true=true/\K  m233) /\
 (LI_ m215 x9 0 fun i234=>LI_ m215 x9 1 fun i235=>LI_ m215 x9 2 fun i236=>LB_ m215 x9 3 fun t237 => 
 (awp Tryz.prog w0.heap.size (Builtin.append_ #[22,22] 22 #[.slice A48 n49 c50,.slice (some ⟨b214,0,none⟩) 1 1]) m215 fun v238 m239 =>
 ∃ (A240:Option Addr) (n241 c242:Nat),v238=.slice A240 n241 c242/\true=true/\∀ b243:Nat,w0.heap.size<=b243->m239 b243=none->let m244:=AM.upd m239 b243 (.cells #[.int .i64 i234,.int .i64 i235,.int .i64 i236,.bool t237] 128);
 awp Tryz.prog w0.heap.size (Builtin.append_ #[215,215] 215 #[.slice A211 n212 c213,.slice (some ⟨b243,0,none⟩) 1 1]) m244 fun v245 m246 =>
 ∃ (A247:Option Addr) (n248 c249:Nat),v245=.slice A247 n248 c249/\StC w0.heap.size m246 ⟨x6,0,none⟩ (.slice A240 n241 c242) fun m250 =>
 StC w0.heap.size m250 ⟨x7,0,none⟩ (.slice A247 n248 c249) fun m251 =>
 true=true/\K  m251) /\
 (true=true/\∀ b252:Nat,w0.heap.size<=b252->m215 b252=none->let m253:=AM.upd m215 b252 (.cells #[.int .i64 i234,.int .i64 i235,.int .i64 i236,.bool t237] 128);
 awp Tryz.prog w0.heap.size (Builtin.append_ #[22,22] 22 #[.slice A48 n49 c50,.slice (some ⟨b214,0,none⟩) 1 1]) m253 fun v254 m255 =>
 ∃ (A256:Option Addr) (n257 c258:Nat),v254=.slice A256 n257 c258/\awp Tryz.prog w0.heap.size (Builtin.append_ #[215,215] 215 #[.slice A211 n212 c213,.slice (some ⟨b252,0,none⟩) 1 1]) m255 fun v259 m260 =>
 ∃ (A261:Option Addr) (n262 c263:Nat),v259=.slice A261 n262 c263/\StC w0.heap.size m260 ⟨x6,0,none⟩ (.slice A256 n257 c258) fun m264 =>
 StC w0.heap.size m264 ⟨x7,0,none⟩ (.slice A261 n262 c263) fun m265 =>
 true=true/\K  m265))) /\
 (LI_ m x9 0 fun i266=>LI_ m x9 1 fun i267=>LI_ m x9 2 fun i268=>LB_ m x9 3 fun t269 => 
 (true=true/\∀ b270:Nat,w0.heap.size<=b270->m b270=none->let m271:=AM.upd m b270 (.cells #[.string x8] 9);
 (awp Tryz.prog w0.heap.size (Builtin.append_ #[22,22] 22 #[.slice A48 n49 c50,.slice (some ⟨b270,0,none⟩) 1 1]) m271 fun v272 m273 =>
 ∃ (A274:Option Addr) (n275 c276:Nat),v272=.slice A274 n275 c276/\true=true/\∀ b277:Nat,w0.heap.size<=b277->m273 b277=none->let m278:=AM.upd m273 b277 (.cells #[.int .i64 i266,.int .i64 i267,.int .i64 i268,.bool t269] 128);
 awp Tryz.prog w0.heap.size (Builtin.append_ #[215,215] 215 #[.slice A211 n212 c213,.slice (some ⟨b277,0,none⟩) 1 1]) m278 fun v279 m280 =>
 ∃ (A281:Option Addr) (n282 c283:Nat),v279=.slice A281 n282 c283/\StC w0.heap.size m280 ⟨x6,0,none⟩ (.slice A274 n275 c276) fun m284 =>
 StC w0.heap.size m284 ⟨x7,0,none⟩ (.slice A281 n282 c283) fun m285 =>
 true=true/\K  m285) /\
 (true=true/\∀ b286:Nat,w0.heap.size<=b286->m271 b286=none->let m287:=AM.upd m271 b286 (.cells #[.int .i64 i266,.int .i64 i267,.int .i64 i268,.bool t269] 128);
 awp Tryz.prog w0.heap.size (Builtin.append_ #[22,22] 22 #[.slice A48 n49 c50,.slice (some ⟨b270,0,none⟩) 1 1]) m287 fun v288 m289 =>
 ∃ (A290:Option Addr) (n291 c292:Nat),v288=.slice A290 n291 c292/\awp Tryz.prog w0.heap.size (Builtin.append_ #[215,215] 215 #[.slice A211 n212 c213,.slice (some ⟨b286,0,none⟩) 1 1]) m289 fun v293 m294 =>
 ∃ (A295:Option Addr) (n296 c297:Nat),v293=.slice A295 n296 c297/\StC w0.heap.size m294 ⟨x6,0,none⟩ (.slice A290 n291 c292) fun m298 =>
 StC w0.heap.size m298 ⟨x7,0,none⟩ (.slice A295 n296 c297) fun m299 =>
 true=true/\K  m299)) /\
 (true=true/\∀ b300:Nat,w0.heap.size<=b300->m b300=none->let m301:=AM.upd m b300 (.cells #[.int .i64 i266,.int .i64 i267,.int .i64 i268,.bool t269] 128);
 true=true/\∀ b302:Nat,w0.heap.size<=b302->m301 b302=none->let m303:=AM.upd m301 b302 (.cells #[.string x8] 9);
 awp Tryz.prog w0.heap.size (Builtin.append_ #[22,22] 22 #[.slice A48 n49 c50,.slice (some ⟨b302,0,none⟩) 1 1]) m303 fun v304 m305 =>
 ∃ (A306:Option Addr) (n307 c308:Nat),v304=.slice A306 n307 c308/\awp Tryz.prog w0.heap.size (Builtin.append_ #[215,215] 215 #[.slice A211 n212 c213,.slice (some ⟨b300,0,none⟩) 1 1]) m305 fun v309 m310 =>
 ∃ (A311:Option Addr) (n312 c313:Nat),v309=.slice A311 n312 c313/\StC w0.heap.size m310 ⟨x6,0,none⟩ (.slice A306 n307 c308) fun m314 =>
 StC w0.heap.size m314 ⟨x7,0,none⟩ (.slice A311 n312 c313) fun m315 =>
 true=true/\K  m315))) /\
 (LI_ m x9 0 fun i316=>LI_ m x9 1 fun i317=>LI_ m x9 2 fun i318=>LB_ m x9 3 fun t319 => 
 (true=true/\∀ b320:Nat,w0.heap.size<=b320->m b320=none->let m321:=AM.upd m b320 (.cells #[.string x8] 9);
 (awp Tryz.prog w0.heap.size (Builtin.append_ #[22,22] 22 #[.slice A48 n49 c50,.slice (some ⟨b320,0,none⟩) 1 1]) m321 fun v322 m323 =>
 ∃ (A324:Option Addr) (n325 c326:Nat),v322=.slice A324 n325 c326/\∃ (A327:Option Addr) (n328 c329:Nat),m323.cell ⟨x7,0,none⟩=some (.slice A327 n328 c329) /\ 
 true=true/\∀ b330:Nat,w0.heap.size<=b330->m323 b330=none->let m331:=AM.upd m323 b330 (.cells #[.int .i64 i316,.int .i64 i317,.int .i64 i318,.bool t319] 128);
 awp Tryz.prog w0.heap.size (Builtin.append_ #[215,215] 215 #[.slice A327 n328 c329,.slice (some ⟨b330,0,none⟩) 1 1]) m331 fun v332 m333 =>
 ∃ (A334:Option Addr) (n335 c336:Nat),v332=.slice A334 n335 c336/\StC w0.heap.size m333 ⟨x6,0,none⟩ (.slice A324 n325 c326) fun m337 =>
 StC w0.heap.size m337 ⟨x7,0,none⟩ (.slice A334 n335 c336) fun m338 =>
 true=true/\K  m338) /\
 (∃ (A339:Option Addr) (n340 c341:Nat),m321.cell ⟨x7,0,none⟩=some (.slice A339 n340 c341) /\ 
 (awp Tryz.prog w0.heap.size (Builtin.append_ #[22,22] 22 #[.slice A48 n49 c50,.slice (some ⟨b320,0,none⟩) 1 1]) m321 fun v342 m343 =>
 ∃ (A344:Option Addr) (n345 c346:Nat),v342=.slice A344 n345 c346/\true=true/\∀ b347:Nat,w0.heap.size<=b347->m343 b347=none->let m348:=AM.upd m343 b347 (.cells #[.int .i64 i316,.int .i64 i317,.int .i64 i318,.bool t319] 128);
 awp Tryz.prog w0.heap.size (Builtin.append_ #[215,215] 215 #[.slice A339 n340 c341,.slice (some ⟨b347,0,none⟩) 1 1]) m348 fun v349 m350 =>
 ∃ (A351:Option Addr) (n352 c353:Nat),v349=.slice A351 n352 c353/\StC w0.heap.size m350 ⟨x6,0,none⟩ (.slice A344 n345 c346) fun m354 =>
 StC w0.heap.size m354 ⟨x7,0,none⟩ (.slice A351 n352 c353) fun m355 =>
 true=true/\K  m355) /\
 (true=true/\∀ b356:Nat,w0.heap.size<=b356->m321 b356=none->let m357:=AM.upd m321 b356 (.cells #[.int .i64 i316,.int .i64 i317,.int .i64 i318,.bool t319] 128);
 awp Tryz.prog w0.heap.size (Builtin.append_ #[22,22] 22 #[.slice A48 n49 c50,.slice (some ⟨b320,0,none⟩) 1 1]) m357 fun v358 m359 =>
 ∃ (A360:Option Addr) (n361 c362:Nat),v358=.slice A360 n361 c362/\awp Tryz.prog w0.heap.size (Builtin.append_ #[215,215] 215 #[.slice A339 n340 c341,.slice (some ⟨b356,0,none⟩) 1 1]) m359 fun v363 m364 =>
 ∃ (A365:Option Addr) (n366 c367:Nat),v363=.slice A365 n366 c367/\StC w0.heap.size m364 ⟨x6,0,none⟩ (.slice A360 n361 c362) fun m368 =>
 StC w0.heap.size m368 ⟨x7,0,none⟩ (.slice A365 n366 c367) fun m369 =>
 true=true/\K  m369)) /\
 (true=true/\∀ b370:Nat,w0.heap.size<=b370->m321 b370=none->let m371:=AM.upd m321 b370 (.cells #[.int .i64 i316,.int .i64 i317,.int .i64 i318,.bool t319] 128);
 (awp Tryz.prog w0.heap.size (Builtin.append_ #[22,22] 22 #[.slice A48 n49 c50,.slice (some ⟨b320,0,none⟩) 1 1]) m371 fun v372 m373 =>
 ∃ (A374:Option Addr) (n375 c376:Nat),v372=.slice A374 n375 c376/\∃ (A377:Option Addr) (n378 c379:Nat),m373.cell ⟨x7,0,none⟩=some (.slice A377 n378 c379) /\ 
 awp Tryz.prog w0.heap.size (Builtin.append_ #[215,215] 215 #[.slice A377 n378 c379,.slice (some ⟨b370,0,none⟩) 1 1]) m373 fun v380 m381 =>
 ∃ (A382:Option Addr) (n383 c384:Nat),v380=.slice A382 n383 c384/\StC w0.heap.size m381 ⟨x6,0,none⟩ (.slice A374 n375 c376) fun m385 =>
 StC w0.heap.size m385 ⟨x7,0,none⟩ (.slice A382 n383 c384) fun m386 =>
 true=true/\K  m386) /\
 (∃ (A387:Option Addr) (n388 c389:Nat),m371.cell ⟨x7,0,none⟩=some (.slice A387 n388 c389) /\ 
 awp Tryz.prog w0.heap.size (Builtin.append_ #[22,22] 22 #[.slice A48 n49 c50,.slice (some ⟨b320,0,none⟩) 1 1]) m371 fun v390 m391 =>
 ∃ (A392:Option Addr) (n393 c394:Nat),v390=.slice A392 n393 c394/\awp Tryz.prog w0.heap.size (Builtin.append_ #[215,215] 215 #[.slice A387 n388 c389,.slice (some ⟨b370,0,none⟩) 1 1]) m391 fun v395 m396 =>
 ∃ (A397:Option Addr) (n398 c399:Nat),v395=.slice A397 n398 c399/\StC w0.heap.size m396 ⟨x6,0,none⟩ (.slice A392 n393 c394) fun m400 =>
 StC w0.heap.size m400 ⟨x7,0,none⟩ (.slice A397 n398 c399) fun m401 =>
 true=true/\K  m401))) /\
 (∃ (A402:Option Addr) (n403 c404:Nat),m.cell ⟨x7,0,none⟩=some (.slice A402 n403 c404) /\ 
 (true=true/\∀ b405:Nat,w0.heap.size<=b405->m b405=none->let m406:=AM.upd m b405 (.cells #[.string x8] 9);
 (awp Tryz.prog w0.heap.size (Builtin.append_ #[22,22] 22 #[.slice A48 n49 c50,.slice (some ⟨b405,0,none⟩) 1 1]) m406 fun v407 m408 =>
 ∃ (A409:Option Addr) (n410 c411:Nat),v407=.slice A409 n410 c411/\true=true/\∀ b412:Nat,w0.heap.size<=b412->m408 b412=none->let m413:=AM.upd m408 b412 (.cells #[.int .i64 i316,.int .i64 i317,.int .i64 i318,.bool t319] 128);
 awp Tryz.prog w0.heap.size (Builtin.append_ #[215,215] 215 #[.slice A402 n403 c404,.slice (some ⟨b412,0,none⟩) 1 1]) m413 fun v414 m415 =>
 ∃ (A416:Option Addr) (n417 c418:Nat),v414=.slice A416 n417 c418/\StC w0.heap.size m415 ⟨x6,0,none⟩ (.slice A409 n410 c411) fun m419 =>
 StC w0.heap.size m419 ⟨x7,0,none⟩ (.slice A416 n417 c418) fun m420 =>
 true=true/\K  m420) /\
 (true=true/\∀ b421:Nat,w0.heap.size<=b421->m406 b421=none->let m422:=AM.upd m406 b421 (.cells #[.int .i64 i316,.int .i64 i317,.int .i64 i318,.bool t319] 128);
 awp Tryz.prog w0.heap.size (Builtin.append_ #[22,22] 22 #[.slice A48 n49 c50,.slice (some ⟨b405,0,none⟩) 1 1]) m422 fun v423 m424 =>
 ∃ (A425:Option Addr) (n426 c427:Nat),v423=.slice A425 n426 c427/\awp Tryz.prog w0.heap.size (Builtin.append_ #[215,215] 215 #[.slice A402 n403 c404,.slice (some ⟨b421,0,none⟩) 1 1]) m424 fun v428 m429 =>
 ∃ (A430:Option Addr) (n431 c432:Nat),v428=.slice A430 n431 c432/\StC w0.heap.size m429 ⟨x6,0,none⟩ (.slice A425 n426 c427) fun m433 =>
 StC w0.heap.size m433 ⟨x7,0,none⟩ (.slice A430 n431 c432) fun m434 =>
 true=true/\K  m434)) /\
 (true=true/\∀ b435:Nat,w0.heap.size<=b435->m b435=none->let m436:=AM.upd m b435 (.cells #[.int .i64 i316,.int .i64 i317,.int .i64 i318,.bool t319] 128);
 true=true/\∀ b437:Nat,w0.heap.size<=b437->m436 b437=none->let m438:=AM.upd m436 b437 (.cells #[.string x8] 9);
 awp Tryz.prog w0.heap.size (Builtin.append_ #[22,22] 22 #[.slice A48 n49 c50,.slice (some ⟨b437,0,none⟩) 1 1]) m438 fun v439 m440 =>
 ∃ (A441:Option Addr) (n442 c443:Nat),v439=.slice A441 n442 c443/\awp Tryz.prog w0.heap.size (Builtin.append_ #[215,215] 215 #[.slice A402 n403 c404,.slice (some ⟨b435,0,none⟩) 1 1]) m440 fun v444 m445 =>
 ∃ (A446:Option Addr) (n447 c448:Nat),v444=.slice A446 n447 c448/\StC w0.heap.size m445 ⟨x6,0,none⟩ (.slice A441 n442 c443) fun m449 =>
 StC w0.heap.size m449 ⟨x7,0,none⟩ (.slice A446 n447 c448) fun m450 =>
 true=true/\K  m450)) /\
 (true=true/\∀ b451:Nat,w0.heap.size<=b451->m b451=none->let m452:=AM.upd m b451 (.cells #[.int .i64 i316,.int .i64 i317,.int .i64 i318,.bool t319] 128);
 (true=true/\∀ b453:Nat,w0.heap.size<=b453->m452 b453=none->let m454:=AM.upd m452 b453 (.cells #[.string x8] 9);
 (awp Tryz.prog w0.heap.size (Builtin.append_ #[22,22] 22 #[.slice A48 n49 c50,.slice (some ⟨b453,0,none⟩) 1 1]) m454 fun v455 m456 =>
 ∃ (A457:Option Addr) (n458 c459:Nat),v455=.slice A457 n458 c459/\∃ (A460:Option Addr) (n461 c462:Nat),m456.cell ⟨x7,0,none⟩=some (.slice A460 n461 c462) /\ 
 awp Tryz.prog w0.heap.size (Builtin.append_ #[215,215] 215 #[.slice A460 n461 c462,.slice (some ⟨b451,0,none⟩) 1 1]) m456 fun v463 m464 =>
 ∃ (A465:Option Addr) (n466 c467:Nat),v463=.slice A465 n466 c467/\StC w0.heap.size m464 ⟨x6,0,none⟩ (.slice A457 n458 c459) fun m468 =>
 StC w0.heap.size m468 ⟨x7,0,none⟩ (.slice A465 n466 c467) fun m469 =>
 true=true/\K  m469) /\
 (∃ (A470:Option Addr) (n471 c472:Nat),m454.cell ⟨x7,0,none⟩=some (.slice A470 n471 c472) /\ 
 awp Tryz.prog w0.heap.size (Builtin.append_ #[22,22] 22 #[.slice A48 n49 c50,.slice (some ⟨b453,0,none⟩) 1 1]) m454 fun v473 m474 =>
 ∃ (A475:Option Addr) (n476 c477:Nat),v473=.slice A475 n476 c477/\awp Tryz.prog w0.heap.size (Builtin.append_ #[215,215] 215 #[.slice A470 n471 c472,.slice (some ⟨b451,0,none⟩) 1 1]) m474 fun v478 m479 =>
 ∃ (A480:Option Addr) (n481 c482:Nat),v478=.slice A480 n481 c482/\StC w0.heap.size m479 ⟨x6,0,none⟩ (.slice A475 n476 c477) fun m483 =>
 StC w0.heap.size m483 ⟨x7,0,none⟩ (.slice A480 n481 c482) fun m484 =>
 true=true/\K  m484)) /\
 (∃ (A485:Option Addr) (n486 c487:Nat),m452.cell ⟨x7,0,none⟩=some (.slice A485 n486 c487) /\ 
 true=true/\∀ b488:Nat,w0.heap.size<=b488->m452 b488=none->let m489:=AM.upd m452 b488 (.cells #[.string x8] 9);
 awp Tryz.prog w0.heap.size (Builtin.append_ #[22,22] 22 #[.slice A48 n49 c50,.slice (some ⟨b488,0,none⟩) 1 1]) m489 fun v490 m491 =>
 ∃ (A492:Option Addr) (n493 c494:Nat),v490=.slice A492 n493 c494/\awp Tryz.prog w0.heap.size (Builtin.append_ #[215,215] 215 #[.slice A485 n486 c487,.slice (some ⟨b451,0,none⟩) 1 1]) m491 fun v495 m496 =>
 ∃ (A497:Option Addr) (n498 c499:Nat),v495=.slice A497 n498 c499/\StC w0.heap.size m496 ⟨x6,0,none⟩ (.slice A492 n493 c494) fun m500 =>
 StC w0.heap.size m500 ⟨x7,0,none⟩ (.slice A497 n498 c499) fun m501 =>
 true=true/\K  m501))))
 (h_k:∀ (σ:Sg)  (m:AM),K  m->(
 Q .normal σ m)) :
 vcS Tryz.prog w0 qs142 (sub V.c142 [1,1,1,0,1,0,1,0,1]) σ m (blockS 1 Q):=by
  have es0:(upd (upd (upd (upd σ 6 (pt_ x6)) 7 (pt_ x7)) 8 (.string x8)) 9 (pt_ x9))=σ:=by rw [upd_id h6,upd_id h7,upd_id h8,upd_id h9]
  refine vcS_cut (Q0:=(fun σ m=>K  m)) (by kernel_rfl) (cast (congrArg (fun s=>trC Tryz.prog w0 qs142 (sub V.c142 [1,1,1,0,1,0,1,0,1]) s m (fun σ m=>K  m)) es0) (cast (by kernel_rfl) h_t)) ?_
  intro σ m hK
  have es:σ=σ:=by rfl
  exact cast (congrArg (fun s=>(blockS 1 Q) .normal s m) es) (cast (by kernel_rfl) (h_k σ  m hK))
def qs197:Nat->List (Nat × Nat):=fun i=>match i with | 1=>[(9,2)] | _=>[]
noncomputable def c197:Code:=bodyOf Tryz.f197
theorem vk197_0 (w0:World) (m:AM) (σ:Sg) (R:Value->AM->Prop) (Q:Exit->Sg->AM->Prop) (x1:Nat) (h1:σ 1=.pointer (some ⟨x1,0,none⟩)) (h :
 ∃ p1:Option Addr,m.cell ⟨x1,0,none⟩=some (.pointer p1) /\ 
 CallsA Tryz.prog w0 196 #[.pointer p1] m fun r3 m4 =>
 ∃ i2:Int,r3=.int .i64 i2/\KI_/\(bcase ((i2:Int) == 0) (
 Q .ret (upd (upd (upd (upd σ 1 (pt_ x1)) 5 (.pointer p1)) 6 (.int .i64 i2)) 7 (.bool ((i2:Int) == 0))) m4) (
 Q .normal (upd (upd (upd (upd σ 1 (pt_ x1)) 5 (.pointer p1)) 6 (.int .i64 i2)) 7 (.bool ((i2:Int) == 0))) m4))) :
 vcS Tryz.prog w0 qs197 (sub V.c197 [0]) σ m Q:=by
  have es0:(upd σ 1 (pt_ x1))=σ:=by rw [upd_id h1]
  exact cast (congrArg (fun s=>vcS Tryz.prog w0 qs197 (sub V.c197 [0]) s m Q) es0) (cast (by kernel_rfl) h)
theorem vk197_10 (w0:World) (m:AM) (σ:Sg) (R:Value->AM->Prop) (Q:Exit->Sg->AM->Prop) (x1:Nat) (h1:σ 1=.pointer (some ⟨x1,0,none⟩)) (h :
 ∃ p5:Option Addr,m.cell ⟨x1,0,none⟩=some (.pointer p5) /\ 
 nilO p5 fun a6 =>
 ∃ (A7:Option Addr) (n8 c9:Nat),m.cell a6=some (.slice A7 n8 c9) /\ 
 ∃ p10:Option Addr,m.cell ⟨x1,0,none⟩=some (.pointer p10) /\ 
 nilO p10 fun a11 =>
 ∃ (A12:Option Addr) (n13 c14:Nat),m.cell (a11.add 1)=some (.slice A12 n13 c14) /\ 
 ∃ p15:Option Addr,m.cell ⟨x1,0,none⟩=some (.pointer p15) /\ 
 ∃ i16:Int,  CallsA Tryz.prog w0 196 #[.pointer p15] m (fun r17 m18=>r17=.int .i64 i16/\m18=m) /\
 KI_/\((0:Int)<=(IntKind.wrap .i64 (i16-1))/\(IntKind.wrap .i64 (i16-1))<((n13:Nat):Int))/\nilO A12 fun a19 =>
 ∃ i20:Int,m.cell (a19.add ((IntKind.wrap .i64 (i16-1):Int).toNat*1))=some (.int .i64 i20) /\ 
 (0:Int)<=i20/\n8<=c9/\((i20:Int).toNat)<=n8 /\
 Q .normal (upd (upd (upd (upd (upd (upd (upd (upd (upd (upd (upd (upd (upd (upd (upd (upd (upd σ 1 (pt_ x1)) 8 (.pointer p5)) 9 (.pointer (some a6))) 10 (.pointer (some a6))) 11 (.slice A7 n8 c9)) 12 (.pointer p10)) 13 (.pointer (some a11))) 14 (.pointer (some (a11.add 1)))) 15 (.slice A12 n13 c14)) 16 (.pointer p15)) 17 (.int .i64 i16)) 18 (.int .i64 (IntKind.wrap .i64 (i16-1)))) 19 (.pointer (some (a19.add ((IntKind.wrap .i64 (i16-1):Int).toNat*1))))) 20 (.int .i64 i20)) 21 (.slice (if c9=((i20:Int).toNat) then A7 else Option.map (fun x=>Addr.add x ((i20:Int).toNat*5)) A7) (n8-((i20:Int).toNat)) (c9-((i20:Int).toNat)))) 22 (.int .i64 ((n8-((i20:Int).toNat):Nat):Int))) 23 (.int .i64 0)) m) :
 vcS Tryz.prog w0 qs197 (sub V.c197 [1,0]) σ m Q:=by
  have es0:(upd σ 1 (pt_ x1))=σ:=by rw [upd_id h1]
  exact cast (congrArg (fun s=>vcS Tryz.prog w0 qs197 (sub V.c197 [1,0]) s m Q) es0) (cast (by kernel_rfl) h)
end Go.Proofs.YtgjamnhjlaohaaaGreatDoor.V
namespace Go.Proofs.YtgjamnhjlaohaaaGreatDoor.S
open Go Go.RowKit Go.Alog Go.Proofs.YtgjamnhjlaohaaaGreatDoor.T Go.Proofs.YtgjamnhjlaohaaaGreatDoor.V
structure RB (base m:AM) (B b:Nat) (T e:TypeId) (sz:Nat) (v:Value) (A:Option Addr) (n c:Nat) (xs:List Value):Prop where
 hB:B<=b
 nb:base b=none
 pb:m b=some (.cells #[v] T (0,0))
 ow:Alog.Own m B e sz A n c xs
 no:∀ k∈obl A,base k=none
section
variable {base m:AM} {B b:Nat} {T e:TypeId} {sz:Nat} {v:Value} {A:Option Addr} {n c:Nat} {xs:List Value}
theorem obl_mem {g off:Nat} {A:Option Addr} (h:A=some ⟨g,off,none⟩):g∈obl A:=by subst h; simp [obl]
theorem RB.away (h:RB base m B b T e sz v A n c xs) {g:Nat} {o:Obj} (hg:m g=none\/∃ c t,m g=some (.cells c t (0,0))/\t≠T/\t≠e):RB base (m.upd g o) B b T e sz v A n c xs:=by
 refine ⟨h.hB,h.nb,?_,?_,h.no⟩
 .have:b≠g:=by
   rintro rfl
   rcases hg with h1 | ⟨c,t,h1,h2,_⟩ <;> rw [h.pb] at h1
   .cases h1
   .injection h1 with h1
    injection h1 with _ h1; exact h2 h1.symm
  rw [upd_get_ne this]; exact h.pb
 .rcases hg with h1 | ⟨c,t,h1,_,h2⟩
  .exact h.ow.upd (h.ow.ne_none h1)
  .exact h.ow.upd (h.ow.ne_type h1 h2)
theorem RB.inm (h:RB base m B b T e sz v A n c xs) {k:Nat} (hk:k∈obl A):m k≠none:=by
 obtain ⟨_,cur,h1⟩:=h.ow.obl_some hk
 rw [h1]; simp
theorem RB.box (h:RB base m B b T e sz v A n c xs) {g:Nat} {o:Obj} (hg:m g=none):RB (base.upd g o) (m.upd g o) B b T e sz v A n c xs:=by
 have k:=h.away (o:=o) (.inl hg)
 refine ⟨k.hB,?_,k.pb,k.ow,fun j hj=>?_⟩
 .rw [upd_get_ne (fun e=>by have:=h.pb; rw [e,hg] at this; cases this)]; exact h.nb
 .rw [upd_get_ne (fun e=>h.inm hj (by rw [e]; exact hg))]; exact h.no j hj
theorem RB.poke (h:RB base m B b T e sz v A n c xs) {g:Nat} {o o':Obj} (hg:base g=some o):RB (base.upd g o') (m.upd g o') B b T e sz v A n c xs:=by
 have e1:b≠g:=fun e=>by have:=h.nb; rw [e,hg] at this; cases this
 have e2:∀ k∈obl A,k≠g:=fun k hk e=>by have:=h.no k hk; rw [e,hg] at this; cases this
 refine ⟨h.hB,by rw [upd_get_ne e1]; exact h.nb,by rw [upd_get_ne e1]; exact h.pb,h.ow.upd fun off e=>e2 g (obl_mem e) rfl,fun k hk=>by rw [upd_get_ne (e2 k hk)]; exact h.no k hk⟩
theorem RB.put (h:RB base m B b T e sz v A n c xs) (ht:T≠e) (v':Value):RB base (m.upd b (.cells #[v'] T)) B b T e sz v' A n c xs :=
 ⟨h.hB,h.nb,upd_get_same,h.ow.upd (h.ow.ne_type h.pb ht),h.no⟩
theorem RB.low {b1:AM} (h:RB base m B b T e sz v A n c xs) (l:b1.le base):RB b1 m B b T e sz v A n c xs :=
 ⟨h.hB,AM.le_none l h.nb,h.pb,h.ow,fun k hk=>AM.le_none l (h.no k hk)⟩
theorem RB.app (h:RB base m B b T e sz v A n c xs) (lm:base.le m) (ht:T≠e) {g:Nat} {cur:Array Value} {n' c':Nat} {ys:List Value} (hor:A=some ⟨g,0,none⟩\/m g=none) (ho:Alog.Own (m.upd g (.cells cur e)) B e sz (some ⟨g,0,none⟩) n' c' ys) :
  base g=none/\RB base (m.upd g (.cells cur e)) B b T e sz v (some ⟨g,0,none⟩) n' c' ys:=by
 have hg:base g=none:=by
  rcases hor with h1 | h1
  .exact h.no g (obl_mem h1)
  .exact AM.le_none lm h1
 refine ⟨hg,h.hB,h.nb,?_,ho,fun k hk=>by simp [obl] at hk; rw [hk]; exact hg⟩
 rw [upd_get_ne]
 .exact h.pb
 .rintro rfl
  rcases hor with h1 | h1
  .exact h.ow.ne_type h.pb ht 0 h1
  .rw [h.pb] at h1; cases h1
end
theorem dom_upd {d:Nat->Prop} {m:AM} (h:∀ k,d k->m k≠none) (g:Nat) (o:Obj):∀ k,d k->(m.upd g o) k≠none:=fun k hk=>by
 by_cases e:k=g
 .subst e; rw [upd_get_same]; simp
 .rw [upd_get_ne e]; exact h k hk
def RS (d:Nat->Prop) (b0 m:AM) (B bl bt bx:Nat) (x:ByteArray) (t:Thg) (vl:Value) (A:Option Addr) (n c:Nat) (xs:List ByteArray) (vt:Value) (A':Option Addr) (n' c':Nat) (ts:List Thg) (p q:Option Nat):Prop :=
 ∃ base:AM,b0.le base/\base.le m/\(∀ k,d k->m k≠none)/\RB base m B bl 22 9 1 vl A n c (xs.map Value.string)/\RB base m B bt 215 128 4 vt A' n' c' (ts.flatMap Thg.cells) /\
  base bx=some (.cells t.cells.toArray 128 (0,0))/\(∀ b,p=some b->base b=some (.cells ([.string x]:List Value).toArray 9 (0,0)))/\(∀ b,q=some b->base b=some (.cells t.cells.toArray 128 (0,0)))
theorem elTh:elOf Tryz.prog 215=some (128,4,32,Thg.cells ⟨0,0,0,false⟩):=by kernel_rfl
section
variable {d:Nat->Prop} {b0 m:AM} {B bl bt bx:Nat} {x:ByteArray} {t:Thg} {vl:Value} {A:Option Addr} {n c:Nat} {xs:List ByteArray} {vt:Value} {A':Option Addr} {n' c':Nat} {ts:List Thg} {p q:Option Nat}
theorem RS.ldL {a:Option Addr} {i j:Nat} (h:RS d b0 m B bl bt bx x t (.slice a i j) A n c xs vt A' n' c' ts p q) {K:Option Addr->Nat->Nat->Prop} (hK:K a i j):∃ (A:Option Addr) (n c:Nat),m.cell ⟨bl,0,none⟩=some (.slice A n c)/\K A n c:=by
 obtain ⟨_,_,_,_,h,_⟩:=h
 exact ⟨_,_,_,cel h.pb rfl,hK⟩
theorem RS.ldT {a:Option Addr} {i j:Nat} (h:RS d b0 m B bl bt bx x t vl A n c xs (.slice a i j) A' n' c' ts p q) {K:Option Addr->Nat->Nat->Prop} (hK:K a i j):∃ (A:Option Addr) (n c:Nat),m.cell ⟨bt,0,none⟩=some (.slice A n c)/\K A n c:=by
 obtain ⟨_,_,_,_,_,h,_⟩:=h
 exact ⟨_,_,_,cel h.pb rfl,hK⟩
theorem RS.ldX (h:RS d b0 m B bl bt bx x t vl A n c xs vt A' n' c' ts p q) {K:Int->Int->Int->Bool->Prop} (hK:K t.kind t.pos t.size t.takes) :
  ∃ i:Int,m.cell ⟨bx,0,none⟩=some (.int .i64 i)/\∃ j:Int,m.cell ⟨bx,1,none⟩=some (.int .i64 j)/\∃ k:Int,m.cell ⟨bx,2,none⟩=some (.int .i64 k)/\∃ u:Bool,m.cell ⟨bx,3,none⟩=some (.bool u)/\K i j k u:=by
 obtain ⟨_,_,l,_,_,_,h,_⟩:=h
 have h:=l _ _ h
 exact ⟨_,cel h rfl,_,cel h rfl,_,cel h rfl,_,cel h rfl,hK⟩
theorem RS.grow1 (h:RS d b0 m B bl bt bx x t vl A n c xs vt A' n' c' ts p q) {g:Nat} {o:Obj} (hg:m g=none):∃ base:AM,b0.le (base.upd g o)/\(base.upd g o).le (m.upd g o)/\(∀ k,d k->(m.upd g o) k≠none)/\base.le (base.upd g o)/\RB (base.upd g o) (m.upd g o) B bl 22 9 1 vl A n c (xs.map Value.string)/\RB (base.upd g o) (m.upd g o) B bt 215 128 4 vt A' n' c' (ts.flatMap Thg.cells) /\
  base bx=some (.cells t.cells.toArray 128 (0,0))/\(∀ b,p=some b->base b=some (.cells ([.string x]:List Value).toArray 9 (0,0)))/\(∀ b,q=some b->base b=some (.cells t.cells.toArray 128 (0,0))):=by
 obtain ⟨base,l0,lm,hd,h1,h2,h3,h4,h5⟩:=h
 have l1:base.le (base.upd g o):=le_new (AM.le_none lm hg) _
 refine ⟨base,AM.le_trans l0 l1,fun k o' hk=>?_,dom_upd hd _ _,l1,h1.box hg,h2.box hg,h3,h4,h5⟩
 by_cases e:k=g
 .subst e; rw [upd_get_same] at hk ⊢; exact hk
 .rw [upd_get_ne e] at hk ⊢; exact lm _ _ hk
theorem RS.newS (h:RS d b0 m B bl bt bx x t vl A n c xs vt A' n' c' ts none q) {b:Nat} (hN:m b=none):RS d b0 (m.upd b (.cells #[.string x] 9)) B bl bt bx x t vl A n c xs vt A' n' c' ts (some b) q:=by
 obtain ⟨base,l0,lm,hd,l1,h1,h2,h3,h4,h5⟩:=h.grow1 (o:=.cells #[.string x] 9) hN
 exact ⟨_,l0,lm,hd,h1,h2,l1 _ _ h3,fun b' e=>by cases e; exact upd_get_same,fun b' e=>l1 _ _ (h5 b' e)⟩
theorem RS.newT (h:RS d b0 m B bl bt bx x t vl A n c xs vt A' n' c' ts p none) {b:Nat} (hN:m b=none):RS d b0 (m.upd b (.cells #[.int .i64 t.kind,.int .i64 t.pos,.int .i64 t.size,.bool t.takes] 128)) B bl bt bx x t vl A n c xs vt A' n' c' ts p (some b):=by
 obtain ⟨base,l0,lm,hd,l1,h1,h2,h3,h4,h5⟩:=h.grow1 (o:=.cells t.cells.toArray 128) hN
 exact ⟨_,l0,lm,hd,h1,h2,l1 _ _ h3,fun b' e=>l1 _ _ (h4 b' e),fun b' e=>by cases e; exact upd_get_same⟩
theorem RS.appL {b:Nat} (h:RS d b0 m B bl bt bx x t vl A n c xs vt A' n' c' ts (some b) q) (hn:n<=1000000) {K:Option Addr->Nat->Nat->AM->Prop} (hK:∀ a c2 M,RS d b0 M B bl bt bx x t vl a (n+1) c2 (xs ++ [x]) vt A' n' c' ts (some b) q->K a (n+1) c2 M) :
  awp Tryz.prog B (Builtin.append_ #[22,22] 22 #[.slice A n c,.slice (some ⟨b,0,none⟩) 1 1]) m fun v m'=>∃ (a:Option Addr) (i j:Nat),v=.slice a i j/\K a i j m':=by
 obtain ⟨base,l0,lm,hd,h1,h2,h3,h4,h5⟩:=h
 refine awp_append_own elSt h1.ow (rd_of (lm _ _ (h4 b rfl)) rfl) (by simp [Value.oneCell']) (by omega) (by omega) (fun g cp' cur hor hB2 ho=>?_) (fun h0=>by omega)
 obtain ⟨hg,k1⟩:=h1.app lm (by decide) hor ho
 refine ⟨_,_,_,rfl,hK _ _ _ ⟨base,l0,fun k o' hk=>?_,dom_upd hd _ _,by rw [List.map_append]; exact k1,h2.away ?_,h3,h4,h5⟩⟩
 .rw [upd_get_ne (fun e=>by rw [e,hg] at hk; cases hk)]; exact lm _ _ hk
 .rcases hor with hA | hA
  .obtain ⟨_,cur,h6⟩:=h1.ow.obl_some (obl_mem hA)
   exact .inr ⟨_,_,h6,by decide,by decide⟩
  .exact .inl hA
theorem RS.appT {b:Nat} (h:RS d b0 m B bl bt bx x t vl A n c xs vt A' n' c' ts p (some b)) (hn:n'<=1000000) {K:Option Addr->Nat->Nat->AM->Prop} (hK:∀ a c2 M,RS d b0 M B bl bt bx x t vl A n c xs vt a (n'+1) c2 (ts ++ [t]) p (some b)->K a (n'+1) c2 M) :
  awp Tryz.prog B (Builtin.append_ #[215,215] 215 #[.slice A' n' c',.slice (some ⟨b,0,none⟩) 1 1]) m fun v m'=>∃ (a:Option Addr) (i j:Nat),v=.slice a i j/\K a i j m':=by
 obtain ⟨base,l0,lm,hd,h1,h2,h3,h4,h5⟩:=h
 refine awp_append_own elTh h2.ow (rd_of (lm _ _ (h5 b rfl)) rfl) (by simp [Thg.cells,Value.oneCell']) (by omega) (by omega) (fun g cp' cur hor hB2 ho=>?_) (fun h0=>by omega)
 obtain ⟨hg,k1⟩:=h2.app lm (by decide) hor ho
 refine ⟨_,_,_,rfl,hK _ _ _ ⟨base,l0,fun k o' hk=>?_,dom_upd hd _ _,h1.away ?_,by rw [List.flatMap_append,List.flatMap_singleton]; exact k1,h3,h4,h5⟩⟩
 .rw [upd_get_ne (fun e=>by rw [e,hg] at hk; cases hk)]; exact lm _ _ hk
 .rcases hor with hA | hA
  .obtain ⟨_,cur,h6⟩:=h2.ow.obl_some (obl_mem hA)
   exact .inr ⟨_,_,h6,by decide,by decide⟩
  .exact .inl hA
theorem RS.stL {v:Value} (h:RS d b0 m B bl bt bx x t vl A n c xs vt A' n' c' ts p q) {K:AM->Prop} (hK:∀ M,RS d b0 M B bl bt bx x t v A n c xs vt A' n' c' ts p q->K M):StC B m ⟨bl,0,none⟩ v K:=by
 obtain ⟨base,l0,lm,hd,h1,h2,h3⟩:=h
 refine StC_own h1.pb h1.hB (by simp) (hK _ ⟨base,l0,fun k o' hk=>?_,dom_upd hd _ _,h1.put (by decide) v,h2.away (.inr ⟨_,_,h1.pb,by decide,by decide⟩),h3⟩)
 rw [upd_get_ne (fun e=>by have:=h1.nb; rw [e] at hk; rw [hk] at this; cases this)]; exact lm _ _ hk
theorem RS.stT {v:Value} (h:RS d b0 m B bl bt bx x t vl A n c xs vt A' n' c' ts p q) {K:AM->Prop} (hK:∀ M,RS d b0 M B bl bt bx x t vl A n c xs v A' n' c' ts p q->K M):StC B m ⟨bt,0,none⟩ v K:=by
 obtain ⟨base,l0,lm,hd,h1,h2,h3⟩:=h
 refine StC_own h2.pb h2.hB (by simp) (hK _ ⟨base,l0,fun k o' hk=>?_,dom_upd hd _ _,h1.away (.inr ⟨_,_,h2.pb,by decide,by decide⟩),h2.put (by decide) v,h3⟩)
 rw [upd_get_ne (fun e=>by have:=h2.nb; rw [e] at hk; rw [hk] at this; cases this)]; exact lm _ _ hk
end
def RI (d:Nat->Prop) (base m:AM) (B bl bt n:Nat):Prop:=base.le m/\(∀ k,d k->m k≠none)/\∃ (A:Option Addr) (c:Nat) (xs:List ByteArray) (A':Option Addr) (c':Nat) (ts:List Thg),
 RB base m B bl 22 9 1 (.slice A n c) A n c (xs.map Value.string)/\RB base m B bt 215 128 4 (.slice A' n c') A' n c' (ts.flatMap Thg.cells)
theorem RS.fin {d:Nat->Prop} {b0 m:AM} {B bl bt bx:Nat} {x:ByteArray} {t:Thg} {A:Option Addr} {n c:Nat} {xs:List ByteArray} {A':Option Addr} {c':Nat} {ts:List Thg} {p q:Option Nat} (h:RS d b0 m B bl bt bx x t (.slice A n c) A n c xs (.slice A' n c') A' n c' ts p q):RI d b0 m B bl bt n:=by
 obtain ⟨base,l0,lm,hd,h1,h2,_⟩:=h
 exact ⟨AM.le_trans l0 lm,hd,_,_,_,_,_,_,h1.low l0,h2.low l0⟩
theorem RI.poke {d:Nat->Prop} {base m:AM} {B bl bt n g:Nat} {o o':Obj} (h:RI d base m B bl bt n) (hg:base g=some o):RI d (base.upd g o') (m.upd g o') B bl bt n:=by
 obtain ⟨lm,hd,A,c,xs,A',c',ts,k1,k2⟩:=h
 refine ⟨fun k o hk=>?_,dom_upd hd _ _,A,c,xs,A',c',ts,k1.poke hg,k2.poke hg⟩
 by_cases e:k=g
 .subst e; rw [upd_get_same] at hk ⊢; exact hk
 .rw [upd_get_ne e] at hk ⊢; exact lm _ _ hk
theorem rbody_w (d:Nat->Prop) (w0:World) (base m:AM) (bs br bl bt bx n:Nat) (x s:ByteArray) (y t:Thg) (σ:Sg) (Q:Exit->Sg->AM->Prop) (hn:n<=1000000) (hr:RI d base m w0.heap.size bl bt n) (hx:base bx=some (.cells y.cells.toArray 128 (0,0))) (hB:w0.heap.size<=bx)
  (hs:base bs=some (.cells #[.string s] 9 (0,0))) (ht:base br=some (.cells t.cells.toArray 128 (0,0))) (hbr:br≠bx) (h4:σ 4=.pointer (some ⟨bs,0,none⟩)) (h5:σ 5=.pointer (some ⟨br,0,none⟩)) (h6:σ 6=.pointer (some ⟨bl,0,none⟩)) (h7:σ 7=.pointer (some ⟨bt,0,none⟩)) (h8:σ 8=.string x) (h9:σ 9=.pointer (some ⟨bx,0,none⟩))
  (hQ:∀ b0 σ' m',(∀ k,k≠bx->b0 k=base k)->RI d b0 m' w0.heap.size bl bt (n+1)->Q .normal σ' m') :
  (vcS Tryz.prog w0 qs142 (sub V.c142 [1,1,1,0,1,0,1]) σ m Q):=by
 have lm:=hr.1
 have fin:∀ (t':Thg) (M:AM) (σ:Sg) (b1:AM),(∀ k,k≠bx->b1 k=base k)->b1 bx=some (.cells t'.cells.toArray 128 (0,0))->RI d b1 M w0.heap.size bl bt n->σ 6=.pointer (some ⟨bl,0,none⟩)->σ 7=.pointer (some ⟨bt,0,none⟩)->σ 8=.string x->σ 9=.pointer (some ⟨bx,0,none⟩) ->
   vcS Tryz.prog w0 V.qs142 (sub V.c142 [1,1,1,0,1,0,1,0,1]) σ M (blockS 1 Q):=fun t' M σ b1 he hb hr h6 h7 h8 h9=>by
  obtain ⟨lm,hd,A,c,xs,A',c',ts,k1,k2⟩:=hr
  have h:RS d b1 M w0.heap.size bl bt bx x t' (.slice A n c) A n c xs (.slice A' n c') A' n c' ts none none:=⟨b1,AM.le_refl _,lm,hd,k1,k2,hb,nofun,nofun⟩
  clear k1 k2 lm hd
  refine vr142_111010101 w0 M σ (fun _ _=>True) Q bl bt x bx (fun m'=>RI d b1 m' w0.heap.size bl bt (n+1)) h6 h7 h8 h9 ?_ fun σ m hK=>hQ b1 _ _ he hK
  repeat' first
   | with_reducible refine h.ldX ?_
   | with_reducible refine h.ldL ?_
   | with_reducible refine h.ldT ?_
   | (with_reducible refine h.appL (by omega) ?_; clear h; intro a c2 M h)
   | (with_reducible refine h.appT (by omega) ?_; clear h; intro a c2 M h)
   | (with_reducible refine h.stL ?_; clear h; intro M h)
   | (with_reducible refine h.stT ?_; clear h; intro M h)
   | (intro b hB hN M'; replace h:=h.newS hN; change RS d b1 M' _ _ _ _ _ _ _ _ _ _ _ _ _ _ _ _ _ _ at h; clear_value M')
   | (intro b hB hN M'; replace h:=h.newT hN; change RS d b1 M' _ _ _ _ _ _ _ _ _ _ _ _ _ _ _ _ _ _ at h; clear_value M')
   | with_reducible exact ⟨rfl,h.fin⟩
   | with_reducible refine ⟨rfl,?_⟩
   | with_reducible refine And.intro ?_ ?_
 refine vk142_1110101 w0 m σ (fun _ _=>True) Q bs br bl bt x bx h4 h5 h6 h7 h8 h9 ⟨_,cel (lm _ _ hs) rfl,bcI (fun h=>?_) fun h=>?_⟩
 .refine ⟨_,cel (lm _ _ ht) rfl,_,cel (lm _ _ ht) rfl,_,cel (lm _ _ ht) rfl,_,cel (lm _ _ ht) rfl,StC_own (lm _ _ hx) hB (by simp [Thg.cells]) (StC_own upd_get_same hB (by simp [Thg.cells]) (StC_own upd_get_same hB (by simp [Thg.cells]) (StC_own upd_get_same hB (by simp [Thg.cells]) ?_)))⟩
  rw [upd_upd,upd_upd,upd_upd]
  exact fin t _ _ (base.upd bx (.cells t.cells.toArray 128)) (fun k hk=>upd_get_ne hk) upd_get_same (hr.poke hx) rfl rfl rfl rfl
 .exact fin y _ _ base (fun _ _=>rfl) hx hr rfl rfl rfl rfl
end Go.Proofs.YtgjamnhjlaohaaaGreatDoor.S
namespace Go.Proofs.YtgjamnhjlaohaaaGreatDoor.S
open Go Go.RowKit Go.Shelf
attribute [local go_sem] Oper.semAt_some
structure SetAt (W:World) (Bs s:Nat) (sl:Value) (zs:List Int):Prop where
 box:W.cell? ⟨Bs,0,none⟩=some (.pointer (some ⟨s,0,none⟩))
 sli:W.cell? ⟨s,1,none⟩=some sl
 row:(sl=.slice none 0 0/\zs = [])\/∃ b off cap,sl=.slice (some ⟨b,off,none⟩) zs.length cap/\∀ j,j<zs.length->W.cell? ⟨b,off+j,none⟩=some (.int .i64 (zs[j]?.getD 0))
theorem cell_lt {W:World} {a:Addr} {v:Value} (h:W.cell? a=some v):a.block<W.heap.size:=by
 unfold World.cell? at h
 cases hb:W.heap[a.block]? with
 | none=>rw [hb] at h; cases h
 | some o=>exact (Array.getElem?_eq_some_iff.1 hb).1
theorem SetAt.later {W W':World} {Bs s:Nat} {sl:Value} {zs:List Int} (h:SetAt W Bs s sl zs) (hb:Below W.heap.size W W'):SetAt W' Bs s sl zs:=by
 have hc:∀ {a:Addr} {v:Value},W.cell? a=some v->W'.cell? a=some v:=fun h=>(hb.cell (p:=_) (cell_lt h)).trans h
 refine ⟨hc h.box,hc h.sli,?_⟩
 rcases h.row with h1 | ⟨b,off,cap,h1,h2⟩
 .exact .inl h1
 .exact .inr ⟨b,off,cap,h1,fun j hj=>hc (h2 j hj)⟩
set_option maxRecDepth 100000 in
set_option maxHeartbeats 2000000 in
theorem all1_stops {α:Type} (val:α->Int) (n Bs s:Nat) (sl:Value) (zs:List α) (w:World) (hS:SetAt w Bs s sl (zs.map val)) (hcap:zs.length<=17592186044415) :
  SeqStopsK Fence.wide n Tryz.prog 160 #[.pointer (some ⟨Bs,0,none⟩)] (fun x:α=>#[Value.int .i64 (val x)]) (Below w.heap.size) (fun xs=>xs=zs) (fun _=>True) zs.length w:=fun l J Jx W hW hJ hJx hY h0=>by
 have hF:∀ {pre W1},(J pre W1/\Below w.heap.size w W1)->SetAt W1 Bs s sl (zs.map val):=fun h=>hS.later h.2
 have hB:=(hS.later hW).box
 have hSl:=(hS.later hW).sli
 have hrow:=(hS.later hW).row
 refine callsIn_of_wp Tryz.func160 rfl trivial ?_ rfl
 simp only [Tryz.ntmps160,List.size_toArray,List.length_cons,List.length_nil,Nat.reduceAdd,Nat.reduceSub,Array.replicate_succ,Array.replicate_zero,List.push_toArray,List.append_toArray,List.nil_append,List.cons_append]
 rcases hS.row with ⟨hn1,hn2⟩ | ⟨b,off,cap,hs1,hs2⟩
 .obtain rfl:=List.map_eq_nil_iff.1 hn2; subst hn1
  clear hrow
  gi_wp2
  gi_loopw [10] (fun i wr=>i=.int .i64 0/\J [] wr) (fun i _=>0)
  case atStart=>exact ⟨rfl,h0⟩
  case round =>
   obtain ⟨rfl,hJs⟩:=hrel
   gi_wp2
   go_end0
   exact ⟨⟨_,rfl⟩,.inl ⟨_,rfl,hJs⟩⟩
 .subst hs1
  clear hrow
  obtain ⟨len,hlen0⟩:∃ len,len=zs.length:=⟨_,rfl⟩
  rw [List.length_map,<- hlen0] at hSl
  gi_wp2
  gi_loopw [10] (fun i wr=>∃ k:Nat,k<=len/\i=.int .i64 k/\J (zs.take k) wr/\Below w.heap.size w wr) (fun i _=>len-(intOf i).toNat)
  case atStart=>exact ⟨0,Nat.zero_le _,rfl,by simpa using h0,hW⟩
  case round =>
   obtain ⟨k,hk,rfl,hJs,hbs⟩:=hrel
   by_cases hlt:k<len
   .obtain ⟨b',off',cap',he,hrow⟩:=(hF ⟨hJs,hbs⟩).row.resolve_left (fun h=>by cases h.1)
    injection he with he1 he2 he3
    clear he2
    injection he1 with he1
    injection he1 with he4 he5
    subst he4; subst he5; subst he3
    have hcx:=hrow k (by simp; omega)
    clear hrow
    have hlen:(zs.take k).length=k:=by simp; omega
    obtain ⟨x,hxs⟩:∃ x,zs[k]?=some x:=⟨zs[k]'(by omega),by simp [show k<zs.length by omega]⟩
    rw [List.getElem?_map,hxs] at hcx
    simp only [Option.map_some,Option.getD_some] at hcx
    obtain ⟨fn,tmps,assign,body,hy,hR⟩:=hY (zs.take k) x wr hJs (by rw [hlen]; omega)
    gi_wp2
    refine ⟨(fun h=>by cases h),hR.mono ?_⟩
    rintro e W3 (⟨rfl,hJ3,hb3⟩ | ⟨rfl,hx3⟩)
    .gi_wp2
     go_roundw
     case rel =>
      refine ⟨k+1,by omega,by simp,?_,hbs.trans hb3⟩
      have:zs.take (k+1)=zs.take k ++ [x]:=by
       rw [List.take_add_one,hxs]; rfl
      rw [this]; exact hJ3
     case measure=>simp [intOf]; omega
    .gi_wp2
     refine bodyPost_ret (results_none rfl _ _ _) rfl ?_
     exact ⟨⟨_,rfl⟩,.inr ⟨_,trivial,hx3⟩⟩
   .obtain rfl:k=len:=by omega
    gi_wp2
    go_end0
    refine ⟨⟨_,rfl⟩,.inl ⟨_,rfl,?_⟩⟩
    rw [List.take_of_length_le (by omega)] at hJs
    exact hJs
end Go.Proofs.YtgjamnhjlaohaaaGreatDoor.S
namespace Go.Alog
open Go Go.RowKit
def noDef (ops:Array Oper):Bool:=ops.toList.all fun o=>match o.op with | .defer _=>false | _=>true
theorem noDef_op {ops:Array Oper} (h:noDef ops=true) {i:Nat} {o:Oper} (ho:ops[i]?=some o):∀ c,o.op≠.defer c:=by
 intro c e
 have h:=List.all_eq_true.1 h o (Array.mem_toList_iff.2 (Array.mem_of_getElem? ho))
 rw [e] at h
 cases h
section
variable {P:Program} {l n:Nat} {ops:Array Oper} {Q:Exit->Act->World->Prop}
theorem op_in {o:Oper} (hd:∀ c,o.op≠.defer c) {a:Act} {w:World} {K:Act->World->Prop} (h:o.wp P a w K Q):o.wpIn (Fence.wide.inRound l) n P a w K Q:=by
 refine ⟨fun _ _=>trivial,?_⟩
 rw [Oper.semAt_plain _ _ _ hd]
 unfold Oper.wp at h
 generalize (execOp a.eval o).run P w=r at *
 cases r with
 | ok x w' =>
  cases x <;> simp only [Oper.upon,Oper.uponIn] at h ⊢ <;> first
   | exact h
   | exact ⟨(fun hh=>by cases hh),CallsIn.inRound l (callsIn_wide.2 h)⟩
   | exact ⟨(fun hh=>by cases hh),fun c cs _=>let ⟨v,w',r,s⟩:=h c cs; ⟨v,w',r,stepsIn_wide.2 s⟩⟩
 | halt x w'=>cases x <;> simp only [Oper.upon,Oper.uponIn] at h ⊢ <;> exact h
theorem wpOp_in (hd:noDef ops=true) (hQ:¬ LetsOut Q) {i:Nat} {a:Act} {w:World} {K K':Act->World->Prop} (hK:∀ a w,K a w->K' a w) (h:wpOp P ops Q i K a w):wpOpIn (Fence.wide.inRound l) n P ops Q i K' a w:=by
 unfold wpOp at h
 unfold wpOpIn
 cases ho:ops[i]? with
 | none=>simp only [ho] at h ⊢; exact hK _ _ h
 | some o =>
  simp only [ho] at h ⊢
  split
  .rename_i hw
   simp only [hw,if_true] at h
   exact Oper.wpIn_mono hK (op_in (noDef_op hd ho) (h.resolve_right fun h=>hQ h.2))
  .rename_i hw
   simp only [hw] at h
   exact ⟨fun _ _=>trivial,hK _ _ h⟩
theorem wpAny_in {md:Region.Mode} (hd:noDef ops=true) (hQ:¬ LetsOut Q):∀ (fuel:Nat) (listed:Array Bool) (a:Act) (w:World),wpAny P md ops Q fuel listed a w->wpAnyIn (Fence.wide.inRound l) n P md ops Q fuel listed a w
 | 0,_,_,_,h=>h
 | fuel+1,listed,a,w,h=>⟨h.1,fun i hi=>wpOp_in hd hQ (fun a w=>wpAny_in hd hQ fuel _ a w) (h.2 i hi)⟩
theorem wpList_in (hQ:¬ LetsOut Q):∀ (l':List Oper) (a:Act) (w:World),(l'.all fun o=>match o.op with | .defer _=>false | _=>true)=true->wpList P ops Q l' a w->wpListIn (Fence.wide.inRound l) n P ops Q l' a w
 | [],_,_,_,h=>h
 | o :: rest,a,w,hd,h=>by
  rw [List.all_cons,Bool.and_eq_true] at hd
  unfold wpList at h
  unfold wpListIn
  split
  .rename_i hw
   simp only [hw,if_true] at h
   refine Oper.wpIn_mono (fun a w=>wpList_in hQ rest a w hd.2) (op_in (fun c e=>?_) (h.resolve_right fun h=>hQ h.2))
   have:=hd.1
   rw [e] at this
   cases this
  .rename_i hw
   simp only [hw] at h
   exact ⟨fun _ _=>trivial,wpList_in hQ rest _ _ hd.2 h⟩
end
def roundOk:Code->Bool
 | .skip=>true
 | .region _ ops _=>noDef ops
 | .seq x y=>roundOk x && roundOk y
 | .cond _ x y=>roundOk x && roundOk y
 | .block _ c=>roundOk c
 | _=>false
section
variable {P:Program} {w0:World} {l n:Nat}
theorem vc_in (hm:P.follows .mixedOrders=true) (c:Code):∀ (a:Act) (m:AM) (Q:Exit->Act->AM->Prop) (w:World),roundOk c=true->Holds w0 w m->vc P w0 c a m Q ->
  c.wpIn (Fence.wide.inRound l) n P (fun e a' w'=>∃ m',Holds w0 w' m'/\Q e a' m') a w:=by
 induction c with
 | skip=>intro a m Q w hr hh h; exact wpIn_skip ⟨m,hh,h⟩
 | region id ops draw =>
  intro a m Q w hr hh h
  have no:¬ LetsOut (fun (e:Exit) (a':Act) (w':World)=>e=.normal/\∃ m',Holds w0 w' m'/\Q e a' m'):=fun ⟨_,_,h,_⟩=>by cases h
  refine wpIn_mono (Q:=fun e a' w'=>e=.normal/\∃ m',Holds w0 w' m'/\Q e a' m') ?_ (fun e a w h=>h.2)
  cases draw with
  | false=>exact wpIn_region_list (wpList_in no ops.toList a w hr (wpList_of_AL (Q:=Q .normal) (fun a m w hh hq=>⟨rfl,m,hh,hq⟩) (fun _=>3) ops.toList 0 a w m (by simp) hh h))
  | true =>
   obtain ⟨cls,h⟩:=h
   refine wpIn_region_any hm ?_
   have hh1:Holds w0 { w with drawn:=w.drawn+1 } m:=hh.drawn _
   exact wpAny_in hr no _ _ _ _ (wpAny_of_VAny (P:=P) (Q':=fun e a' w'=>e=.normal/\∃ m',Holds w0 w' m'/\Q e a' m') (Q:=Q .normal) (fun a m w hh hq=>⟨rfl,m,hh,hq⟩) ops.size (Array.replicate ops.size false) a _ m hh1 (h hh.sat))
 | seq x y ihx ihy =>
  intro a m Q w hr hh h
  obtain ⟨hr1,hr2⟩:=(Bool.and_eq_true _ _).mp hr
  refine wpIn_seq (wpIn_mono (ihx a m _ w hr1 hh h) fun e a' w' hq=>?_)
  obtain ⟨m',hh',hq⟩:=hq
  cases e <;> first | exact ihy _ _ _ _ hr2 hh' hq | exact ⟨m',hh',hq⟩
 | cond c x y ihx ihy =>
  intro a m Q w hr hh h
  obtain ⟨hr1,hr2⟩:=(Bool.and_eq_true _ _).mp hr
  obtain ⟨t,ht,h1,h2⟩:=h
  exact wpIn_cond_split ht (fun e=>ihx a m Q w hr1 hh (h1 e)) (fun e=>ihy a m Q w hr2 hh (h2 e))
 | block id c ih =>
  intro a m Q w hr hh h
  refine wpIn_block (wpIn_mono (ih a m _ w hr hh h) fun e a' w' hq=>?_)
  obtain ⟨m',hh',hq⟩:=hq
  cases e <;> first | exact ⟨m',hh',hq⟩ | skip
  rename_i id'
  show Exit.inBlock id _ (.exit id') a' w'
  simp only [Exit.inBlock]
  by_cases hid:id'=id
  .rw [if_pos hid]; simp only [if_pos hid] at hq; exact ⟨m',hh',hq⟩
  .rw [if_neg hid]; simp only [if_neg hid] at hq; exact ⟨m',hh',hq⟩
 | _=>intro a m Q w hr hh h; exact nomatch hr
theorem Fits.act {ds:List Deferred} {k:Nat} {a:Act} {σ:Sg} (h:Fits ds k a σ):a = { tmps:=((List.range k).map σ).toArray,defers:=ds }:=by
 obtain ⟨t,d⟩:=a
 have h1:=h.defers; have h2:=h.size; have h3:=h.eq
 simp only at h1 h2 h3
 subst h1
 congr 1
 apply Array.ext
 .simp [h2]
 .intro i hi hj
  have:=h3 i (by omega)
  rw [<- Array.getElem_eq_getD (h:=hi)] at this
  simp [this]
theorem Fits.mk' {k:Nat} {ds:List Deferred} {l:List Value} (hl:l.length=k):Fits ds k { tmps:=l.toArray,defers:=ds } (argS l):=by
 refine ⟨rfl,by simp [hl],fun t ht=>?_,fun t ht=>?_⟩
 .simp [argS]
 .simp [argS,List.getElem?_eq_none (show l.length<=t by omega)]
theorem piece_in (hm:P.follows .mixedOrders=true) {qs:Nat->List (Nat × Nat)} {k:Nat} {c c':Code} (hc:c'=c) (ho:codeOk qs k c=true) (hr:roundOk c=true) {ds:List Deferred} {a:Act} {σ:Sg} {m:AM} {w:World} (hf:Fits ds k a σ) (hh:Holds w0 w m) {Q:Exit->Sg->AM->Prop}
  (h:vcS P w0 qs c σ m Q):c'.wpIn (Fence.wide.inRound l) n P (fun e a' w'=>∃ σ' m',Fits ds k a' σ'/\Holds w0 w' m'/\Q e σ' m') a w:=by
 subst hc
 exact wpIn_mono (vc_in hm _ a m (fun e a' m'=>∃ σ',Fits ds k a' σ'/\Q e σ' m') w hr hh (vcS_sound _ ho hf (fun e a σ m hf hq=>⟨σ,hf,hq⟩) h)) fun e a' w' ⟨m',h1,σ',h2,h3⟩=>⟨σ',m',h2,h1,h3⟩
theorem piece_wp (hm:P.follows .mixedOrders=true) {qs:Nat->List (Nat × Nat)} {k:Nat} {c:Code} (ho:codeOk qs k c=true) {ds:List Deferred} {a:Act} {σ:Sg} {m:AM} {w:World} (hf:Fits ds k a σ) (hh:Holds w0 w m) {Q:Exit->Sg->AM->Prop}
  (h:vcS P w0 qs c σ m Q):c.wp P (fun e a' w'=>∃ σ' m',Fits ds k a' σ'/\Holds w0 w' m'/\Q e σ' m') a w :=
 Go.wp_mono (vc_sound hm c a m (fun e a' m'=>∃ σ',Fits ds k a' σ'/\Q e σ' m') w hh (vcS_sound c ho hf (fun e a σ m hf hq=>⟨σ,hf,hq⟩) h)) fun e a' w' ⟨m',h1,σ',h2,h3⟩=>⟨σ',m',h2,h1,h3⟩
theorem piece_wide {nn:Nat} (hm:P.follows .mixedOrders=true) {qs:Nat->List (Nat × Nat)} {k:Nat} {c c':Code} (hc:c'=c) (ho:codeOk qs k c=true) {ds:List Deferred} {a:Act} {σ:Sg} {m:AM} {w:World} (hf:Fits ds k a σ) (hh:Holds w0 w m) {Q:Exit->Sg->AM->Prop}
  (h:vcS P w0 qs c σ m Q):c'.wpIn Fence.wide nn P (fun e a' w'=>∃ σ' m',Fits ds k a' σ'/\Holds w0 w' m'/\Q e σ' m') a w:=by
 subst hc
 exact wpIn_wide.2 (piece_wp hm ho hf hh h)
end
theorem Fits.defer {ds ds':List Deferred} {k:Nat} {a:Act} {σ:Sg} (h:Fits ds k a σ):Fits ds' k { a with defers:=ds' } σ:=⟨rfl,h.size,h.eq,h.out⟩
theorem Fits.start {args:List Value} {k:Nat} (hn:args.length<=k):Fits [] k { tmps:=args.toArray ++ Array.replicate (k-args.toArray.size) undef,defers:=[] } (argS args):=by
 refine ⟨rfl,by simp; omega,fun t ht=>?_,fun t ht=>?_⟩
 .unfold argS
  rcases Nat.lt_or_ge t args.length with hl | hl
  .simp [Array.getElem?_append,hl]
  .simp [Array.getElem?_append,Nat.not_lt.2 hl]
   rw [Array.getElem?_replicate]
   split <;> rfl
 .unfold argS
  simp [List.getElem?_eq_none (show args.length<=t by omega)]
theorem calls_pieces {P:Program} {f:FuncId} {fn:Func} {c:Code} {args:List Value} {w:World} {R:Ending->World->Prop} (n:Nat) (hf:P.funcs[f]?=some fn) (hb:fn.body=some c) (hn:args.length<=fn.ntmps)
  (h:∀ a,Fits [] fn.ntmps a (argS args)->c.wpIn Fence.wide n P (bodyPostM Fence.wide n P fn R) a w):Calls P f args.toArray w R :=
 (callsIn_wide (n:=n)).1 (callsIn_of_wp_marks hf hb trivial (h _ (Fits.start hn)) rfl)
end Go.Alog
namespace Go.Proofs.YtgjamnhjlaohaaaGreatDoor.S
open Go Go.RowKit Go.Shelf Go.Alog Go.Proofs.YtgjamnhjlaohaaaGreatDoor.T Go.Proofs.YtgjamnhjlaohaaaGreatDoor.V
attribute [local go_sem] Oper.semAt_some
def HM (M:AM) (W:World):Prop:=∀ b o,M b=some o->W.heap[b]?=some o
theorem HM.cell {M:AM} {W:World} (h:HM M W) {a:Addr} {v:Value} (hc:M.cell a=some v):W.cell? a=some v :=
 Holds.cell (w0:=W) ⟨Below.refl _ W,h⟩ hc
def KpM (M:AM) (A B:World):Prop:=HM M A->HM M B
def scopeOf (ents:List Ent) (begs:List Int):List Ent:=if begs = [] then [] else ents.drop (begs.getD (begs.length-1) 0).toNat
structure TabAt (M:AM) (Bs c:Nat) (ents:List Ent) (begs:List Int) (E:Option Addr) (k:Nat) (Ab:Option Addr) (kb:Nat):Prop where
 box:M.cell ⟨Bs,0,none⟩=some (.pointer (some ⟨c,5,none⟩))
 e5:M.cell ⟨c,5,none⟩=some (.slice E ents.length k)
 e6:M.cell ⟨c,6,none⟩=some (.slice Ab begs.length kb)
 re:0<ents.length->∃ g o,E=some ⟨g,o,none⟩/\Cells M ⟨g,o,none⟩ (ents.flatMap Ent.cells)
 rb:0<begs.length->∃ g o,Ab=some ⟨g,o,none⟩/\Cells M ⟨g,o,none⟩ (intCells .i64 begs)
 ok:∀ b∈begs,0<=b/\b<=ents.length
 ke:ents.length<=k
 kb:begs.length<=kb
 le:ents.length<=1000000
 lb:begs.length<=1000000
set_option maxRecDepth 100000 in
theorem depth_in (n c:Nat) (W:World) (A:Option Addr) (i j:Nat) (h6:W.cell? ⟨c,6,none⟩=some (.slice A i j)) :
  CallsIn Fence.wide n Tryz.prog 196 #[.pointer (some ⟨c,5,none⟩)] W fun e W'=>e=.returned (.int .i64 i)/\W'=W:=by
 refine callsIn_of_wp Tryz.func196 rfl trivial ?_ rfl
 simp only [Tryz.ntmps196,List.size_toArray,List.length_cons,List.length_nil,Nat.reduceAdd,Nat.reduceSub,Array.replicate_succ,Array.replicate_zero,List.push_toArray,List.append_toArray,List.nil_append,List.cons_append]
 gi_wp2
 go_ret
 exact ⟨rfl,rfl⟩
theorem depth_a {w0:World} {M:AM} {c n k:Nat} {A:Option Addr} (h6:M.cell ⟨c,6,none⟩=some (.slice A n k)) :
  CallsA Tryz.prog w0 196 #[.pointer (some ⟨c,5,none⟩)] M (fun r m=>r=.int .i64 n/\m=M):=fun w hw =>
 (callsIn_wide.1 (depth_in 0 c w _ _ _ (hw.cell h6))).mono fun e W' ⟨h1,h2⟩=>⟨_,M,h1,by rw [h2]; exact hw,rfl,rfl⟩
def NmS (σ:Sg) (l Bs:Nat) (A:Option Addr) (n c:Nat):Prop:=σ 0=.func (.yield l) #[] #[]/\σ 1=.pointer (some ⟨Bs,0,none⟩)/\σ 21=.slice A n c/\σ 22=.int .i64 n/\σ 23=.int .i64 0
theorem entCells_drop (l:List Ent) (k:Nat):(l.flatMap Ent.cells).drop (k*5)=(l.drop k).flatMap Ent.cells:=by
 have h1:=List.take_append_drop (k*5) (l.flatMap Ent.cells)
 rw [entCells_take] at h1
 have h2:(l.take k).flatMap Ent.cells ++ (l.drop k).flatMap Ent.cells=l.flatMap Ent.cells:=by rw [<- List.flatMap_append,List.take_append_drop]
 exact List.append_cancel_left (h1.trans h2.symm)
section
variable {Bs c:Nat} {M:AM} {ents:List Ent} {begs:List Int} {E:Option Addr} {k:Nat} {Ab:Option Addr} {kb:Nat} (h:TabAt M Bs c ents begs E k Ab kb) {W:World} (hm:Holds W W M) (l n:Nat)
include h hm
theorem nm1_a {c' : Code} (hc : c' = sub V.c197 [0]) {a : Act} (ha : a = { tmps := (.func (.yield l) #[] #[] :: .pointer (some ⟨Bs, 0, none⟩) :: List.replicate 33 undef).toArray, defers := [] }) : c'.wpIn Fence.wide n Tryz.prog (fun e a' W' => Holds W W' M /\ (e = .ret /\ a'.defers = [] /\ begs = [] \/ e = .normal /\ begs ≠ [] /\ ∃ σ, Fits [] 35 a' σ /\ σ 0 = .func (.yield l) #[] #[] /\ σ 1 = .pointer (some ⟨Bs, 0, none⟩)))
      a W := by
  subst hc ha
  refine wpIn_mono (piece_wide (hc := rfl) (qs := V.qs197) (k := 35) (by kernel_rfl) (by kernel_rfl) (Fits.mk' (by simp)) hm (Q := fun e σ m => m = M /\ (e = .ret /\ begs = [] \/ e = .normal /\ begs ≠ [] /\ σ 0 = .func (.yield l) #[] #[] /\ σ 1 = .pointer (some ⟨Bs, 0, none⟩)))
    (vk197_0 W M _ (fun _ _ => True) _ Bs rfl ⟨_, h.box, CallsA.mono (depth_a h.e6) ?_⟩)) ?_
  . rintro r m ⟨rfl, rfl⟩
    refine ⟨_, rfl, rfl, bcI (fun hz => ⟨rfl, .inl ⟨rfl, ?_⟩⟩) fun hz => ⟨rfl, .inr ⟨rfl, ?_, rfl, rfl⟩⟩⟩
    . have : begs.length = 0 := by simpa using hz
      exact List.length_eq_zero_iff.1 this
    . rintro rfl; simp at hz
  . rintro e a w ⟨σ, m, hf, hh, rfl, h1 | ⟨h1, h2, h3⟩⟩
    . exact ⟨hh, .inl ⟨h1.1, hf.defers, h1.2⟩⟩
    . exact ⟨hh, .inr ⟨h1, h2, σ, hf, h3⟩⟩
theorem nm1_b {c':Code} (hc:c'=sub V.c197 [1,0]) {W1:World} (h1:Holds W W1 M) (hb:begs≠[]) {a:Act} {σ:Sg} (hf:Fits [] 35 a σ) (s0:σ 0=.func (.yield l) #[] #[]) (s1:σ 1=.pointer (some ⟨Bs,0,none⟩)) :
  c'.wpIn Fence.wide n Tryz.prog (fun e a' W'=>e=.normal/\Holds W W' M/\∃ σ A c,Fits [] 35 a' σ/\NmS σ l Bs A (scopeOf ents begs).length c/\(scopeOf ents begs).length<=c/\(0<(scopeOf ents begs).length->∃ g o,A=some ⟨g,o,none⟩/\Cells M ⟨g,o,none⟩ ((scopeOf ents begs).flatMap Ent.cells))) a W1:=by
 subst hc
 have hpos:0<begs.length:=by cases begs with
  | nil=>exact absurd rfl hb
  | cons=>simp
 obtain ⟨gb,ob,rfl,rb⟩:=h.rb hpos
 have hmem:begs.getD (begs.length-1) 0∈begs:=by
  have:begs.length-1<begs.length:=by omega
  simp [List.getD,this]
 have hbn:=h.ok _ hmem
 have hle:=h.le
 have hlb:=h.lb
 have hke:=h.ke
 have hkb:=h.kb
 have ew:IntKind.wrap .i64 ((begs.length:Int)-1)=((begs.length-1:Nat):Int):=by rw [IntKind.wrap_i64]; omega
 have hsc:scopeOf ents begs=ents.drop (begs.getD (begs.length-1) 0).toNat:=if_neg hb
 have hnn:(((begs.length-1:Nat):Int)).toNat=begs.length-1:=by omega
 have hbt:(((begs.getD (begs.length-1) 0).toNat:Nat):Int)=begs.getD (begs.length-1) 0:=by omega
 have hcb:=cell_k (l:=begs) rb (i:=((begs.length-1:Nat):Int)) (by omega) (by omega)
 rw [hnn] at hcb
 have hl:(scopeOf ents begs).length=ents.length-(begs.getD (begs.length-1) 0).toNat:=by rw [hsc,List.length_drop]
 refine wpIn_mono (piece_wide (hc:=rfl) (qs:=V.qs197) (k:=35) (by kernel_rfl) (by kernel_rfl) hf h1 (Q:=fun e σ m=>m=M/\e=.normal/\∃ A c,NmS σ l Bs A (scopeOf ents begs).length c/\(scopeOf ents begs).length<=c/\(0<(scopeOf ents begs).length->∃ g o,A=some ⟨g,o,none⟩/\Cells M ⟨g,o,none⟩ ((scopeOf ents begs).flatMap Ent.cells)))
  (vk197_10 W M σ (fun _ _=>True) _ Bs s1 ⟨_,h.box,_,_,_,h.e5,_,h.box,_,_,_,h.e6,_,h.box,_,depth_a h.e6,rfl,?_⟩)) ?_
 .rw [ew,hnn]
  refine ⟨⟨by omega,by omega⟩,_,hcb,hbn.1,by omega,by omega,rfl,rfl,?_⟩
  rw [hl]
  refine ⟨_,_,⟨s0,rfl,rfl,rfl,rfl⟩,by omega,fun hp=>?_⟩
  obtain ⟨g,o,rfl,re⟩:=h.re (by omega)
  refine ⟨g,o+(begs.getD (begs.length-1) 0).toNat*5,by rw [if_neg (by omega),Option.map_some,addn],?_⟩
  rw [hsc]
  intro j u hu
  have:=re ((begs.getD (begs.length-1) 0).toNat*5+j) u (by
   rw [<- List.getElem?_drop,entCells_drop]; exact hu)
  rw [addn] at this ⊢
  rw [Nat.add_assoc]
  exact this
 .rintro e a w ⟨σ,m,hf,hh,rfl,h1,A,c,h2⟩
  exact ⟨h1,hh,σ,A,c,hf,h2⟩
end
set_option maxHeartbeats 2000000 in
theorem nm1_stops (n Bs c:Nat) (M:AM) (ents:List Ent) (begs:List Int) (E:Option Addr) (k:Nat) (Ab:Option Addr) (kb:Nat) (h:TabAt M Bs c ents begs E k Ab kb) (w:World) (hw:HM M w) :
  SeqStopsK Fence.wide n Tryz.prog 197 #[.pointer (some ⟨Bs,0,none⟩)] (fun x:Ent=>#[.string x.name,x.v.val]) (KpM M) (fun xs=>xs=scopeOf ents begs) (fun _=>True) (scopeOf ents begs).length w:=fun l J Jx W hW hJ hJx hY h0=>by
 have hm:Holds W W M:=⟨Below.refl _ W,fun b o e=>(hW.block b (Array.getElem?_eq_some_iff.1 (hw b o e)).1).trans (hw b o e)⟩
 have grow:∀ {pre W1 W2},J pre W1->Below W1.heap.size W1 W2->J pre W2:=fun hj hb=>hJ _ _ _ none hj ⟨hb.os,hb.tape,hb.output,hb.size,fun k hk _=>hb.block k hk⟩ nofun
 refine callsIn_of_wp Tryz.func197 rfl trivial ?_ rfl
 refine wpIn_seq (wpIn_mono (nm1_a h hm l n (by kernel_rfl) (by kernel_rfl)) ?_)
 rintro e a W1 ⟨h1,⟨rfl,hd,hb⟩ | ⟨rfl,hb,σ,hf,s0,s1⟩⟩
 .simp only [Exit.then]
  refine bodyPost_ret (results_none rfl _ _ _) hd ?_
  exact ⟨⟨_,rfl⟩,.inl ⟨_,rfl,by rw [scopeOf,if_pos hb]; exact grow h0 h1.below⟩⟩
 refine wpIn_seq (wpIn_mono (nm1_b h hm l n (by kernel_rfl) h1 hb hf s0 s1) ?_)
 rintro e a W2 ⟨rfl,h2,σ,A,cc,hf,⟨s0,s1,s21,s22,s23⟩,hcc,hA⟩
 have hlen:(scopeOf ents begs).length<=1000000:=by
  have:=h.le
  unfold scopeOf
  split
  .exact Nat.zero_le _
  .rw [List.length_drop]; omega
 revert hA hcc hlen s21 s22 hY
 generalize scopeOf ents begs=zs
 intro hY s21 s22 hcc hA hlen
 obtain ⟨len,hl⟩:∃ len,len=zs.length:=⟨_,rfl⟩
 rw [<- hl] at s21 s22 hcc hA hlen hY
 rw [hf.act]
 simp only [show List.range 35 = [0,1,2,3,4,5,6,7,8,9,10,11,12,13,14,15,16,17,18,19,20,21,22,23,24,25,26,27,28,29,30,31,32,33,34] from rfl,List.map_cons,List.map_nil,s0,s1,s21,s22,s23]
 have j0:=grow h0 h2.below
 gi_wp2
 gi_loopw [23] (fun i wr=>∃ q:Nat,q<=len/\i=.int .i64 q/\J (zs.take q) wr/\HM M wr) (fun i _=>len-(intOf i).toNat)
 case atStart=>exact ⟨0,Nat.zero_le _,rfl,by simpa using j0,h2.has⟩
 case round =>
  obtain ⟨q,hq,rfl,hJs,hbs⟩:=hrel
  by_cases hlt:q<len
  .obtain ⟨g,o,rfl,re⟩:=hA (by omega)
   have hz:=List.getElem?_eq_getElem (by omega:q<zs.length)
   have hc0:=hbs.cell ((Cells.at (j:=0) (f:=Ent.cells) (sz:=5) (fun _=>rfl) re hz (by omega)).trans (rfl:_=some (Value.string zs[q].name)))
   have hc1:=hbs.cell ((Cells.at (j:=1) (f:=Ent.cells) (sz:=5) (fun _=>rfl) re hz (by omega)).trans (rfl:_=some (Value.int .i64 zs[q].v.kind)))
   have hc2:=hbs.cell ((Cells.at (j:=2) (f:=Ent.cells) (sz:=5) (fun _=>rfl) re hz (by omega)).trans (rfl:_=some (Value.int .i64 zs[q].v.pos)))
   have hc3:=hbs.cell ((Cells.at (j:=3) (f:=Ent.cells) (sz:=5) (fun _=>rfl) re hz (by omega)).trans (rfl:_=some (Value.int .i64 zs[q].v.size)))
   have hc4:=hbs.cell ((Cells.at (j:=4) (f:=Ent.cells) (sz:=5) (fun _=>rfl) re hz (by omega)).trans (rfl:_=some (Value.bool zs[q].v.takes)))
   rw [addn,<- Nat.add_assoc] at hc0 hc1 hc2 hc3 hc4
   rw [Nat.add_zero] at hc0
   have hyq:=hY (zs.take q) zs[q]
   rw [List.length_take,Nat.min_eq_left (by omega)] at hyq
   have htk:zs.take q ++ [zs[q]]=zs.take (q+1):=by rw [List.take_add_one,hz]; rfl
   rw [htk] at hyq
   generalize zs[q]=x at *
   have ba:Below wr.heap.size wr (wr.alloc (.cells #[.string x.name,.int .i64 x.v.kind,.int .i64 x.v.pos,.int .i64 x.v.size,.bool x.v.takes] 243)):=(Below.refl _ wr).alloc (Nat.le_refl _) _
   have ha:HM M (wr.alloc (.cells #[.string x.name,.int .i64 x.v.kind,.int .i64 x.v.pos,.int .i64 x.v.size,.bool x.v.takes] 243)):=fun b o e=>(ba.block b (Array.getElem?_eq_some_iff.1 (hbs b o e)).1).trans (hbs b o e)
   obtain ⟨fn,tmps,assign,body,hy,hR⟩:=hyq _ (grow hJs ba) hlt
   simp only [Thg.val] at hy
   gi_wp2
   refine ⟨(fun h=>by cases h),hR.mono ?_⟩
   rintro e W3 (⟨rfl,hJ3,hb3⟩ | ⟨rfl,hx3⟩)
   .gi_wp2
    go_roundw
    case rel=>exact ⟨q+1,by omega,by simp,hJ3,hb3 ha⟩
    case measure=>simp [intOf]; omega
   .gi_wp2
    refine bodyPost_ret (results_none rfl _ _ _) rfl ?_
    exact ⟨⟨_,rfl⟩,.inr ⟨_,trivial,hx3⟩⟩
  .obtain rfl:q=len:=by omega
   gi_wp2
   go_end0
   refine ⟨⟨_,rfl⟩,.inl ⟨_,rfl,?_⟩⟩
   rw [List.take_of_length_le (by omega)] at hJs
   exact hJs
end Go.Proofs.YtgjamnhjlaohaaaGreatDoor.S
namespace Go.Proofs.YtgjamnhjlaohaaaGreatDoor.S
open Go Go.RowKit Go.Alog Go.Proofs.YtgjamnhjlaohaaaGreatDoor.T Go.Proofs.YtgjamnhjlaohaaaGreatDoor.V
def full (W:World):AM:=fun b=>W.heap[b]?
def exc (W:World) (l:List Nat):AM:=fun b=>if b∈l then none else W.heap[b]?
theorem exc_ne {W:World} {l:List Nat} {b:Nat} (h:b∉l):exc W l b=W.heap[b]?:=if_neg h
theorem exc_in {W:World} {l:List Nat} {b:Nat} (h:b∈l):exc W l b=none:=if_pos h
theorem exc_some {W:World} {l:List Nat} {b:Nat} {o:Obj} (h:exc W l b=some o):b∉l/\W.heap[b]?=some o:=by
 by_cases e:b∈l
 .rw [exc_in e] at h; cases h
 .rw [exc_ne e] at h; exact ⟨e,h⟩
theorem size_of_dom {W W':World} (h:∀ k:Nat,W.heap[k]?≠none->W'.heap[k]?≠none):W.heap.size<=W'.heap.size:=by
 refine Nat.le_of_not_lt fun hlt=>?_
 exact h W'.heap.size (by simp [hlt]) (by simp)
abbrev noD:Nat->Prop:=fun _=>False
section
variable {w0 W:World} {base mm m':AM} {B bl bt n:Nat} {d:Nat->Prop}
theorem RB.move {T e:TypeId} {sz b:Nat} {v:Value} {A:Option Addr} {n c:Nat} {xs:List Value} {base':AM} (h:RB base mm B b T e sz v A n c xs) (hk:∀ k c t,mm k=some (.cells c t (0,0))->m' k=mm k) (hb:base' b=none) (hA:∀ k∈obl A,base' k=none):RB base' m' B b T e sz v A n c xs :=
 ⟨h.hB,hb,by rw [hk _ _ _ h.pb]; exact h.pb,h.ow.keep fun g hg=>by
  obtain ⟨_,cur,h1⟩:=h.ow.obl_some (obl_mem hg)
  exact hk _ _ _ h1,hA⟩
theorem RI.full (hh:Holds w0 W mm) (h:RI noD base mm B bl bt n):∃ l:List Nat,(∀ k∈l,base k=none/\∃ c t,mm k=some (.cells c t (0,0)))/\base.le (exc W l)/\RI (fun k=>W.heap[k]?≠none) (exc W l) (Go.Proofs.YtgjamnhjlaohaaaGreatDoor.S.full W) B bl bt n /\
  ∃ A c,mm bt=some (.cells #[.slice A n c] 215 (0,0))/\(∀ k∈obl A,k∈l)/\∀ bx C,W.heap[bx]?=some (.cells C 128 (0,0))->bx∉obl A->bx∉l:=by
 obtain ⟨lm,hd,A,c,xs,A',c',ts,k1,k2⟩:=h
 have mem:∀ k,k∈bl :: bt :: (obl A ++ obl A')↔k=bl\/k=bt\/k∈obl A\/k∈obl A':=fun k=>by simp
 have own:∀ k∈bl :: bt :: (obl A ++ obl A'),base k=none/\∃ c t,mm k=some (.cells c t (0,0)):=fun k hk=>by
  rcases (mem k).1 hk with rfl | rfl | hk | hk
  .exact ⟨k1.nb,_,_,k1.pb⟩
  .exact ⟨k2.nb,_,_,k2.pb⟩
  .obtain ⟨_,cur,h1⟩:=k1.ow.obl_some hk
   exact ⟨k1.no k hk,_,_,h1⟩
  .obtain ⟨_,cur,h1⟩:=k2.ow.obl_some hk
   exact ⟨k2.no k hk,_,_,h1⟩
 have keep:∀ k c t,mm k=some (.cells c t (0,0))->Go.Proofs.YtgjamnhjlaohaaaGreatDoor.S.full W k=mm k:=fun k c t hk=>by rw [hk]; exact hh.has _ _ hk
 refine ⟨bl :: bt :: (obl A ++ obl A'),own,fun k o hk=>?_,⟨fun k o hk=>(exc_some hk).2,fun k hk=>hk,A,c,xs,A',c',ts,k1.move keep (exc_in (by simp)) fun k hk=>exc_in ((mem k).2 (.inr (.inr (.inl hk)))),k2.move keep (exc_in (by simp)) fun k hk=>exc_in ((mem k).2 (.inr (.inr (.inr hk))))⟩,A',c',k2.pb,fun k hk=>(mem k).2 (.inr (.inr (.inr hk))),fun bx C hC hn hin=>?_⟩
 .rw [exc_ne (fun hin=>by rw [(own k hin).1] at hk; cases hk)]
  exact hh.has _ _ (lm _ _ hk)
 .rcases (mem bx).1 hin with rfl | rfl | hk | hk
  .have:=hh.has _ _ k1.pb; rw [hC] at this; injection this with this; injection this with _ this; exact absurd this (by decide)
  .have:=hh.has _ _ k2.pb; rw [hC] at this; injection this with this; injection this with _ this; exact absurd this (by decide)
  .obtain ⟨_,cur,h1⟩:=k1.ow.obl_some hk
   have:=hh.has _ _ h1; rw [hC] at this; injection this with this; injection this with _ this; exact absurd this (by decide)
  .exact hn hk
theorem RI.low {b0 b1:AM} (h:RI d b0 mm B bl bt n) (l:b1.le b0):RI noD b1 mm B bl bt n:=by
 obtain ⟨lm,hd,A,c,xs,A',c',ts,k1,k2⟩:=h
 exact ⟨AM.le_trans l lm,fun _ hk=>hk.elim,A,c,xs,A',c',ts,k1.low l,k2.low l⟩
end
def RInv (w0:World) (base:AM) (bl bt n:Nat) (W:World):Prop:=∃ mm,Holds w0 W mm/\RI noD base mm w0.heap.size bl bt n
def RAx (w0:World) (base:AM) (bs br bl bt K:Nat) (x:Ent) (a:Act) (W:World):Prop:=∃ bx v,w0.heap.size<=bx/\base bx=none/\W.heap[bx]?=some (.cells x.v.cells.toArray 128 (0,0))/\W.heap[bt]?=some (.cells #[v] 215 (0,0))/\(∀ A n c,v=.slice A n c->bx∉obl A) /\
 ∃ σ,Fits [] K a σ/\σ 4=.pointer (some ⟨bs,0,none⟩)/\σ 5=.pointer (some ⟨br,0,none⟩)/\σ 6=.pointer (some ⟨bl,0,none⟩)/\σ 7=.pointer (some ⟨bt,0,none⟩)/\σ 8=.string x.name/\σ 9=.pointer (some ⟨bx,0,none⟩)
theorem grown_at {W W':World} {row:Option Nat} (hg:W.grownBy W' row) (hr:∀ r,row=some r->∃ o:Obj,W.heap[r]?=some o/\o.isCells=false) {k:Nat} {o:Obj} (hk:W.heap[k]?=some o) (hc:o.isCells=true):W'.heap[k]?=some o :=
 (hg.block k (Array.getElem?_eq_some_iff.1 hk).1 fun e=>by
  obtain ⟨o',h1,h2⟩:=hr k e.symm
  rw [hk] at h1; cases h1; rw [hc] at h2; cases h2).trans hk
section
variable {w0 W5:World} {base:AM} {bs br bl bt K:Nat} (h5:w0.heap.size<=W5.heap.size) (hb5:HM base W5)
include h5 hb5
theorem RInv.own:OwnFrom W5.heap.size (fun (pre:List Ent) W=>RInv w0 base bl bt pre.length W):=by
 rintro pre W W' row ⟨mm,hh,hr⟩ hg hrow
 have hrow2:∀ r,row=some r->∃ o:Obj,W.heap[r]?=some o/\o.isCells=false:=fun r e=>(hrow r e).2
 have keep:∀ k c t,mm k=some (.cells c t (0,0))->(if row=some k then none else mm k)=mm k:=fun k c t hk=>if_neg fun e=>by
  obtain ⟨o,h1,h2⟩:=hrow2 k e
  rw [hh.has _ _ hk] at h1; cases h1; cases h2
 refine ⟨fun b=>if row=some b then none else mm b,⟨hh.below.grown hg hh.below.size fun k e=>Nat.le_trans h5 (hrow k e).1,fun b o hb=>?_⟩,?_⟩
 .by_cases e:row=some b
  .simp only [if_pos e] at hb; cases hb
  .simp only [if_neg e] at hb
   exact (hg.block b (Array.getElem?_eq_some_iff.1 (hh.has _ _ hb)).1 fun e'=>e e'.symm).trans (hh.has _ _ hb)
 .obtain ⟨lm,hd,A,c,xs,A',c',ts,k1,k2⟩:=hr
  refine ⟨fun b o hb=>?_,fun _ hk=>hk.elim,A,c,xs,A',c',ts,k1.move keep k1.nb k1.no,k2.move keep k2.nb k2.no⟩
  have:row≠some b:=fun e=>by
   have h1:=(hrow b e).1
   have h2:=(Array.getElem?_eq_some_iff.1 (hb5 b o hb)).1
   omega
  simp only [if_neg this]
  exact lm _ _ hb
theorem RAx.own (x:Ent) (a:Act):OwnFrom W5.heap.size (fun (_:Unit) W=>RAx w0 base bs br bl bt K x a W):=by
 rintro _ W W' row ⟨bx,v,h1,h2,h3,h4,h6⟩ hg hrow
 have hrow2:∀ r,row=some r->∃ o:Obj,W.heap[r]?=some o/\o.isCells=false:=fun r e=>(hrow r e).2
 exact ⟨bx,v,h1,h2,grown_at hg hrow2 h3 rfl,grown_at hg hrow2 h4 rfl,h6⟩
theorem KpM.put (W:World) (l:Nat) (o o':Obj) (hl:W5.heap.size<=l):KpM base W (W.putObj l o'):=fun h b o hb=>by
 have h2:=(Array.getElem?_eq_some_iff.1 (hb5 b o hb)).1
 exact (World.putObj_heap_other (by omega)).trans (h b o hb)
end
section
variable {w0 W5:World} {base:AM} {bs br bl bt:Nat}
theorem rassign_in {c':Code} (hc:c'=sub V.c142 [1,1,1,0,1,0,0]) (l nn n:Nat) (x:Ent) (a:Act) (σ:Sg) (W:World) (hf:Fits [] 55 a σ) (s4:σ 4=.pointer (some ⟨bs,0,none⟩)) (s5:σ 5=.pointer (some ⟨br,0,none⟩)) (s6:σ 6=.pointer (some ⟨bl,0,none⟩)) (s7:σ 7=.pointer (some ⟨bt,0,none⟩))
  (s16:σ 16=.string x.name) (s17:σ 17=x.v.val) (hI:RInv w0 base bl bt n W) (K:Act->World->Prop) (hK:∀ a' W',KeepsFrom W5.heap.size W W'->KpM base W W'->RInv w0 base bl bt n W'->RAx w0 base bs br bl bt 55 x a' W'->K a' W') :
  c'.wpIn (Fence.wide.inRound l) nn Tryz.prog (Exit.then K (fun _ _ _=>False)) a W:=by
 obtain ⟨mm,hh,hr⟩:=hI
 refine wpIn_mono (piece_in (hc:=hc) (qs:=V.qs142) (k:=55) (by kernel_rfl) (by kernel_rfl) (by kernel_rfl) hf (m:=full W) ⟨hh.below,fun b o e=>e⟩
  (Q:=fun e σ' m'=>e=.normal/\∃ b,w0.heap.size<=b/\W.heap[b]?=none/\m'=(full W).upd b (.cells x.v.cells.toArray 128)/\σ' 4=.pointer (some ⟨bs,0,none⟩)/\σ' 5=.pointer (some ⟨br,0,none⟩)/\σ' 6=.pointer (some ⟨bl,0,none⟩)/\σ' 7=.pointer (some ⟨bt,0,none⟩)/\σ' 8=.string x.name/\σ' 9=.pointer (some ⟨b,0,none⟩))
  (vk142_1110100 w0 (full W) σ (fun _ _=>True) _ x.name x.v.kind x.v.pos x.v.size x.v.takes s16 s17 ?_)) ?_
 .intro b hB hN M
  refine StC_own upd_get_same hB (by simp) (StC_own upd_get_same hB (by simp) (StC_own upd_get_same hB (by simp) (StC_own upd_get_same hB (by simp) ?_)))
  rw [upd_upd,upd_upd,upd_upd,upd_upd]
  exact ⟨rfl,b,hB,hN,rfl,s4,s5,s6,s7,rfl,rfl⟩
 .rintro e a' W' ⟨σ',m',hf',hh',rfl,b,hB,hN,rfl,s4,s5,s6,s7,s8,s9⟩
  have up:∀ {k:Nat} {o:Obj},W.heap[k]?=some o->W'.heap[k]?=some o:=fun {k o} hk=>hh'.has k o (by
   rw [upd_get_ne (fun e=>by rw [e,hN] at hk; cases hk)]; exact hk)
  have hl:∀ {k:Nat} {o:Obj},mm k=some o->k≠b:=fun {k o} hk e=>by
   have:=hh.has _ _ hk
   rw [e,hN] at this; cases this
  have hr':=hr
  obtain ⟨lm,hd,A,c,xs,A',c',ts,k1,k2⟩:=hr'
  refine hK a' W' ⟨size_of_dom fun k hk=>?_,fun k o _ hk _=>up hk⟩ (fun h k o hk=>up (h k o hk)) ⟨mm,⟨hh'.below,fun k o hk=>up (hh.has _ _ hk)⟩,hr⟩
   ⟨b,_,hB,?_,hh'.has _ _ upd_get_same,up (hh.has _ _ k2.pb),?_,σ',hf',s4,s5,s6,s7,s8,s9⟩
  .cases h:W.heap[k]? with
   | none=>exact absurd h hk
   | some o=>rw [up h]; simp
  .cases h:base b with
   | none=>rfl
   | some o=>exact absurd rfl (hl (lm _ _ h))
  .intro A2 n2 c2 e hin
   injection e with e
   subst e
   obtain ⟨_,cur,h1⟩:=k2.ow.obl_some hin
   exact hl h1 rfl
theorem rbody_in {c':Code} (hc:c'=sub V.c142 [1,1,1,0,1,0,1]) (l nn n:Nat) (s:ByteArray) (t:Thg) (x:Ent) (a:Act) (W:World) (hn:n<=1000000) (hs:base bs=some (.cells #[.string s] 9 (0,0))) (ht:base br=some (.cells t.cells.toArray 128 (0,0)))
  (hI:RInv w0 base bl bt n W) (hA:RAx w0 base bs br bl bt 55 x a W) {Ix:Code->List Ent->World->Prop} {pre:List Ent} (hp:pre.length=n+1) :
  c'.wpIn (Fence.wide.inRound l) nn Tryz.prog (ownPostG W5.heap.size (KpM base) (fun pre W=>RInv w0 base bl bt pre.length W) Ix pre W) a W:=by
 obtain ⟨mm,hh,hr⟩:=hI
 obtain ⟨bx,v,hB,hxb,hx,hv,hvA,σ,hf,s4,s5,s6,s7,s8,s9⟩:=hA
 obtain ⟨ls,hl1,hl2,hrf,A',c',h3,h4,h5⟩:=hr.full hh
 have hxl:bx∉ls:=h5 bx _ hx (by
  have:=hh.has _ _ h3
  rw [hv] at this
  injection this with this
  injection this with this
  injection this with this
  injection this with this
  exact hvA _ _ _ this)
 have hbr:br≠bx:=fun e=>by rw [e,hxb] at ht; cases ht
 refine wpIn_mono (piece_in (hc:=hc) (qs:=V.qs142) (k:=55) (by kernel_rfl) (by kernel_rfl) (by kernel_rfl) hf (m:=full W) ⟨hh.below,fun b o e=>e⟩
  (Q:=fun e σ' m'=>e=.normal/\∃ b0,(∀ k,k≠bx->b0 k=exc W ls k)/\RI (fun k=>W.heap[k]?≠none) b0 m' w0.heap.size bl bt (n+1))
  (rbody_w _ w0 (exc W ls) (full W) bs br bl bt bx n x.name s x.v t σ _ hn hrf (by rw [exc_ne hxl]; exact hx) hB (hl2 _ _ hs) (hl2 _ _ ht) hbr s4 s5 s6 s7 s8 s9 fun b0 σ' m' h1 h2=>⟨rfl,b0,h1,h2⟩)) ?_
 rintro e a' W' ⟨σ',m',hf',hh',rfl,b0,hb0,hri⟩
 have hri':=hri
 obtain ⟨lm,hd,_⟩:=hri'
 have up:∀ {k:Nat} {o:Obj},k∉ls->k≠bx->W.heap[k]?=some o->W'.heap[k]?=some o:=fun {k o} h1 h2 h3=>hh'.has _ _ (lm _ _ (by rw [hb0 k h2,exc_ne h1]; exact h3))
 have hbase:base.le b0:=fun k o hk=>by
  have:k≠bx:=fun e=>by rw [e,hxb] at hk; cases hk
  rw [hb0 k this]
  exact hl2 _ _ hk
 refine ⟨⟨size_of_dom fun k hk=>?_,fun k o _ hk ho=>up (fun hin=>?_) (fun e=>?_) hk⟩,fun h k o hk=>?_,m',hh',by rw [hp]; exact hri.low hbase⟩
 .cases h:m' k with
  | none=>exact absurd h (hd k hk)
  | some o=>rw [hh'.has _ _ h]; simp
 .obtain ⟨_,c,t,h6⟩:=hl1 k hin
  have:=hh.has _ _ h6
  rw [hk] at this; cases this; cases ho
 .rw [e,hx] at hk; cases hk; cases ho
 .exact hh'.has _ _ (lm _ _ (hbase _ _ hk))
end
attribute [local go_sem] Oper.semAt_some
theorem names_in (n c:Nat) (W:World) :
  CallsIn Fence.wide n Tryz.prog 172 #[.pointer (some ⟨c,5,none⟩)] W fun e W'=>e=.returned (.func (.func 197) #[] #[.pointer (some ⟨W.heap.size,0,none⟩)])/\W'=W.alloc (.cells #[.pointer (some ⟨c,5,none⟩)] 159):=by
 refine callsIn_of_wp Tryz.func172 rfl trivial ?_ rfl
 simp only [Tryz.ntmps172,List.size_toArray,List.length_cons,List.length_nil,Nat.reduceAdd,Nat.reduceSub,Array.replicate_succ,Array.replicate_zero,List.push_toArray,List.append_toArray,List.nil_append,List.cons_append]
 gi_wp2
 go_ret
 exact ⟨rfl,rfl⟩
theorem names_a {w0:World} {m:AM} {c:Nat} :
  CallsA Tryz.prog w0 172 #[.pointer (some ⟨c,5,none⟩)] m (fun r m'=>∃ b,w0.heap.size<=b/\m b=none/\r=.func (.func 197) #[] #[.pointer (some ⟨b,0,none⟩)]/\m'=m.upd b (.cells #[.pointer (some ⟨c,5,none⟩)] 159)):=fun w hw =>
 (callsIn_wide.1 (names_in 0 c w)).mono fun e W' ⟨h1,h2⟩=>⟨_,_,h1,by rw [h2]; exact hw.new _,w.heap.size,hw.below.size,hw.free,rfl,rfl⟩
theorem tabAt_of {mt m0 m M:AM} {B c Bs:Nat} {s:CS} {T:TypeId} (h:CIx mt m0 m B c s) (l:m.le M) (hb:M Bs=some (.cells #[.pointer (some ⟨c,5,none⟩)] T (0,0))) (hl:s.ents.length<=1000000) (hl':s.begs.length<=1000000) (hok:∀ b∈s.begs,0<=b/\b<=s.ents.length) :
  ∃ E k Ab kb,TabAt M Bs c s.ents s.begs E k Ab kb:=by
 obtain ⟨At,ct,L,h⟩:=h
 have h:=h.grow l
 refine ⟨_,_,_,_,cel hb rfl,cel h.ps rfl,cel h.ps rfl,fun hp=>?_,fun hp=>?_,hok,(h.ow 2 (by omega)).2.1,(h.ow 3 (by omega)).2.1,hl,hl'⟩
 .obtain ⟨hn,hc,h1 | ⟨g,cur,h1,h2⟩⟩:=h.ow 2 (by omega)
  .have:s.ents.length<=0:=by have:=hc; rw [h1.2] at this; exact this
   omega
  .exact ⟨g,0,h1,(h.ow 2 (by omega)).cells h1⟩
 .obtain ⟨hn,hc,h1 | ⟨g,cur,h1,h2⟩⟩:=h.ow 3 (by omega)
  .have:s.begs.length<=0:=by have:=hc; rw [h1.2] at this; exact this
   omega
  .exact ⟨g,0,h1,(h.ow 3 (by omega)).cells h1⟩
theorem thg_len (l:List Thg):(l.flatMap Thg.cells).length=l.length*4:=by
 induction l with
 | nil=>rfl
 | cons x l ih=>rw [List.flatMap_cons,List.length_append,ih,List.length_cons]; simp [Thg.cells]; omega
theorem cls_sz {s:CS} (h:s.ok):(if s.begs = [] then s else s.cls).ok/\(if s.begs = [] then s else s.cls).sz+(scopeOf s.ents s.begs).length<=s.sz:=by
 by_cases hn:s.begs = []
 .rw [if_pos hn,scopeOf,if_pos hn]; exact ⟨h,Nat.le_refl _⟩
 .rw [if_neg hn,scopeOf,if_neg hn]
  refine ⟨(cls_ok h hn).1,?_⟩
  simp only [CS.sz,CS.cls,List.length_take,List.length_drop]
  omega
theorem rrest_w (w0:World) (mt M0 m:AM) (c bl bt n:Nat) (s:CS) (N:Nat) (σ:Sg) (R:Value->AM->Prop) (A A':Option Addr) (k k':Nat) (xs:List ByteArray) (ts:List Thg) (s0:σ 0=.pointer (some ⟨c,0,none⟩)) (s6:σ 6=.pointer (some ⟨bl,0,none⟩)) (s7:σ 7=.pointer (some ⟨bt,0,none⟩))
  (h:CIx mt M0 m w0.heap.size c s) (hs:s.ok) (hz:s.sz<=N) (hN:N<=800000) (hn:n=(scopeOf s.ents s.begs).length) (pl:M0 bl=some (.cells #[.slice A n k] 22 (0,0))) (pt:M0 bt=some (.cells #[.slice A' n k'] 215 (0,0)))
  (ol:Alog.Own M0 w0.heap.size 9 1 A n k (xs.map Value.string)) (ot:Alog.Own M0 w0.heap.size 128 4 A' n k' (ts.flatMap Thg.cells)) (hR:∀ m',WI mt M0 m' w0.heap.size c (N+1)->R (.tuple #[]) m') :
  vcS Tryz.prog w0 V.qs142 (sub V.c142 [1,1,1,1]) σ m (retQ Tryz.prog Tryz.f142 R):=by
 have hz':=hz
 unfold CS.sz at hz'
 obtain ⟨ok',sz'⟩:=cls_sz hs
 have lx:xs.length=n:=by have:=ol.1; simp at this; omega
 have lt:ts.length=n:=by
  have:=ot.1
  rw [thg_len] at this
  omega
 refine vk142_1111 w0 m σ R c bl bt s0 s6 s7 (CallsA.mono (close_c w0 mt M0 m c s h (by omega) (by omega) hs.2) ?_)
 rintro r m2 ⟨rfl,h2⟩
 revert h2 ok' sz'
 generalize (if s.begs = [] then s else s.cls)=s'
 intro ok' sz' h2
 have g2:WI mt M0 m2 w0.heap.size c s'.sz:=⟨s',h2,Nat.le_refl _,ok'⟩
 refine ⟨_,rfl,CallsA.mono (open_w w0 mt M0 m2 c s'.sz g2 (by omega)) ?_⟩
 rintro r m3 ⟨rfl,g3⟩
 refine ⟨rfl,_,_,_,cel (g3.le _ _ pl) rfl,?_⟩
 refine vl142_11111110 w0 m3 _ R c bt A n k n 0 (fun N0 j m'=>∃ q:Nat,j=q/\q<=n/\N0=n-q/\WI mt M0 m' w0.heap.size c (s'.sz+1+q)) (fun m'=>WI mt M0 m' w0.heap.size c (N+1)) n rfl rfl rfl rfl rfl ⟨0,rfl,by omega,by omega,g3⟩ ?_ ?_
 .rintro n0 σ j M ⟨q,rfl,hq,rfl,g⟩
  have hw1:IntKind.wrap .i64 ((q:Int)+1)=((q+1:Nat):Int):=by rw [IntKind.wrap_i64]; omega
  refine ⟨rfl,bcP (fun hlt=>?_) fun hge=>⟨rfl,rfl,rfl,rfl,g.mono (by omega)⟩⟩
  have hq':q<n:=by omega
  obtain ⟨a,rfl,hc⟩:=(ol.le g.le).ex (by omega)
  obtain ⟨a',rfl,hc'⟩:=(ot.le g.le).ex (by omega)
  have h1:=hc q (.string (xs[q]'(by omega))) (by simp [lx,hq'])
  have hat:=fun j hj=>Cells.at (j:=j) (f:=Thg.cells) (sz:=4) (fun _=>rfl) hc' (List.getElem?_eq_getElem (by omega:q<ts.length)) hj
  have eq:(q:Int).toNat=q:=by omega
  rw [eq,Nat.mul_one]
  refine ⟨⟨by omega,hlt⟩,nilO_at rfl ⟨_,h1,_,_,_,cel (g.le _ _ pt) rfl,⟨by omega,hlt⟩,nilO_at rfl ⟨_,hat 0 (by omega),_,(by rw [add_add]; exact hat 1 (by omega)),_,(by rw [add_add]; exact hat 2 (by omega)),_,(by rw [add_add]; exact hat 3 (by omega)),?_⟩⟩⟩
  refine CallsA.mono (defineN_w w0 mt M0 M c _ xs[q] ts[q] g (by omega)) ?_
  rintro r m4 ⟨b,rfl,g4⟩
  exact ⟨b,rfl,rfl,rfl,rfl,rfl,rfl,rfl,n-(q+1),by omega,q+1,hw1,by omega,rfl,g4⟩
 .intro σ M g
  exact retP_of (hR _ g)
theorem RI.box {d:Nat->Prop} {base mm:AM} {B bl bt n g:Nat} {o:Obj} (h:RI d base mm B bl bt n) (hg:mm g=none):RI d (base.upd g o) (mm.upd g o) B bl bt n:=by
 obtain ⟨lm,hd,A,c,xs,A',c',ts,k1,k2⟩:=h
 refine ⟨fun k o hk=>?_,dom_upd hd _ _,A,c,xs,A',c',ts,k1.box hg,k2.box hg⟩
 by_cases e:k=g
 .subst e; rw [upd_get_same] at hk ⊢; exact hk
 .rw [upd_get_ne e] at hk ⊢; exact lm _ _ hk
theorem RI.start {m:AM} {B bl bt:Nat} (hB:B<=bl) (hB':B<=bt) (h:m bl=none) (h':(m.upd bl (.cells #[.slice none 0 0] 22)) bt=none):RI noD m ((m.upd bl (.cells #[.slice none 0 0] 22)).upd bt (.cells #[.slice none 0 0] 215)) B bl bt 0:=by
 have ne:bt≠bl:=fun e=>by rw [e,upd_get_same] at h'; cases h'
 have h2:m bt=none:=by rw [upd_get_ne ne] at h'; exact h'
 refine ⟨AM.le_trans (le_new h _) (le_new h' _),fun _ hk=>hk.elim,none,0,[],none,0,[],⟨hB,h,by rw [upd_get_ne (Ne.symm ne)]; exact upd_get_same,Alog.Own.nil _ _ _ _,fun k hk=>by simp [obl] at hk⟩,⟨hB',h2,upd_get_same,Alog.Own.nil _ _ _ _,fun k hk=>by simp [obl] at hk⟩⟩
theorem addBs {mt m0 m F:AM} {B c:Nat} {s:CS} (h:CIx mt m0 m B c s) (hF:m.le F):∀ l:List Nat,(∀ k∈l,m k=none/\F k≠none)->∃ M0 M,CIx mt M0 M B c s/\M.le F/\m0.le M0/\(∀ k∈l,M0 k=F k)/\∀ k,k∉l->M k=m k
 | [],_=>⟨m0,m,h,hF,AM.le_refl _,nofun,fun _ _=>rfl⟩
 | k :: l,hl=>by
  obtain ⟨M0,M,h1,h2,h3,h4,h5⟩:=addBs h hF l fun j hj=>hl j (List.mem_cons_of_mem _ hj)
  by_cases hk:k∈l
  .exact ⟨M0,M,h1,h2,h3,fun j hj=>by
    rcases List.mem_cons.1 hj with rfl | hj
    .exact h4 _ hk
    .exact h4 j hj,fun j hj=>h5 j fun e=>hj (List.mem_cons_of_mem _ e)⟩
  .have hn:M k=none:=by rw [h5 k hk]; exact (hl k List.mem_cons_self).1
   obtain ⟨o,ho⟩:∃ o,F k=some o:=Option.ne_none_iff_exists'.1 (hl k List.mem_cons_self).2
   refine ⟨M0.upd k o,M.upd k o,(h1.box hn o).1,fun j o' hj=>?_,AM.le_trans h3 (le_new (AM.le_none h1.le hn) _),fun j hj=>?_,fun j hj=>?_⟩
   .by_cases e:j=k
    .subst e; rw [upd_get_same] at hj; rw [<- hj]; exact ho
    .rw [upd_get_ne e] at hj; exact h2 _ _ hj
   .by_cases e:j=k
    .subst e; rw [upd_get_same]; exact ho.symm
    .rw [upd_get_ne e]; exact h4 j ((List.mem_cons.1 hj).resolve_left e)
   .rw [upd_get_ne fun e=>hj (by rw [e]; exact List.mem_cons_self)]
    exact h5 j fun e=>hj (List.mem_cons_of_mem _ e)
theorem redefine_w (w0:World) (c N:Nat) (hN:N<=800000):Redef w0 c N:=by
 rintro mt m0 m x0 t ⟨s,h,hz,hok⟩ w hw
 have hz':=hz
 unfold CS.sz at hz'
 refine calls_pieces (args:=[.pointer (some ⟨c,0,none⟩),.string x0,t.val]) 10 Tryz.func142 rfl (Nat.le_of_ble_eq_true (by kernel_rfl)) fun a hf=>?_
 replace hf:Fits [] 55 a _:=hf
 refine wpIn_seq (wpIn_mono (piece_wide (hc:=by kernel_rfl) (qs:=V.qs142) (c:=sub V.c142 [0]) (by kernel_rfl) (by kernel_rfl) hf hw
  (Q:=fun e σ m'=>e=.normal/\∃ bs br,m.le m'/\m' bs=some (.cells #[.string x0] 9 (0,0))/\m' br=some (.cells t.cells.toArray 128 (0,0))/\σ 0=.pointer (some ⟨c,0,none⟩)/\σ 4=.pointer (some ⟨bs,0,none⟩)/\σ 5=.pointer (some ⟨br,0,none⟩))
  (vk142_0 w0 m _ (fun _ _=>True) _ x0 t.kind t.pos t.size t.takes rfl rfl ?_)) ?_)
 .intro b1 hB1 hN1 M1 b2 hB2 hN2 M2
  refine ⟨rfl,b1,b2,AM.le_trans (le_new hN1 _) (le_new hN2 _),?_,upd_get_same,rfl,rfl,rfl⟩
  exact (le_new hN2 _) _ _ upd_get_same
 rintro e a w1 ⟨σ,m1,hf,h1,rfl,bs,br,l1,ps,pr,s0,s4,s5⟩
 simp only [Exit.then]
 refine wpIn_seq (wpIn_mono (piece_wide (hc:=by kernel_rfl) (qs:=V.qs142) (c:=sub V.c142 [1,0]) (by kernel_rfl) (by kernel_rfl) hf h1
  (Q:=fun e σ' m'=>e=.normal/\∃ bl,w0.heap.size<=bl/\m1 bl=none/\m'=m1.upd bl (.cells #[.slice none 0 0] 22)/\σ'=upd σ 6 (.pointer (some ⟨bl,0,none⟩)))
  (vk142_10 w0 m1 σ (fun _ _=>True) _ fun b hB hN=>⟨rfl,b,hB,hN,rfl,rfl⟩)) ?_)
 rintro e a w2 ⟨_,_,hf,h2,rfl,bl,hBl,hbl,rfl,rfl⟩
 simp only [Exit.then]
 refine wpIn_seq (wpIn_mono (piece_wide (hc:=by kernel_rfl) (qs:=V.qs142) (c:=sub V.c142 [1,1,0]) (by kernel_rfl) (by kernel_rfl) hf h2
  (Q:=fun e σ' m'=>e=.normal/\∃ bt,w0.heap.size<=bt/\(m1.upd bl (.cells #[.slice none 0 0] 22)) bt=none/\m'=(m1.upd bl (.cells #[.slice none 0 0] 22)).upd bt (.cells #[.slice none 0 0] 215)/\σ'=upd (upd σ 6 (.pointer (some ⟨bl,0,none⟩))) 7 (.pointer (some ⟨bt,0,none⟩)))
  (vk142_110 w0 _ _ (fun _ _=>True) _ fun b hB hN=>⟨rfl,b,hB,hN,rfl,rfl⟩)) ?_)
 rintro e a w3 ⟨_,_,hf,h3,rfl,bt,hBt,hbt,rfl,rfl⟩
 simp only [Exit.then]
 have i3:=RI.start hBl hBt hbl hbt
 revert h3 i3
 generalize (m1.upd bl (.cells #[.slice none 0 0] 22)).upd bt (.cells #[.slice none 0 0] 215)=m3
 intro h3 i3
 refine wpIn_seq (wpIn_seq (wpIn_mono (piece_wide (hc:=by kernel_rfl) (qs:=V.qs142) (c:=sub V.c142 [1,1,1,0,0]) (by kernel_rfl) (by kernel_rfl) hf h3
  (Q:=fun e σ' m'=>e=.normal/\∃ bn,m3 bn=none/\m'=m3.upd bn (.cells #[.pointer (some ⟨c,5,none⟩)] 159)/\σ' 15=.func (.func 197) #[] #[.pointer (some ⟨bn,0,none⟩)]/\σ' 0=.pointer (some ⟨c,0,none⟩)/\σ' 4=.pointer (some ⟨bs,0,none⟩)/\σ' 5=.pointer (some ⟨br,0,none⟩)/\σ' 6=.pointer (some ⟨bl,0,none⟩)/\σ' 7=.pointer (some ⟨bt,0,none⟩))
  (vk142_11100 w0 _ _ (fun _ _=>True) _ c s0 (CallsA.mono names_a ?_))) ?_))
 .rintro r m' ⟨b,hB,hN,rfl,rfl⟩
  exact ⟨_,rfl,rfl,b,hN,rfl,rfl,rfl,s4,s5,rfl,rfl⟩
 rintro e a w4 ⟨σ,_,hf,h4,rfl,bn,hbn,rfl,s15,s0,s4,s5,s6,s7⟩
 simp only [Exit.then]
 have i4:=i3.box (o:=.cells #[.pointer (some ⟨c,5,none⟩)] 159) hbn
 have lb:m1.le (m1.upd bn (.cells #[.pointer (some ⟨c,5,none⟩)] 159)):=le_new (AM.le_none i3.1 hbn) _
 have pn:(m1.upd bn (.cells #[.pointer (some ⟨c,5,none⟩)] 159)) bn=some (.cells #[.pointer (some ⟨c,5,none⟩)] 159 (0,0)):=upd_get_same
 revert i4 lb pn h4
 generalize m3.upd bn (.cells #[.pointer (some ⟨c,5,none⟩)] 159)=m4
 generalize m1.upd bn (.cells #[.pointer (some ⟨c,5,none⟩)] 159)=base
 intro h4 i4 lb pn
 obtain ⟨E,k,Ab,kb,tab⟩:=tabAt_of h (AM.le_trans l1 lb) pn (by omega) (by omega) hok.2
 have hb4:HM base w4:=fun b o e=>h4.has _ _ (i4.1 _ _ e)
 refine wpIn_block ?_
 refine wpIn_rangeFunc_ownH rfl (by omega) (gf:=197) (lb:=#[.pointer (some ⟨bn,0,none⟩)]) ((hf.eval _).trans s15) trivial ?eg
  (nm1_stops 9 bn c base s.ents s.begs E k Ab kb tab w4 hb4) (fun h k x=>k (h x)) (fun W l o o' hl _ _ _=>KpM.put h4.below.size hb4 W l o o' hl) (Below.refl _ _) (fun _=>rfl)
  (fun pre W=>RInv w0 base bl bt pre.length W) (fun _ _ _=>False) (RInv.own h4.below.size hb4) (fun _ _ _ _ _ hs _ _=>hs) ⟨m4,h4,i4⟩
  (RAx w0 base bs br bl bt 55) (fun x a'=>RAx.own h4.below.size hb4 x a') ?assign ?body ?done ?stop
 case eg=>exact enters_of Tryz.func197 (by kernel_rfl) rfl
 case assign =>
  intro l pre x W K hI hK
  refine rassign_in (W5:=w4) (by kernel_rfl) l _ pre.length x _ (upd (upd σ 16 (.string x.name)) 17 x.v.val) W ?_ s4 s5 s6 s7 rfl rfl hI K hK
  exact cast (by kernel_rfl) (((hf.put (d:=some 16) (by intro t e; injection e with e; subst e; decide) (.string x.name)).put (d:=some 17) (by intro t e; injection e with e; subst e; decide) x.v.val).defer (ds':=[]))
 case body =>
  intro l pre x a' W _ _ hI hA hlt
  have hle:(scopeOf s.ents s.begs).length<=s.ents.length:=by
   unfold scopeOf
   split
   .exact Nat.zero_le _
   .rw [List.length_drop]; omega
  exact rbody_in (W5:=w4) (by kernel_rfl) l _ pre.length x0 t x a' W (by omega) (lb _ _ ps) (lb _ _ pr) hI hA (by simp)
 case done =>
  rintro D ys W hD rfl ⟨mm,hh,hr⟩ hDW
  simp only [Exit.inBlock,Exit.then]
  obtain ⟨lm,_,A,k1,xs,A',k2,ts,q1,q2⟩:=hr
  have lbase:m.le base:=AM.le_trans l1 lb
  have hD5:m D=none:=by
   cases e:m D with
   | none=>rfl
   | some o =>
    have:=(Array.getElem?_eq_some_iff.1 (hb4 D o (lbase _ _ e))).1
    omega
  have own:∀ k∈bl :: bt :: (obl A ++ obl A'),base k=none/\∃ c t,mm k=some (.cells c t (0,0)):=fun k hk=>by
   have:k=bl\/k=bt\/k∈obl A\/k∈obl A':=by simpa using hk
   rcases this with rfl | rfl | hk | hk
   .exact ⟨q1.nb,_,_,q1.pb⟩
   .exact ⟨q2.nb,_,_,q2.pb⟩
   .obtain ⟨_,cur,h1⟩:=q1.ow.obl_some hk
    exact ⟨q1.no k hk,_,_,h1⟩
   .obtain ⟨_,cur,h1⟩:=q2.ow.obl_some hk
    exact ⟨q2.no k hk,_,_,h1⟩
  obtain ⟨M0,M,g1,g2,g3,g4,g5⟩:=addBs (F:=full W) h (AM.le_trans lbase (AM.le_trans lm fun b o e=>hh.has b o e)) (bl :: bt :: (obl A ++ obl A')) fun k hk=>by
   obtain ⟨e1,c1,t1,e2⟩:=own k hk
   exact ⟨AM.le_none lbase e1,by rw [show full W k=_ from hh.has _ _ e2]; simp⟩
  have gm:∀ k∈bl :: bt :: (obl A ++ obl A'),M0 k=mm k:=fun k hk=>by
   obtain ⟨e1,c1,t1,e2⟩:=own k hk
   rw [g4 k hk,e2]; exact hh.has _ _ e2
  have hDn:M D=none:=by
   rw [g5 D fun hin=>?_]
   .exact hD5
   .obtain ⟨e1,c1,t1,e2⟩:=own D hin
    have:=hh.has _ _ e2
    rw [hDW] at this; cases this
  have gD:=(g1.box hDn (.deferred (some []))).1
  have hM0D:M0 D=none:=AM.le_none g1.le hDn
  have lD:M0.le (M0.upd D (.deferred (some []))):=le_new hM0D _
  have hW:Holds w0 W (M.upd D (.deferred (some []))):=⟨hh.below,fun k o hk=>by
   by_cases e:k=D
   .subst e; rw [upd_get_same] at hk; rw [<- hk]; exact hDW
   .rw [upd_get_ne e] at hk; exact g2 _ _ hk⟩
  have kO:∀ {e sz A n k} {xs:List Value},Alog.Own mm w0.heap.size e sz A n k xs->(∀ j∈obl A,M0 j=mm j)->Alog.Own (M0.upd D (.deferred (some []))) w0.heap.size e sz A n k xs:=fun ho hj=>(ho.keep fun g hg=>hj g (obl_mem hg)).le lD
  have hdf:a.defers = []:=hf.defers
  refine wpIn_mono (piece_wide (hc:=by kernel_rfl) (qs:=V.qs142) (c:=sub V.c142 [1,1,1,1]) (by kernel_rfl) (by kernel_rfl) hf.defer hW
   (rrest_w w0 mt _ _ c bl bt _ s N σ (fun r m'=>r=.tuple #[]/\WI mt (M0.upd D (.deferred (some []))) m' w0.heap.size c (N+1)) A A' k1 k2 xs ts s0 s6 s7 gD hok hz hN rfl (lD _ _ ((gm bl (by simp)).trans q1.pb)) (lD _ _ ((gm bt (by simp)).trans q2.pb))
    (kO q1.ow fun j hj=>gm j (by simp [hj])) (kO q2.ow fun j hj=>gm j (by simp [hj])) fun m' h'=>⟨rfl,h'⟩)) ?_
  rintro e a' W' ⟨σ',m',hf',h',hq⟩
  have fin:RetP (fun r m'=>r=.tuple #[]/\WI mt (M0.upd D (.deferred (some []))) m' w0.heap.size c (N+1)) (.tuple #[]) m'->LeavesInM Fence.wide 10 Tryz.prog Tryz.f142 a'.tmps (fun e w'=>∃ r m',e=.returned r/\Holds w0 w' m'/\r=.tuple #[]/\WI mt m0 m' w0.heap.size c (N+1)) a'.defers .returning W':=by
   rintro ⟨m2,hl,-,g⟩
   have hD2:=g.le _ _ (upd_get_same (m:=M0) (b:=D))
   have hW2:Holds w0 W' m2:=h'.mono hl
   rw [hf'.defers,hdf]
   refine ⟨by simp,.inl ⟨D,_,rfl,run_takeDeferred (hW2.has _ _ hD2),?_⟩⟩
   refine ⟨_,results_none rfl _ _ _,_,m2.upd D (.deferred none),rfl,?_,rfl,?_⟩
   .exact hW2.setObj (Nat.le_trans h4.below.size hD) hD2 _
   .exact (g.poke hM0D (AM.le_trans h.lt g3)).base (AM.le_trans g3 (le_new hM0D _)) h.lt
  cases e with
  | normal=>exact fin hq
  | ret=>exact fin hq
  | _=>exact hq.elim
 case stop =>
  intro D c pre W _ _ h
  exact h.elim
theorem compile_w (w0:World) (m:AM) (s:ByteArray) (hs:s.size<=400) (hsp:Sp m):CallsA Tryz.prog w0 11 #[.string s] m (oComp m (fun s'=>s'.sz<=80009) s):=by
 intro w hw
 have hl:(scanP s).1.length<=s.size:=CallsA.nonvac hw.sat (CallsA.mono (scan_c w0 m s (by omega)) fun r m' h=>by
  obtain ⟨_,_,_,_,_,_,h⟩:=h
  exact h)
 refine compile_of w0 m s (by omega) hsp _ (fun s' h=>by unfold CS.sz at h; omega) (fun _ m1 M c h=>?_) w hw
 refine CallsA.mono (program_w w0 c 80000 (fun K hK=>redefine_w w0 c K (by omega)) (by omega) m1 m1 M ⟨_,h,?_,List.Pairwise.nil,nofun⟩) ?_
 .simp [CS.sz,initCS]; omega
 .rintro r m' ⟨rfl,s',h1,h2,_⟩
  exact ⟨rfl,s',h1,h2⟩
theorem right_in {i:Ins} (h:rightR i=true):(0<=i.op/\i.op<=20)/\(0<=i.a/\i.a<=31)/\(0<=i.b/\i.b<=31)/\(0<=i.c/\i.c<=31):=by
 rw [<- rightI_eq] at h
 unfold rightI pOk regI at h
 simp only [Bool.and_eq_true,decide_eq_true_eq] at h
 omega
theorem fieldL_in {i:Ins} (h:rightR i=true):∀ x∈fieldL i,0<=x/\x<=31:=by
 obtain ⟨_,ha,hb,hc⟩:=right_in h
 intro x hx
 unfold fieldL at hx
 repeat' split at hx
 all_goals simp at hx
 all_goals omega
inductive Two:List Int->Prop
 | none:Two []
 | one (x:Int):1<=x->x<=31->Two [x]
 | two (x y:Int):1<=x->x<y->y<=31->Two [x,y]
theorem two_of {l:List Int} (h2:l.length<=2) (h:∀ x∈l,0<=x/\x<=31):Two (dd (s2 (nz l)))/\∀ n,n∈dd (s2 (nz l))↔n∈l/\n≠0:=by
 match l,h2 with
 | [],_=>exact ⟨.none,fun n=>by simp [nz,s2,dd]⟩
 | [x],_ =>
  have hx:=h x (by simp)
  by_cases x0:x=0
  .have:nz [x] = []:=by simp [nz,x0]
   rw [this]
   refine ⟨.none,fun n=>?_⟩
   simp [s2,dd,x0]
  .have:nz [x] = [x]:=by simp [nz,x0]
   rw [this]
   refine ⟨.one x (by omega) hx.2,fun n=>?_⟩
   simp only [s2,dd,List.mem_singleton]
   constructor
   .rintro rfl; exact ⟨rfl,x0⟩
   .rintro ⟨rfl,_⟩; rfl
 | [x,y],_ =>
  have hx:=h x (by simp)
  have hy:=h y (by simp)
  by_cases x0:x=0
  .by_cases y0:y=0
   .have:nz [x,y] = []:=by simp [nz,x0,y0]
    rw [this]
    refine ⟨.none,fun n=>?_⟩
    simp [s2,dd,x0,y0]
   .have:nz [x,y] = [y]:=by simp [nz,x0,y0]
    rw [this]
    refine ⟨.one y (by omega) hy.2,fun n=>?_⟩
    simp only [s2,dd,List.mem_singleton,List.mem_cons,List.not_mem_nil,or_false]
    constructor
    .rintro rfl; exact ⟨.inr rfl,y0⟩
    .rintro ⟨h | h,h'⟩ <;> omega
  .by_cases y0:y=0
   .have:nz [x,y] = [x]:=by simp [nz,x0,y0]
    rw [this]
    refine ⟨.one x (by omega) hx.2,fun n=>?_⟩
    simp only [s2,dd,List.mem_singleton,List.mem_cons,List.not_mem_nil,or_false]
    constructor
    .rintro rfl; exact ⟨.inl rfl,x0⟩
    .rintro ⟨h | h,h'⟩ <;> omega
   .have:nz [x,y] = [x,y]:=by simp [nz,x0,y0]
    rw [this]
    rcases Int.lt_trichotomy x y with hl | hl | hl
    .have e:dd (s2 [x,y]) = [x,y]:=by unfold s2; simp only; rw [if_neg (by omega)]; unfold dd; simp only; rw [if_neg (by omega)]
     rw [e]
     refine ⟨.two x y (by omega) hl hy.2,fun n=>?_⟩
     simp only [List.mem_cons,List.not_mem_nil,or_false]
     constructor
     .intro h; exact ⟨h,by omega⟩
     .exact fun h=>h.1
    .have e:dd (s2 [x,y]) = [x]:=by unfold s2; simp only; rw [if_neg (by omega)]; unfold dd; simp only; rw [if_pos hl.symm]
     rw [e]
     refine ⟨.one x (by omega) hx.2,fun n=>?_⟩
     simp only [List.mem_cons,List.not_mem_nil,or_false]
     constructor
     .intro h; exact ⟨.inl h,by omega⟩
     .rintro ⟨h | h,_⟩ <;> omega
    .have e:dd (s2 [x,y]) = [y,x]:=by unfold s2; simp only; rw [if_pos hl]; unfold dd; simp only; rw [if_neg (by omega)]
     rw [e]
     refine ⟨.two y x (by omega) hl hx.2,fun n=>?_⟩
     simp only [List.mem_cons,List.not_mem_nil,or_false]
     constructor
     .intro h; exact ⟨by omega,by omega⟩
     .rintro ⟨h,_⟩; omega
theorem readsL_two (i:Ins):Two (readsL i):=by
 unfold readsL
 split
 .exact (two_of (fieldL_len i) (fieldL_in ‹_›)).1
 .exact .none
theorem readsL_c (i:Ins) (n:Int):(readsL i).contains n=readsR i n:=by
 unfold readsL readsR
 by_cases hr:rightR i=true
 .rw [if_pos hr,hr,Bool.true_and,Bool.eq_iff_iff]
  have h:=(two_of (fieldL_len i) (fieldL_in hr)).2 n
  have h2:=fieldL_in hr n
  simp only [List.contains_iff_mem,Bool.and_eq_true,decide_eq_true_eq]
  rw [h]
  constructor
  .rintro ⟨a,b⟩; have:=h2 a; exact ⟨by omega,a⟩
  .rintro ⟨a,b⟩; exact ⟨b,by omega⟩
 .rw [if_neg hr]
  simp at hr
  rw [hr]; rfl
end Go.Proofs.YtgjamnhjlaohaaaGreatDoor.S
namespace Go.Proofs.YtgjamnhjlaohaaaGreatDoor.V
open Go Go.Alog Go.Proofs.YtgjamnhjlaohaaaGreatDoor.T
variable (w0:World) (m:AM)
noncomputable abbrev cf15 (x0_0 x0_1 x0_2 x0_3 x0_4 x1:Int) (R:RT):Vn (C_ w0 15 #[.agg #[I_ x0_0,I_ x0_1,I_ x0_2,I_ x0_3,I_ x0_4],I_ x1] m R):=mkF (F:=F15) Tryz.func15 (by dsimp only [push_cast,↓u1,↓u2,↓u3,Nat.reduceAdd,Nat.reduceBEq,Nat.reduceDiv,Nat.reduceMod]) (by kernel_rfl)
noncomputable abbrev cf13 (x0:Option Addr) (x0n x0c:Nat) (R:RT):Vn (C_ w0 13 #[.slice x0 x0n x0c] m R):=mkF (F:=F13) Tryz.func13 (by dsimp only [push_cast,↓u1,↓u2,↓u3,Nat.reduceAdd,Nat.reduceBEq,Nat.reduceDiv,Nat.reduceMod]) (by kernel_rfl)
noncomputable abbrev vl13_11010 (σ:Sg) (R:RT) (x0:Option Addr) (x0n x0c:Nat) (x10:Option Addr) (x10n x10c:Nat) (x11 x12:Int) (I0:Nat->Int->AM->Prop) (E0_0:AM->Prop) (N:Nat) (h0:σ 0=.slice x0 x0n x0c) (h10:σ 10=.slice x10 x10n x10c) (h11:σ 11=I_ x11) (h12:σ 12=I_ x12) (h_0:I0 N x12 m):Vn (Vn (XV w0 F13 (Tz R) 58 σ m)):=mkL1 (lq13_11010 R x0 x0n x0c x10 x10n x10c x11 I0 E0_0) (fun _=>rfl) N (cs h0 (cs h10 (cs h11 nl))) (cs h12 nl) h_0 (by dsimp only [push_cast,↓u1,↓u2,↓u3,Nat.reduceAdd,Nat.reduceBEq,Nat.reduceDiv,Nat.reduceMod]) (by dsimp only [push_cast,↓u1,↓u2,↓u3,Nat.reduceAdd,Nat.reduceBEq,Nat.reduceDiv,Nat.reduceMod]) (by kernel_rfl)
noncomputable abbrev cf113 (x0:Int) (pc:Nat) (R:RT):Vn (C_ w0 113 #[I_ x0,pt_ pc] m R):=mkF (F:=F113) Tryz.func113 (by dsimp only [push_cast,↓u1,↓u2,↓u3,Nat.reduceAdd,Nat.reduceBEq,Nat.reduceDiv,Nat.reduceMod]) (by kernel_rfl)
noncomputable abbrev hcf110 (x0:Option Addr) (x0n x0c pc:Nat) (R:RT):Vn (C_ w0 110 #[.slice x0 x0n x0c,.func (.func 113) #[] #[pt_ pc]] m R):=mkF (F:=hF110) Tryz.func110 (by dsimp only [push_cast,↓u1,↓u2,↓u3,Nat.reduceAdd,Nat.reduceBEq,Nat.reduceDiv,Nat.reduceMod]) (by kernel_rfl)
noncomputable abbrev hvl110_111010 (σ:Sg) (R:RT) (x0:Option Addr) (x0n x0c x1_0:Nat) (x5 x6:Int) (I0:Nat->Int->Int->AM->Prop) (E0_0:Int->AM->Prop) (N:Nat) (h0:σ 0=.slice x0 x0n x0c) (h1:σ 1=.func (.func 113) #[] #[pt_ x1_0]) (h5:σ 5=I_ x5) (h6:σ 6=I_ x6) (h_0:I0 N x5 x6 m):Vn (Vn (XV w0 hF110 (Tz R) 122 σ m)):=mkL1 (hlq110_111010 R x0 x0n x0c x1_0 I0 E0_0) (fun _=>rfl) N (cs h0 (cs h1 nl)) (cs h5 (cs h6 nl)) h_0 (by dsimp only [push_cast,↓u1,↓u2,↓u3,Nat.reduceAdd,Nat.reduceBEq,Nat.reduceDiv,Nat.reduceMod]) (by dsimp only [push_cast,↓u1,↓u2,↓u3,Nat.reduceAdd,Nat.reduceBEq,Nat.reduceDiv,Nat.reduceMod]) (by kernel_rfl)
noncomputable abbrev hcf158 (x0:Option Addr) (x0n x0c pc:Nat) (R:RT):Vn (C_ w0 158 #[.slice x0 x0n x0c,.func (.func 113) #[] #[pt_ pc]] m R):=mkF (F:=hF158) Tryz.func158 (by dsimp only [push_cast,↓u1,↓u2,↓u3,Nat.reduceAdd,Nat.reduceBEq,Nat.reduceDiv,Nat.reduceMod]) (by kernel_rfl)
noncomputable abbrev hvl158_1010 (σ:Sg) (R:RT) (x0:Option Addr) (x0n x0c x1_0:Nat) (x7 x8:Int) (I0:Nat->Int->AM->Prop) (E0_0:AM->Prop) (N:Nat) (h0:σ 0=.slice x0 x0n x0c) (h1:σ 1=.func (.func 113) #[] #[pt_ x1_0]) (h7:σ 7=I_ x7) (h8:σ 8=I_ x8) (h_0:I0 N x8 m):Vn (Vn (XV w0 hF158 (Tz R) 26 σ m)):=mkL1 (hlq158_1010 R x0 x0n x0c x1_0 x7 I0 E0_0) (fun _=>rfl) N (cs h0 (cs h1 (cs h7 nl))) (cs h8 nl) h_0 (by dsimp only [push_cast,↓u1,↓u2,↓u3,Nat.reduceAdd,Nat.reduceBEq,Nat.reduceDiv,Nat.reduceMod]) (by dsimp only [push_cast,↓u1,↓u2,↓u3,Nat.reduceAdd,Nat.reduceBEq,Nat.reduceDiv,Nat.reduceMod]) (by kernel_rfl)
noncomputable abbrev cf68 (x0:Option Addr) (x0n x0c:Nat) (R:RT):Vn (C_ w0 68 #[.slice x0 x0n x0c] m R):=mkF (F:=F68) Tryz.func68 (by dsimp only [push_cast,↓u1,↓u2,↓u3,Nat.reduceAdd,Nat.reduceBEq,Nat.reduceDiv,Nat.reduceMod]) (by kernel_rfl)
noncomputable abbrev vl68_1111010 (σ:Sg) (R:RT) (x1 x3:Nat) (x18:Option Addr) (x18n x18c:Nat) (x19 x20:Int) (I0:Nat->Int->AM->Prop) (E0_0:AM->Prop) (N:Nat) (h1:σ 1=pt_ x1) (h3:σ 3=pt_ x3) (h18:σ 18=.slice x18 x18n x18c) (h19:σ 19=I_ x19) (h20:σ 20=I_ x20) (h_0:I0 N x20 m):Vn (Vn (XV w0 F68 (Tz R) 250 σ m)):=mkL1 (lq68_1111010 R x1 x3 x18 x18n x18c x19 I0 E0_0) (fun _=>rfl) N (cs h1 (cs h3 (cs h18 (cs h19 nl)))) (cs h20 nl) h_0 (by dsimp only [push_cast,↓u1,↓u2,↓u3,Nat.reduceAdd,Nat.reduceBEq,Nat.reduceDiv,Nat.reduceMod]) (by dsimp only [push_cast,↓u1,↓u2,↓u3,Nat.reduceAdd,Nat.reduceBEq,Nat.reduceDiv,Nat.reduceMod]) (by kernel_rfl)
noncomputable abbrev cf32 (x0:Option Addr) (x0n x0c:Nat) (R:RT):Vn (C_ w0 32 #[.slice x0 x0n x0c] m R):=mkF (F:=F32) Tryz.func32 (by dsimp only [push_cast,↓u1,↓u2,↓u3,Nat.reduceAdd,Nat.reduceBEq,Nat.reduceDiv,Nat.reduceMod]) (by kernel_rfl)
noncomputable abbrev vl32_111010 (σ:Sg) (R:RT) (x0:Option Addr) (x0n x0c:Nat) (x4:Option Addr) (x4n x4c:Nat) (x10:Option Addr) (x10n x10c:Nat) (x11:Int) (x3:Option Addr) (x3n x3c:Nat) (x12:Int) (I0:Nat->Option Addr->Nat->Nat->Int->AM->Prop) (E0_0:Option Addr->Nat->Nat->AM->Prop) (N:Nat) (h0:σ 0=.slice x0 x0n x0c) (h3:σ 3=.slice x3 x3n x3c) (h4:σ 4=.slice x4 x4n x4c) (h10:σ 10=.slice x10 x10n x10c) (h11:σ 11=I_ x11) (h12:σ 12=I_ x12) (h_0:I0 N x3 x3n x3c x12 m):Vn (Vn (XV w0 F32 (Tz R) 122 σ m)):=mkL1 (lq32_111010 R x0 x0n x0c x4 x4n x4c x10 x10n x10c x11 I0 E0_0) (fun _=>rfl) N (cs h0 (cs h4 (cs h10 (cs h11 nl)))) (cs h3 (cs h12 nl)) h_0 (by dsimp only [push_cast,↓u1,↓u2,↓u3,Nat.reduceAdd,Nat.reduceBEq,Nat.reduceDiv,Nat.reduceMod]) (by dsimp only [push_cast,↓u1,↓u2,↓u3,Nat.reduceAdd,Nat.reduceBEq,Nat.reduceDiv,Nat.reduceMod]) (by kernel_rfl)
end Go.Proofs.YtgjamnhjlaohaaaGreatDoor.V
namespace Go.Proofs.YtgjamnhjlaohaaaGreatDoor.S
open Go Go.RowKit Go.Alog Go.Proofs.YtgjamnhjlaohaaaGreatDoor.T Go.Proofs.YtgjamnhjlaohaaaGreatDoor.V
def w64 (n:Int):Int:=IntKind.wrap .i64 n
def tgt (i:Ins) (at_:Int):Int:=if rightR i=true then (if i.op=15\/i.op=16 then w64 (w64 (at_+1)+i.imm) else if i.op=17\/i.op=18 then i.imm else 0) else 0
def tok (i:Ins):Bool:=rightR i && decide (15<=i.op/\i.op<=18)
theorem target_e (w0:World) (m:AM) (i:Ins) (k:Int):CallsA Tryz.prog w0 15 #[i.val,.int .i64 k] m (fun r m'=>r=.tuple #[.int .i64 (tgt i k),.bool (tok i)]/\m'=m):=by
 refine CallsA.down (Q:=fun r=>r=.tuple #[.int .i64 (tgt i k),.bool (tok i)]) (R:=fun r m'=>r=.tuple #[.int .i64 (tgt i k),.bool (tok i)]/\m.le m') ?_ fun _ _ h=>h
 generalize hR:(fun (r:Value) (m':AM)=>r=.tuple #[.int .i64 (tgt i k),.bool (tok i)]/\m.le m')=R
 refine cf15 w0 m _ _ _ _ _ k R ?_
 intro b hb hm M
 have l:m.le M:=le_new hm _
 have p:M b=some (.cells i.cells.toArray 57):=upd_get_same
 clear_value M
 have ret:∀ (t:Int) (v:Bool),t=tgt i k->v=tok i->RetP R (.tuple #[.int .i64 t,.bool v]) M:=fun t v e1 e2=>retP_of (by rw [<- hR,e1,e2]; exact ⟨rfl,l⟩)
 refine ⟨_,cel p rfl,_,cel p rfl,_,cel p rfl,_,cel p rfl,_,cel p rfl,?_⟩
 refine CallsA.mono ((isaRight w0 M i).down fun _ _ h=>h) ?_
 rintro r m2 ⟨rfl,h2⟩
 replace h2:=h2.symm; subst h2
 refine ⟨_,rfl,bcI (fun hr=>ret _ _ ?_ ?_) (fun hr=>?_)⟩
 .unfold tgt; rw [if_neg (by simpa using hr)]
 .unfold tok; rw [show rightR i=false by simpa using hr]; rfl
 have hr':rightR i=true:=by simpa using hr
 unfold tgt tok at ret
 rw [if_pos hr',hr',Bool.true_and] at ret
 refine ⟨_,cel p rfl,rfl,?_⟩
 refine bcI (fun h=>bcET h ?_) (fun h=>?_)
 .have e:i.op=15:=by simpa using h
  refine ⟨rfl,_,cel p rfl,rfl,ret _ _ ?_ ?_⟩ <;> simp [e,w64]
 refine ⟨rfl,bcI (fun h2=>?_) (fun h2=>?_)⟩
 .have e:i.op=16:=by simpa using h2
  refine ⟨rfl,_,cel p rfl,rfl,ret _ _ ?_ ?_⟩ <;> simp [e,w64]
 refine ⟨rfl,bcI (fun h3=>bcET h3 ?_) (fun h3=>?_)⟩
 .have e:i.op=17:=by simpa using h3
  refine ⟨_,cel p rfl,ret _ _ ?_ ?_⟩ <;> simp [e]
 refine ⟨rfl,bcI (fun h4=>?_) (fun h4=>?_)⟩
 .have e:i.op=18:=by simpa using h4
  refine ⟨_,cel p rfl,ret _ _ ?_ ?_⟩ <;> simp [e]
 simp only [beq_eq_false_iff_ne,ne_eq] at h h2 h3 h4
 refine ret _ _ ?_ ?_
 .rw [if_neg (by omega),if_neg (by omega)]
 .rw [decide_eq_false (by omega)]
def fitAt (code:List Ins) (k:Int):Bool:=rightR (cAt code k) && !(tok (cAt code k) && (decide (tgt (cAt code k) k<0) || decide (tgt (cAt code k) k>(code.length:Int))))
def fitP (code:List Ins):Bool:=decide (code.length<=4096) && (List.range code.length).all (fun k=>fitAt code (k:Int))
theorem fitP_true {code:List Ins} (h1:code.length<=4096) (h:∀ j:Nat,j<code.length->fitAt code j=true):fitP code=true:=by
 unfold fitP
 rw [decide_eq_true h1,Bool.true_and,List.all_eq_true]
 intro k hk
 exact h k (List.mem_range.1 hk)
theorem fitP_false {code:List Ins} {j:Nat} (hj:j<code.length) (h:fitAt code j=false):fitP code=false:=by
 unfold fitP
 rw [Bool.and_eq_false_iff]
 right
 rw [List.all_eq_false]
 exact ⟨j,List.mem_range.2 hj,by rw [h]; simp⟩
theorem fitP_len {code:List Ins} (h:4096<code.length):fitP code=false:=by
 unfold fitP
 rw [decide_eq_false (by omega)]; rfl
theorem fit_e (w0:World) (m:AM) (A:Option Addr) (c:Nat) (code:List Ins) (hl:code.length<=1000000) (rd:Reads m 5 A code.length (insCells code)) :
  CallsA Tryz.prog w0 13 #[.slice A code.length c] m (fun r m'=>r=.bool (fitP code)/\m'=m):=by
 refine CallsA.down (Q:=fun r=>r=.bool (fitP code)) (R:=fun r m'=>r=.bool (fitP code)/\m.le m') ?_ fun _ _ h=>h
 generalize hR:(fun (r:Value) (m':AM)=>r=.bool (fitP code)/\m.le m')=R
 have ret:∀ (v:Bool) (m':AM),m.le m'->v=fitP code->RetP R (.bool v) m':=fun v m' l e=>by rw [<- hR]; exact retP_of ⟨by rw [e],l⟩
 refine cf13 w0 m A code.length c R ⟨rfl,bcP (fun h=>ret _ _ (AM.le_refl _) (fitP_len (by omega)).symm) (fun h=>?_)⟩
 refine vl13_11010 w0 m _ _ A code.length c A code.length c code.length 0 (fun n k m'=>m.le m'/\0<=k/\k<=code.length/\(n:Int)=code.length-k/\∀ j:Nat,(j:Int)<k->fitAt code j=true) (fun m'=>m.le m'/\∀ j:Nat,j<code.length->fitAt code j=true) code.length rfl rfl rfl rfl
  ⟨AM.le_refl _,by omega,by omega,by omega,fun j hj=>by omega⟩ ?_ ?_
 .rintro n σ k m1 ⟨l1,k0,k1,hn,hp⟩
  refine ⟨rfl,bcP (fun hlt=>?_) (fun hlt=>by (repeat (refine And.intro (Eq.refl _) ?_)); exact ⟨l1,fun j hj=>hp j (by omega)⟩)⟩
  refine ldAt (rd.le l1) rfl k0 hlt fun a=>blk5 fun b M l nb hb p=>?_
  replace p:M b=some (.cells (Ins.cells (cAt code k)).toArray 57):=p
  have l2:m.le M:=AM.le_trans l1 l
  refine ldIns p ?_
  refine CallsA.mono (target_e w0 M (cAt code k) k) ?_
  rintro r m2 ⟨rfl,h2⟩
  replace h2:=h2.symm; subst h2
  refine ⟨_,_,rfl,ldIns p (callB ((isaRight w0 M (cAt code k)).down fun _ _ h=>h) ?_)⟩
  have hkk:((k.toNat:Nat):Int)=k:=by omega
  have hfa:fitAt code (k.toNat:Int)=(rightR (cAt code k) && !(tok (cAt code k) && (decide (tgt (cAt code k) k<0) || decide (tgt (cAt code k) k>(code.length:Int))))):=by rw [hkk]; rfl
  have bad:fitAt code (k.toNat:Int)=false->RetP R (.bool false) M:=fun e=>ret _ _ l2 (fitP_false (j:=k.toNat) (by omega) e).symm
  have wk:IntKind.wrap .i64 (k+1)=k+1:=wrap_s (by omega) (by omega)
  cases hr:rightR (cAt code k) with
  | false=>exact bcT ⟨rfl,bad (by rw [hfa,hr]; rfl)⟩
  | true =>
   refine bcF ?_
   rw [hr,Bool.true_and] at hfa
   have good:fitAt code (k.toNat:Int)=true->∃ n':Nat,n'<n/\(m.le M/\0<=k+1/\k+1<=code.length/\(n':Int)=code.length-(k+1)/\∀ j:Nat,(j:Int)<k+1->fitAt code j=true):=fun e=>by
    refine ⟨n-1,by omega,l2,by omega,by omega,by omega,fun j hj=>?_⟩
    by_cases e2:(j:Int)=k
    .rw [show j=k.toNat by omega]; exact e
    .exact hp j (by omega)
   rw [wk]
   cases ht:tok (cAt code k) with
   | false =>
    rw [ht] at hfa
    exact bcF ⟨rfl,bcF (by (repeat (refine And.intro (Eq.refl _) ?_)); exact good hfa)⟩
   | true =>
    rw [ht,Bool.true_and] at hfa
    refine bcT ⟨rfl,bcP (fun h0=>⟨decide_eq_true h0,bcT (bad (by rw [hfa,decide_eq_true h0]; rfl))⟩) (fun h0=>⟨rfl,?_⟩)⟩
    rw [decide_eq_false h0] at hfa ⊢
    rw [Bool.false_or] at hfa
    refine bcI (fun h1=>bad ?_) (fun h1=>?_)
    .have h1':decide (tgt (cAt code k) k>(code.length:Int))=true:=h1
     rw [hfa,h1']; rfl
    .have h1':decide (tgt (cAt code k) k>(code.length:Int))=false:=h1
     (repeat (refine And.intro (Eq.refl _) ?_))
     exact good (by rw [hfa,h1']; rfl)
 .rintro σ m1 ⟨l1,hp⟩
  exact ret _ _ l1 (fitP_true (by omega) hp).symm
def toAt (code:List Ins) (k:Int) (j:Nat):Bool:=tok (cAt code j) && tgt (cAt code j) j == k
def headP (code:List Ins) (k:Int):Bool:=k == 0 || goesP (cAt code (k-1)) || (List.range code.length).any (toAt code k)
theorem elIns:elOf Tryz.prog 25=some (57,5,40,[.int .i64 0,.int .i64 0,.int .i64 0,.int .i64 0,.int .i64 0]):=by kernel_rfl
theorem snoc1 {w0:World} {m0 m:AM} {A:Option Addr} {c:Nat} {l:List Ins} (lm:m0.le m) (o:Alog.Own m w0.heap.size 57 5 A l.length c (insCells l)) (nA:∀ k∈obl A,m0 k=none) (hl:l.length<=1000000) (x:Ins) {K:Option Addr->Nat->Nat->AM->Prop}
  (hK:∀ A' c' m',m0.le m'->Alog.Own m' w0.heap.size 57 5 A' (l.length+1) c' (insCells (l ++ [x]))->(∀ k∈obl A',m0 k=none)->K A' (l.length+1) c' m') :
  ∀ b11:Nat,w0.heap.size<=b11->m b11=none->let m12:=AM.upd m b11 (.cells (Ins.cells x).toArray 57);
   awp Tryz.prog w0.heap.size (Builtin.append_ #[25,25] 25 #[.slice A l.length c,.slice (some ⟨b11,0,none⟩) 1 1]) m12 fun v13 m14 =>
   ∃ (A15:Option Addr) (n16 c17:Nat),v13=.slice A15 n16 c17/\K A15 n16 c17 m14:=by
 intro b11 hb11 hn11
 refine awp_append_loc (m0:=m0) elIns (AM.le_trans lm (le_new hn11 _)) (o.upd (o.ne_none hn11)) nA (A2:=some ⟨b11,0,none⟩) (k:=1) (news:=Ins.cells x) (Reads.lit rfl) (ins_one x) (by omega) (by omega) (fun A2' c2' m28 l28 f28 o28 n28 _=>?_)
 refine ⟨A2',l.length+1,c2',rfl,hK A2' c2' m28 l28 ?_ n28⟩
 rw [show insCells (l ++ [x])=insCells l ++ Ins.cells x by simp [insCells]]; exact o28
theorem le_upd_fresh {m m':AM} {g:Nat} {o:Obj} (l:m.le m') (hg:m g=none):m.le (m'.upd g o):=fun k o' hk=>by
 have e:k≠g:=fun e=>by rw [e,hg] at hk; cases hk
 rw [upd_get_ne e]; exact l k o' hk
abbrev nop:Ins:=⟨0,0,0,0,0⟩
theorem callReads {w0:World} {m:AM} {i:Ins} {K:Option Addr->Nat->Nat->AM->Prop} (h:∀ A c m',m.le m'->Reads m' 1 A (readsL i).length (intCells .i64 (readsL i))->K A (readsL i).length c m') :
  CallsA Tryz.prog w0 77 #[i.val] m (fun r m'=>∃ (A:Option Addr) (n c:Nat),r=.slice A n c/\K A n c m'):=by
 refine CallsA.mono (reads_spec w0 m i) ?_
 rintro r m' ⟨⟨A,c,rfl,o,f⟩,l⟩
 exact ⟨_,_,_,rfl,h A c m' l o.reads⟩
theorem two_len {l:List Int} (h:Two l):l.length<=2:=by cases h <;> simp
theorem getD_in {l:List Int} {k:Nat} (h:k<l.length):l.getD k 0∈l:=by simp [List.getD,h]
end Go.Proofs.YtgjamnhjlaohaaaGreatDoor.S
namespace Go.Proofs.YtgjamnhjlaohaaaGreatDoor.V
open Go Go.Alog Go.Proofs.YtgjamnhjlaohaaaGreatDoor.T
variable (w0:World) (m:AM)
noncomputable abbrev cf120 (x0_0 x0_1 x0_2 x0_3 x0_4 x1:Int) (R:RT):Vn (C_ w0 120 #[.agg #[I_ x0_0,I_ x0_1,I_ x0_2,I_ x0_3,I_ x0_4],I_ x1] m R):=mkF (F:=F120) Tryz.func120 (by dsimp only [push_cast,↓u1,↓u2,↓u3,Nat.reduceAdd,Nat.reduceBEq,Nat.reduceDiv,Nat.reduceMod]) (by kernel_rfl)
noncomputable abbrev cf72 (x0_0 x0_1 x0_2 x0_3 x0_4 x1_0 x1_1 x1_2 x1_3 x1_4:Int) (R:RT):Vn (C_ w0 72 #[.agg #[I_ x0_0,I_ x0_1,I_ x0_2,I_ x0_3,I_ x0_4],.agg #[I_ x1_0,I_ x1_1,I_ x1_2,I_ x1_3,I_ x1_4]] m R):=mkF (F:=F72) Tryz.func72 (by dsimp only [push_cast,↓u1,↓u2,↓u3,Nat.reduceAdd,Nat.reduceBEq,Nat.reduceDiv,Nat.reduceMod]) (by kernel_rfl)
noncomputable abbrev vk72_11001 (σ:Sg) (R:RT) (x2 x3:Nat) (x5 x6:Int) (x11:Bool) (h2:σ 2=pt_ x2) (h3:σ 3=pt_ x3) (h5:σ 5=I_ x5) (h6:σ 6=I_ x6) (h11:σ 11=.bool x11):Vn (XV w0 F72 (Tz R) 57 σ m):=mkK (cs h2 (cs h3 (cs h5 (cs h6 (cs h11 nl))))) (by dsimp only [push_cast,↓u1,↓u2,↓u3,Nat.reduceAdd,Nat.reduceBEq,Nat.reduceDiv,Nat.reduceMod]) (by kernel_rfl)
noncomputable abbrev cf115 (x0:Option Addr) (x0n x0c:Nat) (R:RT):Vn (C_ w0 115 #[.slice x0 x0n x0c] m R):=mkF (F:=F115) Tryz.func115 (by dsimp only [push_cast,↓u1,↓u2,↓u3,Nat.reduceAdd,Nat.reduceBEq,Nat.reduceDiv,Nat.reduceMod]) (by kernel_rfl)
noncomputable abbrev vl115_11010 (σ:Sg) (R:RT) (x0:Option Addr) (x0n x0c:Nat) (x3:Option Addr) (x3n x3c:Nat) (x4:Int) (I0:Nat->Int->AM->Prop) (E0_0:AM->Prop) (N:Nat) (h0:σ 0=.slice x0 x0n x0c) (h3:σ 3=.slice x3 x3n x3c) (h4:σ 4=I_ x4) (h_0:I0 N x4 m):Vn (Vn (XV w0 F115 (Tz R) 58 σ m)):=mkL1 (lq115_11010 R x0 x0n x0c x3 x3n x3c I0 E0_0) (fun _=>rfl) N (cs h0 (cs h3 nl)) (cs h4 nl) h_0 (by dsimp only [push_cast,↓u1,↓u2,↓u3,Nat.reduceAdd,Nat.reduceBEq,Nat.reduceDiv,Nat.reduceMod]) (by dsimp only [push_cast,↓u1,↓u2,↓u3,Nat.reduceAdd,Nat.reduceBEq,Nat.reduceDiv,Nat.reduceMod]) (by kernel_rfl)
noncomputable abbrev vl115_11010010010 (σ:Sg) (R:RT) (n0:Nat) (I0:Nat->Int->AM->Prop) (E0_0:AM->Prop) (x0:Option Addr) (x0n x0c:Nat) (x3:Option Addr) (x3n x3c:Nat) (x4 x5:Int) (I1:Nat->Int->AM->Prop) (E1_2:AM->Prop) (N:Nat) (h0:σ 0=.slice x0 x0n x0c) (h3:σ 3=.slice x3 x3n x3c) (h4:σ 4=I_ x4) (h5:σ 5=I_ x5) (h_0:I1 N x5 m):Vn (Vn (XV w0 F115 (lq115_11010 R x0 x0n x0c x3 x3n x3c I0 E0_0 n0) 3730 σ m)):=mkL1 (lq115_11010010010 R x0 x0n x0c x3 x3n x3c x4 I1 E1_2) (fun _=>rfl) N (cs h0 (cs h3 (cs h4 nl))) (cs h5 nl) h_0 (by dsimp only [push_cast,↓u1,↓u2,↓u3,Nat.reduceAdd,Nat.reduceBEq,Nat.reduceDiv,Nat.reduceMod]) (by dsimp only [push_cast,↓u1,↓u2,↓u3,Nat.reduceAdd,Nat.reduceBEq,Nat.reduceDiv,Nat.reduceMod]) (by kernel_rfl)
end Go.Proofs.YtgjamnhjlaohaaaGreatDoor.V
namespace Go.Proofs.YtgjamnhjlaohaaaGreatDoor.S
open Go Go.RowKit Go.Alog Go.Proofs.YtgjamnhjlaohaaaGreatDoor.T Go.Proofs.YtgjamnhjlaohaaaGreatDoor.V
def farP (a b:Ins):Int :=
 if (readsR b (writesP a) && lateP a)=true then 2 else
 if (readsR b (writesP a) || (writesP a != 0 && writesP a == writesP b) || readsR a (writesP b) || (actsP a && actsP b))=true then 1 else 0
theorem readsR_0 (i:Ins):readsR i 0=false:=by unfold readsR; simp
theorem dreads_e (w0:World) (m:AM) (i:Ins) (n:Int):CallsA Tryz.prog w0 120 #[i.val,.int .i64 n] m (fun r m'=>r=.bool (readsR i n)/\m'=m):=by
 refine CallsA.down (R:=fun r m'=>r=.bool (readsR i n)/\m.le m') ?_ fun _ _ h=>h
 refine cf120 w0 m _ _ _ _ _ n _ ?_
 intro b hBb hNb M
 have l:AM.le _ M:=le_new hNb _
 have p:M b=some (.cells (Ins.cells i).toArray 57):=upd_get_same
 clear_value M
 refine ⟨rfl,?_⟩
 by_cases h:n=0
 .subst h
  rw [readsR_0]
  exact bcF ⟨rfl,retP_of ⟨rfl,l⟩⟩
 .have e:(n != 0)=true:=by simpa using h
  rw [e]
  refine bcT (ldIns p (callReads fun A c m1 l1 r1=>?_))
  refine callB (ix_spec w0 m1 A c _ n (by have:=two_len (readsL_two i); omega) r1) (retP_of ⟨?_,AM.le_trans l l1⟩)
  rw [readsL_c]; rfl
theorem far_e (w0:World) (m:AM) (i j:Ins):CallsA Tryz.prog w0 72 #[i.val,j.val] m (fun r m'=>r=.int .i64 (farP i j)/\m'=m):=by
 refine CallsA.down (R:=fun r m'=>r=.int .i64 (farP i j)/\m.le m') ?_ fun _ _ h=>h
 generalize hR:(fun (r:Value) (m':AM)=>r=.int .i64 (farP i j)/\m.le m')=R
 refine cf72 w0 m _ _ _ _ _ _ _ _ _ _ R ?_
 intro b hBb hNb M
 have l:AM.le _ M:=le_new hNb _
 have p:M b=some (.cells (Ins.cells i).toArray 57):=upd_get_same
 clear_value M
 intro b3 hBb3 hNb3 M3
 have l3:AM.le _ M3:=le_new hNb3 _
 have p3:M3 b3=some (.cells (Ins.cells j).toArray 57):=upd_get_same
 clear_value M3
 replace p:=l3 _ _ p
 have L:=AM.le_trans l l3
 have ret:∀ (v:Int),v=farP i j->RetP R (.int .i64 v) M3:=fun v e=>by rw [<- hR]; exact retP_of ⟨by rw [e],L⟩
 have K1:∀ (σ:Sg) (x:Bool),σ 2=.pointer (some ⟨b,0,none⟩)->σ 3=.pointer (some ⟨b3,0,none⟩)->σ 5=.int .i64 (writesP i)->σ 6=.int .i64 (writesP j)->σ 11=.bool x->x=(readsR j (writesP i) && lateP i)->(XV w0 F72 (Tz R) 57 σ M3):=by
  intro σ x h2 h3 h5 h6 h11 hx
  refine vk72_11001 w0 M3 σ R b b3 _ _ x h2 h3 h5 h6 h11 ?_
  refine bcI (fun h=>ret 2 (by unfold farP; rw [<- hx,if_pos h])) fun h=>ldIns p3 (callB (dreads_e w0 M3 j (writesP i)) ?_)
  have hf:farP i j=if (readsR j (writesP i) || (writesP i != 0 && writesP i == writesP j) || readsR i (writesP j) || (actsP i && actsP j))=true then 1 else 0:=by
   unfold farP; rw [<- hx,if_neg (by rw [h]; simp)]
  cases r1:readsR j (writesP i)
  .refine bcF ⟨rfl,?_⟩
   cases ne:(writesP i != 0)
   .refine bcF ⟨rfl,bcF (ldIns p (callB (dreads_e w0 M3 i (writesP j)) ?_))⟩
    cases r2:readsR i (writesP j)
    .refine bcF (ldIns p (callB (acts_e w0 M3 i) ?_))
     cases aa:actsP i
     .exact bcF ⟨rfl,bcF (ret 0 (by rw [hf]; simp [r1,ne,r2,aa]))⟩
     .refine bcT (ldIns p3 (callB (acts_e w0 M3 j) ?_))
      cases ab:actsP j
      .exact bcF (ret 0 (by rw [hf]; simp [r1,ne,r2,aa,ab]))
      .exact bcT (ret 1 (by rw [hf]; simp [r1,ne,r2,aa,ab]))
    .exact bcT ⟨rfl,ret 1 (by rw [hf]; simp [r2])⟩
   .refine bcT ⟨rfl,?_⟩
    cases eq:(writesP i == writesP j)
    .refine bcF (ldIns p (callB (dreads_e w0 M3 i (writesP j)) ?_))
     cases r2:readsR i (writesP j)
     .refine bcF (ldIns p (callB (acts_e w0 M3 i) ?_))
      cases aa:actsP i
      .exact bcF ⟨rfl,bcF (ret 0 (by rw [hf]; simp only [r1,ne,eq,r2,aa]; rfl))⟩
      .refine bcT (ldIns p3 (callB (acts_e w0 M3 j) ?_))
       cases ab:actsP j
       .exact bcF (ret 0 (by rw [hf]; simp only [r1,ne,eq,r2,aa,ab]; rfl))
       .exact bcT (ret 1 (by rw [hf]; simp only [r1,ne,eq,r2,aa,ab]; rfl))
     .exact bcT ⟨rfl,ret 1 (by rw [hf]; simp [r2])⟩
    .exact bcT ⟨rfl,rfl,ret 1 (by rw [hf]; simp only [r1,ne,eq]; simp)⟩
  .exact bcT ⟨rfl,rfl,rfl,ret 1 (by rw [hf]; simp [r1])⟩
 refine ldIns p ⟨_,writes_e w0 M3 i,ldIns p3 (callI (writes_e w0 M3 j) (ldIns p3 (callB (dreads_e w0 M3 j (writesP i)) ?_)))⟩
 cases r1:readsR j (writesP i)
 .exact bcF ⟨rfl,K1 _ false rfl rfl rfl rfl rfl (by rw [r1]; rfl)⟩
 .exact bcT (ldIns p (callB (late_e w0 M3 i) (K1 _ _ rfl rfl rfl rfl rfl (by rw [r1]; rfl))))
theorem farP_in (a b:Ins):0<=farP a b/\farP a b<=2:=by
 unfold farP
 split
 .omega
 split <;> omega
def IsMax (f:Nat->Int) (lo hi:Nat) (v:Int):Prop:=0<=v/\(∀ k,lo<=k->k<hi->f k<=v)/\(v=0\/∃ k,lo<=k/\k<hi/\v=f k)
theorem IsMax.uniq {f:Nat->Int} {lo hi:Nat} {v w:Int} (h:IsMax f lo hi v) (h':IsMax f lo hi w):v=w:=by
 obtain ⟨a1,a2,a3⟩:=h
 obtain ⟨b1,b2,b3⟩:=h'
 rcases a3 with a3 | ⟨k,k1,k2,k3⟩ <;> rcases b3 with b3 | ⟨j,j1,j2,j3⟩
 .omega
 .have:=a2 j j1 j2; omega
 .have:=b2 k k1 k2; omega
 .have:=a2 j j1 j2; have:=b2 k k1 k2; omega
theorem IsMax.nil (f:Nat->Int) (lo:Nat):IsMax f lo lo 0:=⟨by omega,fun k h1 h2=>by omega,.inl rfl⟩
theorem IsMax.up {f:Nat->Int} {lo hi:Nat} {v:Int} (h:IsMax f lo hi v) (hl:lo<=hi) {w:Int} (hw:w=max v (f hi)):IsMax f lo (hi+1) w:=by
 obtain ⟨a1,a2,a3⟩:=h
 subst hw
 refine ⟨by omega,fun k h1 h2=>?_,?_⟩
 .by_cases e:k=hi
  .rw [e]; omega
  .have:=a2 k h1 (by omega); omega
 .by_cases e:f hi<=v
  .rw [show max v (f hi)=v by omega]
   rcases a3 with a3 | ⟨k,k1,k2,k3⟩
   .exact .inl a3
   .exact .inr ⟨k,k1,by omega,k3⟩
  .exact .inr ⟨hi,hl,by omega,by omega⟩
theorem IsMax.dn {f:Nat->Int} {lo hi:Nat} {v:Int} (h:IsMax f (lo+1) hi v) (hl:lo<hi) {w:Int} (hw:w=max v (f lo)):IsMax f lo hi w:=by
 obtain ⟨a1,a2,a3⟩:=h
 subst hw
 refine ⟨by omega,fun k h1 h2=>?_,?_⟩
 .by_cases e:k=lo
  .rw [e]; omega
  .have:=a2 k (by omega) (by omega); omega
 .by_cases e:f lo<=v
  .rw [show max v (f lo)=v by omega]
   rcases a3 with a3 | ⟨k,k1,k2,k3⟩
   .exact .inl a3
   .exact .inr ⟨k,by omega,k2,k3⟩
  .exact .inr ⟨lo,by omega,by omega,by omega⟩
def hgt (i:Ins):List Ins->List Int->Int
 | j :: r,h :: hs=>max (hgt i r hs) (if farP i j>0 then farP i j+h else 0)
 | _,_=>0
def heightsP:List Ins->List Int
 | []=>[]
 | i :: r=>hgt i r (heightsP r) :: heightsP r
theorem heightsP_len:∀ l:List Ins,(heightsP l).length=l.length
 | []=>rfl
 | i :: r=>by simp [heightsP,heightsP_len r]
def hAt (l:List Ins) (k:Nat):Int:=(heightsP l).getD k 0
def hTerm (l:List Ins) (i j:Nat):Int:=if farP (l.getD i default) (l.getD j default)>0 then farP (l.getD i default) (l.getD j default)+hAt l j else 0
theorem hgt_max (i:Ins):∀ (r:List Ins) (hs:List Int),r.length=hs.length->∀ o:Nat,IsMax (fun k=>if farP i (r.getD (k-o) default)>0 then farP i (r.getD (k-o) default)+hs.getD (k-o) 0 else 0) o (o+r.length) (hgt i r hs)
 | [],[],_,o=>by simpa [hgt] using IsMax.nil _ o
 | j :: r,h :: hs,hl,o=>by
  have ih:=hgt_max i r hs (by simpa using hl) (o+1)
  have e:o+(j :: r).length=o+1+r.length:=by simp; omega
  rw [e]
  refine IsMax.dn (v:=hgt i r hs) ?_ (by omega) (by simp [hgt])
  obtain ⟨a1,a2,a3⟩:=ih
  have key:∀ k,o+1<=k->(if farP i ((j :: r).getD (k-o) default)>0 then farP i ((j :: r).getD (k-o) default)+(h :: hs).getD (k-o) 0 else 0)=(if farP i (r.getD (k-(o+1)) default)>0 then farP i (r.getD (k-(o+1)) default)+hs.getD (k-(o+1)) 0 else 0):=by
   intro k hk
   rw [show k-o=(k-(o+1))+1 by omega,List.getD_cons_succ,List.getD_cons_succ]
  refine ⟨a1,fun k h1 h2=>Int.le_trans (Int.le_of_eq (key k h1)) (a2 k h1 h2),?_⟩
  rcases a3 with a3 | ⟨k,k1,k2,k3⟩
  .exact .inl a3
  .exact .inr ⟨k,k1,k2,k3.trans (key k k1).symm⟩
 | [],_ :: _,hl,_=>by simp at hl
 | _ :: _,[],hl,_=>by simp at hl
theorem hAt_max:∀ (l:List Ins) (i:Nat),i<l.length->IsMax (hTerm l i) (i+1) l.length (hAt l i)
 | [],i,h=>by simp at h
 | x :: r,0,h=>by
  have:=hgt_max x r (heightsP r) (heightsP_len r).symm 1
  have e:(x :: r).length=1+r.length:=by simp; omega
  rw [e]
  obtain ⟨a1,a2,a3⟩:=this
  have key:∀ k,1<=k->hTerm (x :: r) 0 k=(if farP x (r.getD (k-1) default)>0 then farP x (r.getD (k-1) default)+(heightsP r).getD (k-1) 0 else 0):=by
   intro k hk
   obtain ⟨k',rfl⟩:∃ k',k=k'+1:=⟨k-1,by omega⟩
   unfold hTerm hAt
   simp only [List.getD_cons_zero,List.getD_cons_succ,heightsP,Nat.add_sub_cancel]
  refine ⟨a1,fun k h1 h2=>Int.le_trans (Int.le_of_eq (key k h1)) (a2 k h1 h2),?_⟩
  rcases a3 with a3 | ⟨k,k1,k2,k3⟩
  .exact .inl a3
  .exact .inr ⟨k,k1,k2,k3.trans (key k k1).symm⟩
 | x :: r,i+1,h=>by
  have h':i<r.length:=by simpa using h
  obtain ⟨a1,a2,a3⟩:=hAt_max r i h'
  have ev:hAt (x :: r) (i+1)=hAt r i:=by unfold hAt; rw [heightsP,List.getD_cons_succ]
  have key:∀ k,hTerm (x :: r) (i+1) (k+1)=hTerm r i k:=by
   intro k
   unfold hTerm hAt
   simp only [List.getD_cons_succ,heightsP]
  rw [ev]
  refine ⟨a1,fun k h1 h2=>?_,?_⟩
  .obtain ⟨k',rfl⟩:∃ k',k=k'+1:=⟨k-1,by omega⟩
   rw [key]; exact a2 k' (by omega) (by simpa using h2)
  .rcases a3 with a3 | ⟨k,k1,k2,k3⟩
   .exact .inl a3
   .exact .inr ⟨k+1,by omega,by simpa using k2,by rw [key]; exact k3⟩
theorem hAt_le (l:List Ins):∀ (n i:Nat),i<l.length->l.length-i<=n->0<=hAt l i/\hAt l i<=2*((l.length:Int)-1-i)
 | 0,i,h,hn=>by omega
 | n+1,i,h,hn=>by
  obtain ⟨a1,a2,a3⟩:=hAt_max l i h
  refine ⟨a1,?_⟩
  rcases a3 with a3 | ⟨k,k1,k2,k3⟩
  .omega
  .have:=hAt_le l n k k2 (by omega)
   rw [k3]
   unfold hTerm
   have hf:=farP_in (l.getD i default) (l.getD k default)
   split <;> omega
theorem hAt_bd (l:List Ins) {i:Nat} (h:i<l.length):0<=hAt l i/\hAt l i<=2*((l.length:Int)-1-i):=hAt_le l _ i h (Nat.le_refl _)
theorem heights_ext {l:List Ins} {o:List Int} (hl:o.length=l.length) (h:∀ k,k<l.length->o.getD k 0=hAt l k):o=heightsP l:=by
 apply List.ext_getElem (by rw [hl,heightsP_len])
 intro k h1 h2
 have:=h k (by omega)
 unfold hAt at this
 simpa [List.getD,h1,h2] using this
theorem zeros_int (n:Nat):zeros [Value.int .i64 0] n=intCells .i64 (List.replicate n 0):=by
 unfold zeros intCells
 induction n with
 | zero=>rfl
 | succ n ih=>rw [List.replicate_succ,List.flatten_cons,ih,List.replicate_succ]; rfl
theorem getD_set {l:List Int} {k j:Nat} {v:Int} (hk:k<l.length):(l.set k v).getD j 0=if j=k then v else l.getD j 0:=by
 by_cases e:j=k
 .subst e; simp [List.getD,hk]
 .rw [if_neg e]; simp [List.getD,List.getElem?_set_ne (Ne.symm e)]
theorem getD_rep (n k:Nat):(List.replicate n (0:Int)).getD k 0=0:=by
 by_cases h:k<n
 .simp [List.getD,h]
 .simp [List.getD,List.getElem?_replicate,h]
abbrev ownInts (w0:World) (m0:AM) (l:List Int) (r:Value) (m':AM):Prop:=(∃ (A:Option Addr) (c:Nat),r=.slice A l.length c/\Alog.Own m' w0.heap.size 3 1 A l.length c (intCells .i64 l)/\∀ k∈obl A,m0 k=none)/\m0.le m'
theorem heights_spec (w0:World) (m:AM) (A:Option Addr) (c:Nat) (l:List Ins) (hl:l.length<=1000000) (rd:Reads m 5 A l.length (insCells l)) :
  CallsA Tryz.prog w0 115 #[.slice A l.length c] m (ownInts w0 m (heightsP l)):=by
 refine cf115 w0 m A l.length c _ ⟨⟨by omega,by omega,by omega,by omega⟩,?_⟩
 intro b hb hn M
 have lM:m.le M:=le_new hn _
 have o0:Alog.Own M w0.heap.size 3 1 (some ⟨b,0,none⟩) l.length l.length (intCells .i64 (List.replicate l.length 0)):=by
  rw [<- zeros_int]; exact Own.new m hb 3 1 l.length _ (by rw [zeros_int]; simp [intCells])
 clear_value M
 have hfr:∀ k∈obl (some (⟨b,0,none⟩:Addr)),m k=none:=fun k hk=>by simp [obl] at hk; subst hk; exact hn
 rw [wrap_s (i:=(l.length:Int)-1) (by omega) (by omega)]
 generalize hb0:(some (⟨b,0,none⟩:Addr))=Ab at o0 hfr ⊢
 let Q:Int->Int->AM->Prop:=fun i v m'=>m.le m'/\∃ o:List Int,o.length=l.length/\Alog.Own m' w0.heap.size 3 1 Ab o.length l.length (intCells .i64 o)/\∀ k:Nat,k<l.length->o.getD k 0=if i<k then hAt l k else if (k:Int)=i then v else 0
 refine ⟨rfl,vl115_11010 w0 M _ _ A l.length c Ab l.length l.length ((l.length:Int)-1) (fun k i m'=>-1<=i/\i<l.length/\(k:Int)=i+1/\Q i 0 m') (fun m'=>Q (-1) 0 m') l.length (by rfl) (by rw [<- hb0]; rfl) (by rfl) ⟨by omega,by omega,by omega,lM,List.replicate l.length 0,by simp,by simpa using o0,fun k hk=>?_⟩ ?_ ?_⟩
 .rw [getD_rep,if_neg (by omega)]; split <;> rfl
 .rintro k σ i m' ⟨i0,i1,hk,hq⟩
  refine ⟨rfl,bcP (fun c1=>⟨rfl,?_⟩) fun c1=>?_⟩
  .have w1:IntKind.wrap .i64 (i+1)=i+1:=wrap_s (by omega) (by omega)
   rw [w1]
   refine vl115_11010010010 w0 m' _ _ k _ _ A l.length c Ab l.length l.length i (i+1) (fun k2 j m2=>i+1<=j/\j<=l.length/\(k2:Int)=l.length-j/\∃ v,IsMax (hTerm l i.toNat) (i.toNat+1) j.toNat v/\Q i v m2) (fun m2=>Q i (hAt l i.toNat) m2) (l.length-(i.toNat+1)) rfl rfl rfl rfl ⟨by omega,by omega,by omega,0,?_,hq⟩ ?_ ?_
   .rw [show (i+1).toNat=i.toNat+1 by omega]; exact IsMax.nil _ _
   .rintro k2 σ j m2 ⟨j0,j1,hk2,v,hv,L2,o,hol,ho,hop⟩
    clear hq
    have wj:IntKind.wrap .i64 (j+1)=j+1:=wrap_s (by omega) (by omega)
    refine ⟨rfl,bcP (fun c2=>ldAt (rd.le L2) rfl c1 i1 fun a=>ldAt (rd.le L2) rfl (by omega) c2 fun a2=>callI (far_e w0 m2 (cAt l i) (cAt l j)) ⟨rfl,?_⟩) fun c2=>?_⟩
    .have hf:=farP_in (cAt l i) (cAt l j)
     have hbj:=hAt_bd l (i:=j.toNat) (by omega)
     have hbi:=hAt_bd l (i:=i.toNat) (by omega)
     have hT:hTerm l i.toNat j.toNat=if farP (cAt l i) (cAt l j)>0 then farP (cAt l i) (cAt l j)+hAt l j.toNat else 0:=rfl
     have hvle:v<=hAt l i.toNat:=by
      obtain ⟨_,m2',_⟩:=hAt_max l i.toNat (by omega)
      rcases hv.2.2 with h | ⟨q,q1,q2,q3⟩
      .omega
      .rw [q3]; exact m2' q q1 (by omega)
     have hv0:=hv.1
     have ej:o.getD j.toNat 0=hAt l j.toNat:=by rw [hop _ (by omega),if_pos (by omega)]
     have ei:o.getD i.toNat 0=v:=by rw [hop _ (by omega),if_neg (by omega),if_pos (by omega)]
     rw [wj]
     refine bcP (fun c3=>⟨⟨c1,i1⟩,?_⟩) fun c3=>?_
     .obtain ⟨ad,rfl,hc⟩:=ho.ex (by omega)
      rw [nilO_some]
      refine ⟨_,cell_k hc c1 (by omega),⟨by omega,c2⟩,?_⟩
      rw [nilO_some]
      refine ⟨_,cell_k hc (by omega) (by omega),rfl,rfl,⟨c1,i1⟩,?_⟩
      rw [ej,ei,nilO_some,wrap_s (i:=farP (cAt l i) (cAt l j)+hAt l j.toNat) (by omega) (by omega)]
      have hw:(if farP (cAt l i) (cAt l j)+hAt l j.toNat>v then farP (cAt l i) (cAt l j)+hAt l j.toNat else v)=max v (hTerm l i.toNat j.toNat):=by
       rw [hT,if_pos c3]; split <;> omega
      refine own_set ho (k:=i.toNat) (by omega) _ fun m4 o4 f4=>?_
      repeat refine ⟨rfl,?_⟩
      refine ⟨k2-1,by omega,by omega,by omega,by omega,max v (hTerm l i.toNat j.toNat),?_,low_fresh L2 f4 hfr,o.set i.toNat (max v (hTerm l i.toNat j.toNat)),by rw [List.length_set]; exact hol,by rw [List.length_set,<- hw]; exact o4,fun q hq2=>?_⟩
      .rw [show (j+1).toNat=j.toNat+1 by omega]
       exact hv.up (by omega) rfl
      .rw [getD_set (by omega),hop q hq2]
       by_cases e:q=i.toNat
       .rw [if_pos e,if_neg (by omega),if_pos (by omega)]
       .rw [if_neg e]
        by_cases e2:i<q
        .rw [if_pos e2,if_pos e2]
        .rw [if_neg e2,if_neg e2,if_neg (by omega),if_neg (by omega)]
     .repeat refine ⟨rfl,?_⟩
      refine ⟨k2-1,by omega,by omega,by omega,by omega,v,?_,L2,o,hol,ho,hop⟩
      rw [show (j+1).toNat=j.toNat+1 by omega]
      refine hv.up (by omega) ?_
      rw [hT,if_neg c3]; omega
    .repeat refine ⟨rfl,?_⟩
     have:v=hAt l i.toNat:=by
      rw [show j.toNat=l.length by omega] at hv
      exact hv.uniq (hAt_max l i.toNat (by omega))
     rw [<- this]
     exact ⟨L2,o,hol,ho,hop⟩
   .rintro σ m2 ⟨L2,o,hol,ho,hop⟩
    have wi:IntKind.wrap .i64 (i-1)=i-1:=wrap_s (by omega) (by omega)
    rw [wi]
    repeat refine ⟨rfl,?_⟩
    refine ⟨k-1,by omega,by omega,by omega,by omega,L2,o,hol,ho,fun q hq2=>?_⟩
    rw [hop q hq2]
    by_cases e:i<q
    .rw [if_pos e,if_pos (by omega)]
    .rw [if_neg e]
     by_cases e2:(q:Int)=i
     .rw [if_pos e2,if_pos (by omega),show i.toNat=q by omega]
     .rw [if_neg e2,if_neg (by omega)]; split <;> rfl
  .repeat refine ⟨rfl,?_⟩
   obtain rfl:i = -1:=by omega
   exact hq
 .rintro σ m' ⟨L2,o,hol,ho,hop⟩
  have:o=heightsP l:=heights_ext hol fun q hq2=>by rw [hop q hq2,if_pos (by omega)]
  subst this
  refine retP_of ⟨⟨Ab,l.length,by rw [hol],?_,hfr⟩,L2⟩
  exact ho
def whP:List Int->Int->Int
 | [],_=>-1
 | x :: r,n=>if x=n then 0 else if whP r n = -1 then -1 else whP r n+1
theorem whP_none:∀ {l:List Int} {n:Int},n∉l->whP l n = -1
 | [],n,_=>rfl
 | x :: r,n,h=>by
  simp only [List.mem_cons,not_or] at h
  unfold whP
  rw [if_neg (fun e=>h.1 e.symm),whP_none h.2,if_pos rfl]
theorem whP_at:∀ {l:List Int} {n:Int} {i:Nat},i<l.length->l.getD i 0=n->n∉l.take i->whP l n=i
 | [],n,i,h,_,_=>by simp at h
 | x :: r,n,0,h,h2,_=>by
  unfold whP; rw [if_pos (by simpa using h2)]; rfl
 | x :: r,n,i+1,h,h2,h3=>by
  rw [List.take_succ_cons,List.mem_cons,not_or] at h3
  have:=whP_at (l:=r) (n:=n) (i:=i) (by simpa using h) (by simpa using h2) h3.2
  unfold whP
  rw [if_neg (fun e=>h3.1 e.symm),this,if_neg (by omega)]
  omega
theorem first_place:∀ {l:List Int} {n:Int},n∈l->∃ i:Nat,i<l.length/\l.getD i 0=n/\n∉l.take i
 | [],n,h=>by simp at h
 | x :: r,n,h=>by
  by_cases e:x=n
  .exact ⟨0,by simp,by simpa using e,by simp⟩
  .have hm:n∈r:=by
    rcases List.mem_cons.1 h with h | h
    .exact absurd h.symm e
    .exact h
   obtain ⟨i,h1,h2,h3⟩:=first_place hm
   refine ⟨i+1,by simpa using h1,by simpa using h2,?_⟩
   rw [List.take_succ_cons,List.mem_cons,not_or]
   exact ⟨fun h=>e h.symm,h3⟩
theorem whP_sp (l:List Int) (n:Int):(whP l n = -1/\n∉l)\/∃ i:Nat,whP l n=i/\i<l.length/\l.getD i 0=n/\n∉l.take i:=by
 by_cases h:n∈l
 .obtain ⟨i,h1,h2,h3⟩:=first_place h
  exact .inr ⟨i,whP_at h1 h2 h3,h1,h2,h3⟩
 .exact .inl ⟨whP_none h,h⟩
theorem whP_in (l:List Int) (n:Int) : -1<=whP l n/\whP l n<l.length:=by
 rcases whP_sp l n with ⟨h,_⟩ | ⟨i,h1,h2,_⟩ <;> omega
theorem whP_neg {l:List Int} {n:Int}:whP l n = -1↔n∉l:=by
 rcases whP_sp l n with ⟨h,h2⟩ | ⟨i,h1,h2,h3,h4⟩
 .exact ⟨fun _=>h2,fun _=>h⟩
 .refine ⟨fun h=>by omega,fun h=>absurd ?_ h⟩
  rw [<- h3]; exact getD_in h2
theorem whP_snoc {l:List Int} {x n:Int}:whP (l ++ [x]) n=if n∈l then whP l n else if x=n then (l.length:Int) else -1:=by
 by_cases h:n∈l
 .rw [if_pos h]
  obtain ⟨i,h1,h2,h3⟩:=first_place h
  rw [whP_at h1 h2 h3]
  refine whP_at (by simp; omega) ?_ ?_
  .simpa [List.getD,List.getElem?_append_left h1] using h2
  .rwa [List.take_append_of_le_length (by omega)]
 .rw [if_neg h]
  by_cases e:x=n
  .rw [if_pos e]
   refine whP_at (by simp) ?_ ?_
   .simp [e]
   .rwa [List.take_left]
  .rw [if_neg e]
   refine whP_none ?_
   simp only [List.mem_append,List.mem_singleton,not_or]
   exact ⟨h,fun h=>e h.symm⟩
theorem take_stepI {l:List Int} {i:Int} (h0:0<=i) (h1:i<l.length):l.take (i+1).toNat=l.take i.toNat ++ [l.getD i.toNat 0]:=by
 have hi:i.toNat<l.length:=by omega
 rw [show (i+1).toNat=i.toNat+1 by omega,<- List.take_append_getElem hi]
 congr 2
 simp [List.getD,hi]
theorem whP_fst {l:List Int} {k:Nat} (hk:k<l.length):whP l (l.getD k 0)=k↔l.getD k 0∉l.take k:=by
 constructor
 .intro h
  rcases whP_sp l (l.getD k 0) with ⟨h1,_⟩ | ⟨i,h1,h2,h3,h4⟩
  .omega
  .have:i=k:=by omega
   rw [this] at h4; exact h4
 .intro h; exact whP_at hk rfl h
def covN (n:Nat) (l:List Int):Nat:=(List.range n).countP (fun q:Nat=>l.contains ((q:Nat):Int))
theorem covN_le (n:Nat) (l:List Int):covN n l<=n:=by
 have:=List.countP_le_length (p:=fun q=>l.contains ((q:Nat):Int)) (l:=List.range n)
 rwa [List.length_range] at this
theorem covN_all {n:Nat} {l:List Int}:covN n l=n↔∀ q:Nat,q<n->(q:Int)∈l:=by
 have:covN n l=n↔∀ a∈List.range n,l.contains ((a:Nat):Int)=true:=by
  have h:=List.countP_eq_length (p:=fun q=>l.contains ((q:Nat):Int)) (l:=List.range n)
  rw [List.length_range] at h
  exact h
 rw [this]
 simp
theorem covN_nil (n:Nat):covN n []=0:=by unfold covN; rw [List.countP_eq_zero]; simp
theorem covN_neg {n:Nat} {l:List Int} {x:Int} (h:x = -1):covN n (l ++ [x])=covN n l:=by
 unfold covN
 apply List.countP_congr
 intro q _
 have:((q:Nat):Int)≠x:=by omega
 simp [List.contains_append,this]
theorem covN_new {n:Nat} {l:List Int} {x:Int} (h0:0<=x) (h1:x<n) (hx:x∉l):covN n (l ++ [x])=covN n l+1:=by
 unfold covN
 have hp:l.contains ((x.toNat:Nat):Int)=false:=by
  rw [Int.toNat_of_nonneg h0]
  cases h:l.contains x with
  | false=>rfl
  | true=>exact absurd (List.contains_iff_mem.1 h) hx
 rw [<- countP_add (p:=fun q=>l.contains ((q:Nat):Int)) hp n (by omega)]
 apply List.countP_congr
 intro q _
 have:(((q:Nat):Int)=x)↔q=x.toNat:=by omega
 simp [List.contains_append,this]
end Go.Proofs.YtgjamnhjlaohaaaGreatDoor.S
namespace Go.Proofs.YtgjamnhjlaohaaaGreatDoor.V
open Go Go.Alog Go.Proofs.YtgjamnhjlaohaaaGreatDoor.T
variable (w0:World) (m:AM)
noncomputable abbrev cf39 (x0:Int) (R:RT):Vn (C_ w0 39 #[I_ x0] m R):=mkF (F:=F39) Tryz.func39 (by dsimp only [push_cast,↓u1,↓u2,↓u3,Nat.reduceAdd,Nat.reduceBEq,Nat.reduceDiv,Nat.reduceMod]) (by kernel_rfl)
noncomputable abbrev cf165 (x0:Nat) (x1:Int) (R:RT):Vn (C_ w0 165 #[pt_ x0,I_ x1] m R):=mkF (F:=F165) Tryz.func165 (by dsimp only [push_cast,↓u1,↓u2,↓u3,Nat.reduceAdd,Nat.reduceBEq,Nat.reduceDiv,Nat.reduceMod]) (by kernel_rfl)
noncomputable abbrev cf126 (x0:Nat) (x1:Int) (R:RT):Vn (C_ w0 126 #[pt_ x0,I_ x1] m R):=mkF (F:=F126) Tryz.func126 (by dsimp only [push_cast,↓u1,↓u2,↓u3,Nat.reduceAdd,Nat.reduceBEq,Nat.reduceDiv,Nat.reduceMod]) (by kernel_rfl)
noncomputable abbrev cf128 (x0:Nat) (x1 x2:Int) (R:RT):Vn (C_ w0 128 #[pt_ x0,I_ x1,I_ x2] m R):=mkF (F:=F128) Tryz.func128 (by dsimp only [push_cast,↓u1,↓u2,↓u3,Nat.reduceAdd,Nat.reduceBEq,Nat.reduceDiv,Nat.reduceMod]) (by kernel_rfl)
noncomputable abbrev vr128_110 (σ:Sg) (R:RT) (x0:Nat) (x1 x2:Int) (K:AM->Prop) (h0:σ 0=pt_ x0) (h1:σ 1=I_ x1) (h2:σ 2=I_ x2):Vn (Vn (XV w0 F128 (Tz R) 14 σ m)):=mkR (.o 0 (.o 1 (.o 2 (.o 4 (.o 5 (.a (.o 3 (.o 6 (.o 7 (.o 8 .z)))) (.o 6 (.o 3 (.o 7 (.o 8 .z)))))))))) [] (ks:=[]) K (cs h0 (cs h1 (cs h2 nl))) (by dsimp only [push_cast,↓u1,↓u2,↓u3,Nat.reduceAdd,Nat.reduceBEq,Nat.reduceDiv,Nat.reduceMod]) (by dsimp only [push_cast,↓u1,↓u2,↓u3,Nat.reduceAdd,Nat.reduceBEq,Nat.reduceDiv,Nat.reduceMod]) (by kernel_rfl)
noncomputable abbrev cf82 (x0:Nat) (R:RT):Vn (C_ w0 82 #[pt_ x0] m R):=mkF (F:=F82) Tryz.func82 (by dsimp only [push_cast,↓u1,↓u2,↓u3,Nat.reduceAdd,Nat.reduceBEq,Nat.reduceDiv,Nat.reduceMod]) (by kernel_rfl)
noncomputable abbrev cf42 (x0:Nat) (R:RT):Vn (C_ w0 42 #[pt_ x0] m R):=mkF (F:=F42) Tryz.func42 (by dsimp only [push_cast,↓u1,↓u2,↓u3,Nat.reduceAdd,Nat.reduceBEq,Nat.reduceDiv,Nat.reduceMod]) (by kernel_rfl)
noncomputable abbrev vl42_1100 (σ:Sg) (R:RT) (x3:Option Addr) (x3n x3c:Nat) (I0:Nat->Option Addr->Nat->Nat->AM->Prop) (E0_0:Option Addr->Nat->Nat->AM->Prop) (N:Nat) (h3:σ 3=.slice x3 x3n x3c) (h_0:I0 N x3 x3n x3c m):Vn (Vn (XV w0 F42 (Tz R) 28 σ m)):=mkL1 (lq42_1100 R I0 E0_0) (fun _=>rfl) N nl (cs h3 nl) h_0 (by dsimp only [push_cast,↓u1,↓u2,↓u3,Nat.reduceAdd,Nat.reduceBEq,Nat.reduceDiv,Nat.reduceMod]) (by dsimp only [push_cast,↓u1,↓u2,↓u3,Nat.reduceAdd,Nat.reduceBEq,Nat.reduceDiv,Nat.reduceMod]) (by kernel_rfl)
noncomputable abbrev cf40 (x0:Option Addr) (x0n x0c:Nat) (R:RT):Vn (C_ w0 40 #[.slice x0 x0n x0c] m R):=mkF (F:=F40) Tryz.func40 (by dsimp only [push_cast,↓u1,↓u2,↓u3,Nat.reduceAdd,Nat.reduceBEq,Nat.reduceDiv,Nat.reduceMod]) (by kernel_rfl)
end Go.Proofs.YtgjamnhjlaohaaaGreatDoor.V
namespace Go.Proofs.YtgjamnhjlaohaaaGreatDoor.V
open Go Go.Alog Go.Proofs.YtgjamnhjlaohaaaGreatDoor.T
variable (w0:World) (m:AM)
noncomputable abbrev cf117 (x0:Option Addr) (x0n x0c:Nat) (x1:Option Addr) (x1n x1c:Nat) (x2 x3:Int) (R:RT):Vn (C_ w0 117 #[.slice x0 x0n x0c,.slice x1 x1n x1c,I_ x2,I_ x3] m R):=mkF (F:=F117) Tryz.func117 (by dsimp only [push_cast,↓u1,↓u2,↓u3,Nat.reduceAdd,Nat.reduceBEq,Nat.reduceDiv,Nat.reduceMod]) (by kernel_rfl)
noncomputable abbrev vl117_11010 (σ:Sg) (R:RT) (x0:Option Addr) (x0n x0c:Nat) (x1:Option Addr) (x1n x1c:Nat) (x2 x3 x16 x17:Int) (I0:Nat->Int->AM->Prop) (E0_0:AM->Prop) (N:Nat) (h0:σ 0=.slice x0 x0n x0c) (h1:σ 1=.slice x1 x1n x1c) (h2:σ 2=I_ x2) (h3:σ 3=I_ x3) (h16:σ 16=I_ x16) (h17:σ 17=I_ x17) (h_0:I0 N x17 m):Vn (Vn (XV w0 F117 (Tz R) 58 σ m)):=mkL1 (lq117_11010 R x0 x0n x0c x1 x1n x1c x2 x3 x16 I0 E0_0) (fun _=>rfl) N (cs h0 (cs h1 (cs h2 (cs h3 (cs h16 nl))))) (cs h17 nl) h_0 (by dsimp only [push_cast,↓u1,↓u2,↓u3,Nat.reduceAdd,Nat.reduceBEq,Nat.reduceDiv,Nat.reduceMod]) (by dsimp only [push_cast,↓u1,↓u2,↓u3,Nat.reduceAdd,Nat.reduceBEq,Nat.reduceDiv,Nat.reduceMod]) (by kernel_rfl)
noncomputable abbrev cf73 (x0:Option Addr) (x0n x0c:Nat) (x1:Option Addr) (x1n x1c:Nat) (x2_0 x2_1 x2_2 x2_3 x2_4 x3:Int) (R:RT):Vn (C_ w0 73 #[.slice x0 x0n x0c,.slice x1 x1n x1c,.agg #[I_ x2_0,I_ x2_1,I_ x2_2,I_ x2_3,I_ x2_4],I_ x3] m R):=mkF (F:=F73) Tryz.func73 (by dsimp only [push_cast,↓u1,↓u2,↓u3,Nat.reduceAdd,Nat.reduceBEq,Nat.reduceDiv,Nat.reduceMod]) (by kernel_rfl)
noncomputable abbrev vl73_1010 (σ:Sg) (R:RT) (x0:Option Addr) (x0n x0c:Nat) (x3:Int) (x6:Nat) (x11:Option Addr) (x11n x11c:Nat) (x12 x13:Int) (I0:Nat->Int->AM->Prop) (E0_0:AM->Prop) (N:Nat) (h0:σ 0=.slice x0 x0n x0c) (h3:σ 3=I_ x3) (h6:σ 6=pt_ x6) (h11:σ 11=.slice x11 x11n x11c) (h12:σ 12=I_ x12) (h13:σ 13=I_ x13) (h_0:I0 N x13 m):Vn (Vn (XV w0 F73 (Tz R) 26 σ m)):=mkL1 (lq73_1010 R x0 x0n x0c x3 x6 x11 x11n x11c x12 I0 E0_0) (fun _=>rfl) N (cs h0 (cs h3 (cs h6 (cs h11 (cs h12 nl))))) (cs h13 nl) h_0 (by dsimp only [push_cast,↓u1,↓u2,↓u3,Nat.reduceAdd,Nat.reduceBEq,Nat.reduceDiv,Nat.reduceMod]) (by dsimp only [push_cast,↓u1,↓u2,↓u3,Nat.reduceAdd,Nat.reduceBEq,Nat.reduceDiv,Nat.reduceMod]) (by kernel_rfl)
noncomputable abbrev cf34 (x0:Option Addr) (x0n x0c:Nat) (x1:Option Addr) (x1n x1c:Nat) (R:RT):Vn (C_ w0 34 #[.slice x0 x0n x0c,.slice x1 x1n x1c] m R):=mkF (F:=F34) Tryz.func34 (by dsimp only [push_cast,↓u1,↓u2,↓u3,Nat.reduceAdd,Nat.reduceBEq,Nat.reduceDiv,Nat.reduceMod]) (by kernel_rfl)
noncomputable abbrev vl34_11010 (σ:Sg) (R:RT) (x0:Option Addr) (x0n x0c:Nat) (x9:Option Addr) (x9n x9c:Nat) (x10:Int) (x5:Option Addr) (x5n x5c:Nat) (x11:Int) (I0:Nat->Option Addr->Nat->Nat->Int->AM->Prop) (E0_0:Option Addr->Nat->Nat->AM->Prop) (N:Nat) (h0:σ 0=.slice x0 x0n x0c) (h5:σ 5=.slice x5 x5n x5c) (h9:σ 9=.slice x9 x9n x9c) (h10:σ 10=I_ x10) (h11:σ 11=I_ x11) (h_0:I0 N x5 x5n x5c x11 m):Vn (Vn (XV w0 F34 (Tz R) 58 σ m)):=mkL1 (lq34_11010 R x0 x0n x0c x9 x9n x9c x10 I0 E0_0) (fun _=>rfl) N (cs h0 (cs h9 (cs h10 nl))) (cs h5 (cs h11 nl)) h_0 (by dsimp only [push_cast,↓u1,↓u2,↓u3,Nat.reduceAdd,Nat.reduceBEq,Nat.reduceDiv,Nat.reduceMod]) (by dsimp only [push_cast,↓u1,↓u2,↓u3,Nat.reduceAdd,Nat.reduceBEq,Nat.reduceDiv,Nat.reduceMod]) (by kernel_rfl)
noncomputable abbrev cf119 (x0 x1:Int) (pc:Nat) (R:RT):Vn (C_ w0 119 #[I_ x0,I_ x1,pt_ pc] m R):=mkF (F:=F119) Tryz.func119 (by dsimp only [push_cast,↓u1,↓u2,↓u3,Nat.reduceAdd,Nat.reduceBEq,Nat.reduceDiv,Nat.reduceMod]) (by kernel_rfl)
noncomputable abbrev cf70 (x0:Option Addr) (x0n x0c:Nat) (R:RT):Vn (C_ w0 70 #[.slice x0 x0n x0c] m R):=mkF (F:=F70) Tryz.func70 (by dsimp only [push_cast,↓u1,↓u2,↓u3,Nat.reduceAdd,Nat.reduceBEq,Nat.reduceDiv,Nat.reduceMod]) (by kernel_rfl)
noncomputable abbrev vl70_1111010 (σ:Sg) (R:RT) (x0:Option Addr) (x0n x0c x3:Nat) (x4:Option Addr) (x4n x4c:Nat) (x5:Option Addr) (x5n x5c:Nat) (x6:Int) (I0:Nat->Option Addr->Nat->Nat->Int->AM->Prop) (E0_0:Option Addr->Nat->Nat->AM->Prop) (N:Nat) (h0:σ 0=.slice x0 x0n x0c) (h3:σ 3=pt_ x3) (h4:σ 4=.slice x4 x4n x4c) (h5:σ 5=.slice x5 x5n x5c) (h6:σ 6=I_ x6) (h_0:I0 N x5 x5n x5c x6 m):Vn (Vn (XV w0 F70 (Tz R) 250 σ m)):=mkL1 (lq70_1111010 R x0 x0n x0c x3 x4 x4n x4c I0 E0_0) (fun _=>rfl) N (cs h0 (cs h3 (cs h4 nl))) (cs h5 (cs h6 nl)) h_0 (by dsimp only [push_cast,↓u1,↓u2,↓u3,Nat.reduceAdd,Nat.reduceBEq,Nat.reduceDiv,Nat.reduceMod]) (by dsimp only [push_cast,↓u1,↓u2,↓u3,Nat.reduceAdd,Nat.reduceBEq,Nat.reduceDiv,Nat.reduceMod]) (by kernel_rfl)
noncomputable abbrev vl70_11110100101010 (σ:Sg) (R:RT) (n0:Nat) (I0:Nat->Option Addr->Nat->Nat->Int->AM->Prop) (E0_0:Option Addr->Nat->Nat->AM->Prop) (x0:Option Addr) (x0n x0c x3:Nat) (x4:Option Addr) (x4n x4c:Nat) (x5:Option Addr) (x5n x5c:Nat) (x6:Int) (x7:Nat) (x22 x23:Int) (I1:Nat->Int->AM->Prop) (E1_2:AM->Prop) (N:Nat) (h0:σ 0=.slice x0 x0n x0c) (h3:σ 3=pt_ x3) (h4:σ 4=.slice x4 x4n x4c) (h5:σ 5=.slice x5 x5n x5c) (h6:σ 6=I_ x6) (h7:σ 7=pt_ x7) (h22:σ 22=I_ x22) (h23:σ 23=I_ x23) (h_0:I1 N x23 m):Vn (Vn (XV w0 F70 (lq70_1111010 R x0 x0n x0c x3 x4 x4n x4c I0 E0_0 n0) 32042 σ m)):=mkL1 (lq70_11110100101010 R x0 x0n x0c x3 x4 x4n x4c x5 x5n x5c x6 x7 x22 I1 E1_2) (fun _=>rfl) N (cs h0 (cs h3 (cs h4 (cs h5 (cs h6 (cs h7 (cs h22 nl))))))) (cs h23 nl) h_0 (by dsimp only [push_cast,↓u1,↓u2,↓u3,Nat.reduceAdd,Nat.reduceBEq,Nat.reduceDiv,Nat.reduceMod]) (by dsimp only [push_cast,↓u1,↓u2,↓u3,Nat.reduceAdd,Nat.reduceBEq,Nat.reduceDiv,Nat.reduceMod]) (by kernel_rfl)
noncomputable abbrev cf33 (x0:Option Addr) (x0n x0c:Nat) (R:RT):Vn (C_ w0 33 #[.slice x0 x0n x0c] m R):=mkF (F:=F33) Tryz.func33 (by dsimp only [push_cast,↓u1,↓u2,↓u3,Nat.reduceAdd,Nat.reduceBEq,Nat.reduceDiv,Nat.reduceMod]) (by kernel_rfl)
noncomputable abbrev vk33_111111011011 (σ:Sg) (R:RT) (x0:Option Addr) (x0n x0c:Nat) (x3:Int) (x4:Nat) (x7:Option Addr) (x7n x7c:Nat) (x8:Int) (x77:Bool) (h0:σ 0=.slice x0 x0n x0c) (h3:σ 3=I_ x3) (h4:σ 4=pt_ x4) (h7:σ 7=.slice x7 x7n x7c) (h8:σ 8=I_ x8) (h77:σ 77=.bool x77):Vn (XV w0 F33 (Tz R) 8155 σ m):=mkK (cs h0 (cs h3 (cs h4 (cs h7 (cs h8 (cs h77 nl)))))) (by dsimp only [push_cast,↓u1,↓u2,↓u3,Nat.reduceAdd,Nat.reduceBEq,Nat.reduceDiv,Nat.reduceMod]) (by kernel_rfl)
noncomputable abbrev vk33_1111111 (σ:Sg) (R:RT) (x0:Option Addr) (x0n x0c:Nat) (x3:Int) (x4:Nat) (x7:Option Addr) (x7n x7c:Nat) (h0:σ 0=.slice x0 x0n x0c) (h3:σ 3=I_ x3) (h4:σ 4=pt_ x4) (h7:σ 7=.slice x7 x7n x7c):Vn (XV w0 F33 (Tz R) 255 σ m):=mkK (cs h0 (cs h3 (cs h4 (cs h7 nl)))) (by dsimp only [push_cast,↓u1,↓u2,↓u3,Nat.reduceAdd,Nat.reduceBEq,Nat.reduceDiv,Nat.reduceMod]) (by kernel_rfl)
noncomputable abbrev vl33_111111100 (σ:Sg) (R:RT) (x0:Option Addr) (x0n x0c:Nat) (x3:Int) (x4:Nat) (x7:Option Addr) (x7n x7c:Nat) (I0:Nat->Option Addr->Nat->Nat->AM->Prop) (E0_0:Option Addr->Nat->Nat->AM->Prop) (N:Nat) (h0:σ 0=.slice x0 x0n x0c) (h3:σ 3=I_ x3) (h4:σ 4=pt_ x4) (h7:σ 7=.slice x7 x7n x7c) (h_0:I0 N x7 x7n x7c m):Vn (Vn (XV w0 F33 (Tz R) 1020 σ m)):=mkL1 (lq33_111111100 R x0 x0n x0c x3 x4 I0 E0_0) (fun _=>rfl) N (cs h0 (cs h3 (cs h4 nl))) (cs h7 nl) h_0 (by dsimp only [push_cast,↓u1,↓u2,↓u3,Nat.reduceAdd,Nat.reduceBEq,Nat.reduceDiv,Nat.reduceMod]) (by dsimp only [push_cast,↓u1,↓u2,↓u3,Nat.reduceAdd,Nat.reduceBEq,Nat.reduceDiv,Nat.reduceMod]) (by kernel_rfl)
noncomputable abbrev vr33_11111101101100 (σ:Sg) (R:RT) (x3:Int) (x7:Option Addr) (x7n x7c:Nat) (x8:Int) (K:Option Addr->Nat->Nat->AM->Prop) (h3:σ 3=I_ x3) (h7:σ 7=.slice x7 x7n x7c) (h8:σ 8=I_ x8):Vn (Vn (XV w0 F33 (Tz R) 32620 σ m)):=mkR (.o 0 (.o 1 (.o 2 (.o 4 (.o 5 (.o 6 (.o 7 (.a (.o 3 (.o 8 (.o 9 (.o 10 (.o 11 .z))))) (.o 8 (.a (.o 3 (.o 9 (.o 10 (.o 11 .z)))) (.o 9 (.o 3 (.o 10 (.o 11 .z)))))))))))))) [] (ks:=[(2,.s)]) K (cs h3 (cs h7 (cs h8 nl))) (by dsimp only [push_cast,↓u1,↓u2,↓u3,Nat.reduceAdd,Nat.reduceBEq,Nat.reduceDiv,Nat.reduceMod]) (by dsimp only [push_cast,↓u1,↓u2,↓u3,Nat.reduceAdd,Nat.reduceBEq,Nat.reduceDiv,Nat.reduceMod]) (by kernel_rfl)
noncomputable abbrev cf163 (x0 x1:Int) (R:RT):Vn (C_ w0 163 #[.int .u64 x0,.int .u64 x1] m R):=mkF (F:=F163) Tryz.func163 (by dsimp only [push_cast,↓u1,↓u2,↓u3,Nat.reduceAdd,Nat.reduceBEq,Nat.reduceDiv,Nat.reduceMod]) (by kernel_rfl)
end Go.Proofs.YtgjamnhjlaohaaaGreatDoor.V
namespace Go.Proofs.YtgjamnhjlaohaaaGreatDoor.S
open Go Go.RowKit Go.Alog Go.Proofs.YtgjamnhjlaohaaaGreatDoor.T Go.Proofs.YtgjamnhjlaohaaaGreatDoor.V
def bz (l:List Ins) (out:List Int) (j i:Nat):Bool:=decide (farP (cAt l i) (cAt l j)>0) && (decide (whP out i<0) || decide (whP out i+farP (cAt l i) (cAt l j)>(out.length:Int)))
def readyP (l:List Ins) (out:List Int) (j:Nat):Bool:=!decide (whP out j>=0) && (List.range j).all (fun i=>!bz l out j i)
theorem readyP_wh {l:List Ins} {out:List Int} {j:Nat} (h:whP out j>=0):readyP l out j=false:=by unfold readyP; rw [decide_eq_true h]; rfl
theorem readyP_t {l:List Ins} {out:List Int} {j:Nat} (h:¬ whP out j>=0) (hb:∀ i,i<j->bz l out j i=false):readyP l out j=true:=by
 unfold readyP
 rw [decide_eq_false h,Bool.not_false,Bool.true_and,List.all_eq_true]
 intro i hi
 rw [hb i (List.mem_range.1 hi)]; rfl
theorem readyP_f {l:List Ins} {out:List Int} {j i:Nat} (hi:i<j) (hb:bz l out j i=true):readyP l out j=false:=by
 unfold readyP
 rw [Bool.and_eq_false_iff]
 right
 rw [List.all_eq_false]
 exact ⟨i,List.mem_range.2 hi,by rw [hb]; simp⟩
theorem ready_e (w0:World) (m:AM) (A:Option Addr) (c:Nat) (l:List Ins) (hl:l.length<=1000000) (rd:Reads m 5 A l.length (insCells l)) (A1:Option Addr) (c1:Nat) (ats out:List Int) (hn:ats.length=l.length) (hat:∀ i:Nat,i<l.length->ats.getD i 0=whP out i)
  (hol:out.length<=1000000) (rd1:Reads m 1 A1 l.length (intCells .i64 ats)) (j:Int) (j0:0<=j) (j1:j<l.length) :
  CallsA Tryz.prog w0 117 #[.slice A l.length c,.slice A1 l.length c1,.int .i64 j,.int .i64 out.length] m (fun r m'=>r=.bool (readyP l out j.toNat)/\m'=m):=by
 generalize hR:(fun (r:Value) (m':AM)=>r=.bool (readyP l out j.toNat)/\m'=m)=R
 have ret:∀ (v:Bool),v=readyP l out j.toNat->RetP R (.bool v) m:=fun v e=>by rw [<- hR]; exact retP_of ⟨by rw [e],rfl⟩
 have hjj:((j.toNat:Nat):Int)=j:=by omega
 have cat:∀ {i:Int},0<=i->i<l.length->∃ a,A1=some a/\m.cell (a.add (i.toNat*1))=some (.int .i64 (whP out i)):=by
  intro i i0 i1
  obtain ⟨a,rfl,hc⟩:=rd1.ex (by omega)
  refine ⟨a,rfl,?_⟩
  have:=cell_k hc i0 (by omega)
  rw [this,hat _ (by omega),show ((i.toNat:Nat):Int)=i by omega]
 obtain ⟨a1,hA1,hcj⟩:=cat j0 j1
 refine cf117 w0 m A l.length c A1 l.length c1 j out.length R ⟨⟨j0,j1⟩,?_⟩
 rw [hA1,nilO_some]
 refine ⟨_,hcj,rfl,bcP (fun h=>ret _ (readyP_wh (by rw [hjj]; exact h)).symm) (fun h=>?_)⟩
 rw [<- hA1]
 refine vl117_11010 w0 m _ _ A l.length c A1 l.length c1 j out.length j 0 (fun q i m'=>m'=m/\0<=i/\i<=j/\(q:Int)=j-i/\∀ p:Nat,(p:Int)<i->bz l out j.toNat p=false) (fun m'=>m'=m/\∀ p:Nat,(p:Int)<j->bz l out j.toNat p=false) j.toNat rfl rfl rfl rfl rfl rfl ⟨rfl,by omega,by omega,by omega,fun p hp=>by omega⟩ ?_ ?_
 .rintro q σ i M ⟨rfl,i0,i1,hq,hp⟩
  refine ⟨rfl,bcP (fun hlt=>?_) (fun hlt=>by (repeat (refine And.intro (Eq.refl _) ?_)); exact fun p h=>hp p (by omega))⟩
  refine ldAt rd rfl i0 (by omega) fun a=>ldAt rd rfl j0 (by omega) fun a=>callI (far_e w0 M (cAt l i) (cAt l j)) ⟨rfl,?_⟩
  have hii:((i.toNat:Nat):Int)=i:=by omega
  have hb:bz l out j.toNat i.toNat=(decide (farP (cAt l i) (cAt l j)>0) && (decide (whP out i<0) || decide (whP out i+farP (cAt l i) (cAt l j)>(out.length:Int)))):=by unfold bz; rw [hii,hjj]
  have wi:IntKind.wrap .i64 (i+1)=i+1:=wrap_s (by omega) (by omega)
  have good:bz l out j.toNat i.toNat=false->∃ n':Nat,n'<q/\(M=M/\0<=i+1/\i+1<=j/\(n':Int)=j-(i+1)/\∀ p:Nat,(p:Int)<i+1->bz l out j.toNat p=false):=fun e=>by
   refine ⟨q-1,by omega,rfl,by omega,by omega,by omega,fun p h=>?_⟩
   by_cases e2:(p:Int)=i
   .rw [show p=i.toNat by omega]; exact e
   .exact hp p (by omega)
  have bad:bz l out j.toNat i.toNat=true->RetP R (.bool false) M:=fun e=>ret _ (readyP_f (i:=i.toNat) (by omega) e).symm
  have hfi:=farP_in (cAt l i) (cAt l j)
  have hwi:=whP_in out i
  obtain ⟨a2,hA2,hci⟩:=cat i0 (by omega)
  rw [wi]
  refine bcP (fun h1=>?_) (fun h1=>⟨decide_eq_false h1,?_⟩)
  .rw [decide_eq_true h1] at hb ⊢
   refine ⟨⟨i0,by omega⟩,?_⟩
   rw [hA2,nilO_some]
   refine ⟨_,hci,rfl,bcP (fun h2=>⟨decide_eq_true h2,bcT (bad (by rw [hb,decide_eq_true h2]; rfl))⟩) (fun h2=>⟨⟨i0,by omega⟩,?_⟩)⟩
   rw [nilO_some]
   refine ⟨_,hci,rfl,rfl,?_⟩
   rw [wrap_s (by omega) (by omega),decide_eq_false h2] at *
   refine bcI (fun h3=>bad ?_) (fun h3=>?_)
   .have h3':decide (whP out i+farP (cAt l i) (cAt l j)>(out.length:Int))=true:=h3
    rw [hb,h3']; rfl
   .have h3':decide (whP out i+farP (cAt l i) (cAt l j)>(out.length:Int))=false:=h3
    (repeat (refine And.intro (Eq.refl _) ?_))
    exact good (by rw [hb,h3']; rfl)
  ·(repeat (refine And.intro (Eq.refl _) ?_))
   exact good (by rw [hb,decide_eq_false h1]; rfl)
 .rintro σ M ⟨rfl,hp⟩
  exact ret _ (readyP_t (by rw [hjj]; exact h) fun i hi=>hp i (by omega)).symm
def czA (l:List Ins) (order:List Int) (last:Ins) (place:Int) (k:Nat):Bool:=decide (order.getD k 0>=0) && decide ((k:Int)+farP (cAt l (order.getD k 0)) last>place)
def clearP (l:List Ins) (order:List Int) (last:Ins) (place:Int):Bool:=(List.range order.length).all (fun k=>!czA l order last place k)
theorem clearP_t {l:List Ins} {order:List Int} {last:Ins} {place:Int} (h:∀ k,k<order.length->czA l order last place k=false):clearP l order last place=true:=by
 unfold clearP
 rw [List.all_eq_true]
 intro i hi
 rw [h i (List.mem_range.1 hi)]; rfl
theorem clearP_f {l:List Ins} {order:List Int} {last:Ins} {place:Int} {k:Nat} (hk:k<order.length) (h:czA l order last place k=true):clearP l order last place=false:=by
 unfold clearP
 rw [List.all_eq_false]
 exact ⟨k,List.mem_range.2 hk,by rw [h]; simp⟩
theorem clear_e (w0:World) (m:AM) (A:Option Addr) (c:Nat) (l:List Ins) (hl:l.length<=1000000) (rd:Reads m 5 A l.length (insCells l)) (A1:Option Addr) (n1 c1:Nat) (order:List Int) (hn1:order.length=n1)
  (hol:order.length<=1000000) (hO:∀ k:Nat,k<order.length->order.getD k 0<l.length) (rd1:Reads m 1 A1 n1 (intCells .i64 order)) (last:Ins) (place:Int) :
  CallsA Tryz.prog w0 73 #[.slice A l.length c,.slice A1 n1 c1,last.val,.int .i64 place] m (fun r m'=>r=.bool (clearP l order last place)/\m'=m):=by
 subst hn1
 refine CallsA.down (Q:=fun r=>r=.bool (clearP l order last place)) (R:=fun r m'=>r=.bool (clearP l order last place)/\m.le m') ?_ fun _ _ h=>h
 generalize hR:(fun (r:Value) (m':AM)=>r=.bool (clearP l order last place)/\m.le m')=R
 refine cf73 w0 m A l.length c A1 order.length c1 _ _ _ _ _ place R ?_
 intro b hb hbn M
 have lM:m.le M:=le_new hbn _
 have p:M b=some (.cells last.cells.toArray 57):=upd_get_same
 clear_value M
 have ret:∀ (v:Bool),v=clearP l order last place->RetP R (.bool v) M:=fun v e=>by rw [<- hR]; exact retP_of ⟨by rw [e],lM⟩
 have rd:=rd.le lM
 have rd1:=rd1.le lM
 refine vl73_1010 w0 M _ _ A l.length c place b A1 order.length c1 order.length 0 (fun q k m'=>m'=M/\0<=k/\k<=order.length/\(q:Int)=order.length-k/\∀ p:Nat,(p:Int)<k->czA l order last place p=false) (fun m'=>m'=M/\∀ p:Nat,p<order.length->czA l order last place p=false) order.length rfl rfl rfl rfl rfl rfl ⟨rfl,by omega,by omega,by omega,fun p hp=>by omega⟩ ?_ ?_
 .rintro q σ k M2 ⟨rfl,k0,k1,hq,hp⟩
  refine ⟨rfl,bcP (fun hlt=>⟨⟨k0,hlt⟩,?_⟩) (fun hlt=>by (repeat (refine And.intro (Eq.refl _) ?_)); exact fun p h=>hp p (by omega))⟩
  obtain ⟨a1,rfl,hc⟩:=rd1.ex (by omega)
  rw [nilO_some]
  have hkk:((k.toNat:Nat):Int)=k:=by omega
  have hok:=hO k.toNat (by omega)
  have hcz:czA l order last place k.toNat=(decide (order.getD k.toNat 0>=0) && decide (k+farP (cAt l (order.getD k.toNat 0)) last>place)):=by unfold czA; rw [hkk]
  have wk:IntKind.wrap .i64 (k+1)=k+1:=wrap_s (by omega) (by omega)
  have good:czA l order last place k.toNat=false->∃ n':Nat,n'<q/\(M2=M2/\0<=k+1/\k+1<=order.length/\(n':Int)=order.length-(k+1)/\∀ p:Nat,(p:Int)<k+1->czA l order last place p=false):=fun e=>by
   refine ⟨q-1,by omega,rfl,by omega,by omega,by omega,fun p h=>?_⟩
   by_cases e2:(p:Int)=k
   .rw [show p=k.toNat by omega]; exact e
   .exact hp p (by omega)
  refine ⟨_,cell_k hc k0 hlt,rfl,?_⟩
  generalize order.getD k.toNat 0=x at hok hcz ⊢
  rw [wk]
  refine bcP (fun h1=>?_) (fun h1=>⟨decide_eq_false h1,?_⟩)
  .refine ldAt rd rfl h1 hok fun a=>ldIns p (callI (far_e w0 M2 (cAt l x) last) ⟨rfl,rfl,?_⟩)
   have hfi:=farP_in (cAt l x) last
   rw [wrap_s (i:=k+farP (cAt l x) last) (by omega) (by omega)]
   rw [decide_eq_true h1] at hcz ⊢
   refine bcI (fun h3=>?_) (fun h3=>?_)
   .have h3':decide (k+farP (cAt l x) last>place)=true:=h3
    exact ret _ (clearP_f (k:=k.toNat) (by omega) (by rw [hcz,h3']; rfl)).symm
   .have h3':decide (k+farP (cAt l x) last>place)=false:=h3
    (repeat (refine And.intro (Eq.refl _) ?_))
    exact good (by rw [hcz,h3']; rfl)
  ·(repeat (refine And.intro (Eq.refl _) ?_))
   exact good (by rw [hcz,decide_eq_false h1]; rfl)
 .rintro σ M2 ⟨rfl,hp⟩
  exact ret _ (clearP_t hp).symm
def pickAt (l:List Ins) (n:Int):Ins:=if 0<=n/\n<l.length then cAt l n else nop
def pickP (l:List Ins) (order:List Int):List Ins:=order.map (pickAt l)
theorem pickP_len (l:List Ins) (order:List Int):(pickP l order).length=order.length:=by simp [pickP]
def oC (w0:World) (m0:AM) (l:List Ins) (r:Value) (m':AM):Prop:=(∃ (A:Option Addr) (c:Nat),r=.slice A l.length c/\Alog.Own m' w0.heap.size 57 5 A l.length c (insCells l)/\∀ k∈obl A,m0 k=none)/\m0.le m'
theorem blk5o {w0:World} {m' M:AM} {b:Nat} (l:m'.le M) (nb:m' b=none) (p:M b=some (.cells (Ins.cells nop).toArray 57 (0,0))) (hb:w0.heap.size<=b) {i:Ins} {K:AM->Prop}
  (hK:∀ M3,m'.le M3->M3 b=some (.cells i.cells.toArray 57 (0,0))->K M3) :
  StC w0.heap.size M ⟨b,0,none⟩ (.int .i64 i.op) fun m2=>StC w0.heap.size m2 ⟨b,1,none⟩ (.int .i64 i.a) fun m3=>StC w0.heap.size m3 ⟨b,2,none⟩ (.int .i64 i.b) fun m4=>StC w0.heap.size m4 ⟨b,3,none⟩ (.int .i64 i.c) fun m5=>StC w0.heap.size m5 ⟨b,4,none⟩ (.int .i64 i.imm) fun m6=>K m6:=by
 refine StC_own p hb (by simp [Ins.cells]) (StC_upd.2 ⟨hb,by simp [Ins.cells],StC_upd.2 ⟨hb,by simp [Ins.cells],StC_upd.2 ⟨hb,by simp [Ins.cells],StC_upd.2 ⟨hb,by simp [Ins.cells],?_⟩⟩⟩⟩)
 refine hK _ (le_upd_fresh l nb) ?_
 rw [upd_get_same]; rfl
theorem pick_spec (w0:World) (m:AM) (A:Option Addr) (c:Nat) (l:List Ins) (hl:l.length<=1000000) (rd:Reads m 5 A l.length (insCells l)) (A1:Option Addr) (c1:Nat) (order:List Int)
  (hol:order.length<=1000000) (rd1:Reads m 1 A1 order.length (intCells .i64 order)) :
  CallsA Tryz.prog w0 34 #[.slice A l.length c,.slice A1 order.length c1] m (oC w0 m (pickP l order)):=by
 generalize hR:oC w0 m (pickP l order)=R
 refine cf34 w0 m A l.length c A1 order.length c1 R ?_
 dsimp only [cf34,mkF]
 refine vl34_11010 w0 m _ _ A l.length c A1 order.length c1 order.length none 0 0 0
  (fun q B n3 c3 k m'=>m.le m'/\0<=k/\k<=order.length/\(q:Int)=order.length-k/\n3=(pickP l (order.take k.toNat)).length/\Alog.Own m' w0.heap.size 57 5 B n3 c3 (insCells (pickP l (order.take k.toNat)))/\∀ x∈obl B,m x=none)
  (fun B n3 c3 m'=>m.le m'/\n3=(pickP l order).length/\Alog.Own m' w0.heap.size 57 5 B n3 c3 (insCells (pickP l order))/\∀ x∈obl B,m x=none) order.length rfl rfl rfl rfl rfl
  ⟨AM.le_refl _,by omega,by omega,by omega,rfl,Alog.Own.nil _ _ _ _,by simp [obl]⟩ ?_ ?_
 .rintro q σ B n3 c3 k m' ⟨l',k0,k1,hq,rfl,ob,nb⟩
  refine ⟨rfl,bcP (fun hlt=>⟨⟨k0,hlt⟩,?_⟩) (fun hlt=>?_)⟩
  .obtain ⟨a1,rfl,hc⟩:=(rd1.le l').ex (by omega)
   rw [nilO_some]
   have wk:IntKind.wrap .i64 (k+1)=k+1:=wrap_s (by omega) (by omega)
   have ek:(k+1).toNat=k.toNat+1:=by omega
   have htk:order.take (k+1).toNat=order.take k.toNat ++ [order.getD k.toNat 0]:=take_stepI k0 hlt
   refine ⟨_,cell_k hc k0 hlt,rfl,blk5 fun b M l2 nb2 hb2 p=>?_⟩
   generalize order.getD k.toNat 0=x at htk ⊢
   have hpl:(pickP l (order.take k.toNat)).length<=1000000:=by rw [pickP_len,List.length_take]; omega
   have hpn:pickP l (order.take (k+1).toNat)=pickP l (order.take k.toNat) ++ [pickAt l x]:=by rw [htk]; simp [pickP]
   have fin:∀ (M:AM),m'.le M->∀ (i:Ins),pickAt l x=i->∀ b3:Nat,w0.heap.size<=b3->M b3=none -> 
     awp Tryz.prog w0.heap.size (Builtin.append_ #[25,25] 25 #[.slice B (pickP l (order.take k.toNat)).length c3,.slice (some ⟨b3,0,none⟩) 1 1]) (AM.upd M b3 (.cells (Ins.cells i).toArray 57)) (fun v m13=>∃ (A14:Option Addr) (n15 c16:Nat),v=.slice A14 n15 c16/\∃ n':Nat,n'<q/\(m.le m13/\0<=k+1/\k+1<=order.length/\(n':Int)=order.length-(k+1)/\n15=(pickP l (order.take (k+1).toNat)).length/\Alog.Own m13 w0.heap.size 57 5 A14 n15 c16 (insCells (pickP l (order.take (k+1).toNat)))/\∀ y∈obl A14,m y=none)):=by
    intro M lM i hi b3 hb3 hn3
    refine awp_mono _ _ _ _ ?_ (snoc1 (w0:=w0) (m0:=m) (AM.le_trans l' lM) (ob.le lM) nb hpl i (K:=fun A n c m2=>n=(pickP l (order.take k.toNat)).length+1/\m.le m2/\Alog.Own m2 w0.heap.size 57 5 A ((pickP l (order.take k.toNat)).length+1) c (insCells (pickP l (order.take k.toNat) ++ [i]))/\∀ y∈obl A,m y=none) (fun A c m2 h1 h2 h3=>⟨rfl,h1,h2,h3⟩) b3 hb3 hn3)
    rintro v m2 ⟨A14,n15,c16,rfl,rfl,l3,o3,n3⟩
    refine ⟨_,_,_,rfl,q-1,by omega,l3,by omega,by omega,by omega,?_,?_,n3⟩
    .rw [hpn]; simp
    .rw [hpn,hi]; exact o3
   rw [wk]
   have z:¬ (0<=x/\x<(l.length:Int))->pickAt l x=nop:=fun h=>by unfold pickAt; rw [if_neg h]
   have wrapup:∀ {v:Value} {m13:AM},(∃ (A14:Option Addr) (n15 c16:Nat),v=.slice A14 n15 c16/\∃ n':Nat,n'<q/\(m.le m13/\0<=k+1/\k+1<=order.length/\(n':Int)=order.length-(k+1)/\n15=(pickP l (order.take (k+1).toNat)).length/\Alog.Own m13 w0.heap.size 57 5 A14 n15 c16 (insCells (pickP l (order.take (k+1).toNat)))/\∀ y∈obl A14,m y=none))->(∃ (A14:Option Addr) (n15 c16:Nat),v=.slice A14 n15 c16/\∃ n':Nat,n'<q/\(m.le m13/\0<=k+1/\k+1<=order.length/\(n':Int)=order.length-(k+1)/\n15=(pickP l (order.take (k+1).toNat)).length/\Alog.Own m13 w0.heap.size 57 5 A14 n15 c16 (insCells (pickP l (order.take (k+1).toNat)))/\∀ y∈obl A14,m y=none)):=id
   refine ⟨rfl,bcP (fun h1=>⟨rfl,?_⟩) (fun h1=>⟨decide_eq_false h1,?_⟩)⟩
   .rw [decide_eq_true h1]
    refine bcP (fun h2=>?_) (fun h2=>?_)
    .refine ldAt (rd.le (AM.le_trans l' l2)) rfl h1 h2 fun a=>?_
     refine blk5o (b:=b) l2 nb2 p hb2 (i:=cAt l x) ?_
     intro M3 l3 p3
     refine ldIns p3 ⟨rfl,fun b3 hb3 hn3=>?_⟩
     refine awp_mono _ _ _ _ ?_ (fin M3 l3 (cAt l x) (by unfold pickAt; rw [if_pos ⟨h1,h2⟩]) b3 hb3 hn3)
     rintro v m13 ⟨A14,n15,c16,rfl,n',h3,h4⟩
     refine ⟨_,_,_,rfl,?_⟩
     (repeat (refine And.intro (Eq.refl _) ?_))
     exact ⟨n',h3,h4⟩
    .refine ldIns (i:=nop) p ⟨rfl,fun b3 hb3 hn3=>?_⟩
     refine awp_mono _ _ _ _ ?_ (fin M l2 nop (z (by omega)) b3 hb3 hn3)
     rintro v m13 ⟨A14,n15,c16,rfl,n',h3,h4⟩
     refine ⟨_,_,_,rfl,?_⟩
     (repeat (refine And.intro (Eq.refl _) ?_))
     exact ⟨n',h3,h4⟩
   .refine ldIns (i:=nop) p ⟨rfl,fun b3 hb3 hn3=>?_⟩
    refine awp_mono _ _ _ _ ?_ (fin M l2 nop (z (by omega)) b3 hb3 hn3)
    rintro v m13 ⟨A14,n15,c16,rfl,n',h3,h4⟩
    refine ⟨_,_,_,rfl,?_⟩
    (repeat (refine And.intro (Eq.refl _) ?_))
    exact ⟨n',h3,h4⟩
  ·(repeat (refine And.intro (Eq.refl _) ?_))
   have ek:order.take k.toNat=order:=List.take_of_length_le (by omega)
   rw [ek] at ob ⊢
   exact ⟨l',rfl,ob,nb⟩
 .rintro σ B n3 c3 m' ⟨l',rfl,ob,nb⟩
  rw [<- hR]
  exact retP_of ⟨⟨B,c3,rfl,ob,nb⟩,l'⟩
end Go.Proofs.YtgjamnhjlaohaaaGreatDoor.S
namespace Go.Proofs.YtgjamnhjlaohaaaGreatDoor.S
open Go Go.RowKit Go.Alog
def addS (zs:List Int) (x:Int):List Int:=if zs.contains x then zs else zs ++ [x]
theorem addS_mem {zs:List Int} {x y:Int}:y∈addS zs x↔y∈zs\/y=x:=by
 unfold addS
 split
 .rename_i h
  have:x∈zs:=by simpa using h
  constructor
  .exact .inl
  .rintro (h | rfl)
   .exact h
   .exact this
 .simp
theorem addS_nodup {zs:List Int} (h:zs.Nodup) (x:Int):(addS zs x).Nodup:=by
 unfold addS
 split
 .exact h
 .rename_i hx
  rw [List.nodup_append]
  refine ⟨h,by simp,?_⟩
  intro a ha b hb e
  simp only [List.mem_singleton] at hb
  subst hb; subst e
  exact hx (by simpa using ha)
theorem addS_len (zs:List Int) (x:Int):zs.length<=(addS zs x).length/\(addS zs x).length<=zs.length+1:=by
 unfold addS; split <;> simp
def hsStep (code:List Ins) (zs:List Int) (k:Nat):List Int :=
 let z:=if tok (cAt code k)=true then addS zs (tgt (cAt code k) k) else zs
 if goesP (cAt code k)=true then addS z ((k:Int)+1) else z
def hsL (code:List Ins) (n:Nat):List Int:=(List.range n).foldl (hsStep code) (addS [] 0)
theorem hsL_succ (code:List Ins) (n:Nat):hsL code (n+1)=hsStep code (hsL code n) n:=by
 unfold hsL; rw [List.range_succ,List.foldl_append]; rfl
theorem hsStep_len (code:List Ins) (zs:List Int) (k:Nat):(hsStep code zs k).length<=zs.length+2:=by
 unfold hsStep
 have h1:=addS_len zs (tgt (cAt code k) k)
 have h2:=addS_len zs ((k:Int)+1)
 have h3:=addS_len (addS zs (tgt (cAt code k) k)) ((k:Int)+1)
 try dsimp only
 split <;> split <;> omega
theorem hsL_len (code:List Ins) (n:Nat):(hsL code n).length<=1+2*n:=by
 induction n with
 | zero=>simp [hsL,addS]
 | succ n ih=>rw [hsL_succ]; have:=hsStep_len code (hsL code n) n; omega
theorem hsStep_nodup (code:List Ins) {zs:List Int} (h:zs.Nodup) (k:Nat):(hsStep code zs k).Nodup:=by
 unfold hsStep
 try dsimp only
 split <;> split <;> first | exact addS_nodup (addS_nodup h _) _ | exact addS_nodup h _ | exact h
theorem hsL_nodup (code:List Ins) (n:Nat):(hsL code n).Nodup:=by
 induction n with
 | zero=>simp [hsL,addS]
 | succ n ih=>rw [hsL_succ]; exact hsStep_nodup code ih n
theorem hsL_mem (code:List Ins) (n:Nat) (x:Int):x∈hsL code n↔x=0\/∃ j,j<n/\((tok (cAt code j)=true/\tgt (cAt code j) j=x)\/(goesP (cAt code j)=true/\x=(j:Int)+1)):=by
 induction n with
 | zero=>simp [hsL,addS]
 | succ n ih =>
  have key:x∈hsStep code (hsL code n) n↔x∈hsL code n\/(tok (cAt code n)=true/\tgt (cAt code n) n=x)\/(goesP (cAt code n)=true/\x=(n:Int)+1):=by
   unfold hsStep
   try dsimp only
   by_cases h1:tok (cAt code n)=true <;> by_cases h2:goesP (cAt code n)=true <;> simp only [h1,h2,if_true,if_false,addS_mem,true_and,false_and,or_false,false_or,Bool.false_eq_true] <;> constructor <;> (intro h; rcases h with h | h) <;> (try rcases h with h | h) <;> simp_all
  rw [hsL_succ,key,ih]
  constructor
  .rintro ((h | ⟨j,hj,h⟩) | h)
   .exact .inl h
   .exact .inr ⟨j,by omega,h⟩
   .exact .inr ⟨n,by omega,h⟩
  .rintro (h | ⟨j,hj,h⟩)
   .exact .inl (.inl h)
   .by_cases e:j=n
    .subst e; exact .inr h
    .exact .inl (.inr ⟨j,by omega,h⟩)
theorem rise_eq:∀ {l r:List Int},l.Pairwise (· < ·)->r.Pairwise (· < ·)->(∀ x,x∈l↔x∈r)->l=r
 | [],[],_,_,_=>rfl
 | [],b :: r,_,_,h=>absurd ((h b).2 (by simp)) (by simp)
 | a :: l,[],_,_,h=>absurd ((h a).1 (by simp)) (by simp)
 | a :: l,b :: r,hl,hr,h=>by
  rw [List.pairwise_cons] at hl hr
  have hab:a=b:=by
   have h1:=(h a).1 (by simp)
   have h2:=(h b).2 (by simp)
   simp only [List.mem_cons] at h1 h2
   rcases h1 with h1 | h1
   .exact h1
   .rcases h2 with h2 | h2
    .exact h2.symm
    .have:=hl.1 _ h2; have:=hr.1 _ h1; omega
  subst hab
  rw [rise_eq hl.2 hr.2 fun x=>?_]
  have:=h x
  simp only [List.mem_cons] at this
  constructor
  .intro hx
   rcases this.1 (.inr hx) with e | e
   .have:=hl.1 _ hx; omega
   .exact e
  .intro hx
   rcases this.2 (.inr hx) with e | e
   .have:=hr.1 _ hx; omega
   .exact e
def sortS (zs:List Int):List Int:=zs.mergeSort fun x y=>decide (x<=y)
theorem sortS_rise {zs:List Int} (h:zs.Nodup):(sortS zs).Pairwise (· < ·):=by
 have h1:(sortS zs).Pairwise (fun x y=>decide (x<=y)=true):=List.pairwise_mergeSort (fun a b c h1 h2=>by simp at *; omega) (fun a b=>by simp; omega) zs
 have h2:(sortS zs).Nodup:=(List.mergeSort_perm zs _).nodup_iff.2 h
 refine (h1.and h2).imp fun {a b} h=>?_
 have:=h.1; have:=h.2
 simp at *; omega
theorem range_rise (n:Nat):((List.range n).map (fun k:Nat=>(k:Int))).Pairwise (· < ·):=by
 rw [List.pairwise_map]
 exact List.pairwise_lt_range.imp fun h=>by omega
def headsP (code:List Ins):List Int:=if fitP code=true then ((List.range code.length).map (fun k:Nat=>(k:Int))).filter (headP code) else []
theorem fitP_at {code:List Ins} (h:fitP code=true) {j:Nat} (hj:j<code.length):rightR (cAt code j)=true/\(tok (cAt code j)=true->0<=tgt (cAt code j) j/\tgt (cAt code j) j<=code.length):=by
 unfold fitP at h
 rw [Bool.and_eq_true,List.all_eq_true] at h
 have:=h.2 j (List.mem_range.2 hj)
 unfold fitAt at this
 rw [Bool.and_eq_true] at this
 refine ⟨this.1,fun ht=>?_⟩
 have h2:=this.2
 rw [ht] at h2
 simp at h2
 omega
theorem heads_eq {code:List Ins} (hf:fitP code=true) (hn:code≠[]):sortS ((hsL code code.length).filter (fun x=>x != (code.length:Int)))=headsP code:=by
 have hpos:0<code.length:=by cases code with
  | nil=>exact absurd rfl hn
  | cons=>simp
 unfold headsP
 rw [if_pos hf]
 refine rise_eq (sortS_rise ((hsL_nodup code _).filter _)) ((range_rise _).filter _) fun x=>?_
 have hp:x∈sortS ((hsL code code.length).filter (fun x=>x != (code.length:Int)))↔x∈(hsL code code.length).filter (fun x=>x != (code.length:Int)):=(List.mergeSort_perm _ _).mem_iff
 rw [hp,List.mem_filter,List.mem_filter,hsL_mem]
 simp only [List.mem_map,List.mem_range]
 unfold headP
 constructor
 .rintro ⟨h1,h2⟩
  have h2:x≠code.length:=by simpa using h2
  rcases h1 with rfl | ⟨j,hj,⟨ht,e⟩ | ⟨hg,e⟩⟩
  .exact ⟨⟨0,hpos,rfl⟩,by simp⟩
  .have:=(fitP_at hf hj).2 ht
   refine ⟨⟨x.toNat,by omega,by omega⟩,?_⟩
   rw [Bool.or_eq_true]
   right
   refine List.any_eq_true.2 ⟨j,List.mem_range.2 hj,?_⟩
   unfold toAt
   rw [ht,e]; simp
  .refine ⟨⟨j+1,by omega,by omega⟩,?_⟩
   rw [e,show ((j:Int)+1-1)=j by omega,hg]; simp
 .rintro ⟨⟨j,hj,rfl⟩,h⟩
  refine ⟨?_,by simp; omega⟩
  rw [Bool.or_eq_true,Bool.or_eq_true] at h
  rcases h with (h | h) | h
  .exact .inl (by simpa using h)
  .by_cases e:j=0
   .left; omega
   .right
    refine ⟨j-1,by omega,.inr ⟨?_,by omega⟩⟩
    rw [show ((j-1:Nat):Int)=(j:Int)-1 by omega]; exact h
  .obtain ⟨q,hq,hq2⟩:=List.any_eq_true.1 h
   unfold toAt at hq2
   rw [Bool.and_eq_true] at hq2
   exact .inr ⟨q,List.mem_range.1 hq,.inl ⟨hq2.1,by simpa using hq2.2⟩⟩
end Go.Proofs.YtgjamnhjlaohaaaGreatDoor.S
namespace Go.Proofs.YtgjamnhjlaohaaaGreatDoor.S
open Go Go.RowKit Go.Shelf
attribute [local go_sem] Oper.semAt_some
theorem infoInt:(Tryz.prog.info? 3).map (fun i=>(i.zero,i.size,i.bytes))=some (some (.int .i64 0),1,8):=by kernel_rfl
set_option maxRecDepth 100000 in
set_option maxHeartbeats 2000000 in
theorem appendSeq_in (g:Nat) (lb:Array Value) (eg:∀ args w,(callFunc g args).run Tryz.prog w=.ok (.enter g args) w) (zs:List Int) (hlen:zs.length<=maxLen) (hbytes:zs.length*8<=140737488355328) (w:World)
  (hseq:SeqStopsK Fence.wide 9 Tryz.prog g lb (fun x:Int=>#[Value.int .i64 x]) (Below w.heap.size) (fun xs=>xs=zs) (fun _=>True) zs.length w) :
  CallsIn Fence.wide 10 Tryz.prog 159 #[.slice none 0 0,.func (.func g) #[] lb] w fun e W'=>∃ v,e=.returned v/\W'.ownsRow w.heap.size 3 1 v zs.length (zs.map (Value.int .i64))/\(v=.slice none 0 0↔zs = [])/\Below w.heap.size w W':=by
 obtain ⟨i0,hi,hz0,hz1,hz2⟩:=info_parts infoInt
 refine callsIn_of_wp_marks Tryz.func159 rfl trivial ?_ rfl
 simp only [Tryz.ntmps159,List.size_toArray,List.length_cons,List.length_nil,Nat.reduceAdd,Nat.reduceSub,Array.replicate_succ,Array.replicate_zero,List.push_toArray,List.append_toArray,List.nil_append,List.cons_append]
 gi_wp2
 have bO:=Boxed.new w 33 (.slice none 0 0)
 have hB0:Below w.heap.size w (w.alloc (.cells #[.slice none 0 0] 33)):=(Below.refl _ w).alloc (Nat.le_refl _) _
 refine wpIn_rangeFunc_ownG rfl (by omega) (gf:=g) (lb:=lb) rfl trivial eg hseq belowK_t (belowK_b (by simp)) hB0 (fun _=>rfl)
  (fun pre W=>(∃ v,Boxed W w.heap.size 33 v/\W.ownsRow w.heap.size 3 1 v pre.length (pre.map (Value.int .i64))/\(v=.slice none 0 0↔pre = []))/\Below w.heap.size w W)
  (fun _ _ _=>False)
  (OwnFrom.and (Own.from (holdsRow_own w.heap.size w.heap.size 33 3 1 (fun pre:List Int=>pre.length) (fun pre=>pre.map (Value.int .i64)) (fun pre v=>v=.slice none 0 0↔pre = [])) _) (ownFrom_below (Nat.le_refl _) (by simp)))
  (fun _ _ _ _ _ hs _ _=>hs)
  ⟨⟨_,bO,World.ownsRow_nil _ _ _ _,by simp⟩,hB0⟩
  (fun x=>{ tmps:=#[.slice none 0 0,.func (.func g) #[] lb,.pointer (some ⟨w.heap.size,0,none⟩),undef,.slice none 0 0,.int .i64 x,.func (.func g) #[] lb,.int .i64 x,undef,undef,undef,undef,undef],defers:=[] }) ?assign ?body ?done ?stop
 case assign =>
  intro l x W K hK
  gi_wp2
  exact hK
 case body =>
  rintro l pre x W ⟨⟨v,hv,hrow,hnil⟩,hB⟩ hlt
  have hc:=hv.cell
  gi_wp2_with (gi_at_builtin; refine wpListIn_append_own _ rfl _ _ 33 rfl w.heap.size 3 i0 (.int .i64 0) 1 8 Tryz.underlying33 hi hz0 hz1 hz2 rfl (by decide) _ _ _ rfl (hrow.alloc _) ⟨W.heap.size,0,none⟩ 1 1 [.int .i64 x] rfl rfl (cell_one_new _ _ _) (by simp [Value.oneCell']) (by omega) (by omega) (by have:=hB.size; simp; omega) ?_; intro v' w1 hown' hgrow _; obtain ⟨g',cap',rfl⟩:=ownsRow_succ hown'; obtain ⟨hv1,hv2,hr2,hk2,hb2⟩:=hv.appended (by decide) hrow hB.size (Nat.le_refl _) hown' hgrow; have hc1:=hv1.cell; have hf1:=hv1.frozen)
  exact ⟨hk2.from _,hb2,⟨_,hv2,by simpa using hr2,by simp⟩,hB.trans hb2⟩
 case done =>
  rintro D ys W hD rfl ⟨⟨v,hv,hrow,hnil⟩,hB⟩ hK
  have hc:=hv.cell
  gi_wp2
  refine ⟨by simp,.inl ⟨_,_,rfl,run_takeDeferred hK,?_⟩⟩
  exact ⟨_,results_tmp rfl _ _ _,v,rfl,ownsRow_putObj hrow _ hK rfl,hnil,hB.trans (belowK_b (w:=w) (Nat.le_refl _) W D _ _ (by simp at hD; omega) hK rfl rfl)⟩
 case stop =>
  rintro D c pre W _ _ h _
  exact h.elim
theorem collect_in (g:Nat) (lb:Array Value) (eg:∀ args w,(callFunc g args).run Tryz.prog w=.ok (.enter g args) w) (zs:List Int) (hlen:zs.length<=maxLen) (hbytes:zs.length*8<=140737488355328) (w:World)
  (hseq:SeqStopsK Fence.wide 9 Tryz.prog g lb (fun x:Int=>#[Value.int .i64 x]) (Below w.heap.size) (fun xs=>xs=zs) (fun _=>True) zs.length w) :
  CallsIn Fence.wide 11 Tryz.prog 111 #[.func (.func g) #[] lb] w fun e W'=>∃ v,e=.returned v/\W'.ownsRow w.heap.size 3 1 v zs.length (zs.map (Value.int .i64))/\(v=.slice none 0 0↔zs = [])/\Below w.heap.size w W':=by
 refine callsIn_of_wp Tryz.func111 rfl trivial ?_ rfl
 simp only [Tryz.ntmps111,List.size_toArray,List.length_cons,List.length_nil,Nat.reduceAdd,Nat.reduceSub,Array.replicate_succ,Array.replicate_zero,List.push_toArray,List.append_toArray,List.nil_append,List.cons_append]
 gi_wp2
 refine ⟨trivial,(appendSeq_in g lb eg zs hlen hbytes _ hseq).mono ?_⟩
 rintro e w' ⟨v,rfl,hrow,hnil,hb⟩
 gi_wp2
 go_ret
 exact ⟨v,rfl,hrow,hnil,hb⟩
attribute [local go_sem] Oper.semAt_some
def leastL (lt:Int->Int->Bool) (l:List Int):Int × Bool:=l.foldl (fun bf x=>if !bf.2 || lt x bf.1 then (x,true) else bf) (0,false)
theorem leastL_snoc (lt:Int->Int->Bool) (l:List Int) (x:Int):leastL lt (l ++ [x])=if !(leastL lt l).2 || lt x (leastL lt l).1 then (x,true) else leastL lt l:=by simp [leastL]
theorem leastL_mem (lt:Int->Int->Bool) (l:List Int):(leastL lt l).2=true->(leastL lt l).1∈l:=by
 obtain ⟨r,hr⟩:∃ r,r=l.reverse:=⟨_,rfl⟩
 have:l=r.reverse:=by rw [hr,List.reverse_reverse]
 subst this
 clear hr
 induction r with
 | nil=>simp [leastL]
 | cons x r ih =>
  rw [List.reverse_cons,leastL_snoc]
  split
  .simp
  .intro h; exact List.mem_append_left _ (ih h)
set_option maxRecDepth 100000 in
set_option maxHeartbeats 2000000 in
theorem least_in (g : Nat) (lb : Array Value) (eg : ∀ args w, (callFunc g args).run Tryz.prog w = .ok (.enter g args) w) (Hb : Nat) (lt : Int -> Int -> Bool) (zs : List Int) (w : World)
    (hless : ∀ x y W, x ∈ zs -> y ∈ zs -> Below w.heap.size w W -> CallsIn Fence.wide 7 Tryz.prog 119 #[.int .i64 x, .int .i64 y, .pointer (some ⟨Hb, 0, none⟩)] W fun e W' => e = .returned (.bool (lt x y)) /\ Below W.heap.size W W')
    (hseq : SeqStopsK Fence.wide 9 Tryz.prog g lb (fun x : {x // x ∈ zs} => #[Value.int .i64 x.1]) (Below w.heap.size) (fun xs => xs = zs.attach) (fun _ => True) zs.length w) :
    CallsIn Fence.wide 10 Tryz.prog 118 #[.func (.func g) #[] lb, .func (.func 119) #[] #[.pointer (some ⟨Hb, 0, none⟩)]] w fun e W' => e = .returned (.tuple #[.int .i64 (leastL lt zs).1, .bool (leastL lt zs).2]) /\ Below w.heap.size w W' := by
  refine callsIn_of_wp_marks Tryz.func118 rfl trivial ?_ rfl
  simp only [Tryz.ntmps118, List.size_toArray, List.length_cons, List.length_nil, Nat.reduceAdd, Nat.reduceSub, Array.replicate_succ, Array.replicate_zero, List.push_toArray, List.append_toArray, List.nil_append, List.cons_append]
  gi_wp2
  obtain ⟨w1, hw1⟩ : ∃ w1, w1 = ((w.alloc (Obj.cells #[Value.func (Fn.func 119) #[] #[Value.pointer (some { block := Hb, off := 0 })]] 102)).alloc (Obj.cells #[Value.int IntKind.i64 0] 3)).alloc (Obj.cells #[Value.bool false] 4) := ⟨_, rfl⟩
  rw [<- hw1]
  have hB0 : Below w.heap.size w w1 := by rw [hw1]; exact (((Below.refl _ w).alloc (Nat.le_refl _) _).alloc (by simp) _).alloc (by first | (simp; done) | (simp; omega)) _
  have hsz : w1.heap.size = w.heap.size + 1 + 1 + 1 := by rw [hw1]; simp
  have b3 : Boxed w1 w.heap.size 102 (.func (.func 119) #[] #[.pointer (some ⟨Hb, 0, none⟩)]) := by
    rw [hw1]; exact ((Boxed.new w _ _).alloc _).alloc _
  have b6 : Boxed w1 (w.heap.size + 1) 3 (.int .i64 0) := by
    rw [hw1]; have := Boxed.new (w.alloc (Obj.cells #[Value.func (Fn.func 119) #[] #[Value.pointer (some { block := Hb, off := 0 })]] 102)) 3 (.int .i64 0)
    rw [World.size_alloc] at this; exact this.alloc _
  have b7 : Boxed w1 (w.heap.size + 1 + 1) 4 (.bool false) := by
    rw [hw1]; have := Boxed.new ((w.alloc (Obj.cells #[Value.func (Fn.func 119) #[] #[Value.pointer (some { block := Hb, off := 0 })]] 102)).alloc (Obj.cells #[Value.int IntKind.i64 0] 3)) 4 (.bool false)
    rw [World.size_alloc, World.size_alloc] at this; exact this
  have boxOwn : ∀ (B : Nat) (t : TypeId) (f : List {x // x ∈ zs} -> Value), OwnFrom w1.heap.size (fun pre W => Boxed W B t (f pre)) := fun B t f s X Y row h hg hr => h.kept hg (fun e => by
    obtain ⟨_, o, ho, hc⟩ := hr B e.symm
    rw [show X.heap[B]? = _ from h] at ho; cases ho; cases hc)
  refine wpIn_rangeFunc_ownG rfl (by omega) (gf := g) (lb := lb) rfl trivial eg hseq belowK_t (belowK_b (by omega)) hB0 (fun _ => rfl)
    (fun pre W => (Boxed W w.heap.size 102 (.func (.func 119) #[] #[.pointer (some ⟨Hb, 0, none⟩)]) /\ Boxed W (w.heap.size + 1) 3 (.int .i64 (leastL lt (pre.map Subtype.val)).1) /\ Boxed W (w.heap.size + 1 + 1) 4 (.bool (leastL lt (pre.map Subtype.val)).2)) /\ Below w.heap.size w W)
    (fun _ _ _ => False)
    (OwnFrom.and (OwnFrom.and (boxOwn _ _ _) (OwnFrom.and (boxOwn _ _ _) (boxOwn _ _ _))) (ownFrom_below (Nat.le_refl _) (by omega)))
    (fun _ _ _ _ _ hs _ _ => hs)
    ⟨⟨b3, b6, b7⟩, hB0⟩
    (fun x => { tmps :=
          #[Value.func (Fn.func g) #[] lb, Value.func (Fn.func 119) #[] #[Value.pointer (some { block := Hb, off := 0 })],
            undef, Value.pointer (some { block := w.heap.size, off := 0 }), Value.int IntKind.i64 0, Value.bool false,
            Value.pointer (some { block := w.heap.size + 1, off := 0 }),
            Value.pointer (some { block := w.heap.size + 1 + 1, off := 0 }), .int .i64 x.1, Value.func (Fn.func g) #[] lb, .int .i64 x.1,
            undef, undef, undef, undef, undef, undef, undef, undef, undef, undef, undef], defers := [] }) ?assign ?body ?done ?stop
  case assign =>
    intro l x W K hK
    gi_wp2
    exact hK
  case body =>
    rintro l pre ⟨x, hx⟩ W ⟨⟨h3, h6, h7⟩, hB⟩ hlt
    have hc3 := h3.cell
    have hc6 := h6.cell
    have hc7 := h7.cell
    have hf6 := h6.frozen
    have hf7 := h7.frozen
    have hlm : (leastL lt (pre.map Subtype.val)).2 = true -> (leastL lt (pre.map Subtype.val)).1 ∈ zs := fun h => by
      have := leastL_mem lt _ h
      obtain ⟨y, _, hy⟩ := List.mem_map.1 this
      rw [<- hy]; exact y.2
    obtain ⟨bb, hbb⟩ : ∃ bb, bb = leastL lt (pre.map Subtype.val) := ⟨_, rfl⟩
    have hsn := leastL_snoc lt (pre.map Subtype.val) x
    rw [<- hbb] at hc6 hc7 hlm hsn h6 h7
    have hpre : ((pre ++ [(⟨x, hx⟩ : {x // x ∈ zs})]).map Subtype.val) = pre.map Subtype.val ++ [x] := by simp
    obtain ⟨best, found⟩ := bb
    dsimp only at hc6 hc7 hlm hsn h6 h7
    cases found with
    | false =>
      gi_wp2
      refine ⟨(fun f h => by cases h), ?_⟩
      go_at_K
      gi_wp2
      have hk : KeepsOthers W ((W.setCell ⟨w.heap.size + 1, 0, none⟩ (Value.int IntKind.i64 x)).setCell ⟨w.heap.size + 1 + 1, 0, none⟩ (Value.bool true)) := (KeepsOthers.setCell _ _ _).trans (KeepsOthers.setCell _ _ _)
      have hb : Below w.heap.size W ((W.setCell ⟨w.heap.size + 1, 0, none⟩ (Value.int IntKind.i64 x)).setCell ⟨w.heap.size + 1 + 1, 0, none⟩ (Value.bool true)) := ((Below.refl _ W).setCell (p := ⟨w.heap.size + 1, 0, none⟩) (by simp) _).setCell (p := ⟨w.heap.size + 1 + 1, 0, none⟩) (by first | (simp; done) | (simp; omega)) _
      refine ⟨hk.from _, hb, ?_, hB.trans hb⟩
      rw [hpre, hsn]
      exact ⟨(h3.kept (grownBy_setCell' _ _ _) (by first | (simp; done) | (simp; omega))).kept (grownBy_setCell' _ _ _) (by first | (simp; done) | (simp; omega)), (h6.set _).kept (grownBy_setCell' _ _ _) (by simp), (h7.kept (grownBy_setCell' _ _ _) (by simp)).set _⟩
    | true =>
      gi_wp2
      refine ⟨trivial, (CallsIn.inRound l (hless x best W hx (hlm (by trivial)) hB)).mono ?_⟩
      rintro e W2 ⟨rfl, hb2⟩
      have h3' : Boxed W2 _ _ _ := (hb2.block _ h3.lt).trans h3
      have h6' : Boxed W2 _ _ _ := (hb2.block _ h6.lt).trans h6
      have h7' : Boxed W2 _ _ _ := (hb2.block _ h7.lt).trans h7
      have hk2 : KeepsOthers W W2 := ⟨hb2.size, fun k o hk _ => (hb2.block k (Array.getElem?_eq_some_iff.1 hk).1).trans hk⟩
      have hb2' : Below w.heap.size W W2 := hb2.mono hB.size
      clear hc3 hc6 hc7 hf6 hf7
      have hc6 := h6'.cell
      have hc7 := h7'.cell
      have hf6 := h6'.frozen
      have hf7 := h7'.frozen
      cases hlb : lt x best with
      | false =>
        try simp only []
        try go_at_K
        gi_wp2
        refine ⟨hk2.from _, hb2', ?_, hB.trans hb2'⟩
        rw [hpre, hsn, hlb]
        exact ⟨h3', h6', h7'⟩
      | true =>
        try simp only []
        try go_at_K
        gi_wp2
        have hk : KeepsOthers W2 ((W2.setCell ⟨w.heap.size + 1, 0, none⟩ (Value.int IntKind.i64 x)).setCell ⟨w.heap.size + 1 + 1, 0, none⟩ (Value.bool true)) := (KeepsOthers.setCell _ _ _).trans (KeepsOthers.setCell _ _ _)
        have hb : Below w.heap.size W2 ((W2.setCell ⟨w.heap.size + 1, 0, none⟩ (Value.int IntKind.i64 x)).setCell ⟨w.heap.size + 1 + 1, 0, none⟩ (Value.bool true)) := ((Below.refl _ W2).setCell (p := ⟨w.heap.size + 1, 0, none⟩) (by simp) _).setCell (p := ⟨w.heap.size + 1 + 1, 0, none⟩) (by first | (simp; done) | (simp; omega)) _
        refine ⟨(hk2.trans hk).from _, hb2'.trans hb, ?_, hB.trans (hb2'.trans hb)⟩
        rw [hpre, hsn, hlb]
        exact ⟨(h3'.kept (grownBy_setCell' _ _ _) (by first | (simp; done) | (simp; omega))).kept (grownBy_setCell' _ _ _) (by first | (simp; done) | (simp; omega)), (h6'.set _).kept (grownBy_setCell' _ _ _) (by simp), (h7'.kept (grownBy_setCell' _ _ _) (by simp)).set _⟩
  case done =>
    rintro D ys W hD rfl ⟨⟨h3, h6, h7⟩, hB⟩ hK
    have hat : (zs.attach.map Subtype.val) = zs := by simp
    rw [hat] at h6 h7
    obtain ⟨bb, hbb⟩ : ∃ bb, bb = leastL lt zs := ⟨_, rfl⟩
    rw [<- hbb] at h6 h7
    obtain ⟨best, found⟩ := bb
    dsimp only at h6 h7
    have hc6 := h6.cell
    have hc7 := h7.cell
    have hmx : Tryz.prog.follows .mixedOrders = true := by kernel_rfl
    gi_wp2
    gi_region
    all_goals gi_wp2
    refine ⟨by simp, .inl ⟨_, _, rfl, run_takeDeferred hK, ?_⟩⟩
    refine ⟨_, results_tmp2 rfl _ _ _, ?_, (hB.drew).trans (belowK_b (w := w) (Nat.le_refl _) W.drew D _ _ (by omega) hK rfl rfl)⟩
    rw [<- hbb]; rfl
  case stop =>
    rintro D c pre W _ _ h _
    exact h.elim
end Go.Proofs.YtgjamnhjlaohaaaGreatDoor.S
namespace Go.Proofs.YtgjamnhjlaohaaaGreatDoor.S
open Go Go.RowKit Go.Alog
def rdyL (l:List Ins) (out:List Int) (n:Nat):List Int:=((List.range n).filter (readyP l out)).map (fun k:Nat=>(k:Int))
theorem rdyL_succ (l:List Ins) (out:List Int) (n:Nat):rdyL l out (n+1)=rdyL l out n ++ (if readyP l out n=true then [(n:Int)] else []):=by
 unfold rdyL
 rw [List.range_succ,List.filter_append,List.map_append]
 congr 1
 simp only [List.filter_cons,List.filter_nil]
 split <;> simp
theorem rdyL_mem {l:List Ins} {out:List Int} {n:Nat} {x:Int}:x∈rdyL l out n↔0<=x/\x<n/\readyP l out x.toNat=true:=by
 unfold rdyL
 rw [List.mem_map]
 constructor
 .rintro ⟨k,hk,rfl⟩
  rw [List.mem_filter,List.mem_range] at hk
  refine ⟨by omega,by omega,?_⟩
  rw [show ((k:Nat):Int).toNat=k by omega]; exact hk.2
 .rintro ⟨h0,h1,h2⟩
  exact ⟨x.toNat,List.mem_filter.2 ⟨List.mem_range.2 (by omega),h2⟩,by omega⟩
theorem rdyL_len (l:List Ins) (out:List Int) (n:Nat):(rdyL l out n).length<=n:=by
 unfold rdyL
 rw [List.length_map]
 exact Nat.le_trans (List.length_filter_le _ _) (by simp)
def ltH (l:List Ins) (a b:Int):Bool:=decide ((heightsP l).getD a.toNat 0>(heightsP l).getD b.toNat 0)
def nextO (l:List Ins) (out:List Int):Int:=if (leastL (ltH l) (rdyL l out l.length)).2=true then (leastL (ltH l) (rdyL l out l.length)).1 else -1
def leftP (l:List Ins) (out:List Int):Nat:=l.length-covN l.length out
def ordF (l:List Ins):Nat->List Int->List Int
 | 0,out=>out
 | q+1,out=>if leftP l out=0 then out else ordF l q (out ++ [nextO l out])
def ordP (l:List Ins):List Int:=ordF l (2*l.length+1) []
def muP (l:List Ins) (out:List Int):Nat:=2*leftP l out+(if rdyL l out l.length = [] then 1 else 0)
theorem leastL_found (lt:Int->Int->Bool) (zs:List Int):(leastL lt zs).2=true↔zs≠[]:=by
 obtain ⟨r,hr⟩:∃ r,r=zs.reverse:=⟨_,rfl⟩
 have:zs=r.reverse:=by rw [hr,List.reverse_reverse]
 subst this
 clear hr
 induction r with
 | nil=>simp [leastL]
 | cons x r ih =>
  rw [List.reverse_cons,leastL_snoc]
  split
  .simp
  .rename_i h
   simp only [Bool.or_eq_true,not_or,Bool.not_eq_true',Bool.not_eq_true,Bool.not_eq_false] at h
   simp [h.1]
theorem nextO_none {l:List Ins} {out:List Int} (h:rdyL l out l.length = []):nextO l out = -1:=by
 unfold nextO; rw [h]; rfl
theorem nextO_some {l:List Ins} {out:List Int} (h:rdyL l out l.length≠[]):nextO l out=(leastL (ltH l) (rdyL l out l.length)).1/\nextO l out∈rdyL l out l.length:=by
 have hf:=(leastL_found (ltH l) _).2 h
 have e:nextO l out=(leastL (ltH l) (rdyL l out l.length)).1:=by unfold nextO; rw [if_pos hf]
 exact ⟨e,by rw [e]; exact leastL_mem _ _ hf⟩
theorem ready_new {l:List Ins} {out:List Int} {x:Int} (h:x∈rdyL l out l.length):0<=x/\x<l.length/\x∉out:=by
 obtain ⟨h0,h1,h2⟩:=rdyL_mem.1 h
 refine ⟨h0,h1,fun hx=>?_⟩
 by_cases hw:whP out x>=0
 .rw [readyP_wh (by rw [show ((x.toNat:Nat):Int)=x by omega]; exact hw)] at h2; cases h2
 .have:=whP_in out x
  have:whP out x = -1:=by omega
  exact whP_neg.1 this hx
theorem free_then {l:List Ins} {out:List Int} (h:leftP l out≠0):rdyL l (out ++ [-1]) l.length≠[]:=by
 unfold leftP at h
 have hc:covN l.length out≠l.length:=by omega
 have hall:¬ ∀ q:Nat,q<l.length->(q:Int)∈out:=fun hh=>hc (covN_all.2 hh)
 have hex:∃ q:Nat,q<l.length/\(q:Int)∉out/\∀ i,i<q->(i:Int)∈out:=by
  have hex:∃ q:Nat,q<l.length/\(q:Int)∉out:=by
   refine Classical.byContradiction fun hn=>hall fun q hq=>Classical.byContradiction fun hm=>hn ⟨q,hq,hm⟩
  obtain ⟨q0,hq0,hn0⟩:=hex
  have key:∀ b,b<=l.length->(∀ i,i<b->(i:Int)∈out)\/∃ q:Nat,q<b/\(q:Int)∉out/\∀ i,i<q->(i:Int)∈out:=by
   intro b
   induction b with
   | zero=>exact fun _=>.inl fun i hi=>by omega
   | succ b ih =>
    intro hb
    rcases ih (by omega) with h1 | ⟨q,h1,h2,h3⟩
    .by_cases hm:(b:Int)∈out
     .refine .inl fun i hi=>?_
      by_cases e:i=b
      .rw [e]; exact hm
      .exact h1 i (by omega)
     .exact .inr ⟨b,by omega,hm,h1⟩
    .exact .inr ⟨q,by omega,h2,h3⟩
  rcases key l.length (Nat.le_refl _) with h1 | ⟨q,h1,h2,h3⟩
  .exact absurd (h1 q0 hq0) hn0
  .exact ⟨q,h1,h2,h3⟩
 obtain ⟨q,hq,hn,hp⟩:=hex
 have hmem:(q:Int)∈rdyL l (out ++ [-1]) l.length:=by
  refine rdyL_mem.2 ⟨by omega,by omega,?_⟩
  rw [show ((q:Nat):Int).toNat=q by omega]
  have snoc:∀ i:Nat,whP (out ++ [-1]) i=whP out i:=fun i=>by
   rw [whP_snoc]
   split
   .rfl
   .rename_i hi
    rw [if_neg (by omega),whP_neg.2 hi]
  refine readyP_t (by rw [snoc,whP_neg.2 hn]; omega) fun i hi=>?_
  unfold bz
  rw [snoc]
  have hw:=whP_in out i
  have hw0:whP out i≠-1:=fun e=>(whP_neg.1 e) (hp i hi)
  have hf:=farP_in (cAt l i) (cAt l q)
  have hlen:(out ++ [(-1:Int)]).length=out.length+1:=by simp
  have hx:decide (whP out i+farP (cAt l i) (cAt l q)>(((out ++ [(-1:Int)]).length:Nat):Int))=false:=by
   rw [hlen]
   exact decide_eq_false (by omega)
  rw [decide_eq_false (show ¬ whP out i<0 by omega),hx]
  simp
 intro e
 rw [e] at hmem; cases hmem
theorem left_some {l:List Ins} {out:List Int} {x:Int} (h:x∈rdyL l out l.length):leftP l (out ++ [x])+1=leftP l out:=by
 obtain ⟨h0,h1,h2⟩:=ready_new h
 unfold leftP
 have:=covN_new (n:=l.length) (l:=out) h0 h1 h2
 have hle:=covN_le l.length (out ++ [x])
 omega
theorem left_none {l:List Ins} {out:List Int}:leftP l (out ++ [-1])=leftP l out:=by
 unfold leftP; rw [covN_neg rfl]
theorem mu_step {l:List Ins} {out:List Int} (h:leftP l out≠0):muP l (out ++ [nextO l out])+1<=muP l out:=by
 by_cases hr:rdyL l out l.length = []
 .rw [nextO_none hr]
  unfold muP
  rw [left_none,if_neg (free_then h),if_pos hr]
  omega
 .have hm:=(nextO_some hr).2
  have:=left_some hm
  unfold muP
  rw [if_neg hr]
  split <;> omega
theorem mu_pos {l:List Ins} {out:List Int} (h:leftP l out≠0):2<=muP l out:=by unfold muP; omega
theorem mu_0 (l:List Ins):muP l []<=2*l.length+1:=by
 unfold muP leftP
 rw [covN_nil]
 split <;> omega
theorem ordF_step {l:List Ins} {out:List Int} {q:Nat} (h:leftP l out≠0) (hq:muP l out<=q):ordF l q out=ordF l (q-1) (out ++ [nextO l out]):=by
 have:=mu_pos h
 cases q with
 | zero=>omega
 | succ q =>
  show (if leftP l out=0 then out else ordF l q (out ++ [nextO l out]))=ordF l (q+1-1) (out ++ [nextO l out])
  rw [if_neg h,Nat.add_sub_cancel]
theorem ordF_end {l:List Ins} {out:List Int} {q:Nat} (h:leftP l out=0):ordF l q out=out:=by
 cases q with
 | zero=>rfl
 | succ q=>unfold ordF; rw [if_pos h]
def whRow (out:List Int) (n:Nat):List Int:=(List.range n).map (fun k:Nat=>whP out k)
theorem whRow_len (out:List Int) (n:Nat):(whRow out n).length=n:=by simp [whRow]
theorem whRow_at {out:List Int} {n i:Nat} (h:i<n):(whRow out n).getD i 0=whP out i:=by
 unfold whRow; simp [List.getD,h]
theorem whRow_0 (n:Nat):whRow [] n=List.replicate n (-1):=by
 unfold whRow
 apply List.ext_getElem
 .simp
 .intro i h1 h2; simp [whP]
theorem whRow_neg (out:List Int) (n:Nat):whRow (out ++ [-1]) n=whRow out n:=by
 unfold whRow
 refine List.map_congr_left fun k hk=>?_
 rw [whP_snoc]
 split
 .rfl
 .rename_i hi
  rw [if_neg (by omega),whP_neg.2 hi]
theorem whRow_new {out:List Int} {n:Nat} {x:Int} (h0:0<=x) (hx:x∉out):whRow (out ++ [x]) n=(whRow out n).set x.toNat out.length:=by
 apply List.ext_getElem
 .simp [whRow]
 .intro i h1 h2
  simp only [whRow,List.getElem_map,List.getElem_range,List.getElem_set]
  rw [whP_snoc]
  by_cases e:x.toNat=i
  .rw [if_pos e,if_neg (by rw [<- e,show ((x.toNat:Nat):Int)=x by omega]; exact hx),if_pos (by omega)]
  .rw [if_neg e]
   split
   .rfl
   .rename_i hi
    rw [if_neg (by omega),whP_neg.2 hi]
theorem ordF_ind {l:List Ins} (Q:List Int->Prop) (step:∀ out,leftP l out≠0->Q out->Q (out ++ [nextO l out])):∀ (q:Nat) (out:List Int),Q out->Q (ordF l q out)
 | 0,out,h=>h
 | q+1,out,h=>by
  show Q (if leftP l out=0 then out else ordF l q (out ++ [nextO l out]))
  split
  .exact h
  .rename_i hl
   exact ordF_ind Q step q _ (step out hl h)
theorem ordP_ind {l:List Ins} (Q:List Int->Prop) (h0:Q []) (step:∀ out,leftP l out≠0->Q out->Q (out ++ [nextO l out])):Q (ordP l):=ordF_ind Q step _ _ h0
theorem ordF_left {l:List Ins}:∀ (q:Nat) (out:List Int),muP l out<=q->leftP l (ordF l q out)=0
 | 0,out,h=>by
  by_cases hl:leftP l out=0
  .exact hl
  .have:=mu_pos hl; omega
 | q+1,out,h=>by
  show leftP l (if leftP l out=0 then out else ordF l q (out ++ [nextO l out]))=0
  split
  .assumption
  .rename_i hl
   have:=mu_step hl
   exact ordF_left q _ (by omega)
theorem ordP_left (l:List Ins):leftP l (ordP l)=0:=ordF_left _ _ (mu_0 l)
theorem ordP_all (l:List Ins) {q:Nat} (h:q<l.length):(q:Int)∈ordP l:=by
 have:=ordP_left l
 unfold leftP at this
 have h2:=covN_le l.length (ordP l)
 exact covN_all.1 (by omega) q h
theorem next_cases (l:List Ins) (out:List Int):(rdyL l out l.length = []/\nextO l out = -1)\/(rdyL l out l.length≠[]/\nextO l out∈rdyL l out l.length):=by
 by_cases hr:rdyL l out l.length = []
 .exact .inl ⟨hr,nextO_none hr⟩
 .exact .inr ⟨hr,(nextO_some hr).2⟩
theorem ordP_in (l:List Ins):∀ x∈ordP l,x = -1\/(0<=x/\x<l.length):=by
 refine ordP_ind (fun out=>∀ x∈out,x = -1\/(0<=x/\x<l.length)) (by simp) fun out hl h x hx=>?_
 rw [List.mem_append,List.mem_singleton] at hx
 rcases hx with hx | rfl
 .exact h x hx
 .rcases next_cases l out with ⟨_,e⟩ | ⟨_,hm⟩
  .exact .inl e
  .have:=rdyL_mem.1 hm; exact .inr ⟨this.1,this.2.1⟩
theorem ordP_last (l:List Ins) {y:Int} (hy:(ordP l).getLast?=some y):0<=y:=by
 have key:leftP l (ordP l)=0->∀ y,(ordP l).getLast?=some y->0<=y:=by
  refine ordP_ind (fun out=>leftP l out=0->∀ y,out.getLast?=some y->0<=y) (by simp) fun out hl h h0 y hy=>?_
  rw [List.getLast?_append] at hy
  simp at hy
  subst hy
  rcases next_cases l out with ⟨_,e⟩ | ⟨_,hm⟩
  .rw [e,left_none] at h0; exact absurd h0 hl
  .exact (rdyL_mem.1 hm).1
 exact key (ordP_left l) y hy
theorem rdy_nil {l:List Ins} {out:List Int} (h:leftP l out=0):rdyL l out l.length = []:=by
 cases hr:rdyL l out l.length with
 | nil=>rfl
 | cons x r =>
  have hm:x∈rdyL l out l.length:=by rw [hr]; simp
  have:=left_some hm
  omega
theorem ordP_len (l:List Ins):(ordP l).length<=2*l.length:=by
 have key:(ordP l).length+muP l (ordP l)<=2*l.length+1:=by
  refine ordP_ind (fun out=>out.length+muP l out<=2*l.length+1) (by have:=mu_0 l; simpa using this) fun out hl h=>?_
  have:=mu_step hl
  simp only [List.length_append,List.length_singleton]
  omega
 have:1<=muP l (ordP l):=by
  unfold muP
  rw [if_pos (rdy_nil (ordP_left l))]; omega
 omega
theorem ordP_ne {l:List Ins} (h:l≠[]):ordP l≠[]:=fun e=>by
 have:(0:Nat)<l.length:=by cases l with
  | nil=>exact absurd rfl h
  | cons=>simp
 have:=ordP_all l this
 rw [e] at this; cases this
end Go.Proofs.YtgjamnhjlaohaaaGreatDoor.S
namespace Go.Proofs.YtgjamnhjlaohaaaGreatDoor.V
open Go Go.Alog Go.Proofs.YtgjamnhjlaohaaaGreatDoor.T
variable (w0:World) (m:AM)
noncomputable abbrev cf157 (x0:Nat) (x1:Int) (R:RT):Vn (C_ w0 157 #[pt_ x0,I_ x1] m R):=mkF (F:=F157) Tryz.func157 (by dsimp only [push_cast,↓u1,↓u2,↓u3,Nat.reduceAdd,Nat.reduceBEq,Nat.reduceDiv,Nat.reduceMod]) (by kernel_rfl)
noncomputable abbrev cf109 (x0:Nat) (x1:Int) (R:RT):Vn (C_ w0 109 #[pt_ x0,I_ x1] m R):=mkF (F:=F109) Tryz.func109 (by dsimp only [push_cast,↓u1,↓u2,↓u3,Nat.reduceAdd,Nat.reduceBEq,Nat.reduceDiv,Nat.reduceMod]) (by kernel_rfl)
noncomputable abbrev cf112 (x0:Nat) (R:RT):Vn (C_ w0 112 #[pt_ x0] m R):=mkF (F:=F112) Tryz.func112 (by dsimp only [push_cast,↓u1,↓u2,↓u3,Nat.reduceAdd,Nat.reduceBEq,Nat.reduceDiv,Nat.reduceMod]) (by kernel_rfl)
end Go.Proofs.YtgjamnhjlaohaaaGreatDoor.V
namespace Go.Proofs.YtgjamnhjlaohaaaGreatDoor.S
open Go Go.RowKit Go.Alog Go.Proofs.YtgjamnhjlaohaaaGreatDoor.T Go.Proofs.YtgjamnhjlaohaaaGreatDoor.V
def setKV (zs:List Int):List (Int × Value):=zs.map fun z=>(z,.bool true)
def SetA (m:AM) (B s:Nat) (zs:List Int) (fp:List Nat):Prop :=
 ∃ (mp:Option Nat) (A:Option Addr) (c:Nat),m s=some (.cells #[.map mp,.slice A zs.length c] 167 (0,0))/\B<=s/\Alog.Own m B 3 1 A zs.length c (intCells .i64 zs) /\
  ((mp=none/\zs = [])\/∃ r es clk,mp=some r/\B<=r/\m r=some (.map es clk)/\MapI es (setKV zs))/\fp=s :: (obl A ++ mp.toList)
def addL (zs:List Int) (x:Int):List Int:=if zs.contains x then zs else zs ++ [x]
theorem u56:Tryz.prog.underlying 165=some (.map 3 4):=by kernel_rfl
theorem u3:Tryz.prog.underlying 3=some (.int .i64):=by kernel_rfl
theorem zBool:pval Tryz.prog (zeroValue 4)=some (.bool false):=by kernel_rfl
theorem el30:elOf Tryz.prog 33=some (3,1,8,[.int .i64 0]):=by kernel_rfl
theorem setKV_look {zs:List Int} {x:Int}:(match findI x (setKV zs) 0 with | some p=>p.2 | none=>Value.bool false)=.bool (zs.contains x):=by
 unfold setKV
 by_cases h:x∈zs
 .obtain ⟨j,hj⟩:=findI_map (f:=fun _=>Value.bool true) h 0
  rw [hj]; simp [h]
 .rw [findI_none (by simpa using h)]; simp [h]
theorem has_spec (w0:World) (m:AM) {s:Nat} {zs:List Int} {fp:List Nat} (h:SetA m w0.heap.size s zs fp) (x:Int) :
  CallsA Tryz.prog w0 157 #[.pointer (some ⟨s,0,none⟩),.int .i64 x] m (fun r m'=>r=.bool (zs.contains x)/\m'=m):=by
 obtain ⟨mp,A,c,hs,hB,hO,hm,hfp⟩:=h
 refine cf157 w0 m s x _ ⟨mp,cel hs rfl,zs.contains x,?_,retP_of ⟨rfl,rfl⟩⟩
 rw [<- setKV_look]
 refine lookup_int u56 u3 zBool ?_ x
 rcases hm with ⟨h1,h2⟩ | ⟨r,es,clk,h1,_,h2,h3⟩
 .exact .inl ⟨h1,by rw [h2]; rfl⟩
 .exact .inr ⟨r,es,clk,h1,h2,h3⟩
theorem add_tail {w0:World} {m0 m:AM} {s r:Nat} {A:Option Addr} {c clk:Nat} {es:Array MapEntry} {zs:List Int} {fp0:List Nat} (hfr:Fr m0 m fp0) (hs0:s∈fp0) (hA0:∀ k∈obl A,k∈fp0) (hr0:r∈fp0\/m0 r=none)
  (hs:m s=some (.cells #[.map (some r),.slice A zs.length c] 167 (0,0))) (hB:w0.heap.size<=s) (hO:Alog.Own m w0.heap.size 3 1 A zs.length c (intCells .i64 zs))
  (hBr:w0.heap.size<=r) (hr:m r=some (.map es clk)) {x:Int} (he:MapI es (setKV (zs ++ [x]))) (hlen:zs.length<=10000) {R:Value->AM->Prop}
  (h:∀ m' fp',Fr m0 m' fp0->(∀ k∈fp',k∈fp0\/m0 k=none)->SetA m' w0.heap.size s (zs ++ [x]) fp'->R (.bool true) m') :
  ∃ (A10:Option Addr) (n11 c12:Nat),m.cell ⟨s,1,none⟩=some (.slice A10 n11 c12) /\ 
  true=true/\∀ b13:Nat,w0.heap.size<=b13->m b13=none->let m14:=AM.upd m b13 (.cells #[.int .i64 x] 3);
  awp Tryz.prog w0.heap.size (Builtin.append_ #[33,33] 33 #[.slice A10 n11 c12,.slice (some ⟨b13,0,none⟩) 1 1]) m14 fun v15 m16 =>
  ∃ (A17:Option Addr) (n18 c19:Nat),v15=.slice A17 n18 c19/\StC w0.heap.size m16 ⟨s,1,none⟩ (.slice A17 n18 c19) fun m20 =>
  RetP R (.bool true) m20:=by
 refine ⟨A,zs.length,c,cel hs rfl,rfl,fun b13 hb13 hn13=>?_⟩
 have hsb:s≠b13:=fun e=>by rw [e,hn13] at hs; cases hs
 have hrb:r≠b13:=fun e=>by rw [e,hn13] at hr; cases hr
 refine awp_append_field el30 (hO.upd (hO.ne_none hn13)) (A2:=some ⟨b13,0,none⟩) (k:=1) (news:=[.int .i64 x]) (Reads.lit rfl) (by simp [Value.oneCell']) (by omega) (by omega) (by omega) (g:=s) (C:=#[.map (some r),.slice A zs.length c]) (T:=167) (by rw [upd_get_ne hsb]; exact hs) hB (by decide) (j:=1) (by simp) ?_
 intro g2 cp' cur hor hB2 hsg hown
 have hg0:∀ {g:Nat},m g=none->g∈fp0\/m0 g=none:=fun {g} hn=>by
  by_cases hk:g∈fp0
  .exact .inl hk
  .refine .inr ?_
   cases h0:m0 g with
   | none=>rfl
   | some o=>rw [hfr g o h0 hk] at hn; cases hn
 have hg2:g2∈fp0\/m0 g2=none:=by
  rcases hor with h' | h'
  .exact .inl (hA0 _ (by rw [h']; simp [obl]))
  .by_cases e:g2=b13
   .subst e; exact hg0 hn13
   .rw [upd_get_ne e] at h'; exact hg0 h'
 have hrg:r≠g2:=fun e=>by
  subst e
  rcases hor with h' | h'
  .obtain ⟨_,_,h1 | ⟨g',cur',h1,_,h3,_⟩⟩:=hO
   .rw [h1.1] at h'; cases h'
   .rw [h1] at h'; injection h' with h'; injection h' with h'; subst h'; rw [hr] at h3; cases h3
  .rw [upd_get_ne hrb,hr] at h'; cases h'
 have hrs:r≠s:=fun e=>by rw [e,hs] at hr; cases hr
 refine retP_of (h _ (s :: (obl (some ⟨g2,0,none⟩) ++ (some r).toList)) ?_ ?_ ?_)
 .exact ((hfr.upd (hg0 hn13) _).upd hg2 _).upd (.inl hs0) _
 .intro k hk
  simp only [obl,Option.toList_some,List.mem_cons,List.mem_append,List.not_mem_nil,or_false] at hk
  rcases hk with rfl | rfl | rfl
  .exact .inl hs0
  .exact hg2
  .exact hr0
 .refine ⟨some r,some ⟨g2,0,none⟩,cp',?_,hB,?_,.inr ⟨r,es,clk,rfl,hBr,?_,he⟩,rfl⟩
  .rw [upd_get_same]; simp
  .simpa [intCells] using hown
  .rw [upd_get_ne hrs,upd_get_ne hrg,upd_get_ne hrb]; exact hr
theorem add_spec (w0:World) (m:AM) {s:Nat} {zs:List Int} {fp:List Nat} (h:SetA m w0.heap.size s zs fp) (hlen:zs.length<=10000) (x:Int) {R:Value->AM->Prop}
  (hK:∀ m' fp',Fr m m' fp->(∀ k∈fp',k∈fp\/m k=none)->SetA m' w0.heap.size s (addL zs x) fp'->R (.bool (!zs.contains x)) m') :
  CallsA Tryz.prog w0 109 #[.pointer (some ⟨s,0,none⟩),.int .i64 x] m R:=by
 refine cf109 w0 m s x R ?_
 refine CallsA.mono (has_spec w0 m h x) ?_
 rintro r m1 ⟨rfl,rfl⟩
 refine ⟨_,rfl,bcI (fun ht=>?_) (fun hf=>?_)⟩
 .have:=hK m1 fp (Fr.refl _ _) (fun k hk=>.inl hk) (by unfold addL; rw [if_pos ht]; exact h)
  rw [ht] at this
  exact retP_of this
 .have hadd:addL zs x=zs ++ [x]:=by unfold addL; rw [if_neg (by rw [hf]; simp)]
  rw [hadd] at hK
  rw [hf] at hK
  have hx:x∉zs:=by simpa using hf
  have hkn:findI x (setKV zs) 0=none:=findI_none (by unfold setKV; simpa using hx) 0
  have hkv:setKV (zs ++ [x])=setKV zs ++ [(x,.bool true)]:=by simp [setKV]
  obtain ⟨mp,A,c,hs,hB,hO,hm,hfp⟩:=h
  have hs0:s∈fp:=by rw [hfp]; simp
  have hA0:∀ k∈obl A,k∈fp:=fun k hk=>by rw [hfp]; simp [hk]
  refine ⟨mp,cel hs rfl,?_⟩
  rcases hm with ⟨rfl,rfl⟩ | ⟨r,es,clk,rfl,hBr,h2,h3⟩
  .refine bcT (fun b5 hb5 hn5=>?_)
   have hsb:s≠b5:=fun e=>by rw [e,hn5] at hs; cases hs
   refine StC_own (c:=#[.map none,.slice A 0 c]) (t:=167) (by rw [upd_get_ne hsb]; exact hs) hB (by simp) ?_
   refine ⟨some b5,cel upd_get_same rfl,?_⟩
   have hsb':b5≠s:=fun e=>hsb e.symm
   refine mapUpdate_new u56 u3 (kv:=[]) (es:=#[]) (clk:=0) hb5 (by rw [upd_get_ne hsb']; exact upd_get_same) rfl rfl (fun es' clk' he=>?_)
   refine add_tail (m0:=m1) (fp0:=fp) (A:=A) (c:=c) (r:=b5) (es:=es') (clk:=clk') (zs:=[]) ?_ hs0 hA0 (.inr hn5) ?_ hB ?_ hb5 upd_get_same he hlen hK
   .exact (((Fr.refl m1 fp).upd (.inr hn5) _).upd (.inl hs0) _).upd (.inr hn5) _
   .rw [upd_get_ne hsb,upd_get_same]; rfl
   .refine ((hO.upd ?_).upd ?_).upd ?_
    .exact hO.ne_none hn5
    .exact hO.ne_type hs (by decide)
    .exact hO.ne_none hn5
  .refine bcF ⟨some r,cel hs rfl,?_⟩
   refine mapUpdate_new u56 u3 hBr h2 h3 hkn (fun es' clk' he=>?_)
   have hr0:r∈fp:=by rw [hfp]; simp
   have hrs:s≠r:=fun e=>by rw [<- e,hs] at h2; cases h2
   refine add_tail (m0:=m1) (fp0:=fp) (A:=A) (c:=c) (r:=r) (es:=es') (clk:=clk') ?_ hs0 hA0 (.inl hr0) ?_ hB ?_ hBr upd_get_same (by rw [hkv]; exact he) hlen hK
   .exact (Fr.refl m1 fp).upd (.inl hr0) _
   .rw [upd_get_ne hrs]; exact hs
   .refine hO.upd (fun off e=>?_)
    obtain ⟨_,_,h1 | ⟨g',cur',h1,_,h3',_⟩⟩:=hO
    .rw [h1.1] at e; cases e
    .rw [h1] at e; injection e with e; injection e with e; subst e; rw [h2] at h3'; cases h3'
theorem setAt_of {w0 W:World} {m:AM} (hW:Holds w0 W m) {B s Bs:Nat} {zs:List Int} {fp:List Nat} (h:SetA m B s zs fp) {T:TypeId} (hb:m Bs=some (.cells #[.pointer (some ⟨s,0,none⟩)] T (0,0))) :
  ∃ sl,SetAt W Bs s sl zs:=by
 obtain ⟨mp,A,c,hs,hB,hO,hm,hfp⟩:=h
 refine ⟨.slice A zs.length c,hW.cell (cel hb rfl),hW.cell (cel hs rfl),?_⟩
 cases hA:A with
 | none =>
  obtain ⟨h1,h2,h3 | ⟨g,cur,h3,_⟩⟩:=hO
  .have:zs = []:=by have:=h3.2; cases zs with
    | nil=>rfl
    | cons=>simp at h2; omega
   subst this
   exact .inl ⟨by rw [h3.2]; rfl,rfl⟩
  .rw [hA] at h3; cases h3
 | some ad =>
  have hc:=hO.cells hA
  obtain ⟨h1,h2,h3 | ⟨g,cur,h3,_⟩⟩:=hO
  .rw [hA] at h3; cases h3.1
  .rw [hA] at h3; injection h3 with h3; subst h3
   refine .inr ⟨g,0,c,rfl,fun j hj=>by
    have:=hc j (.int .i64 (zs[j]?.getD 0)) ?_
    .rw [addn] at this; exact hW.cell this
    unfold intCells
    rw [List.getElem?_map]
    simp [hj]⟩
theorem holds_below {w0 W W':World} {m:AM} (h:Holds w0 W m) (hb:Below W.heap.size W W'):Holds w0 W' m :=
 ⟨h.below.trans (hb.mono h.below.size),fun b o hm=>(hb.block b (Array.getElem?_eq_some_iff.1 (h.has b o hm)).1).trans (h.has b o hm)⟩
theorem seq_of {W:World} {Bs s:Nat} {sl:Value} {zs:List Int} (hS:SetAt W Bs s sl zs) (hlen:zs.length<=17592186044415) :
  SeqStopsK Fence.wide 9 Tryz.prog 160 #[.pointer (some ⟨Bs,0,none⟩)] (fun x:Int=>#[Value.int .i64 x]) (Below W.heap.size) (fun xs=>xs=zs) (fun _=>True) zs.length W :=
 all1_stops (fun x:Int=>x) 9 Bs s sl zs W (by rw [List.map_id']; exact hS) hlen
theorem enters86:∀ args w,(callFunc 160 args).run Tryz.prog w=.ok (.enter 160 args) w:=enters_of Tryz.func160 (by kernel_rfl) rfl
theorem collect_spec (w0:World) (m:AM) {s Bs:Nat} {zs:List Int} {fp:List Nat} (h:SetA m w0.heap.size s zs fp) {T:TypeId} (hb:m Bs=some (.cells #[.pointer (some ⟨s,0,none⟩)] T (0,0))) (hlen:zs.length<=10000) {R:Value->AM->Prop}
  (hK:∀ A c m',m.le m'->(∀ k∈obl A,m k=none)->Alog.Own m' w0.heap.size 3 1 A zs.length c (intCells .i64 zs)->R (.slice A zs.length c) m') :
  CallsA Tryz.prog w0 111 #[.func (.func 160) #[] #[.pointer (some ⟨Bs,0,none⟩)]] m R:=by
 intro W hW
 obtain ⟨sl,hS⟩:=setAt_of hW h hb
 refine (callsIn_wide (n:=11)).1 ?_
 refine (collect_in _ _ enters86 zs (by unfold maxLen; omega) (by omega) W (seq_of hS (by omega))).mono ?_
 rintro e W' ⟨v,rfl,hrow,hnil,hb'⟩
 have hH:=holds_below hW hb'
 rcases hrow.2 with ⟨h1,h2⟩ | ⟨g,cap,cur,h1,h2,h3,h4,h5,h6,h7⟩
 .have:zs = []:=List.eq_nil_of_length_eq_zero h2
  subst this
  subst h1
  exact ⟨_,m,rfl,hH,hK none 0 m (AM.le_refl m) (by simp [obl]) (Alog.Own.nil _ _ _ _)⟩
 .have hg:m g=none:=by
   cases hm:m g with
   | none=>rfl
   | some o=>exact absurd (Array.getElem?_eq_some_iff.1 (hW.has g o hm)).1 (by omega)
  subst h1
  refine ⟨_,m.upd g (.cells cur 3 (0,0)),rfl,⟨hH.below,fun b o hbo=>?_⟩,hK (some ⟨g,0,none⟩) cap _ (fun b o hbo=>?_) (by simp [obl,hg]) ⟨?_,h4,.inr ⟨g,cur,rfl,?_,upd_get_same,h6,h7⟩⟩⟩
  .by_cases e:b=g
   .subst e; rw [upd_get_same] at hbo; injection hbo with hbo; subst hbo; exact h3
   .rw [upd_get_ne e] at hbo; exact hH.has b o hbo
  .have e:b≠g:=fun e=>by rw [e,hg] at hbo; cases hbo
   rw [upd_get_ne e]; exact hbo
  .simp [intCells]
  .have:=hW.below.size; omega
theorem all_spec (w0:World) (m:AM) (s:Nat) {R:Value->AM->Prop} (hK:∀ b m',m.le m'->m b=none->w0.heap.size<=b->m' b=some (.cells #[.pointer (some ⟨s,0,none⟩)] 201 (0,0))->R (.func (.func 160) #[] #[.pointer (some ⟨b,0,none⟩)]) m') :
  CallsA Tryz.prog w0 112 #[.pointer (some ⟨s,0,none⟩)] m R:=by
 refine cf112 w0 m s R ?_
 intro b hb hn
 exact retP_of (hK b _ (fun k o hk=>by rw [upd_get_ne (fun e=>by rw [e,hn] at hk; cases hk)]; exact hk) hn hb upd_get_same)
end Go.Proofs.YtgjamnhjlaohaaaGreatDoor.S
namespace Go.Proofs
open Go Go.RowKit Go.Shelf
def Tryz.lSort_ren:Go.Shelf.Ren:=⟨fun | 189=>114 | 125=>162 | 257=>161 | 128=>190 | 129=>191 | 294=>181 | 295=>182 | 296=>183 | 297=>184 | 298=>185 | 299=>186 | 216=>187 | 300=>188 | 301=>189 | 328=>201 | 329=>202 | 330=>203 | 331=>204 | 332=>205 | 215=>206 | 343=>210 | n=>n,fun | 28=>33 | 3=>3 | 46=>206 | 0=>0 | 51=>233 | 53=>235 | 4=>4 | 183=>227 | 182=>226 | 131=>54 | 5=>5 | 9=>9 | 218=>246 | 222=>250 | 228=>258 | 229=>59 | n=>n,fun | n=>n⟩
theorem Tryz.lSort:Go.Proofs.Lays.n189 Tryz.prog Tryz.lSort_ren where
 mixed:=by kernel_rfl
 f125:=Tryz.func162.trans (congrArg some (by kernel_rfl))
 f128:=Tryz.func190.trans (congrArg some (by kernel_rfl))
 f129:=Tryz.func191.trans (congrArg some (by kernel_rfl))
 f189:=Tryz.func114.trans (congrArg some (by kernel_rfl))
 f215:=Tryz.func206.trans (congrArg some (by kernel_rfl))
 f216:=Tryz.func187.trans (congrArg some (by kernel_rfl))
 f257:=Tryz.func161.trans (congrArg some (by kernel_rfl))
 f294:=Tryz.func181.trans (congrArg some (by kernel_rfl))
 f295:=Tryz.func182.trans (congrArg some (by kernel_rfl))
 f296:=Tryz.func183.trans (congrArg some (by kernel_rfl))
 f297:=Tryz.func184.trans (congrArg some (by kernel_rfl))
 f298:=Tryz.func185.trans (congrArg some (by kernel_rfl))
 f299:=Tryz.func186.trans (congrArg some (by kernel_rfl))
 f300:=Tryz.func188.trans (congrArg some (by kernel_rfl))
 f301:=Tryz.func189.trans (congrArg some (by kernel_rfl))
 f328:=Tryz.func201.trans (congrArg some (by kernel_rfl))
 f329:=Tryz.func202.trans (congrArg some (by kernel_rfl))
 f330:=Tryz.func203.trans (congrArg some (by kernel_rfl))
 f331:=Tryz.func204.trans (congrArg some (by kernel_rfl))
 f332:=Tryz.func205.trans (congrArg some (by kernel_rfl))
 f343:=Tryz.func210.trans (congrArg some (by kernel_rfl))
 t0:=Tryz.underlying0
 a0:=Tryz.isAgg0
 z0:=Tryz.sizeOf0
 v0:=Tryz.zeroValue0
 t3:=Tryz.underlying3
 a3:=Tryz.isAgg3
 z3:=Tryz.sizeOf3
 v3:=Tryz.zeroValue3
 t4:=Tryz.underlying4
 a4:=Tryz.isAgg4
 z4:=Tryz.sizeOf4
 v4:=Tryz.zeroValue4
 t5:=Tryz.underlying5
 a5:=Tryz.isAgg5
 z5:=Tryz.sizeOf5
 v5:=Tryz.zeroValue5
 t9:=Tryz.underlying9
 a9:=Tryz.isAgg9
 z9:=Tryz.sizeOf9
 v9:=Tryz.zeroValue9
 t28:=Tryz.underlying33
 a28:=Tryz.isAgg33
 z28:=Tryz.sizeOf33
 v28:=Tryz.zeroValue33
 t46:=Tryz.underlying206
 a46:=Tryz.isAgg206
 z46:=Tryz.sizeOf206
 v46:=Tryz.zeroValue206
 t51:=Tryz.underlying233
 a51:=Tryz.isAgg233
 z51:=Tryz.sizeOf233
 v51:=Tryz.zeroValue233
 t53:=Tryz.underlying235
 a53:=Tryz.isAgg235
 z53:=Tryz.sizeOf235
 v53:=Tryz.zeroValue235
 t131:=Tryz.underlying54
 a131:=Tryz.isAgg54
 z131:=Tryz.sizeOf54
 v131:=Tryz.zeroValue54
 t182:=Tryz.underlying226
 a182:=Tryz.isAgg226
 z182:=Tryz.sizeOf226
 v182:=Tryz.zeroValue226
 t183:=Tryz.underlying227
 a183:=Tryz.isAgg227
 z183:=Tryz.sizeOf227
 v183:=Tryz.zeroValue227
 t218:=Tryz.underlying246
 a218:=Tryz.isAgg246
 z218:=Tryz.sizeOf246
 v218:=Tryz.zeroValue246
 t222:=Tryz.underlying250
 a222:=Tryz.isAgg250
 z222:=Tryz.sizeOf250
 v222:=Tryz.zeroValue250
 t228:=Tryz.underlying258
 a228:=Tryz.isAgg258
 z228:=Tryz.sizeOf258
 v228:=Tryz.zeroValue258
 t229:=Tryz.underlying59
 a229:=Tryz.isAgg59
 z229:=Tryz.sizeOf59
 v229:=Tryz.zeroValue59
end Go.Proofs
namespace Go.Proofs.YtgjamnhjlaohaaaGreatDoor.S
open Go Go.RowKit Go.Alog Go.Proofs.YtgjamnhjlaohaaaGreatDoor.T Go.Proofs.YtgjamnhjlaohaaaGreatDoor.V
def sortL (zs:List Int):List Int:=zs.mergeSort fun x y=>decide (x<=y)
theorem sortRen:Go.Proofs.Tryz.lSort_ren.f 189=114:=by kernel_rfl
theorem sortAny_spec (w0:World) (m:AM) {A:Option Addr} {c:Nat} {zs:List Int} (hO:Alog.Own m w0.heap.size 3 1 A zs.length c (intCells .i64 zs)) (hlen:zs.length<=100000) {R:Value->AM->Prop}
  (hK:∀ m',Fr m m' (obl A)->Alog.Own m' w0.heap.size 3 1 A zs.length c (intCells .i64 (sortL zs))->R (.tuple #[]) m') :
  CallsA Tryz.prog w0 114 #[.slice A zs.length c] m R:=by
 intro W hW
 obtain ⟨h1,h2,h3 | ⟨g,cur,h3,h4,h5,h6,h7⟩⟩:=hO
 .have hz:zs = []:=by
   cases zs with
   | nil=>rfl
   | cons=>simp at h2; omega
  subst hz
  rw [h3.1] at hK ⊢
  have:=Go.Proofs.Any.slices_Sort_int_none Go.Proofs.Tryz.lSort none c W
  rw [sortRen] at this
  refine this.mono ?_
  rintro e W' ⟨rfl,rfl⟩
  exact ⟨_,m,rfl,hW,hK m (Fr.refl _ _) ⟨by simp [intCells,sortL],h2,.inl ⟨rfl,h3.2⟩⟩⟩
 .have hb:=hW.has g _ h5
  have ht:cur.toList.take zs.length=zs.map (Value.int .i64):=by simpa [intCells] using h7
  have:=Go.Proofs.Any.slices_Sort_int Go.Proofs.Tryz.lSort g 0 c zs W (holds_of_blockI hb ht) (Array.getElem?_eq_some_iff.1 hb).1 (by omega)
  rw [sortRen] at this
  rw [h3] at hK ⊢
  refine this.mono ?_
  rintro e W' ⟨rfl,n,os,rfl⟩
  have hg:=grownBy_sortedI (w:=W) (g:=g) (n:=n) (os:=os) (zs.mergeSort fun x y=>decide (x<=y)).toArray
  have hbb:Below w0.heap.size w0 _:=hW.below.grown hg hW.below.size (fun k e=>by cases e; exact h4)
  refine ⟨_,m.upd g (.cells (Sort.putCells (Value.int .i64) 0 (zs.mergeSort fun x y=>decide (x<=y)).toArray cur) 3 (0,0)),rfl,⟨hbb,fun b o hbo=>?_⟩,hK _ ?_ ⟨?_,h2,.inr ⟨g,_,rfl,h4,upd_get_same,?_,?_⟩⟩⟩
  .by_cases e:b=g
   .subst e
    rw [upd_get_same] at hbo
    injection hbo with hbo
    subst hbo
    exact heap_sortedI _ hb
   .rw [upd_get_ne e] at hbo
    have:=hW.has b o hbo
    exact (hg.block b (Array.getElem?_eq_some_iff.1 this).1 (fun e'=>e (by injection e' with e'))).trans this
  .exact (Fr.refl m _).upd (.inl (by simp [obl])) _
  .simp [intCells,sortL]
  .simp [Sort.putCells,h6]
  .have hl:(zs.mergeSort fun x y=>decide (x<=y)).length=zs.length:=by simp
   have:=take_putCellsI cur (zs.mergeSort fun x y=>decide (x<=y)) (by omega)
   rw [hl] at this
   rw [Nat.mul_one,this]
   rfl
theorem less_e (w0:World) (m:AM) {Hb:Nat} {A:Option Addr} {c:Nat} {hs:List Int} (hb:m Hb=some (.cells #[.slice A hs.length c] 33 (0,0))) (rd:Reads m 1 A hs.length (intCells .i64 hs)) {x y:Int} (x0:0<=x) (x1:x<hs.length) (y0:0<=y) (y1:y<hs.length) :
  CallsA Tryz.prog w0 119 #[.int .i64 x,.int .i64 y,.pointer (some ⟨Hb,0,none⟩)] m (fun r m'=>r=.bool (decide (hs.getD x.toNat 0>hs.getD y.toNat 0))/\m'=m):=by
 obtain ⟨a,rfl,hc⟩:=rd.ex (by omega)
 refine cf119 w0 m x y Hb _ ⟨_,_,_,cel hb rfl,⟨x0,x1⟩,?_⟩
 rw [nilO_some]
 refine ⟨_,cell_k hc x0 x1,_,_,_,cel hb rfl,⟨y0,y1⟩,?_⟩
 rw [nilO_some]
 exact ⟨_,cell_k hc y0 y1,rfl,retP_of ⟨rfl,rfl⟩⟩
theorem least_e (w0:World) (m:AM) {s Bs Hb:Nat} {zs:List Int} {fp:List Nat} (h:SetA m w0.heap.size s zs fp) {T:TypeId} (hbs:m Bs=some (.cells #[.pointer (some ⟨s,0,none⟩)] T (0,0))) (hlen:zs.length<=10000)
  {A:Option Addr} {c:Nat} {hs:List Int} (hb:m Hb=some (.cells #[.slice A hs.length c] 33 (0,0))) (rd:Reads m 1 A hs.length (intCells .i64 hs)) (hz:∀ x∈zs,0<=x/\x<hs.length) :
  CallsA Tryz.prog w0 118 #[.func (.func 160) #[] #[.pointer (some ⟨Bs,0,none⟩)],.func (.func 119) #[] #[.pointer (some ⟨Hb,0,none⟩)]] m
   (fun r m'=>r=.tuple #[.int .i64 (leastL (fun a b=>decide (hs.getD a.toNat 0>hs.getD b.toNat 0)) zs).1,.bool (leastL (fun a b=>decide (hs.getD a.toNat 0>hs.getD b.toNat 0)) zs).2]/\m'=m):=by
 intro W hW
 obtain ⟨sl,hS⟩:=setAt_of hW h hbs
 refine (callsIn_wide (n:=10)).1 ?_
 have hseq:=all1_stops (Subtype.val:{x // x∈zs}->Int) 9 Bs s sl zs.attach W (by rw [List.attach_map_subtype_val]; exact hS) (by simp; omega)
 rw [List.length_attach] at hseq
 refine (least_in _ _ enters86 Hb (fun a b=>decide (hs.getD a.toNat 0>hs.getD b.toNat 0)) zs W ?_ hseq).mono ?_
 .intro x y W2 hx hy hB
  have h2:Holds W2 W2 m:=by
   have:=holds_below hW hB
   exact ⟨Below.refl _ _,this.has⟩
  refine (callsIn_wide (n:=7)).2 ((less_e W2 m hb rd (hz x hx).1 (hz x hx).2 (hz y hy).1 (hz y hy).2 W2 h2).mono ?_)
  rintro e W3 ⟨r,m3,rfl,hH,rfl,_⟩
  exact ⟨rfl,hH.below⟩
 .rintro e W2 ⟨rfl,hB⟩
  exact ⟨_,m,rfl,holds_below hW hB,rfl,rfl⟩
theorem h1_spec (w0:World) (m:AM) {pc:Nat} {A':Option Addr} {N c':Nat} (hp:m pc=some (.cells #[.slice A' N c'] 25 (0,0))) (x:Int):CallsA Tryz.prog w0 113 #[.int .i64 x,.pointer (some ⟨pc,0,none⟩)] m (fun r m'=>r=.bool (x == (N:Int))/\m'=m) :=
 cf113 w0 m x pc _ ⟨_,_,_,cel hp rfl,rfl,retP_of ⟨rfl,rfl⟩⟩
theorem hindex_spec (w0:World) (m:AM) (B:Nat) (A:Option Addr) (c:Nat) (l:List Int) (hl:l.length<=100000) {pc:Nat} {A':Option Addr} {N c':Nat} (hp:m pc=some (.cells #[.slice A' N c'] 25 (0,0))) (h:Alog.Own m B 3 1 A l.length c (intCells .i64 l)) :
  CallsA Tryz.prog w0 158 #[.slice A l.length c,.func (.func 113) #[] #[.pointer (some ⟨pc,0,none⟩)]] m (fun r m'=>m'=m/\((r=.int .i64 (-1)/\∀ x∈l,x≠(N:Int))\/∃ k:Nat,r=.int .i64 k/\k<l.length/\l.getD k 0=(N:Int)/\∀ j,j<k->l.getD j 0≠(N:Int))):=by
 refine hcf158 w0 m A l.length c pc _ ?_
 dsimp only [hcf158,mkF]
 refine hvl158_1010 w0 m _ _ A l.length c pc l.length 0 (fun k i m'=>m'=m/\0<=i/\i<=l.length/\(k:Int)=l.length-i/\∀ j,j<i.toNat->l.getD j 0≠(N:Int)) (fun m'=>m'=m/\∀ j,j<l.length->l.getD j 0≠(N:Int)) l.length rfl rfl rfl rfl ⟨rfl,by omega,by omega,by omega,fun j hj=>by omega⟩ ?_ ?_
 .rintro k σ i m' ⟨rfl,i0,i1,hk,hq⟩
  refine ⟨rfl,?_⟩
  by_cases c1:i<l.length
  .refine bcET (decide_eq_true c1) ⟨⟨i0,c1⟩,?_⟩
   obtain ⟨ad,rfl,hc⟩:=h.ex (by omega)
   rw [nilO_some]
   refine ⟨_,cell_k hc i0 c1,?_⟩
   refine CallsA.mono (h1_spec w0 m' hp _) ?_
   rintro r m3 ⟨rfl,h3⟩
   replace h3:=h3.symm; subst h3
   refine ⟨_,rfl,?_⟩
   by_cases hz:l.getD i.toNat 0=(N:Int)
   .refine bcET (by rw [hz]; simp) (retP_of ⟨rfl,.inr ⟨i.toNat,?_,by omega,hz,hq⟩⟩)
    rw [show ((i.toNat:Nat):Int)=i by omega]
   .have w:IntKind.wrap .i64 (i+1)=i+1:=by rw [IntKind.wrap_i64]; omega
    refine bcEF (by simpa using hz) ⟨rfl,rfl,rfl,rfl,rfl,k-1,by omega,?_⟩
    rw [w]
    refine ⟨rfl,by omega,by omega,by omega,fun j hj=>?_⟩
    by_cases e:j=i.toNat
    .rw [e]; exact hz
    .exact hq j (by omega)
  .exact bcEF (decide_eq_false c1) ⟨rfl,rfl,rfl,rfl,fun j hj=>hq j (by omega)⟩
 .rintro σ m' ⟨rfl,hq⟩
  refine retP_of ⟨rfl,.inl ⟨rfl,fun x hx=>?_⟩⟩
  obtain ⟨j,hj,rfl⟩:=List.mem_iff_getElem.1 hx
  have:=hq j hj
  simpa [List.getD,hj] using this
def pd (N:Nat) (l:List Int):List Int:=l.filter (fun x=>x != (N:Int))
theorem hdelete_spec (w0:World) (m:AM) (A:Option Addr) (c:Nat) (l:List Int) (hl:l.length<=100000) {pc:Nat} {A':Option Addr} {N c':Nat} (hp:m pc=some (.cells #[.slice A' N c'] 25 (0,0))) (h2:l.length-(pd N l).length<=2) (h:Alog.Own m w0.heap.size 3 1 A l.length c (intCells .i64 l)) :
  CallsA Tryz.prog w0 110 #[.slice A l.length c,.func (.func 113) #[] #[.pointer (some ⟨pc,0,none⟩)]] m (fun r m'=>r=.slice A (pd N l).length c/\Alog.Own m' w0.heap.size 3 1 A (pd N l).length c (intCells .i64 (pd N l))/\Fr m m' (obl A)):=by
 have hpo:pc∉obl A:=fun hk=>by
  obtain ⟨_,cur,hcur⟩:=h.obl_some hk
  rw [hp] at hcur; injection hcur with hcur; injection hcur with _ e; exact absurd e (by decide)
 refine hcf110 w0 m A l.length c pc _ ?_
 refine CallsA.mono (hindex_spec w0 m _ A c l hl hp h) ?_
 rintro r m1 ⟨h1,hr⟩
 replace h1:=h1.symm; subst h1
 rcases hr with ⟨rfl,hnz⟩ | ⟨k,rfl,hk,hz,hqq⟩
 .refine ⟨_,rfl,rfl,bcET (by decide) (retP_of ?_)⟩
  have:pd N l=l:=by unfold pd; rw [List.filter_eq_self]; intro x hx; simpa using hnz x hx
  rw [this]
  exact ⟨rfl,h,Fr.refl _ _⟩
 .have hcap:=h.2.1
  refine ⟨_,rfl,rfl,bcEF (by simp) ⟨rfl,?_⟩⟩
  have wk:IntKind.wrap .i64 ((k:Int)+1)=k+1:=by rw [IntKind.wrap_i64]; omega
  rw [wk]
  have tk:pd N (l.take (k+1))=l.take k:=by
   have hlt:k<l.length:=hk
   rw [<- List.take_append_getElem hlt]
   have e0:l[k]=(N:Int):=by simpa [List.getD,hlt] using hz
   unfold pd
   rw [List.filter_append,e0]
   simp only [List.filter_cons,List.filter_nil]
   rw [if_neg (by simp),List.append_nil,List.filter_eq_self]
   intro x hx
   obtain ⟨j,hj,rfl⟩:=List.mem_iff_getElem.1 hx
   rw [List.length_take] at hj
   have:=hqq j (by omega)
   rw [List.getElem_take]
   simpa [List.getD,show j<l.length by omega] using this
  refine hvl110_111010 w0 m _ _ A l.length c pc (k:Int) ((k:Int)+1)
   (fun n i j m'=>∃ l':List Int,l'.length=l.length/\Alog.Own m' w0.heap.size 3 1 A l.length c (intCells .i64 l')/\Fr m m' (obl A)/\0<=i/\i<j/\j<=l.length/\(n:Int)=l.length-j/\l'.take i.toNat=pd N (l.take j.toNat)/\∀ q,j.toNat<=q->l'.getD q 0=l.getD q 0)
   (fun i m'=>∃ l':List Int,l'.length=l.length/\Alog.Own m' w0.heap.size 3 1 A l.length c (intCells .i64 l')/\Fr m m' (obl A)/\0<=i/\i<=l.length/\l'.take i.toNat=pd N l) (l.length-(k+1)) rfl rfl rfl rfl
   ⟨l,rfl,h,Fr.refl _ _,by omega,by omega,by omega,by omega,by rw [show ((k:Int)+1).toNat=k+1 by omega,tk]; simp,fun _ _=>rfl⟩ ?_ ?_
  .rintro n σ i j m' ⟨l',hl',ho,hf,i0,ij,jn,hn,ht,hq⟩
   refine ⟨rfl,?_⟩
   by_cases c1:j<l.length
   .refine bcET (decide_eq_true c1) ⟨⟨by omega,c1⟩,?_⟩
    obtain ⟨ad,rfl,hc⟩:=ho.ex (by omega)
    rw [nilO_some]
    have hcell:=cell_k hc (i:=j) (by omega) (by omega)
    refine ⟨_,hcell,?_⟩
    refine CallsA.mono (h1_spec w0 m' (pc:=pc) (A':=A') (N:=N) (c':=c') (hf pc _ hp hpo) _) ?_
    rintro r m3 ⟨rfl,h3⟩
    replace h3:=h3.symm; subst h3
    refine ⟨_,rfl,?_⟩
    have wj:IntKind.wrap .i64 (j+1)=j+1:=by rw [IntKind.wrap_i64]; omega
    have wi:IntKind.wrap .i64 (i+1)=i+1:=by rw [IntKind.wrap_i64]; omega
    have hjl:j.toNat<l.length:=by omega
    have hv:l'.getD j.toNat 0=l[j.toNat]:=by rw [hq _ (Nat.le_refl _)]; simp [List.getD,hjl]
    have htk:pd N (l.take (j+1).toNat)=pd N (l.take j.toNat) ++ pd N [l[j.toNat]]:=by
     rw [show (j+1).toNat=j.toNat+1 by omega,<- List.take_append_getElem hjl]
     unfold pd; rw [List.filter_append]
    rw [hv]
    by_cases hz2:l[j.toNat]=(N:Int)
    .refine bcEF (by rw [hz2]; simp) ⟨rfl,rfl,rfl,rfl,rfl,n-1,by omega,?_⟩
     rw [wj]
     refine ⟨l',hl',ho,hf,i0,by omega,by omega,by omega,?_,fun q hq2=>hq q (by omega)⟩
     rw [htk,hz2,ht]; simp [pd]
    .refine bcET (by simpa using hz2) ⟨⟨i0,by omega⟩,?_⟩
     rw [nilO_some]
     rw [<- hl'] at ho
     refine own_set ho (k:=i.toNat) (by omega) _ fun m4 o4 f4=>⟨rfl,rfl,rfl,rfl,rfl,rfl,n-1,by omega,?_⟩
     rw [wi,wj]
     rw [hl'] at o4
     refine ⟨l'.set i.toNat l[j.toNat],by simp [hl'],o4,hf.trans f4 fun _ h=>.inl h,by omega,by omega,by omega,by omega,?_,fun q hq2=>?_⟩
     .rw [htk,<- ht,show (i+1).toNat=i.toNat+1 by omega]
      have hil:i.toNat<(l'.set i.toNat l[j.toNat]).length:=by simp; omega
      rw [<- List.take_append_getElem hil]
      simp [pd,hz2,List.take_set_of_le]
     .have:i.toNat≠q:=by omega
      rw [<- hq q (by omega)]
      simp [List.getD,List.getElem?_set_ne this]
   .refine bcEF (decide_eq_false c1) ⟨rfl,rfl,rfl,l',hl',ho,hf,i0,by omega,?_⟩
    rw [ht,List.take_of_length_le (by omega)]
  .rintro σ i m' ⟨l',hl',ho,hf,i0,il,ht⟩
   refine ⟨i0,hcap,by omega,?_⟩
   rw [<- hl'] at ho ⊢
   have hlen0:(pd N l).length=i.toNat:=by rw [<- ht,List.length_take]; omega
   refine clear_tail ho (k:=i.toNat) (by omega) (by omega) fun m5 o5 f5=>⟨rfl,i0,by omega,by omega,retP_of ?_⟩
   have hlen:(pd N l).length=i.toNat:=by rw [<- ht,List.length_take]; omega
   have hA:(if c=0 then A else Option.map (fun x=>Addr.add x (0*1)) A)=A:=by
    split
    .rfl
    .cases A with
     | none=>rfl
     | some ad=>simp [Addr.add]
   rw [hA,hlen,<- ht]
   exact ⟨rfl,o5,hf.trans f5 fun _ h=>.inl h⟩
theorem SetA.le {m m':AM} {B s:Nat} {zs:List Int} {fp:List Nat} (h:SetA m B s zs fp) (l:m.le m'):SetA m' B s zs fp:=by
 obtain ⟨mp,A,c,hs,hB,hO,hm,hfp⟩:=h
 refine ⟨mp,A,c,l _ _ hs,hB,hO.le l,?_,hfp⟩
 rcases hm with h | ⟨r,es,clk,h1,h2,h3,h4⟩
 .exact .inl h
 .exact .inr ⟨r,es,clk,h1,h2,l _ _ h3,h4⟩
def HI (m:AM) (B q:Nat) (o:Obj) (s:Nat) (zs:List Int) (m':AM):Prop:=∃ fp,m.le m'/\m' q=some o/\q∉fp/\(∀ k∈fp,m k=none)/\SetA m' B s zs fp
theorem HI.le {m m' m'':AM} {B q s:Nat} {o:Obj} {zs:List Int} (h:HI m B q o s zs m') (l:m'.le m''):HI m B q o s zs m'':=by
 obtain ⟨fp,h1,h2,h3,h4,h5⟩:=h
 exact ⟨fp,AM.le_trans h1 l,l _ _ h2,h3,h4,h5.le l⟩
theorem HI.add {w0:World} {m m':AM} {q s:Nat} {o:Obj} {zs:List Int} (h:HI m w0.heap.size q o s zs m') (hlen:zs.length<=10000) (x:Int) {b:Nat} {o2:Obj} (hb:m' b=some o2) (hbf:∀ fp,SetA m' w0.heap.size s zs fp->b∉fp) :
  CallsA Tryz.prog w0 109 #[.pointer (some ⟨s,0,none⟩),.int .i64 x] m' (fun r m''=>∃ t:Bool,r=.bool t/\HI m w0.heap.size q o s (addL zs x) m''/\m'' b=some o2):=by
 obtain ⟨fp,h1,h2,h3,h4,h5⟩:=h
 refine add_spec w0 m' h5 hlen x (R:=fun r m''=>∃ t:Bool,r=.bool t/\HI m w0.heap.size q o s (addL zs x) m''/\m'' b=some o2) fun m2 fp2 hf hk hs=>?_
 refine ⟨_,rfl,⟨fp2,?_,hf _ _ h2 h3,?_,?_,hs⟩,hf _ _ hb (hbf fp h5)⟩
 .intro k o' hk'
  refine hf k o' (h1 k o' hk') fun hin=>?_
  rw [h4 k hin] at hk'; cases hk'
 .intro hq
  rcases hk q hq with h | h
  .exact h3 h
  .rw [h2] at h; cases h
 .intro k hin
  rcases hk k hin with h | h
  .exact h4 k h
  .cases hm:m k with
   | none=>rfl
   | some o'=>rw [h1 k o' hm] at h; cases h
theorem addL_eq (zs:List Int) (x:Int):addL zs x=addS zs x:=rfl
theorem SetA.ne_ins {m:AM} {B s:Nat} {zs:List Int} {fp:List Nat} (h:SetA m B s zs fp) {b:Nat} {c:Array Value} {T:TypeId} {f:Nat × Nat} (hb:m b=some (.cells c T f)) (h1:T≠167) (h2:T≠3):b∉fp:=by
 obtain ⟨mp,A,c',hs,hB,hO,hm,hfp⟩:=h
 rw [hfp]
 simp only [List.mem_cons,List.mem_append,not_or]
 refine ⟨fun e=>?_,fun e=>?_,fun e=>?_⟩
 .subst e; rw [hb] at hs; injection hs with hs; injection hs with _ e; exact h1 e
 .obtain ⟨_,cur,hc⟩:=hO.obl_some e
  rw [hb] at hc; injection hc with hc; injection hc with _ e; exact h2 e
 .rcases hm with ⟨rfl,_⟩ | ⟨r,es,clk,rfl,_,h3,_⟩
  .simp at e
  .simp at e; subst e; rw [hb] at h3; cases h3
def oI (w0:World) (m0:AM) (l:List Int) (r:Value) (m':AM):Prop:=(∃ (A:Option Addr) (c:Nat),r=.slice A l.length c/\Alog.Own m' w0.heap.size 3 1 A l.length c (intCells .i64 l)/\∀ k∈obl A,m0 k=none)/\m0.le m'
theorem pd_less:∀ {l:List Int},l.Nodup->∀ N:Nat,l.length-(pd N l).length<=2
 | [],_,_=>by simp [pd]
 | x :: l,h,N=>by
  rw [List.nodup_cons] at h
  by_cases e:x=(N:Int)
  .have:pd N (x :: l)=l:=by
    unfold pd
    rw [List.filter_cons,if_neg (by simp [e])]
    rw [List.filter_eq_self]
    intro y hy
    have:y≠(N:Int):=fun e2=>h.1 (by rw [e,<- e2]; exact hy)
    simpa using this
   rw [this]; simp
  .have:pd N (x :: l)=x :: pd N l:=by
    unfold pd
    rw [List.filter_cons,if_pos (by simpa using e)]
   rw [this]
   have:=pd_less h.2 N
   simp; omega
theorem heads_spec (w0:World) (m:AM) (A:Option Addr) (c:Nat) (code:List Ins) (hl:code.length<=1000000) (rd:Reads m 5 A code.length (insCells code)) :
  CallsA Tryz.prog w0 68 #[.slice A code.length c] m (oI w0 m (headsP code)):=by
 generalize hR:oI w0 m (headsP code)=R
 have retN:∀ m',m.le m'->headsP code = []->RetP R (.slice none 0 0) m':=fun m' l e=>by
  rw [<- hR,e]; exact retP_of ⟨⟨none,0,rfl,Alog.Own.nil _ _ _ _,by simp [obl]⟩,l⟩
 refine cf68 w0 m A code.length c R ?_
 intro b1 hb1 hn1 M
 have l1:m.le M:=le_new hn1 _
 have p1:M b1=some (.cells #[.slice A code.length c] 25 (0,0)):=upd_get_same
 clear_value M
 refine ⟨_,_,_,cel p1 rfl,callB (fit_e w0 M A c code hl (rd.le l1)) ?_⟩
 cases hf:fitP code with
 | false=>exact bcT ⟨rfl,retN _ l1 (by unfold headsP; rw [hf]; rfl)⟩
 | true =>
  have hlen:code.length<=4096:=by
   by_cases h:code.length<=4096
   .exact h
   .rw [fitP_len (by omega)] at hf; cases hf
  refine bcF ⟨_,_,_,cel p1 rfl,rfl,bcI (fun h=>retN _ l1 ?_) (fun h=>?_)⟩
  .have h':((code.length:Nat):Int) == 0:=h
   have:code.length=0:=by simpa using h'
   unfold headsP; rw [this]; simp
  have hpos:0<code.length:=by
   have h':(((code.length:Nat):Int) == 0)=false:=h
   have:code.length≠0:=by simpa using h'
   omega
  intro s hs hns M2
  have l2:M.le M2:=le_new hns _
  have p2:M2 s=some (.cells #[.map none,.slice none 0 0] 167 (0,0)):=upd_get_same
  clear_value M2
  have hms:m s=none:=by
   cases hm:m s with
   | none=>rfl
   | some o=>rw [l1 s o hm] at hns; cases hns
  have hsb:b1≠s:=fun e=>by rw [<- e,p1] at hns; cases hns
  have s0:HI m w0.heap.size b1 (.cells #[.slice A code.length c] 25 (0,0)) s [] M2 :=
   ⟨[s],AM.le_trans l1 l2,l2 _ _ p1,by simpa using hsb,by simpa using hms,none,none,0,p2,hs,Alog.Own.nil _ _ _ _,.inl ⟨rfl,rfl⟩,by simp [obl]⟩
  refine CallsA.mono (s0.add (by simp) 0 (l2 _ _ p1) (fun fp hfp=>hfp.ne_ins (l2 _ _ p1) (by decide) (by decide))) ?_
  rintro r M3 ⟨t,rfl,s1,_⟩
  have q1:M3 b1=some (.cells #[.slice A code.length c] 25 (0,0)):=by obtain ⟨fp,_,h,_⟩:=s1; exact h
  refine ⟨_,rfl,_,_,_,cel q1 rfl,?_⟩
  refine vl68_1111010 w0 M3 _ _ b1 s A code.length c code.length 0
   (fun n k m'=>HI m w0.heap.size b1 (.cells #[.slice A code.length c] 25 (0,0)) s (hsL code k.toNat) m'/\0<=k/\k<=code.length/\(n:Int)=code.length-k)
   (fun m'=>HI m w0.heap.size b1 (.cells #[.slice A code.length c] 25 (0,0)) s (hsL code code.length) m') code.length rfl rfl rfl rfl rfl ⟨s1,by omega,by omega,by omega⟩ ?_ ?_
  .rintro n σ k m1 ⟨hi,k0,k1,hn⟩
   refine ⟨rfl,bcP (fun hlt=>?_) (fun hlt=>by (repeat (refine And.intro (Eq.refl _) ?_)); rwa [show k.toNat=code.length by omega] at hi)⟩
   have lm1:m.le m1:=by obtain ⟨fp,h,_⟩:=hi; exact h
   refine ldAt (rd.le lm1) rfl k0 hlt fun a=>blk5 fun b M4 l4 nb hb p=>?_
   replace p:M4 b=some (.cells (Ins.cells (cAt code k)).toArray 57 (0,0)):=p
   replace hi:=hi.le l4
   have hkk:((k.toNat:Nat):Int)=k:=by omega
   have hll:=hsL_len code k.toNat
   have wk:IntKind.wrap .i64 (k+1)=k+1:=wrap_s (by omega) (by omega)
   have hst:hsL code (k+1).toNat=hsStep code (hsL code k.toNat) k.toNat:=by rw [show (k+1).toNat=k.toNat+1 by omega]; exact hsL_succ code _
   unfold hsStep at hst
   rw [hkk] at hst
   dsimp only at hst
   have fin:∀ m2,HI m w0.heap.size b1 (.cells #[.slice A code.length c] 25 (0,0)) s (hsL code (k+1).toNat) m2->∃ n':Nat,n'<n/\(HI m w0.heap.size b1 (.cells #[.slice A code.length c] 25 (0,0)) s (hsL code (k+1).toNat) m2/\0<=k+1/\k+1<=code.length/\(n':Int)=code.length-(k+1)):=fun m2 h=>⟨n-1,by omega,h,by omega,by omega,by omega⟩
   rw [wk]
   refine ldIns p ?_
   refine CallsA.mono (target_e w0 M4 (cAt code k) k) ?_
   rintro r m2 ⟨rfl,h2⟩
   replace h2:=h2.symm; subst h2
   refine ⟨_,_,rfl,?_⟩
   cases ht:tok (cAt code k) with
   | true =>
    simp only [ht,if_true] at hst
    refine bcT (CallsA.mono (hi.add (by omega) _ p (fun fp hfp=>hfp.ne_ins p (by decide) (by decide))) ?_)
    rintro r M5 ⟨t,rfl,hi2,p5⟩
    rw [addL_eq] at hi2
    refine ⟨_,rfl,ldIns p5 (callB (goes_e w0 M5 (cAt code k)) ?_)⟩
    have hl2:=addS_len (hsL code k.toNat) (tgt (cAt code k) k)
    cases hg:goesP (cAt code k) with
    | true =>
     simp only [hg,if_true] at hst
     refine bcT ⟨rfl,CallsA.mono (hi2.add (by omega) _ p5 (fun fp hfp=>hfp.ne_ins p5 (by decide) (by decide))) ?_⟩
     rintro r M6 ⟨t,rfl,hi3,p6⟩
     rw [addL_eq,<- hst] at hi3
     refine ⟨_,rfl,?_⟩
     (repeat (refine And.intro (Eq.refl _) ?_))
     exact fin _ hi3
    | false =>
     simp only [hg,Bool.false_eq_true,if_false] at hst
     rw [<- hst] at hi2
     refine bcF ?_
     (repeat (refine And.intro (Eq.refl _) ?_))
     exact fin _ hi2
   | false =>
    simp only [ht,Bool.false_eq_true,if_false] at hst
    refine bcF (ldIns p (callB (goes_e w0 M4 (cAt code k)) ?_))
    cases hg:goesP (cAt code k) with
    | true =>
     simp only [hg,if_true] at hst
     refine bcT ⟨rfl,CallsA.mono (hi.add (by omega) _ p (fun fp hfp=>hfp.ne_ins p (by decide) (by decide))) ?_⟩
     rintro r M6 ⟨t,rfl,hi3,p6⟩
     rw [addL_eq,<- hst] at hi3
     refine ⟨_,rfl,?_⟩
     (repeat (refine And.intro (Eq.refl _) ?_))
     exact fin _ hi3
    | false =>
     simp only [hg,Bool.false_eq_true,if_false] at hst
     rw [<- hst] at hi
     refine bcF ?_
     (repeat (refine And.intro (Eq.refl _) ?_))
     exact fin _ hi
  .rintro σ m1 hi
   obtain ⟨fp,h1,h2,h3,h4,h5⟩:=hi
   have hll:=hsL_len code code.length
   refine all_spec w0 m1 s (R:=fun r70 m71=>_) fun q M7 l7 nq bq pq=>⟨_,rfl,?_⟩
   refine collect_spec w0 M7 (h5.le l7) pq (by omega) (R:=fun r75 m76=>_) fun A2 c2 M8 l8 n8 o8=>⟨_,_,_,rfl,?_⟩
   have e8:M8 b1=some (.cells #[.slice A code.length c] 25 (0,0)):=l8 _ _ (l7 _ _ h2)
   have hnd:=hsL_nodup code code.length
   refine CallsA.mono (hdelete_spec w0 M8 A2 c2 _ (by omega) e8 ?_ o8) ?_
   .exact pd_less hnd _
   rintro r M9 ⟨rfl,o9,f9⟩
   refine ⟨_,_,_,rfl,?_⟩
   refine sortAny_spec w0 M9 o9 (by have:=List.length_filter_le (fun x=>x != (code.length:Int)) (hsL code code.length); unfold pd; omega) (R:=fun r82 m83=>_) fun M10 f10 o10=>⟨rfl,retP_of ?_⟩
   rw [<- hR]
   have he:sortL (pd code.length (hsL code code.length))=headsP code:=heads_eq hf (by intro e; rw [e] at hpos; simp at hpos)
   have hlen2:(headsP code).length=(pd code.length (hsL code code.length)).length:=by rw [<- he]; simp [sortL]
   have l18:m.le M8:=AM.le_trans h1 (AM.le_trans l7 l8)
   have n2:∀ k∈obl A2,m k=none:=fun k hk=>by
    cases hm:m k with
    | none=>rfl
    | some o =>
     have:=n8 k hk
     rw [l7 _ _ (h1 _ _ hm)] at this
     cases this
   refine ⟨⟨A2,c2,by rw [hlen2],by rw [hlen2,<- he]; exact o10,n2⟩,?_⟩
   intro k o hk
   have hk2:k∉obl A2:=fun h=>by rw [n2 k h] at hk; cases hk
   exact f10 _ _ (f9 _ _ (l18 _ _ hk) hk2) hk2
end Go.Proofs.YtgjamnhjlaohaaaGreatDoor.S
namespace Go.Proofs.YtgjamnhjlaohaaaGreatDoor.V
open Go Go.Alog Go.Proofs.YtgjamnhjlaohaaaGreatDoor.T
variable (w0:World) (m:AM)
noncomputable abbrev cf116 (x0:Option Addr) (x0n x0c:Nat) (x1:Int) (R:RT):Vn (C_ w0 116 #[.slice x0 x0n x0c,I_ x1] m R):=mkF (F:=F116) Tryz.func116 (by dsimp only [push_cast,↓u1,↓u2,↓u3,Nat.reduceAdd,Nat.reduceBEq,Nat.reduceDiv,Nat.reduceMod]) (by kernel_rfl)
noncomputable abbrev vl116_11111100 (σ:Sg) (R:RT) (x7:Option Addr) (x7n x7c:Nat) (x8:Int) (I0:Nat->Int->AM->Prop) (E0_0:AM->Prop) (N:Nat) (h7:σ 7=.slice x7 x7n x7c) (h8:σ 8=I_ x8) (h_0:I0 N x8 m):Vn (Vn (XV w0 F116 (Tz R) 508 σ m)):=mkL1 (lq116_11111100 R x7 x7n x7c I0 E0_0) (fun _=>rfl) N (cs h7 nl) (cs h8 nl) h_0 (by dsimp only [push_cast,↓u1,↓u2,↓u3,Nat.reduceAdd,Nat.reduceBEq,Nat.reduceDiv,Nat.reduceMod]) (by dsimp only [push_cast,↓u1,↓u2,↓u3,Nat.reduceAdd,Nat.reduceBEq,Nat.reduceDiv,Nat.reduceMod]) (by kernel_rfl)
noncomputable abbrev cf193 (x0 x1:Int) (R:RT):Vn (C_ w0 193 #[.int .u64 x0,.int .u64 x1] m R):=mkF (F:=F193) Tryz.func193 (by dsimp only [push_cast,↓u1,↓u2,↓u3,Nat.reduceAdd,Nat.reduceBEq,Nat.reduceDiv,Nat.reduceMod]) (by kernel_rfl)
end Go.Proofs.YtgjamnhjlaohaaaGreatDoor.V
namespace Go.Proofs.YtgjamnhjlaohaaaGreatDoor.S
open Go Go.RowKit Go.Alog Go.Proofs.YtgjamnhjlaohaaaGreatDoor.T Go.Proofs.YtgjamnhjlaohaaaGreatDoor.V
theorem el30':elOf Tryz.prog 33=some (3,1,8,[.int .i64 0]):=by kernel_rfl
theorem and32 {n:Nat} (h:n<=1000000):(BitVec.ofInt (IntKind.bits .u64) (n:Int) &&& BitVec.ofInt (IntKind.bits .u64) 4294967295).toNat=n:=by
 rw [BitVec.toNat_and]
 have e1:(BitVec.ofInt (IntKind.bits .u64) 4294967295).toNat=2 ^ 32-1:=by decide
 have e2:(BitVec.ofInt (IntKind.bits .u64) (n:Int)).toNat=n:=by
  show (BitVec.ofInt 64 (n:Int)).toNat=n
  rw [BitVec.toNat_ofInt]
  omega
 rw [e1,e2,Nat.and_two_pow_sub_one_eq_mod]
 omega
theorem and32':(BitVec.ofInt (IntKind.bits .u64) 1 &&& BitVec.ofInt (IntKind.bits .u64) 4294967295).toNat=1:=by decide
theorem shr32 (n:Nat) (h:n<=1000000):Int.fdiv (n:Int) (2 ^ (min (32:Int).toNat (IntKind.bits .u64)))=0:=by
 have e:((2:Int) ^ (min (32:Int).toNat (IntKind.bits .u64)))=4294967296:=by decide
 rw [e,Int.fdiv_eq_ediv_of_nonneg _ (by decide)]
 omega
theorem wu64 (n:Nat) (h:n<=1000000):IntKind.wrap .u64 (n:Int)=n:=by
 have:IntKind.wrap .u64 (n:Int)=(n:Int) % 18446744073709551616:=rfl
 omega
theorem mul_spec (w0:World) (m:AM) {n:Nat} (h:n<=1000000):CallsA Tryz.prog w0 163 #[.int .u64 1,.int .u64 n] m (fun r m'=>r=.tuple #[.int .u64 0,.int .u64 n]/\m'=m):=by
 refine cf163 w0 m 1 n _ ?_
 dsimp only [cf163,mkF]
 refine cf193 w0 m 1 _ _ ?_
 refine ⟨rfl,by decide,rfl,by decide,rfl,rfl,by decide,rfl,rfl,by decide,rfl,rfl,rfl,rfl,by decide,rfl,rfl,?_⟩
 refine retP_of ⟨_,_,rfl,retP_of ⟨?_,rfl⟩⟩
 have s1:Int.fdiv (1:Int) (2 ^ (min (32:Int).toNat (IntKind.bits .u64)))=0:=by decide
 have w1:IntKind.wrap .u64 ((1:Nat):Int)=1:=by decide
 have w0:IntKind.wrap .u64 0=0:=by decide
 have s0:Int.fdiv (0:Int) (2 ^ (min (32:Int).toNat (IntKind.bits .u64)))=0:=by decide
 have a0:(BitVec.ofInt (IntKind.bits .u64) 0 &&& BitVec.ofInt (IntKind.bits .u64) 4294967295).toNat=0:=by decide
 simp only [s1,shr32 n h,and32 h,and32',wu64 n h,w1,w0,Int.one_mul,Int.zero_mul,Int.mul_zero,Int.zero_add,Int.add_zero,s0,a0,Int.natCast_zero,Int.ofNat_zero]
theorem rep_take {cur:Array Value} {n k c:Nat} (hs:cur.size=n) (ht:cur.toList.take k=List.replicate k (Value.int .i64 (-1))) (hk:k+c<=n) :
  (splice cur k (List.replicate c (Value.int .i64 (-1)))).toList.take (k+c)=List.replicate (k+c) (Value.int .i64 (-1)):=by
 unfold splice
 rw [List.toList_toArray,ht]
 have:List.replicate k (Value.int .i64 (-1)) ++ List.replicate c (Value.int .i64 (-1))=List.replicate (k+c) (Value.int .i64 (-1)):=by rw [List.replicate_append_replicate]
 rw [this]
 rw [List.take_append_of_le_length (by simp),List.take_of_length_le (by simp)]
theorem repeat_spec (w0:World) (m:AM) {b:Nat} {n:Nat} (hn:n<=1000000) (hb:Reads m 1 (some ⟨b,0,none⟩) 1 [.int .i64 (-1)]) {R:Value->AM->Prop}
  (hK:∀ A c m',m.le m'->(∀ k∈obl A,m k=none)->Alog.Own m' w0.heap.size 3 1 A n c (intCells .i64 (List.replicate n (-1)))->R (.slice A n c) m') :
  CallsA Tryz.prog w0 116 #[.slice (some ⟨b,0,none⟩) 1 1,.int .i64 n] m R:=by
 refine cf116 w0 m _ 1 1 n R ⟨rfl,?_⟩
 rw [show decide ((n:Int)<0)=false from decide_eq_false (by omega)]
 refine bcF ?_
 have e1:IntKind.wrap .u64 ((1:Nat):Int)=1:=by decide
 have e2:IntKind.wrap .u64 (n:Int)=n:=by
  have:IntKind.wrap .u64 (n:Int)=(n:Int) % 18446744073709551616:=rfl
  omega
 rw [e1,e2]
 refine CallsA.mono (mul_spec w0 m hn) ?_
 rintro r m1 ⟨rfl,h1⟩
 replace h1:=h1.symm; subst h1
 refine ⟨_,_,rfl,rfl,?_⟩
 rw [show decide ((0:Int)>0)=false from rfl]
 refine bcF ⟨rfl,?_⟩
 rw [show decide ((n:Int)>9223372036854775807)=false from decide_eq_false (by omega)]
 refine bcF ?_
 have e3:IntKind.wrap .i64 (n:Int)=n:=wrap_s (by omega) (by omega)
 rw [e3,show ((n:Nat):Int).toNat=n by omega]
 refine ⟨⟨by omega,by omega,by omega,by omega⟩,fun g hg hng=>?_⟩
 have lm:=le_new hng (.cells (zeros [.int .i64 0] n).toArray 3)
 have hz:(zeros [Value.int .i64 0] n).toArray.size=n:=by rw [zeros_int]; simp [intCells]
 have gb:g≠b:=fun e=>by
  obtain ⟨_,⟨h,_⟩ | ⟨ad,h,hc⟩⟩:=hb
  .cases h
  .injection h with h
   subst h
   have:=hc 0 _ rfl
   unfold AM.cell at this
   rw [addn] at this
   dsimp only at this
   rw [<- e,hng] at this
   cases this
 obtain ⟨c1,hc1⟩:∃ c1,c1=Nat.min 1 n:=⟨_,rfl⟩
 have hc2:c1<=n/\c1<=1/\(n=0\/c1=1):=by
  have:c1=min 1 n:=hc1
  omega
 have one:∀ u∈List.replicate c1 (Value.int .i64 (-1)),u.oneCell'=true:=by intro u hu; rw [(List.mem_replicate.1 hu).2]; rfl
 have hb':=hb.le lm
 refine awp_copy (n:=c1) (xs:=List.replicate c1 (.int .i64 (-1))) el30' upd_get_same hg hc1 ?_ one (by rw [hz]; omega) ⟨_,rfl,?_⟩
 .rcases hc2 with ⟨_,h1,h2⟩
  rcases Nat.le_one_iff_eq_zero_or_eq_one.1 h1 with e | e
  .subst e
   obtain ⟨_,⟨h,_⟩ | ⟨ad,h,hc⟩⟩:=hb'
   .cases h
   .exact ⟨rfl,.inr ⟨ad,h,fun j u hu=>by simp at hu⟩⟩
  .subst e; exact hb'
 rw [upd_upd]
 have t0:(splice (zeros [Value.int .i64 0] n).toArray 0 (List.replicate c1 (Value.int .i64 (-1)))).toList.take c1=List.replicate c1 (Value.int .i64 (-1)):=by
  have:=rep_take (cur:=(zeros [Value.int .i64 0] n).toArray) (n:=n) (k:=0) (c:=c1) hz rfl (by omega)
  rwa [Nat.zero_add] at this
 have s0:(splice (zeros [Value.int .i64 0] n).toArray 0 (List.replicate c1 (Value.int .i64 (-1)))).size=n:=by rw [splice_size _ _ _ (by rw [List.length_replicate,hz]; omega),hz]
 refine Vn.f (Vn.f (vl116_11111100 w0 _ _ _ (some ⟨g,0,none⟩) n n (c1:Int) (fun q k m'=>∃ cur,m'=m.upd g (.cells cur 3)/\cur.size=n/\0<=k/\k<=n/\(n=0\/1<=k)/\(q:Int)=n-k/\cur.toList.take k.toNat=List.replicate k.toNat (Value.int .i64 (-1))) (fun m'=>∃ cur,m'=m.upd g (.cells cur 3)/\cur.size=n/\cur.toList.take n=List.replicate n (Value.int .i64 (-1))) (n-c1) rfl rfl ⟨_,rfl,s0,by omega,by omega,by omega,by omega,by rw [show ((c1:Nat):Int).toNat=c1 by omega]; exact t0⟩) ?_) ?_
 .rintro q σ k m1 ⟨cur,rfl,hs,k0,k1,kn,hq,ht⟩
  refine ⟨rfl,bcP (fun hlt=>?_) (fun hlt=>?_)⟩
  .refine ⟨k0,Nat.le_refl _,by omega,k0,by omega,by omega,?_⟩
   rw [if_neg (by omega),if_neg (by omega),Option.map_some,Option.map_some,addn,addn]
   obtain ⟨c,hc⟩:∃ c,c=Nat.min (k.toNat-0) (n-k.toNat):=⟨_,rfl⟩
   have hc':c=min (k.toNat-0) (n-k.toNat):=hc
   have one:∀ u∈List.replicate c (Value.int .i64 (-1)),u.oneCell'=true:=by intro u hu; rw [(List.mem_replicate.1 hu).2]; rfl
   refine awp_copy (n:=c) (xs:=List.replicate c (.int .i64 (-1))) el30' upd_get_same hg hc ?_ one (by rw [hs]; omega) ⟨_,rfl,?_⟩
   .refine ⟨by simp,.inr ⟨_,rfl,fun j u hu=>?_⟩⟩
    rw [addn,cell_of upd_get_same]
    have hj:j<c:=by
     rcases Nat.lt_or_ge j c with h | h
     .exact h
     .rw [List.getElem?_eq_none (by simp; omega)] at hu; cases hu
    have hu2:u=.int .i64 (-1):=by
     rw [List.getElem?_replicate,if_pos hj] at hu; injection hu with hu; exact hu.symm
    rw [hu2]
    have h3:=congrArg (fun l=>l[j]?) ht
    simp only [List.getElem?_take,List.getElem?_replicate] at h3
    rw [if_pos (by omega),if_pos (by omega)] at h3
    simpa using h3
   ·(repeat (refine And.intro (Eq.refl _) ?_))
    rw [upd_upd,wrap_s (i:=k+(c:Int)) (by omega) (by omega)]
    refine ⟨q-c,by omega,_,rfl,?_,by omega,by omega,by omega,by omega,?_⟩
    .rw [splice_size _ _ _ (by rw [List.length_replicate,hs]; omega),hs]
    .rw [show (k+(c:Int)).toNat=k.toNat+c by omega,show 0+k.toNat*1=k.toNat by omega]
     exact rep_take hs ht (by omega)
  ·(repeat (refine And.intro (Eq.refl _) ?_))
   refine ⟨cur,rfl,hs,?_⟩
   rw [show k.toNat=n by omega] at ht
   exact ht
 .rintro σ m1 ⟨cur,rfl,hs,ht⟩
  refine retP_of (hK _ _ _ (fun k o hk=>?_) (by simpa [obl] using hng) ⟨by simp [intCells],Nat.le_refl _,.inr ⟨g,cur,rfl,hg,upd_get_same,by rw [hs,Nat.mul_one],?_⟩⟩)
  .have e:k≠g:=fun e=>by rw [e,hng] at hk; cases hk
   rw [upd_get_ne e]; exact hk
  .rw [Nat.mul_one,ht]; simp [intCells]
structure OI (w0:World) (m:AM) (l:List Ins) (b6:Nat) (A1:Option Addr) (c3:Nat) (A11:Option Addr) (c13:Nat) (B:Option Addr) (c5:Nat) (out:List Int) (m':AM):Prop where
 le:m.le m'
 box:m' b6=some (.cells #[.slice A1 (heightsP l).length c3] 33 (0,0))
 hs:Alog.Own m' w0.heap.size 3 1 A1 (heightsP l).length c3 (intCells .i64 (heightsP l))
 at_:Alog.Own m' w0.heap.size 3 1 A11 l.length c13 (intCells .i64 (whRow out l.length))
 out:Alog.Own m' w0.heap.size 3 1 B out.length c5 (intCells .i64 out)
 nAt:∀ x∈obl A11,m x=none
 nB:∀ x∈obl B,m x=none
 d1:∀ x∈obl A11,x∉obl A1
 d2:∀ x∈obl B,x∉obl A1
 d3:∀ x∈obl B,x∉obl A11
theorem OI.mono {w0:World} {m:AM} {l:List Ins} {b6:Nat} {A1:Option Addr} {c3:Nat} {A11:Option Addr} {c13:Nat} {B:Option Addr} {c5:Nat} {out:List Int} {m' m'':AM} (h:OI w0 m l b6 A1 c3 A11 c13 B c5 out m') (L:m'.le m''):OI w0 m l b6 A1 c3 A11 c13 B c5 out m'' :=
 ⟨AM.le_trans h.le L,L _ _ h.box,h.hs.le L,h.at_.le L,h.out.le L,h.nAt,h.nB,h.d1,h.d2,h.d3⟩
theorem OI.app {w0:World} {m:AM} {l:List Ins} {b6:Nat} {A1:Option Addr} {c3:Nat} {A11:Option Addr} {c13:Nat} {B:Option Addr} {c5:Nat} {out:List Int} {m':AM} {x:Int}
  (hle:m.le m') (hbox:m' b6=some (.cells #[.slice A1 (heightsP l).length c3] 33 (0,0))) (hhs:Alog.Own m' w0.heap.size 3 1 A1 (heightsP l).length c3 (intCells .i64 (heightsP l))) (hat:Alog.Own m' w0.heap.size 3 1 A11 l.length c13 (intCells .i64 (whRow (out ++ [x]) l.length)))
  (hout:Alog.Own m' w0.heap.size 3 1 B out.length c5 (intCells .i64 out)) (nAt:∀ x∈obl A11,m x=none) (nB:∀ x∈obl B,m x=none) (d1:∀ x∈obl A11,x∉obl A1) (d2:∀ x∈obl B,x∉obl A1) (d3:∀ x∈obl B,x∉obl A11) (hl:out.length<=100000) {K:Option Addr->Nat->Nat->AM->Prop}
  (hK:∀ B' c' M,OI w0 m l b6 A1 c3 A11 c13 B' c' (out ++ [x]) M->K B' (out ++ [x]).length c' M) :
  ∀ b9:Nat,w0.heap.size<=b9->m' b9=none->let m10:=AM.upd m' b9 (.cells #[.int .i64 x] 3);
   awp Tryz.prog w0.heap.size (Builtin.append_ #[33,33] 33 #[.slice B out.length c5,.slice (some ⟨b9,0,none⟩) 1 1]) m10 fun v m11=>∃ (A:Option Addr) (n c:Nat),v=.slice A n c/\K A n c m11:=by
 intro b9 hb9 hn9 m10
 have lb:m'.le m10:=le_new hn9 _
 refine awp_append_own el30' (hout.le lb) (A2:=some ⟨b9,0,none⟩) (k:=1) (news:=[.int .i64 x]) (Reads.lit rfl) (by simp [Value.oneCell']) (by omega) (by omega) (fun g cp' cur hor hB hO=>?_) (fun h0=>by omega)
 have hne:∀ {C:Option Addr} {n c:Nat} {xs:List Value},Alog.Own m' w0.heap.size 3 1 C n c xs->(∀ x∈obl B,x∉obl C)->g∉obl C:=by
  intro C n c xs hC hd hg
  rcases hor with h' | h'
  .exact hd g (by rw [h']; simp [obl]) hg
  .obtain ⟨_,cur2,hc2⟩:=hC.obl_some hg
   rw [lb _ _ hc2] at h'; cases h'
 have kp:∀ {C:Option Addr} {n c:Nat} {xs:List Value},Alog.Own m' w0.heap.size 3 1 C n c xs->g∉obl C->Alog.Own (m10.upd g (.cells cur 3)) w0.heap.size 3 1 C n c xs:=by
  intro C n c xs hC hg
  exact (hC.le lb).upd fun off e=>hg (by
   obtain ⟨_,_,⟨e1,_⟩ | ⟨g',_,e1,_⟩⟩:=hC
   .rw [e1] at e; cases e
   .rw [e1] at e ⊢; injection e with e; injection e with e; subst e; simp [obl])
 have hmg:m g=none:=by
  rcases hor with h' | h'
  .exact nB g (by rw [h']; simp [obl])
  .cases hm:m g with
   | none=>rfl
   | some o=>rw [lb _ _ (hle _ _ hm)] at h'; cases h'
 have g1:=hne hhs d2
 have g2:=hne hat d3
 have elen:(out ++ [x]).length=out.length+1:=by simp
 rw [<- elen] at hO ⊢
 refine ⟨_,_,_,rfl,hK _ _ _ ⟨le_upd_fresh (AM.le_trans hle lb) hmg,?_,kp hhs g1,kp hat g2,?_,nAt,by simpa [obl] using hmg,d1,by simpa [obl] using g1,by simpa [obl] using g2⟩⟩
 .have e:b6≠g:=fun e=>by
   subst e
   rcases hor with h' | h'
   .obtain ⟨_,cur2,hc2⟩:=hout.obl_some (k:=b6) (by rw [h']; simp [obl])
    rw [hbox] at hc2; injection hc2 with hc2; injection hc2 with _ e2; exact absurd e2 (by decide)
   .rw [lb _ _ hbox] at h'; cases h'
  rw [upd_get_ne e]; exact lb _ _ hbox
 .rw [show intCells .i64 (out ++ [x])=intCells .i64 out ++ [.int .i64 x] by simp [intCells]]; exact hO
theorem snocI {w0:World} {m0 m:AM} {A:Option Addr} {c:Nat} {l:List Int} (lm:m0.le m) (o:Alog.Own m w0.heap.size 3 1 A l.length c (intCells .i64 l)) (nA:∀ k∈obl A,m0 k=none) (hl:l.length<=1000000) (x:Int) {K:Option Addr->Nat->Nat->AM->Prop}
  (hK:∀ A' c' m',m0.le m'->Alog.Own m' w0.heap.size 3 1 A' (l ++ [x]).length c' (intCells .i64 (l ++ [x]))->(∀ k∈obl A',m0 k=none)->K A' (l ++ [x]).length c' m') :
  ∀ b11:Nat,w0.heap.size<=b11->m b11=none->let m12:=AM.upd m b11 (.cells #[.int .i64 x] 3);
   awp Tryz.prog w0.heap.size (Builtin.append_ #[33,33] 33 #[.slice A l.length c,.slice (some ⟨b11,0,none⟩) 1 1]) m12 fun v13 m14 =>
   ∃ (A15:Option Addr) (n16 c17:Nat),v13=.slice A15 n16 c17/\K A15 n16 c17 m14:=by
 intro b11 hb11 hn11
 refine awp_append_loc (m0:=m0) el30' (AM.le_trans lm (le_new hn11 _)) (o.upd (o.ne_none hn11)) nA (A2:=some ⟨b11,0,none⟩) (k:=1) (news:=[.int .i64 x]) (Reads.lit rfl) (by simp [Value.oneCell']) (by omega) (by omega) (fun A2' c2' m28 l28 f28 o28 n28 _=>?_)
 have e2:(l ++ [x]).length=l.length+1:=by simp
 rw [<- e2] at o28 ⊢
 refine ⟨A2',_,c2',rfl,hK A2' c2' m28 l28 ?_ n28⟩
 rw [show intCells .i64 (l ++ [x])=intCells .i64 l ++ [.int .i64 x] by simp [intCells]]; exact o28
end Go.Proofs.YtgjamnhjlaohaaaGreatDoor.S
