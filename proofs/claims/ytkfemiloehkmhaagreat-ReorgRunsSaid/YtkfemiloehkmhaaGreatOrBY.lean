/- YtkfemiloehkmhaaGreat: a text of our own, by an AI agent: OrBY -/
import Derived.Test.YtkfemiloehkmhaaGreatDpBY
import Derived.Test.YtkfemiloehkmhaaGreatBkBY
import Derived.Test.YtkfemiloehkmhaaGreatVbBY
import Derived.Test.YtkfemiloehkmhaaGreatCoreA
import Derived.Test.YtkfemiloehkmhaaGreatTabY
import Derived.Test.YtkfemiloehkmhaaGreatCm1Y
set_option linter.unusedSimpArgs false
set_option linter.unusedVariables false
set_option maxRecDepth 100000
namespace Go.Proofs.YtkfemiloehkmhaaGreat.S
open Go Go.RowKit Go.Alog Go.Proofs.YtkfemiloehkmhaaGreat.T Go.Proofs.YtkfemiloehkmhaaGreat.V

def bz (l:List Ins) (out:List Int) (j i:Nat):Bool:=decide (farP (cAt l i) (cAt l j)>0) && (decide (whP out i<0) || decide (whP out i+farP (cAt l i) (cAt l j)>(out.length:Int)))
def readyP (l:List Ins) (out:List Int) (j:Nat):Bool:=!decide (whP out j≥0) && (List.range j).all (fun i=>!bz l out j i)
theorem readyP_wh {l:List Ins} {out:List Int} {j:Nat} (h:whP out j≥0):readyP l out j=false:=by unfold readyP; rw [decide_eq_true h]; rfl
theorem readyP_t {l:List Ins} {out:List Int} {j:Nat} (h:¬ whP out j≥0) (hb:∀ i,i<j→bz l out j i=false):readyP l out j=true:=by
 unfold readyP
 rw [decide_eq_false h,Bool.not_false,Bool.true_and,List.all_eq_true]
 intro i hi
 rw [hb i (List.mem_range.1 hi)]; rfl
theorem readyP_f {l:List Ins} {out:List Int} {j i:Nat} (hi:i<j) (hb:bz l out j i=true):readyP l out j=false:=by
 unfold readyP
 rw [Bool.and_eq_false_iff]
 right
 rw [List.all_eq_false]
 exact ⟨i,List.mem_range.2 hi,by rw [hb]; simp⟩

theorem ready_e (w0:World) (m:AM) (A:Option Addr) (c:Nat) (l:List Ins) (hl:l.length≤1000000) (rd:Reads m 5 A l.length (insCells l)) (A1:Option Addr) (c1:Nat) (ats out:List Int) (hn:ats.length=l.length) (hat:∀ i:Nat,i<l.length→ats.getD i 0=whP out i)
  (hol:out.length≤1000000) (rd1:Reads m 1 A1 l.length (intCells .i64 ats)) (j:Int) (j0:0≤j) (j1:j<l.length) :
  CallsA Tryz.prog w0 69 #[.slice A l.length c,.slice A1 l.length c1,.int .i64 j,.int .i64 out.length] m (fun r m'=>r=.bool (readyP l out j.toNat)∧m'=m):=by
 generalize hR:(fun (r:Value) (m':AM)=>r=.bool (readyP l out j.toNat)∧m'=m)=R
 have ret:∀ (v:Bool),v=readyP l out j.toNat→RetP R (.bool v) m:=fun v e=>by rw [← hR]; exact retP_of ⟨by rw [e],rfl⟩
 have hjj:((j.toNat:Nat):Int)=j:=by omega
 have cat:∀ {i:Int},0≤i→i<l.length→∃ a,A1=some a∧m.cell (a.add (i.toNat*1))=some (.int .i64 (whP out i)):=by
  intro i i0 i1
  obtain ⟨a,rfl,hc⟩:=rd1.ex (by omega)
  refine ⟨a,rfl,?_⟩
  have:=cell_k hc i0 (by omega)
  rw [this,hat _ (by omega),show ((i.toNat:Nat):Int)=i by omega]
 obtain ⟨a1,hA1,hcj⟩:=cat j0 j1
 refine cf69 w0 m A l.length c A1 l.length c1 j out.length R ⟨⟨j0,j1⟩,?_⟩
 rw [hA1,nilO_some]
 refine ⟨_,hcj,rfl,bcP (fun h=>ret _ (readyP_wh (by rw [hjj]; exact h)).symm) (fun h=>?_)⟩
 rw [← hA1]
 refine vl69_11010 w0 m _ _ A l.length c A1 l.length c1 j out.length j 0 (fun q i m'=>m'=m∧0≤i∧i≤j∧(q:Int)=j-i∧∀ p:Nat,(p:Int)<i→bz l out j.toNat p=false) (fun m'=>m'=m∧∀ p:Nat,(p:Int)<j→bz l out j.toNat p=false) j.toNat rfl rfl rfl rfl rfl rfl ⟨rfl,by omega,by omega,by omega,fun p hp=>by omega⟩ ?_ ?_
 ·rintro q σ i M ⟨rfl,i0,i1,hq,hp⟩
  refine ⟨rfl,bcP (fun hlt=>?_) (fun hlt=>by (repeat (refine And.intro (Eq.refl _) ?_)); exact fun p h=>hp p (by omega))⟩
  refine ldAt rd rfl i0 (by omega) fun a=>ldAt rd rfl j0 (by omega) fun a=>callI (far_e w0 M (cAt l i) (cAt l j)) ⟨rfl,?_⟩
  have hii:((i.toNat:Nat):Int)=i:=by omega
  have hb:bz l out j.toNat i.toNat=(decide (farP (cAt l i) (cAt l j)>0) && (decide (whP out i<0) || decide (whP out i+farP (cAt l i) (cAt l j)>(out.length:Int)))):=by unfold bz; rw [hii,hjj]
  have wi:IntKind.wrap .i64 (i+1)=i+1:=wrap_s (by omega) (by omega)
  have good:bz l out j.toNat i.toNat=false→∃ n':Nat,n'<q∧(M=M∧0≤i+1∧i+1≤j∧(n':Int)=j-(i+1)∧∀ p:Nat,(p:Int)<i+1→bz l out j.toNat p=false):=fun e=>by
   refine ⟨q-1,by omega,rfl,by omega,by omega,by omega,fun p h=>?_⟩
   by_cases e2:(p:Int)=i
   ·rw [show p=i.toNat by omega]; exact e
   ·exact hp p (by omega)
  have bad:bz l out j.toNat i.toNat=true→RetP R (.bool false) M:=fun e=>ret _ (readyP_f (i:=i.toNat) (by omega) e).symm
  have hfi:=farP_in (cAt l i) (cAt l j)
  have hwi:=whP_in out i
  obtain ⟨a2,hA2,hci⟩:=cat i0 (by omega)
  rw [wi]
  refine bcP (fun h1=>?_) (fun h1=>⟨decide_eq_false h1,?_⟩)
  ·rw [decide_eq_true h1] at hb ⊢
   refine ⟨⟨i0,by omega⟩,?_⟩
   rw [hA2,nilO_some]
   refine ⟨_,hci,rfl,bcP (fun h2=>⟨decide_eq_true h2,bcT (bad (by rw [hb,decide_eq_true h2]; rfl))⟩) (fun h2=>⟨⟨i0,by omega⟩,?_⟩)⟩
   rw [nilO_some]
   refine ⟨_,hci,rfl,rfl,?_⟩
   rw [wrap_s (by omega) (by omega),decide_eq_false h2] at *
   refine bcI (fun h3=>bad ?_) (fun h3=>?_)
   ·have h3':decide (whP out i+farP (cAt l i) (cAt l j)>(out.length:Int))=true:=h3
    rw [hb,h3']; rfl
   ·have h3':decide (whP out i+farP (cAt l i) (cAt l j)>(out.length:Int))=false:=h3
    (repeat (refine And.intro (Eq.refl _) ?_))
    exact good (by rw [hb,h3']; rfl)
  ·(repeat (refine And.intro (Eq.refl _) ?_))
   exact good (by rw [hb,decide_eq_false h1]; rfl)
 ·rintro σ M ⟨rfl,hp⟩
  exact ret _ (readyP_t (by rw [hjj]; exact h) fun i hi=>hp i (by omega)).symm

end Go.Proofs.YtkfemiloehkmhaaGreat.S

set_option linter.unusedSimpArgs false
set_option linter.unusedVariables false
set_option maxRecDepth 100000
namespace Go.Proofs.YtkfemiloehkmhaaGreat.S
open Go Go.RowKit Go.Alog Go.Proofs.YtkfemiloehkmhaaGreat.T Go.Proofs.YtkfemiloehkmhaaGreat.V

def czA (l:List Ins) (order:List Int) (last:Ins) (place:Int) (k:Nat):Bool:=decide (order.getD k 0≥0) && decide ((k:Int)+farP (cAt l (order.getD k 0)) last>place)
def clearP (l:List Ins) (order:List Int) (last:Ins) (place:Int):Bool:=(List.range order.length).all (fun k=>!czA l order last place k)
theorem clearP_t {l:List Ins} {order:List Int} {last:Ins} {place:Int} (h:∀ k,k<order.length→czA l order last place k=false):clearP l order last place=true:=by
 unfold clearP
 rw [List.all_eq_true]
 intro i hi
 rw [h i (List.mem_range.1 hi)]; rfl
theorem clearP_f {l:List Ins} {order:List Int} {last:Ins} {place:Int} {k:Nat} (hk:k<order.length) (h:czA l order last place k=true):clearP l order last place=false:=by
 unfold clearP
 rw [List.all_eq_false]
 exact ⟨k,List.mem_range.2 hk,by rw [h]; simp⟩

theorem clear_e (w0:World) (m:AM) (A:Option Addr) (c:Nat) (l:List Ins) (hl:l.length≤1000000) (rd:Reads m 5 A l.length (insCells l)) (A1:Option Addr) (n1 c1:Nat) (order:List Int) (hn1:order.length=n1)
  (hol:order.length≤1000000) (hO:∀ k:Nat,k<order.length→order.getD k 0<l.length) (rd1:Reads m 1 A1 n1 (intCells .i64 order)) (last:Ins) (place:Int) :
  CallsA Tryz.prog w0 48 #[.slice A l.length c,.slice A1 n1 c1,last.val,.int .i64 place] m (fun r m'=>r=.bool (clearP l order last place)∧m'=m):=by
 subst hn1
 refine CallsA.down (Q:=fun r=>r=.bool (clearP l order last place)) (R:=fun r m'=>r=.bool (clearP l order last place)∧m.le m') ?_ fun _ _ h=>h
 generalize hR:(fun (r:Value) (m':AM)=>r=.bool (clearP l order last place)∧m.le m')=R
 refine cf48 w0 m A l.length c A1 order.length c1 _ _ _ _ _ place R ?_
 intro b hb hbn M
 have lM:m.le M:=le_new hbn _
 have p:M b=some (.cells last.cells.toArray 36):=upd_get_same
 clear_value M
 have ret:∀ (v:Bool),v=clearP l order last place→RetP R (.bool v) M:=fun v e=>by rw [← hR]; exact retP_of ⟨by rw [e],lM⟩
 have rd:=rd.le lM
 have rd1:=rd1.le lM
 refine vl48_1010 w0 M _ _ A l.length c place b A1 order.length c1 order.length 0 (fun q k m'=>m'=M∧0≤k∧k≤order.length∧(q:Int)=order.length-k∧∀ p:Nat,(p:Int)<k→czA l order last place p=false) (fun m'=>m'=M∧∀ p:Nat,p<order.length→czA l order last place p=false) order.length rfl rfl rfl rfl rfl rfl ⟨rfl,by omega,by omega,by omega,fun p hp=>by omega⟩ ?_ ?_
 ·rintro q σ k M2 ⟨rfl,k0,k1,hq,hp⟩
  refine ⟨rfl,bcP (fun hlt=>⟨⟨k0,hlt⟩,?_⟩) (fun hlt=>by (repeat (refine And.intro (Eq.refl _) ?_)); exact fun p h=>hp p (by omega))⟩
  obtain ⟨a1,rfl,hc⟩:=rd1.ex (by omega)
  rw [nilO_some]
  have hkk:((k.toNat:Nat):Int)=k:=by omega
  have hok:=hO k.toNat (by omega)
  have hcz:czA l order last place k.toNat=(decide (order.getD k.toNat 0≥0) && decide (k+farP (cAt l (order.getD k.toNat 0)) last>place)):=by unfold czA; rw [hkk]
  have wk:IntKind.wrap .i64 (k+1)=k+1:=wrap_s (by omega) (by omega)
  have good:czA l order last place k.toNat=false→∃ n':Nat,n'<q∧(M2=M2∧0≤k+1∧k+1≤order.length∧(n':Int)=order.length-(k+1)∧∀ p:Nat,(p:Int)<k+1→czA l order last place p=false):=fun e=>by
   refine ⟨q-1,by omega,rfl,by omega,by omega,by omega,fun p h=>?_⟩
   by_cases e2:(p:Int)=k
   ·rw [show p=k.toNat by omega]; exact e
   ·exact hp p (by omega)
  refine ⟨_,cell_k hc k0 hlt,rfl,?_⟩
  generalize order.getD k.toNat 0=x at hok hcz ⊢
  rw [wk]
  refine bcP (fun h1=>?_) (fun h1=>⟨decide_eq_false h1,?_⟩)
  ·refine ldAt rd rfl h1 hok fun a=>ldIns p (callI (far_e w0 M2 (cAt l x) last) ⟨rfl,rfl,?_⟩)
   have hfi:=farP_in (cAt l x) last
   rw [wrap_s (i:=k+farP (cAt l x) last) (by omega) (by omega)]
   rw [decide_eq_true h1] at hcz ⊢
   refine bcI (fun h3=>?_) (fun h3=>?_)
   ·have h3':decide (k+farP (cAt l x) last>place)=true:=h3
    exact ret _ (clearP_f (k:=k.toNat) (by omega) (by rw [hcz,h3']; rfl)).symm
   ·have h3':decide (k+farP (cAt l x) last>place)=false:=h3
    (repeat (refine And.intro (Eq.refl _) ?_))
    exact good (by rw [hcz,h3']; rfl)
  ·(repeat (refine And.intro (Eq.refl _) ?_))
   exact good (by rw [hcz,decide_eq_false h1]; rfl)
 ·rintro σ M2 ⟨rfl,hp⟩
  exact ret _ (clearP_t hp).symm
end Go.Proofs.YtkfemiloehkmhaaGreat.S

set_option linter.unusedSimpArgs false
set_option linter.unusedVariables false
set_option maxRecDepth 100000
namespace Go.Proofs.YtkfemiloehkmhaaGreat.S
open Go Go.RowKit Go.Alog Go.Proofs.YtkfemiloehkmhaaGreat.T Go.Proofs.YtkfemiloehkmhaaGreat.V

def pickAt (l:List Ins) (n:Int):Ins:=if 0≤n∧n<l.length then cAt l n else nop
def pickP (l:List Ins) (order:List Int):List Ins:=order.map (pickAt l)
theorem pickP_len (l:List Ins) (order:List Int):(pickP l order).length=order.length:=by simp [pickP]

def oC (w0:World) (m0:AM) (l:List Ins) (r:Value) (m':AM):Prop:=(∃ (A:Option Addr) (c:Nat),r=.slice A l.length c∧Alog.Own m' w0.heap.size 36 5 A l.length c (insCells l)∧∀ k∈obl A,m0 k=none)∧m0.le m'

theorem blk5o {w0:World} {m' M:AM} {b:Nat} (l:m'.le M) (nb:m' b=none) (p:M b=some (.cells (Ins.cells nop).toArray 36 (0,0))) (hb:w0.heap.size≤b) {i:Ins} {K:AM→Prop}
  (hK:∀ M3,m'.le M3→M3 b=some (.cells i.cells.toArray 36 (0,0))→K M3) :
  StC w0.heap.size M ⟨b,0,none⟩ (.int .i64 i.op) fun m2=>StC w0.heap.size m2 ⟨b,1,none⟩ (.int .i64 i.a) fun m3=>StC w0.heap.size m3 ⟨b,2,none⟩ (.int .i64 i.b) fun m4=>StC w0.heap.size m4 ⟨b,3,none⟩ (.int .i64 i.c) fun m5=>StC w0.heap.size m5 ⟨b,4,none⟩ (.int .i64 i.imm) fun m6=>K m6:=by
 refine StC_own p hb (by simp [Ins.cells]) (StC_upd.2 ⟨hb,by simp [Ins.cells],StC_upd.2 ⟨hb,by simp [Ins.cells],StC_upd.2 ⟨hb,by simp [Ins.cells],StC_upd.2 ⟨hb,by simp [Ins.cells],?_⟩⟩⟩⟩)
 refine hK _ (le_upd_fresh l nb) ?_
 rw [upd_get_same]; rfl

theorem pick_spec (w0:World) (m:AM) (A:Option Addr) (c:Nat) (l:List Ins) (hl:l.length≤1000000) (rd:Reads m 5 A l.length (insCells l)) (A1:Option Addr) (c1:Nat) (order:List Int)
  (hol:order.length≤1000000) (rd1:Reads m 1 A1 order.length (intCells .i64 order)) :
  CallsA Tryz.prog w0 28 #[.slice A l.length c,.slice A1 order.length c1] m (oC w0 m (pickP l order)):=by
 generalize hR:oC w0 m (pickP l order)=R
 refine cf28 w0 m A l.length c A1 order.length c1 R ?_
 refine vl28_11010 w0 m _ _ A l.length c A1 order.length c1 order.length none 0 0 0
  (fun q B n3 c3 k m'=>m.le m'∧0≤k∧k≤order.length∧(q:Int)=order.length-k∧n3=(pickP l (order.take k.toNat)).length∧Alog.Own m' w0.heap.size 36 5 B n3 c3 (insCells (pickP l (order.take k.toNat)))∧∀ x∈obl B,m x=none)
  (fun B n3 c3 m'=>m.le m'∧n3=(pickP l order).length∧Alog.Own m' w0.heap.size 36 5 B n3 c3 (insCells (pickP l order))∧∀ x∈obl B,m x=none) order.length rfl rfl rfl rfl rfl
  ⟨AM.le_refl _,by omega,by omega,by omega,rfl,Alog.Own.nil _ _ _ _,by simp [obl]⟩ ?_ ?_
 ·rintro q σ B n3 c3 k m' ⟨l',k0,k1,hq,rfl,ob,nb⟩
  refine ⟨rfl,bcP (fun hlt=>⟨⟨k0,hlt⟩,?_⟩) (fun hlt=>?_)⟩
  ·obtain ⟨a1,rfl,hc⟩:=(rd1.le l').ex (by omega)
   rw [nilO_some]
   have wk:IntKind.wrap .i64 (k+1)=k+1:=wrap_s (by omega) (by omega)
   have ek:(k+1).toNat=k.toNat+1:=by omega
   have htk:order.take (k+1).toNat=order.take k.toNat ++ [order.getD k.toNat 0]:=take_stepI k0 hlt
   refine ⟨_,cell_k hc k0 hlt,rfl,blk5 fun b M l2 nb2 hb2 p=>?_⟩
   generalize order.getD k.toNat 0=x at htk ⊢
   have hpl:(pickP l (order.take k.toNat)).length≤1000000:=by rw [pickP_len,List.length_take]; omega
   have hpn:pickP l (order.take (k+1).toNat)=pickP l (order.take k.toNat) ++ [pickAt l x]:=by rw [htk]; simp [pickP]
   have fin:∀ (M:AM),m'.le M→∀ (i:Ins),pickAt l x=i→∀ b3:Nat,w0.heap.size≤b3→M b3=none → 
     awp Tryz.prog w0.heap.size (Builtin.append_ #[22,22] 22 #[.slice B (pickP l (order.take k.toNat)).length c3,.slice (some ⟨b3,0,none⟩) 1 1]) (AM.upd M b3 (.cells (Ins.cells i).toArray 36)) (fun v m13=>∃ (A14:Option Addr) (n15 c16:Nat),v=.slice A14 n15 c16∧∃ n':Nat,n'<q∧(m.le m13∧0≤k+1∧k+1≤order.length∧(n':Int)=order.length-(k+1)∧n15=(pickP l (order.take (k+1).toNat)).length∧Alog.Own m13 w0.heap.size 36 5 A14 n15 c16 (insCells (pickP l (order.take (k+1).toNat)))∧∀ y∈obl A14,m y=none)):=by
    intro M lM i hi b3 hb3 hn3
    refine awp_mono _ _ _ _ ?_ (snoc1 (w0:=w0) (m0:=m) (AM.le_trans l' lM) (ob.le lM) nb hpl i (K:=fun A n c m2=>n=(pickP l (order.take k.toNat)).length+1∧m.le m2∧Alog.Own m2 w0.heap.size 36 5 A ((pickP l (order.take k.toNat)).length+1) c (insCells (pickP l (order.take k.toNat) ++ [i]))∧∀ y∈obl A,m y=none) (fun A c m2 h1 h2 h3=>⟨rfl,h1,h2,h3⟩) b3 hb3 hn3)
    rintro v m2 ⟨A14,n15,c16,rfl,rfl,l3,o3,n3⟩
    refine ⟨_,_,_,rfl,q-1,by omega,l3,by omega,by omega,by omega,?_,?_,n3⟩
    ·rw [hpn]; simp
    ·rw [hpn,hi]; exact o3
   rw [wk]
   have z:¬ (0≤x∧x<(l.length:Int))→pickAt l x=nop:=fun h=>by unfold pickAt; rw [if_neg h]
   have wrapup:∀ {v:Value} {m13:AM},(∃ (A14:Option Addr) (n15 c16:Nat),v=.slice A14 n15 c16∧∃ n':Nat,n'<q∧(m.le m13∧0≤k+1∧k+1≤order.length∧(n':Int)=order.length-(k+1)∧n15=(pickP l (order.take (k+1).toNat)).length∧Alog.Own m13 w0.heap.size 36 5 A14 n15 c16 (insCells (pickP l (order.take (k+1).toNat)))∧∀ y∈obl A14,m y=none))→(∃ (A14:Option Addr) (n15 c16:Nat),v=.slice A14 n15 c16∧∃ n':Nat,n'<q∧(m.le m13∧0≤k+1∧k+1≤order.length∧(n':Int)=order.length-(k+1)∧n15=(pickP l (order.take (k+1).toNat)).length∧Alog.Own m13 w0.heap.size 36 5 A14 n15 c16 (insCells (pickP l (order.take (k+1).toNat)))∧∀ y∈obl A14,m y=none)):=id
   refine ⟨rfl,bcP (fun h1=>⟨rfl,?_⟩) (fun h1=>⟨decide_eq_false h1,?_⟩)⟩
   ·rw [decide_eq_true h1]
    refine bcP (fun h2=>?_) (fun h2=>?_)
    ·refine ldAt (rd.le (AM.le_trans l' l2)) rfl h1 h2 fun a=>?_
     refine blk5o (b:=b) l2 nb2 p hb2 (i:=cAt l x) ?_
     intro M3 l3 p3
     refine ldIns p3 ⟨rfl,fun b3 hb3 hn3=>?_⟩
     refine awp_mono _ _ _ _ ?_ (fin M3 l3 (cAt l x) (by unfold pickAt; rw [if_pos ⟨h1,h2⟩]) b3 hb3 hn3)
     rintro v m13 ⟨A14,n15,c16,rfl,n',h3,h4⟩
     refine ⟨_,_,_,rfl,?_⟩
     (repeat (refine And.intro (Eq.refl _) ?_))
     exact ⟨n',h3,h4⟩
    ·refine ldIns (i:=nop) p ⟨rfl,fun b3 hb3 hn3=>?_⟩
     refine awp_mono _ _ _ _ ?_ (fin M l2 nop (z (by omega)) b3 hb3 hn3)
     rintro v m13 ⟨A14,n15,c16,rfl,n',h3,h4⟩
     refine ⟨_,_,_,rfl,?_⟩
     (repeat (refine And.intro (Eq.refl _) ?_))
     exact ⟨n',h3,h4⟩
   ·refine ldIns (i:=nop) p ⟨rfl,fun b3 hb3 hn3=>?_⟩
    refine awp_mono _ _ _ _ ?_ (fin M l2 nop (z (by omega)) b3 hb3 hn3)
    rintro v m13 ⟨A14,n15,c16,rfl,n',h3,h4⟩
    refine ⟨_,_,_,rfl,?_⟩
    (repeat (refine And.intro (Eq.refl _) ?_))
    exact ⟨n',h3,h4⟩
  ·(repeat (refine And.intro (Eq.refl _) ?_))
   have ek:order.take k.toNat=order:=List.take_of_length_le (by omega)
   rw [ek] at ob ⊢
   exact ⟨l',rfl,ob,nb⟩
 ·rintro σ B n3 c3 m' ⟨l',rfl,ob,nb⟩
  rw [← hR]
  exact retP_of ⟨⟨B,c3,rfl,ob,nb⟩,l'⟩
end Go.Proofs.YtkfemiloehkmhaaGreat.S

