/- YtgjamnhjlaohaaaGreatDoor: a text of our own, by an AI agent -/
import Derived.Test.YtgjamnhjlaohaaaGreatDoorP4T
import Derived.Test.YtgjamnhjlaohaaaGreatDoorRows
import Derived.WalkKit
import Derived.JoinedOf
import Derived.Test.YtgjamnhjlaohaaaGreatDoorCards
import Derived.Test.YtgjamnhjlaohaaaGreatDoorTie
import Derived.ProofKit
import Derived.OpenShut
import Derived.ShutString
import Derived.ChangeOld
import Derived.Below
import Derived.SizedLaws
import Derived.LaidMore
import Derived.SliceStrings
import Derived.Lib.LaidTab
import Derived.Stop.Joined
import Derived.SevenTiedAt
set_option maxRecDepth 100000
set_option maxHeartbeats 400000
set_option linter.unusedSectionVars false
set_option linter.unusedVariables false
set_option linter.unusedSimpArgs false
namespace Go.Proofs.YtgjamnhjlaohaaaGreatDoor.S
open Go Go.RowKit Go.Alog Go.Proofs.YtgjamnhjlaohaaaGreatDoor.T Go.Proofs.YtgjamnhjlaohaaaGreatDoor.V
theorem zeros_intM (n:Nat):zeros [Value.int .i64 0] n=intCells .i64 (List.replicate n 0):=by
 unfold zeros intCells
 induction n with
 | zero=>rfl
 | succ n ih=>simp only [List.replicate_succ,List.flatten_cons,List.map_cons] at ih ⊢; rw [ih]; rfl
theorem new_spec (w0:World) (m:AM) (n:Int):CallsA Tryz.prog w0 39 #[.int .i64 n] m (fun r m'=>m.le m' /\
  (if n<0\/n>32000 then r=.pointer none else ∃ gm A,r=.pointer (some ⟨gm,0,none⟩)/\m' gm=some (.cells #[.slice A (List.replicate n.toNat (0:Int)).length n.toNat] 149)/\Alog.Own m' w0.heap.size 3 1 A (List.replicate n.toNat (0:Int)).length n.toNat (intCells .i64 (List.replicate n.toNat 0))/\(∀ k∈obl A,m k=none)/\m gm=none)):=by
 refine cf39 w0 m n _ ?_
 dsimp only [cf39,mkF]
 by_cases h0:n<0
 .simp only [decide_eq_true h0,std_all,sto_all,Nat.reduceAdd,Nat.reduceLT,LI_,LB_,LA_,SI_,pt_,KI_,I_,SJ_,S_,LT_,LS_,LC_,LU_,LV_,RB_,RI_,RS_,N_,T_,SE_,if_pos (Or.inl h0:n<0\/n>32000)]; exact retP_of ⟨AM.le_refl m,rfl⟩
 by_cases h1:n>32000
 .simp only [decide_eq_false h0,decide_eq_true h1,std_all,sto_all,Nat.reduceAdd,Nat.reduceLT,LI_,LB_,LA_,SI_,pt_,KI_,I_,SJ_,S_,LT_,LS_,LC_,LU_,LV_,RB_,RI_,RS_,N_,T_,SE_,if_pos (Or.inr h1:n<0\/n>32000)]; exact retP_of ⟨AM.le_refl m,rfl⟩
 simp only [decide_eq_false h0,decide_eq_false h1,std_all,sto_all,Nat.reduceAdd,Nat.reduceLT,LI_,LB_,LA_,SI_,pt_,KI_,I_,SJ_,S_,LT_,LS_,LC_,LU_,LV_,RB_,RI_,RS_,N_,T_,SE_,if_neg (show ¬ (n<0\/n>32000) by omega)]
 refine ⟨by omega,by omega,by omega,by omega,?_⟩
 intro b1 hb1 hm1
 rw [zeros_intM]
 have l1:=le_new hm1 (.cells (intCells .i64 (List.replicate n.toNat 0)).toArray 3)
 have o1:Alog.Own (m.upd b1 (.cells (intCells .i64 (List.replicate n.toNat 0)).toArray 3)) w0.heap.size 3 1 (some ⟨b1,0,none⟩) n.toNat n.toNat (intCells .i64 (List.replicate n.toNat 0)):=Own.new m hb1 3 1 n.toNat _ (by simp [intCells])
 generalize m.upd b1 (.cells (intCells .i64 (List.replicate n.toNat 0)).toArray 3)=m2 at l1 o1
 intro b3 hb3 hm3
 have l3:=le_new hm3 (.cells #[.slice (some ⟨b1,0,none⟩) n.toNat n.toNat] 149)
 refine retP_of ⟨AM.le_trans l1 l3,b3,rfl,some ⟨b1,0,none⟩,?_,?_,?_,AM.le_none l1 hm3⟩
 .rw [upd_get_same,List.length_replicate]
 .rw [List.length_replicate]; exact o1.le l3
 .intro k hk; simp [obl] at hk; subst hk; exact hm1
def runG (code:List Ins):Nat->MS × Int × Int->MS × Int × Int
 | 0,x=>x
 | n+1,(s,t,k)=>if t=0 then runG code n ((stepP code s).1,(stepP code s).2,k+1) else (s,t,k)
def beginS (mem:Int) (inp:List Int):MS:=⟨List.replicate 32 0,List.replicate mem.toNat 0,0,inp,[]⟩
structure Res where
  trap : Int
  steps : Int
  out : List Int
  mem : List Int
 deriving DecidableEq
def runP (code:List Ins) (mem:Int) (inp:List Int) (fuel:Int):Res :=
 if code.length>4096\/mem<0\/mem>32000 then ⟨0,0,[],[]⟩
 else let x:=runG code fuel.toNat (beginS mem inp,0,0); ⟨x.2.1,x.2.2,x.1.out,usedP x.1.mem⟩
def RRes (m:AM) (B:Nat) (v:Value) (r:Res):Prop :=
 ∃ Ao co Am cm,v=.agg #[.int .i64 r.trap,.int .i64 r.steps,.slice Ao r.out.length co,.slice Am r.mem.length cm]/\Alog.Own m B 3 1 Ao r.out.length co (intCells .i64 r.out)/\Alog.Own m B 3 1 Am r.mem.length cm (intCells .i64 r.mem)
theorem sysP_mem (s:MS) (n:Int):(sysP s n).1.mem=s.mem:=by
 unfold sysP
 split
 .rfl
 split
 .cases s.inp <;> rfl
 split
 .split <;> rfl
 .rfl
theorem actP_mem (s:MS) (i:Ins):(actP s i).1.mem.length=s.mem.length:=by
 unfold actP
 simp only
 split
 .split <;> rfl
 split
 .split
  .simp
  .rfl
 split
 .split <;> rfl
 split
 .rw [sysP_mem]
 .rfl
theorem nextP_mem (s:MS) (i:Ins):(nextP s i).1.mem=s.mem:=by
 unfold nextP
 simp only
 split
 .rfl
 split
 .rfl
 split
 .rfl
 split
 .rfl
 .rfl
theorem stepP_mem (code:List Ins) (s:MS):(stepP code s).1.mem.length=s.mem.length:=by
 unfold stepP
 simp only
 split
 .rfl
 split
 .rfl
 split
 .rfl
 split
 .exact actP_mem _ _
 split
 .exact actP_mem _ _
 .show ((nextP _ _).1.mem).length=_
  rw [nextP_mem]
  split <;> exact actP_mem _ _
theorem runG_mem (code:List Ins):∀ (n:Nat) (x:MS × Int × Int),(runG code n x).1.mem.length=x.1.mem.length
 | 0,x=>rfl
 | n+1,(s,t,k)=>by
  unfold runG
  split
  .rw [runG_mem code n]; exact stepP_mem code s
  .rfl
theorem cell_small {m:AM} {b:Nat} {c:Array Value} {t:TypeId} (hb:m b=some (.cells c t)) {a:Addr} (ha:a.block=b) (h4:c.size<=a.off):m.cell a=none:=by
 unfold AM.cell
 rw [ha,hb]
 simp
 intros
 omega
theorem SeqM.foreign {m:AM} {B g gm:Nat} {code:List Ins} {s:MS} {fp:List Nat} (h:SeqM m B g gm code s fp) {b:Nat} {c:Array Value} (hb:m b=some (.cells c 39)) (hc:c.size=4) (hf:b∉fp) (o:Obj):SeqM (m.upd b o) B g gm code s fp:=by
 obtain ⟨Ac,cc,Ai,ci,Ao,co,Aw,cw,h⟩:=h
 have hfr:Fr m (m.upd b o) [b]:=Fr.upd (Fr.refl _ _) (.inl (by simp)) _
 have hne:∀ {k:Nat} {c':Array Value} {t:TypeId},m k=some (.cells c' t)->t≠39->k∉[b]:=fun {k c' t} hk ht hin=>by
  simp at hin; subst hin; rw [hb] at hk; injection hk with hk; injection hk with _ h2; exact ht h2.symm
 have hAc:0<code.length->∀ k∈obl Ac,k∉[b]:=by
  intro h0 k hk hin
  simp at hin; subst hin
  obtain ⟨ad,rfl,hcl⟩:=h.hc.ex h0
  simp [obl] at hk
  have hl:4<(insCells code).length:=by rw [insCells_len]; omega
  have hx:=hcl 4 _ (List.getElem?_eq_getElem hl)
  rw [cell_small hb (by rw [add_block,hk]) (by rw [hc]; unfold Addr.add; simp)] at hx
  cases hx
 have hAi:0<s.inp.length->∀ k∈obl Ai,k∉[b]:=by
  intro h0 k hk
  obtain ⟨c',h'⟩:=h.ti h0 k hk
  exact hne h' (by decide)
 exact ⟨Ac,cc,Ai,ci,Ao,co,Aw,cw,hfr _ _ h.hg (hne h.hg (by decide)),h.hB,h.hr,Reads_fr h.hc hfr hAc,hfr _ _ h.hm (hne h.hm (by decide)),
  h.hw.fr hfr (fun k hk hin=>by simp at hin; exact hf (by rw [h.hfp,<- hin]; simp [hk])),Reads_fr h.hi hfr hAi,h.hic,h.ho.fr hfr (fun k hk hin=>by simp at hin; exact hf (by rw [h.hfp,<- hin]; simp [hk])),h.hfp,h.dwo,h.dc,h.di,h.dm,
  fun h0 k hk=>(h.ti h0 k hk).imp fun _ e=>hfr _ _ e (hAi h0 k hk)⟩
structure RunC (w0:World) (m:AM) (b1 b35 b37 gm:Nat) (code:List Ins) (m6:AM) (s:MS) (t k:Int) (fp:List Nat):Prop where
 hS:SeqM m6 w0.heap.size b35 gm code s fp
 hl:m.le m6
 h1:m6 b1=some (.cells #[.int .i64 0,.int .i64 0,.slice none 0 0,.slice none 0 0] 39)
 h37:m6 b37=some (.cells #[.int .i64 t,.int .i64 k,.slice none 0 0,.slice none 0 0] 39)
 hf:∀ x∈fp,m x=none
 n1:b1∉fp
 n37:b37∉fp
def RunI (w0:World) (m:AM) (b1 b35 b37 gm:Nat) (code:List Ins) (fuel:Int) (F:MS × Int × Int) (n:Nat) (m6:AM):Prop :=
 ∃ s t k fp,RunC w0 m b1 b35 b37 gm code m6 s t k fp/\runG code n (s,t,k)=F/\0<=k/\(t=0->n=(fuel-k).toNat)
def RunE (w0:World) (m:AM) (b1 b35 b37 gm:Nat) (code:List Ins) (F:MS × Int × Int) (m6:AM):Prop :=
 ∃ s t k fp,RunC w0 m b1 b35 b37 gm code m6 s t k fp/\(s,t,k)=F
theorem run_spec (w0:World) (m:AM) (Ac:Option Addr) (cc:Nat) (code:List Ins) (mem:Int) (Ai:Option Addr) (ci:Nat) (inp:List Int) (fuel:Int) (hf:InI fuel) (hc:Reads m 5 Ac code.length (insCells code)) (hi:Reads m 1 Ai inp.length (intCells .i64 inp)) (hin:inp.length<=1000000) :
  CallsA Tryz.prog w0 18 #[.slice Ac code.length cc,.int .i64 mem,.slice Ai inp.length ci,.int .i64 fuel] m (fun r m'=>m.le m'/\RRes m' w0.heap.size r (runP code mem inp fuel)):=by
 refine cf18 w0 m Ac code.length cc mem Ai inp.length ci fuel _ ?_
 intro b1 hb1 hm1 M
 have l1:m.le M:=le_new hm1 _
 have p1:M b1=some (.cells #[.int .i64 0,.int .i64 0,.slice none 0 0,.slice none 0 0] 39):=upd_get_same
 clear_value M
 refine CallsA.mono (new_spec w0 M mem) ?_
 rintro r m2 ⟨l2,hr⟩
 have p2:=l2 _ _ p1
 have retB:∀ (m3:AM) (A:Option Addr) (n c:Nat) (A':Option Addr) (n' c':Nat) (t k:Int) (R:Value->AM->Prop),m3 b1=some (.cells #[.int .i64 0,.int .i64 0,.slice none 0 0,.slice none 0 0] 39)->m.le m3 ->
   (∀ m4,m.le m4->Fr m3 m4 [b1]->R (.agg #[.int .i64 t,.int .i64 k,.slice A n c,.slice A' n' c']) m4) ->
   StC w0.heap.size m3 ⟨b1,0,none⟩ (.int .i64 t) fun m75=>StC w0.heap.size m75 ⟨b1,1,none⟩ (.int .i64 k) fun m76=>StC w0.heap.size m76 ⟨b1,2,none⟩ (.slice A n c) fun m77=>StC w0.heap.size m77 ⟨b1,3,none⟩ (.slice A' n' c') fun m78 =>
    ∃ i79:Int,m78.cell ⟨b1,0,none⟩=some (.int .i64 i79)/\∃ i80:Int,m78.cell ⟨b1,1,none⟩=some (.int .i64 i80)/\∃ (A81:Option Addr) (n82 c83:Nat),m78.cell ⟨b1,2,none⟩=some (.slice A81 n82 c83)/\∃ (A84:Option Addr) (n85 c86:Nat),m78.cell ⟨b1,3,none⟩=some (.slice A84 n85 c86)/\RetP R (.agg #[.int .i64 i79,.int .i64 i80,.slice A81 n82 c83,.slice A84 n85 c86]) m78:=by
  intro m3 A n c A' n' c' t k R q1 L hR
  refine StC_own q1 hb1 (by simp) ?_
  simp only [std_all,sto_all,Nat.reduceAdd,Nat.reduceLT,LI_,LB_,LA_,SI_,pt_,KI_,I_,SJ_,S_,LT_,LS_,LC_,LU_,LV_,RB_,RI_,RS_,N_,T_,SE_,hb1]
  refine retP_of (hR _ ?_ (Fr.upd (Fr.refl _ _) (.inl (by simp)) _))
  intro x o hx
  rw [upd_get]
  by_cases e:x=b1
  .subst e; rw [hm1] at hx; cases hx
  .rw [if_neg e]; exact L _ _ hx
 have L2:=AM.le_trans l1 l2
 have nil:∀ m4,RRes m4 w0.heap.size (.agg #[.int .i64 0,.int .i64 0,.slice none 0 0,.slice none 0 0]) ⟨0,0,[],[]⟩:=fun m4=>⟨none,0,none,0,rfl,Own.nil _ _ _ _,Own.nil _ _ _ _⟩
 unfold runP
 by_cases hbad:mem<0\/mem>32000
 .rw [if_pos hbad] at hr
  subst hr
  rw [if_pos (Or.inr hbad)]
  refine ⟨none,rfl,rfl,?_⟩
  by_cases hl:((code.length:Nat):Int)>4096
  .rw [decide_eq_true hl,bcase_t]
   exact ⟨rfl,rfl,retB m2 none 0 0 none 0 0 0 0 _ p2 L2 fun m4 l4 _=>⟨l4,nil m4⟩⟩
  .rw [decide_eq_false hl,bcase_f]
   simp only [cond_false,Option.isNone_none,bcase_t]
   exact ⟨trivial,retB m2 none 0 0 none 0 0 0 0 _ p2 L2 fun m4 l4 _=>⟨l4,nil m4⟩⟩
 rw [if_neg hbad] at hr
 obtain ⟨gm,Aw,rfl,hgm,hw,hnw,hng⟩:=hr
 refine ⟨_,rfl,rfl,?_⟩
 by_cases hl:((code.length:Nat):Int)>4096
 .rw [decide_eq_true hl,bcase_t,if_pos (Or.inl (by omega))]
  exact ⟨rfl,rfl,retB m2 none 0 0 none 0 0 0 0 _ p2 L2 fun m4 l4 _=>⟨l4,nil m4⟩⟩
 rw [decide_eq_false hl,bcase_f,if_neg (show ¬ (code.length>4096\/mem<0\/mem>32000) from fun h=>h.elim (fun h=>hl (by omega)) hbad)]
 refine (show bcase false _ _ from ?_)
 rw [bcase_f]
 refine CallsA.mono (clone_int w0 m2 Ai _ ci inp (hi.le L2) hin) ?_
 rintro r m3 ⟨l3,Ai',ci',rfl,hoi,hni⟩
 refine ⟨_,_,_,rfl,rfl,?_⟩
 intro b35 hb35 hm35 m4
 have l4:m3.le m4:=le_new hm35 _
 have p4:m4 b35=some (.cells (machL Ac code.length cc gm (List.replicate 32 0) 0 Ai' inp.length ci' none 0 0).toArray 110):=upd_get_same
 clear_value m4
 intro b37 hb37 hm37 m5
 have l5:m4.le m5:=le_new hm37 _
 have p5:m5 b37=some (.cells #[.int .i64 0,.int .i64 0,.slice none 0 0,.slice none 0 0] 39):=upd_get_same
 clear_value m5
 have L5:=AM.le_trans (AM.le_trans (AM.le_trans L2 l3) l4) l5
 have n35:m b35=none:=AM.le_none (AM.le_trans L2 l3) hm35
 have n37:m b37=none:=AM.le_none (AM.le_trans (AM.le_trans L2 l3) l4) hm37
 have hS:SeqM m5 w0.heap.size b35 gm code (beginS mem inp) (b35 :: (obl Aw ++ obl none)):=by
  have hoi5:=(hoi.le l4).le l5
  have hw5:=((hw.le l3).le l4).le l5
  refine ⟨Ac,cc,Ai',ci',none,0,Aw,mem.toNat,l5 _ _ p4,hb35,by simp [beginS],hc.le L5,l5 _ _ (l4 _ _ (l3 _ _ hgm)),hw5,hoi5.reads,hoi.2.1,Own.nil _ _ _ _,rfl,by simp [obl],?_,?_,?_,?_⟩
  .intro h0 k hk hin
   have hk0:=Reads_known hc h0 (by decide) k hk
   simp only [List.mem_cons,List.mem_append,obl,List.not_mem_nil,or_false] at hin
   rcases hin with rfl | hin
   .exact hk0 n35
   .exact hk0 (AM.le_none l1 (hnw k hin))
  .intro h0 k hk hin
   simp only [List.mem_cons,List.mem_append,obl,List.not_mem_nil,or_false] at hin
   obtain ⟨_,cur,hk3⟩:=hoi.obl_some hk
   rcases hin with rfl | hin
   .rw [hm35] at hk3; cases hk3
   .obtain ⟨_,cur2,hk2⟩:=hw.obl_some hin
    rw [hni k hk] at hk2; cases hk2
  .intro hin
   simp only [List.mem_cons,List.mem_append,obl,List.not_mem_nil,or_false] at hin
   rcases hin with e | hin
   .rw [<- e] at hm35; rw [l3 _ _ hgm] at hm35; cases hm35
   .exact hw.obl_ne hgm (by decide) hin
  .intro h0 k hk
   obtain ⟨_,cur,hk3⟩:=hoi5.obl_some hk
   exact ⟨cur,hk3⟩
 have hfp0:∀ k∈b35 :: (obl Aw ++ obl none),m k=none:=by
  intro k hin
  simp only [List.mem_cons,List.mem_append,obl,List.not_mem_nil,or_false] at hin
  rcases hin with rfl | hin
  .exact n35
  .exact AM.le_none l1 (hnw k hin)
 have q1:=l5 _ _ (l4 _ _ (l3 _ _ p2))
 generalize hfp:b35 :: (obl Aw ++ obl none)=fp0 at hS hfp0
 have hb1f:b1∉fp0:=by
  rw [<- hfp]
  intro hin
  simp only [List.mem_cons,List.mem_append,obl,List.not_mem_nil,or_false] at hin
  rcases hin with e | hin
  .rw [<- e,l3 _ _ p2] at hm35; cases hm35
  .exact hw.obl_ne p2 (by decide) hin
 have hb37f:b37∉fp0:=by
  rw [<- hfp]
  intro hin
  simp only [List.mem_cons,List.mem_append,obl,List.not_mem_nil,or_false] at hin
  rcases hin with e | hin
  .rw [e,p4] at hm37; cases hm37
  .exact (hw.le l3 |>.le l4 |>.le l5).obl_ne p5 (by decide) hin
 have h137:b1≠b37:=fun e=>by rw [<- e,l4 _ _ (l3 _ _ p2)] at hm37; cases hm37
 generalize hF:runG code fuel.toNat (beginS mem inp,0,0)=F
 refine vl18_1111100 w0 m5 _ _ fuel b1 (some ⟨gm,0,none⟩) b35 b37 (RunI w0 m b1 b35 b37 gm code fuel F) (RunE w0 m b1 b35 b37 gm code F) fuel.toNat rfl rfl rfl rfl rfl ⟨beginS mem inp,0,0,fp0,⟨hS,L5,q1,p5,hfp0,hb1f,hb37f⟩,hF,by omega,fun _=>by simp⟩ ?_ ?_
 .rintro n σ m6 ⟨s,t,k,fp,hC,hG,hk,hn⟩
  simp only [cell_of hC.h37,std_all,sto_all,Nat.reduceAdd,Nat.reduceLT,LI_,LB_,LA_,SI_,pt_,KI_,I_,SJ_,S_,LT_,LS_,LC_,LU_,LV_,RB_,RI_,RS_,N_,T_,SE_]
  by_cases ht:t=0
  .subst ht
   simp only [beq_self_eq_true,std_all,sto_all,Nat.reduceAdd,Nat.reduceLT,LI_,LB_,LA_,SI_,pt_,KI_,I_,SJ_,S_,LT_,LS_,LC_,LU_,LV_,RB_,RI_,RS_,N_,T_,SE_]
   by_cases hkf:k<fuel
   .simp only [decide_eq_true hkf,std_all,sto_all,Nat.reduceAdd,Nat.reduceLT,LI_,LB_,LA_,SI_,pt_,KI_,I_,SJ_,S_,LT_,LS_,LC_,LU_,LV_,RB_,RI_,RS_,N_,T_,SE_]
    refine CallsA.mono (step_spec w0 m6 b35 gm code s fp hC.hS) ?_
    rintro r m7 ⟨rfl,hp⟩
    have k37:=hp.keep hC.h37 hC.n37
    have k1:=hp.keep hC.h1 hC.n1
    obtain ⟨fp7,h7,hf7,hk7⟩:=hp
    refine ⟨_,rfl,?_⟩
    refine StC_own k37 hb37 (by simp) ?_
    have wk:IntKind.wrap .i64 (k+1)=k+1:=by rw [IntKind.wrap_i64]; unfold InI at hf; omega
    simp only [std_all,sto_all,Nat.reduceAdd,Nat.reduceLT,LI_,LB_,LA_,SI_,pt_,KI_,I_,SJ_,S_,LT_,LS_,LC_,LU_,LV_,RB_,RI_,RS_,N_,T_,SE_,hb37,wk]
    have hn1:n=(fuel-k).toNat:=hn rfl
    obtain ⟨n',rfl⟩:∃ n',n=n'+1:=⟨n-1,by omega⟩
    refine ⟨n',by omega,(stepP code s).1,(stepP code s).2,k+1,fp7,⟨?_,?_,?_,upd_get_same,?_,?_,?_⟩,?_,by omega,fun _=>by omega⟩
    .exact h7.foreign k37 (by simp) (fun hx=>by
      rcases hk7 _ hx with h | h
      .exact hC.n37 h
      .rw [hC.h37] at h; cases h) _
    .intro x o hx
     rw [upd_get]
     by_cases e:x=b37
     .subst e; rw [n37] at hx; cases hx
     .rw [if_neg e]; exact hf7 _ _ (hC.hl _ _ hx) fun hin=>by rw [hC.hf x hin] at hx; cases hx
    .rw [upd_get_ne h137]; exact k1
    .intro x hx
     rcases hk7 x hx with h | h
     .exact hC.hf x h
     .exact AM.le_none hC.hl h
    .intro hx
     rcases hk7 _ hx with h | h
     .exact hC.n1 h
     .rw [hC.h1] at h; cases h
    .intro hx
     rcases hk7 _ hx with h | h
     .exact hC.n37 h
     .rw [hC.h37] at h; cases h
    .rw [<- hG]; simp [runG]
   .simp only [decide_eq_false hkf,std_all,sto_all,Nat.reduceAdd,Nat.reduceLT,LI_,LB_,LA_,SI_,pt_,KI_,I_,SJ_,S_,LT_,LS_,LC_,LU_,LV_,RB_,RI_,RS_,N_,T_,SE_]
    refine ⟨s,0,k,fp,hC,?_⟩
    have hn1:n=(fuel-k).toNat:=hn rfl
    have:n=0:=by omega
    subst this
    exact hG
  .have hb:(t == 0)=false:=by simpa using ht
   simp only [hb,std_all,sto_all,Nat.reduceAdd,Nat.reduceLT,LI_,LB_,LA_,SI_,pt_,KI_,I_,SJ_,S_,LT_,LS_,LC_,LU_,LV_,RB_,RI_,RS_,N_,T_,SE_]
   refine ⟨s,t,k,fp,hC,?_⟩
   rw [<- hG]
   cases n with
   | zero=>rfl
   | succ n=>simp [runG,ht]
 .rintro σ m6 ⟨s,t,k,fp,hC,rfl⟩
  have hml:s.mem.length<=1000000:=by
   have:=runG_mem code fuel.toNat (beginS mem inp,0,0)
   rw [hF] at this
   have h2:s.mem.length=(beginS mem inp).mem.length:=this
   rw [h2]; simp [beginS]; omega
  have hSm:=hC.hS
  obtain ⟨Ac6,cc6,Ai6,ci6,Ao6,co6,Aw6,cw6,h6⟩:=hC.hS
  obtain ⟨_,_,_,_,r36⟩:=h6.cells
  have fin:∀ (m7:AM) (A:Option Addr) (c:Nat),m6.le m7->Alog.Own m7 w0.heap.size 3 1 A (usedP s.mem).length c (intCells .i64 (usedP s.mem))->∀ (K:AM->Prop),
    (∀ m8,m.le m8->m8 b1=some (.cells #[.int .i64 0,.int .i64 0,.slice none 0 0,.slice none 0 0] 39)->m8 b37=some (.cells #[.int .i64 t,.int .i64 k,.slice Ao6 s.out.length co6,.slice A (usedP s.mem).length c] 39)->Alog.Own m8 w0.heap.size 3 1 Ao6 s.out.length co6 (intCells .i64 s.out)->Alog.Own m8 w0.heap.size 3 1 A (usedP s.mem).length c (intCells .i64 (usedP s.mem))->K m8) ->
    StC w0.heap.size m7 ⟨b37,2,none⟩ (.slice Ao6 s.out.length co6) fun m55=>StC w0.heap.size m55 ⟨b37,3,none⟩ (.slice A (usedP s.mem).length c) K:=by
   intro m7 A c l7 o7 K hK
   have k37:=l7 _ _ hC.h37
   refine StC_own k37 hb37 (by simp) ?_
   simp only [std_all,sto_all,Nat.reduceAdd,Nat.reduceLT,LI_,LB_,LA_,SI_,pt_,KI_,I_,SJ_,S_,LT_,LS_,LC_,LU_,LV_,RB_,RI_,RS_,N_,T_,SE_,hb37]
   refine hK _ ?_ (by rw [upd_get_ne h137]; exact l7 _ _ hC.h1) upd_get_same ((h6.ho.le l7).upd ((h6.ho.le l7).ne_type k37 (by decide))) (o7.upd (o7.ne_type k37 (by decide)))
   intro x o hx
   rw [upd_get]
   by_cases e:x=b37
   .subst e; rw [n37] at hx; cases hx
   .rw [if_neg e]; exact l7 _ _ (hC.hl _ _ hx)
  refine vr18_1111110 w0 m6 _ _ b1 (some ⟨gm,0,none⟩) b35 b37 (fun m8=>∃ A c,m.le m8/\m8 b1=some (.cells #[.int .i64 0,.int .i64 0,.slice none 0 0,.slice none 0 0] 39)/\m8 b37=some (.cells #[.int .i64 t,.int .i64 k,.slice Ao6 s.out.length co6,.slice A (usedP s.mem).length c] 39)/\Alog.Own m8 w0.heap.size 3 1 Ao6 s.out.length co6 (intCells .i64 s.out)/\Alog.Own m8 w0.heap.size 3 1 A (usedP s.mem).length c (intCells .i64 (usedP s.mem))) rfl rfl rfl rfl ?_ ?_
  .refine ⟨⟨_,_,_,r36,?_⟩,?_⟩
   .refine CallsA.mono (used_spec w0 m6 w0.heap.size gm Aw6 s.mem cw6 h6.hm h6.hw hml) ?_
    rintro r m7 ⟨l7,A,c,rfl,o7,_⟩
    refine ⟨_,_,_,rfl,fin m7 A c l7 o7 _ fun m8 a1 a2 a3 a4 a5=>?_⟩
    exact ⟨rfl,rfl,rfl,A,c,a1,a2,a3,a4,a5⟩
   .refine CallsA.mono (used_spec w0 m6 w0.heap.size gm Aw6 s.mem cw6 h6.hm h6.hw hml) ?_
    rintro r m7 ⟨l7,A,c,rfl,o7,_⟩
    refine ⟨_,_,_,rfl,_,_,_,AM.le_cell l7 r36,fin m7 A c l7 o7 _ fun m8 a1 a2 a3 a4 a5=>?_⟩
    exact ⟨rfl,rfl,rfl,A,c,a1,a2,a3,a4,a5⟩
  .rintro σ m8 ⟨A,c,a1,a2,a3,a4,a5⟩
   simp only [cell_of a3,std_all,sto_all,Nat.reduceAdd,Nat.reduceLT,LI_,LB_,LA_,SI_,pt_,KI_,I_,SJ_,S_,LT_,LS_,LC_,LU_,LV_,RB_,RI_,RS_,N_,T_,SE_]
   refine StC_own a2 hb1 (by simp) ?_
   simp only [std_all,sto_all,Nat.reduceAdd,Nat.reduceLT,LI_,LB_,LA_,SI_,pt_,KI_,I_,SJ_,S_,LT_,LS_,LC_,LU_,LV_,RB_,RI_,RS_,N_,T_,SE_,hb1]
   refine retP_of ⟨?_,Ao6,co6,A,c,rfl,a4.upd (a4.ne_type a2 (by decide)),a5.upd (a5.ne_type a2 (by decide))⟩
   intro x o hx
   rw [upd_get]
   by_cases e:x=b1
   .subst e; rw [hm1] at hx; cases hx
   .rw [if_neg e]; exact a1 _ _ hx
end Go.Proofs.YtgjamnhjlaohaaaGreatDoor.S
namespace Go.Proofs.YtgjamnhjlaohaaaGreatDoor.V
open Go Go.Alog Go.Proofs.YtgjamnhjlaohaaaGreatDoor.T
variable (w0:World) (m:AM)
noncomputable abbrev cf83 (x0:Nat) (R:RT):Vn (C_ w0 83 #[pt_ x0] m R):=mkF (F:=F83) Tryz.func83 (by dsimp only [push_cast,↓u1,↓u2,↓u3,Nat.reduceAdd,Nat.reduceBEq,Nat.reduceDiv,Nat.reduceMod]) (by kernel_rfl)
noncomputable abbrev cf133 (x0:Nat) (x1_0:Bool) (x1_1 x1_2 x1_3 x1_4 x1_5 x1_6 x1_7 x1_8 x1_9 x1_10 x1_11:Int) (R:RT):Vn (C_ w0 133 #[pt_ x0,.agg #[.bool x1_0,I_ x1_1,I_ x1_2,I_ x1_3,I_ x1_4,I_ x1_5,I_ x1_6,I_ x1_7,I_ x1_8,I_ x1_9,I_ x1_10,I_ x1_11]] m R):=mkF (F:=F133) Tryz.func133 (by dsimp only [push_cast,↓u1,↓u2,↓u3,Nat.reduceAdd,Nat.reduceBEq,Nat.reduceDiv,Nat.reduceMod]) (by kernel_rfl)
noncomputable abbrev vk133_11 (σ:Sg) (R:RT) (x3 x4:Nat) (h3:σ 3=pt_ x3) (h4:σ 4=pt_ x4):Vn (XV w0 F133 (Tz R) 7 σ m):=mkK (cs h3 (cs h4 nl)) (by dsimp only [push_cast,↓u1,↓u2,↓u3,Nat.reduceAdd,Nat.reduceBEq,Nat.reduceDiv,Nat.reduceMod]) (by kernel_rfl)
noncomputable abbrev cf84 (x0:Nat) (R:RT):Vn (C_ w0 84 #[pt_ x0] m R):=mkF (F:=F84) Tryz.func84 (by dsimp only [push_cast,↓u1,↓u2,↓u3,Nat.reduceAdd,Nat.reduceBEq,Nat.reduceDiv,Nat.reduceMod]) (by kernel_rfl)
noncomputable abbrev vk84_11111 (σ:Sg) (R:RT) (x0 x3:Nat) (h0:σ 0=pt_ x0) (h3:σ 3=pt_ x3):Vn (XV w0 F84 (Tz R) 63 σ m):=mkK (cs h0 (cs h3 nl)) (by dsimp only [push_cast,↓u1,↓u2,↓u3,Nat.reduceAdd,Nat.reduceBEq,Nat.reduceDiv,Nat.reduceMod]) (by kernel_rfl)
noncomputable abbrev cf134 (x0:Int) (x1_0:Bool) (x1_1 x1_2 x1_3 x1_4 x1_5 x1_6 x1_7 x1_8 x1_9 x1_10 x1_11 x2_0 x2_1 x2_2 x2_3 x2_4 x2_5 x2_6 x2_7 x2_8 x2_9 x2_10 x2_11 x2_12 x2_13 x2_14 x2_15 x2_16 x2_17 x2_18 x2_19 x2_20 x2_21 x2_22 x2_23 x2_24 x2_25 x2_26 x2_27 x2_28 x2_29 x2_30 x2_31:Int) (R:RT):Vn (C_ w0 134 #[I_ x0,.agg #[.bool x1_0,I_ x1_1,I_ x1_2,I_ x1_3,I_ x1_4,I_ x1_5,I_ x1_6,I_ x1_7,I_ x1_8,I_ x1_9,I_ x1_10,I_ x1_11],.agg #[I_ x2_0,I_ x2_1,I_ x2_2,I_ x2_3,I_ x2_4,I_ x2_5,I_ x2_6,I_ x2_7,I_ x2_8,I_ x2_9,I_ x2_10,I_ x2_11,I_ x2_12,I_ x2_13,I_ x2_14,I_ x2_15,I_ x2_16,I_ x2_17,I_ x2_18,I_ x2_19,I_ x2_20,I_ x2_21,I_ x2_22,I_ x2_23,I_ x2_24,I_ x2_25,I_ x2_26,I_ x2_27,I_ x2_28,I_ x2_29,I_ x2_30,I_ x2_31]] m R):=mkF (F:=F134) Tryz.func134 (by dsimp only [push_cast,↓u1,↓u2,↓u3,Nat.reduceAdd,Nat.reduceBEq,Nat.reduceDiv,Nat.reduceMod]) (by kernel_rfl)
noncomputable abbrev cf85 (x0:Nat) (x1_0:Bool) (x1_1 x1_2 x1_3 x1_4 x1_5 x1_6 x1_7 x1_8 x1_9 x1_10 x1_11:Int) (R:RT):Vn (C_ w0 85 #[pt_ x0,.agg #[.bool x1_0,I_ x1_1,I_ x1_2,I_ x1_3,I_ x1_4,I_ x1_5,I_ x1_6,I_ x1_7,I_ x1_8,I_ x1_9,I_ x1_10,I_ x1_11]] m R):=mkF (F:=F85) Tryz.func85 (by dsimp only [push_cast,↓u1,↓u2,↓u3,Nat.reduceAdd,Nat.reduceBEq,Nat.reduceDiv,Nat.reduceMod]) (by kernel_rfl)
noncomputable abbrev vk85_11101011110101 (σ:Sg) (R:RT) (x0 x4:Nat) (x86:Bool) (h0:σ 0=pt_ x0) (h4:σ 4=pt_ x4) (h86:σ 86=.bool x86):Vn (XV w0 F85 (Tz R) 31477 σ m):=mkK (cs h0 (cs h4 (cs h86 nl))) (by dsimp only [push_cast,↓u1,↓u2,↓u3,Nat.reduceAdd,Nat.reduceBEq,Nat.reduceDiv,Nat.reduceMod]) (by kernel_rfl)
noncomputable abbrev vk85_1111 (σ:Sg) (R:RT) (x0 x4:Nat) (h0:σ 0=pt_ x0) (h4:σ 4=pt_ x4):Vn (XV w0 F85 (Tz R) 31 σ m):=mkK (cs h0 (cs h4 nl)) (by dsimp only [push_cast,↓u1,↓u2,↓u3,Nat.reduceAdd,Nat.reduceBEq,Nat.reduceDiv,Nat.reduceMod]) (by kernel_rfl)
noncomputable abbrev cf135 (x0:Nat) (x1:Int) (R:RT):Vn (C_ w0 135 #[pt_ x0,I_ x1] m R):=mkF (F:=F135) Tryz.func135 (by dsimp only [push_cast,↓u1,↓u2,↓u3,Nat.reduceAdd,Nat.reduceBEq,Nat.reduceDiv,Nat.reduceMod]) (by kernel_rfl)
noncomputable abbrev vk135_11 (σ:Sg) (R:RT) (x0:Nat) (x1:Int) (h0:σ 0=pt_ x0) (h1:σ 1=I_ x1):Vn (XV w0 F135 (Tz R) 7 σ m):=mkK (cs h0 (cs h1 nl)) (by dsimp only [push_cast,↓u1,↓u2,↓u3,Nat.reduceAdd,Nat.reduceBEq,Nat.reduceDiv,Nat.reduceMod]) (by kernel_rfl)
noncomputable abbrev cf167 (x0:Nat) (x1 x2:Int) (R:RT):Vn (C_ w0 167 #[pt_ x0,I_ x1,I_ x2] m R):=mkF (F:=F167) Tryz.func167 (by dsimp only [push_cast,↓u1,↓u2,↓u3,Nat.reduceAdd,Nat.reduceBEq,Nat.reduceDiv,Nat.reduceMod]) (by kernel_rfl)
noncomputable abbrev cf87 (x0:Nat) (R:RT):Vn (C_ w0 87 #[pt_ x0] m R):=mkF (F:=F87) Tryz.func87 (by dsimp only [push_cast,↓u1,↓u2,↓u3,Nat.reduceAdd,Nat.reduceBEq,Nat.reduceDiv,Nat.reduceMod]) (by kernel_rfl)
noncomputable abbrev cf86 (x0:Nat) (x1:Int) (R:RT):Vn (C_ w0 86 #[pt_ x0,I_ x1] m R):=mkF (F:=F86) Tryz.func86 (by dsimp only [push_cast,↓u1,↓u2,↓u3,Nat.reduceAdd,Nat.reduceBEq,Nat.reduceDiv,Nat.reduceMod]) (by kernel_rfl)
noncomputable abbrev vk86_11 (σ:Sg) (R:RT) (x0:Nat) (x1:Int) (x4:Nat) (h0:σ 0=pt_ x0) (h1:σ 1=I_ x1) (h4:σ 4=pt_ x4):Vn (XV w0 F86 (Tz R) 7 σ m):=mkK (cs h0 (cs h1 (cs h4 nl))) (by dsimp only [push_cast,↓u1,↓u2,↓u3,Nat.reduceAdd,Nat.reduceBEq,Nat.reduceDiv,Nat.reduceMod]) (by kernel_rfl)
noncomputable abbrev cf43 (x0:Nat) (R:RT):Vn (C_ w0 43 #[pt_ x0] m R):=mkF (F:=F43) Tryz.func43 (by dsimp only [push_cast,↓u1,↓u2,↓u3,Nat.reduceAdd,Nat.reduceBEq,Nat.reduceDiv,Nat.reduceMod]) (by kernel_rfl)
noncomputable abbrev cf19 (x0:Option Addr) (x0n x0c:Nat) (x1:Int) (x2:Option Addr) (x2n x2c:Nat) (x3:Int) (R:RT):Vn (C_ w0 19 #[.slice x0 x0n x0c,I_ x1,.slice x2 x2n x2c,I_ x3] m R):=mkF (F:=F19) Tryz.func19 (by dsimp only [push_cast,↓u1,↓u2,↓u3,Nat.reduceAdd,Nat.reduceBEq,Nat.reduceDiv,Nat.reduceMod]) (by kernel_rfl)
noncomputable abbrev vl19_1111100 (σ:Sg) (R:RT) (x3:Int) (x8:Nat) (x9:Option Addr) (x10 x11:Nat) (I0:Nat->AM->Prop) (E0_0:AM->Prop) (N:Nat) (h3:σ 3=I_ x3) (h8:σ 8=pt_ x8) (h9:σ 9=.pointer x9) (h10:σ 10=pt_ x10) (h11:σ 11=pt_ x11) (h_0:I0 N  m):Vn (Vn (XV w0 F19 (Tz R) 252 σ m)):=mkL1 (lq19_1111100 R x3 x8 x9 x10 x11 I0 E0_0) (fun _=>rfl) N (cs h3 (cs h8 (cs h9 (cs h10 (cs h11 nl))))) nl h_0 (by dsimp only [push_cast,↓u1,↓u2,↓u3,Nat.reduceAdd,Nat.reduceBEq,Nat.reduceDiv,Nat.reduceMod]) (by dsimp only [push_cast,↓u1,↓u2,↓u3,Nat.reduceAdd,Nat.reduceBEq,Nat.reduceDiv,Nat.reduceMod]) (by kernel_rfl)
noncomputable abbrev vr19_1111110 (σ:Sg) (R:RT) (x8:Nat) (x9:Option Addr) (x10 x11:Nat) (K:AM->Prop) (h8:σ 8=pt_ x8) (h9:σ 9=.pointer x9) (h10:σ 10=pt_ x10) (h11:σ 11=pt_ x11):Vn (Vn (XV w0 F19 (Tz R) 254 σ m)):=mkR (.o 0 (.o 1 (.o 2 (.o 4 (.a (.o 3 (.o 5 (.o 6 (.o 7 (.o 8 (.o 9 .z)))))) (.o 5 (.o 3 (.o 6 (.o 7 (.o 8 (.o 9 .z))))))))))) [8,11] (ks:=[]) K (cs h8 (cs h9 (cs h10 (cs h11 nl)))) (by dsimp only [push_cast,↓u1,↓u2,↓u3,Nat.reduceAdd,Nat.reduceBEq,Nat.reduceDiv,Nat.reduceMod]) (by dsimp only [push_cast,↓u1,↓u2,↓u3,Nat.reduceAdd,Nat.reduceBEq,Nat.reduceDiv,Nat.reduceMod]) (by kernel_rfl)
end Go.Proofs.YtgjamnhjlaohaaaGreatDoor.V
namespace Go.Proofs.YtgjamnhjlaohaaaGreatDoor.S
open Go Go.RowKit Go.Alog Go.Proofs.YtgjamnhjlaohaaaGreatDoor.T Go.Proofs.YtgjamnhjlaohaaaGreatDoor.V
structure La where
 full:Bool
 i:Ins
 at_:Int
 reg:Int
 value:Int
 stored:Int
 where_:Int
 trap:Int
def La0:La:=⟨false,⟨0,0,0,0,0⟩,0,0,0,0,0,0⟩
abbrev La.vals (l:La):List Value:=[.bool l.full,.int .i64 l.i.op,.int .i64 l.i.a,.int .i64 l.i.b,.int .i64 l.i.c,.int .i64 l.i.imm,.int .i64 l.at_,.int .i64 l.reg,.int .i64 l.value,.int .i64 l.stored,.int .i64 l.where_,.int .i64 l.trap]
abbrev La.val (l:La):Value:=.agg #[.bool l.full,.int .i64 l.i.op,.int .i64 l.i.a,.int .i64 l.i.b,.int .i64 l.i.c,.int .i64 l.i.imm,.int .i64 l.at_,.int .i64 l.reg,.int .i64 l.value,.int .i64 l.stored,.int .i64 l.where_,.int .i64 l.trap]
theorem st12 {B g k:Nat} {m:AM} {c:Array Value} {t:TypeId} {K:AM->Prop} {v0 v1 v2 v3 v4 v5 v6 v7 v8 v9 v10 v11:Value} (hg:m g=some (.cells c t)) (hB:B<=g) (hs:k+12<=c.size) (hK:K (m.upd g (.cells (splice c k [v0,v1,v2,v3,v4,v5,v6,v7,v8,v9,v10,v11]) t))) :
  StC B m ⟨g,k,none⟩ (v0) fun y0=>StC B y0 ⟨g,k+1,none⟩ (v1) fun y1=>StC B y1 ⟨g,k+2,none⟩ (v2) fun y2=>StC B y2 ⟨g,k+3,none⟩ (v3) fun y3=>StC B y3 ⟨g,k+4,none⟩ (v4) fun y4=>StC B y4 ⟨g,k+5,none⟩ (v5) fun y5=>StC B y5 ⟨g,k+6,none⟩ (v6) fun y6=>StC B y6 ⟨g,k+7,none⟩ (v7) fun y7=>StC B y7 ⟨g,k+8,none⟩ (v8) fun y8=>StC B y8 ⟨g,k+9,none⟩ (v9) fun y9=>StC B y9 ⟨g,k+10,none⟩ (v10) fun y10=>StC B y10 ⟨g,k+11,none⟩ (v11) fun y11=>K y11:=by
 have h:=StL_cells (B:=B) (g:=g) (e:=t) (K:=K) [v0,v1,v2,v3,v4,v5,v6,v7,v8,v9,v10,v11] 0 k m c hg hB (by simp; omega) (by simpa using hK)
 simpa [StL,Addr.add] using h
theorem st12a {B g:Nat} {m:AM} {c:Array Value} {t:TypeId} {K:AM->Prop} {v0 v1 v2 v3 v4 v5 v6 v7 v8 v9 v10 v11:Value} (hg:m g=some (.cells c t)) (hB:B<=g) (hs:c.size=12) (hK:K (m.upd g (.cells (#[v0,v1,v2,v3,v4,v5,v6,v7,v8,v9,v10,v11]) t))) :
  StC B m ⟨g,0,none⟩ (v0) fun y0=>StC B y0 ⟨g,1,none⟩ (v1) fun y1=>StC B y1 ⟨g,2,none⟩ (v2) fun y2=>StC B y2 ⟨g,3,none⟩ (v3) fun y3=>StC B y3 ⟨g,4,none⟩ (v4) fun y4=>StC B y4 ⟨g,5,none⟩ (v5) fun y5=>StC B y5 ⟨g,6,none⟩ (v6) fun y6=>StC B y6 ⟨g,7,none⟩ (v7) fun y7=>StC B y7 ⟨g,8,none⟩ (v8) fun y8=>StC B y8 ⟨g,9,none⟩ (v9) fun y9=>StC B y9 ⟨g,10,none⟩ (v10) fun y10=>StC B y10 ⟨g,11,none⟩ (v11) fun y11=>K y11:=by
 refine st12 (k:=0) hg hB (by omega) ?_
 rw [show splice c 0 [v0,v1,v2,v3,v4,v5,v6,v7,v8,v9,v10,v11] = #[v0,v1,v2,v3,v4,v5,v6,v7,v8,v9,v10,v11] by unfold splice; rw [List.take_zero,List.nil_append,List.drop_of_length_le (by rw [Array.length_toList,hs]; exact Nat.le_refl _),List.append_nil]]
 exact hK
theorem st32 {B g k:Nat} {m:AM} {c:Array Value} {t:TypeId} {K:AM->Prop} {v0 v1 v2 v3 v4 v5 v6 v7 v8 v9 v10 v11 v12 v13 v14 v15 v16 v17 v18 v19 v20 v21 v22 v23 v24 v25 v26 v27 v28 v29 v30 v31:Value} (hg:m g=some (.cells c t)) (hB:B<=g) (hs:k+32<=c.size) (hK:K (m.upd g (.cells (splice c k [v0,v1,v2,v3,v4,v5,v6,v7,v8,v9,v10,v11,v12,v13,v14,v15,v16,v17,v18,v19,v20,v21,v22,v23,v24,v25,v26,v27,v28,v29,v30,v31]) t))) :
  StC B m ⟨g,k,none⟩ (v0) fun y0=>StC B y0 ⟨g,k+1,none⟩ (v1) fun y1=>StC B y1 ⟨g,k+2,none⟩ (v2) fun y2=>StC B y2 ⟨g,k+3,none⟩ (v3) fun y3=>StC B y3 ⟨g,k+4,none⟩ (v4) fun y4=>StC B y4 ⟨g,k+5,none⟩ (v5) fun y5=>StC B y5 ⟨g,k+6,none⟩ (v6) fun y6=>StC B y6 ⟨g,k+7,none⟩ (v7) fun y7=>StC B y7 ⟨g,k+8,none⟩ (v8) fun y8=>StC B y8 ⟨g,k+9,none⟩ (v9) fun y9=>StC B y9 ⟨g,k+10,none⟩ (v10) fun y10=>StC B y10 ⟨g,k+11,none⟩ (v11) fun y11=>StC B y11 ⟨g,k+12,none⟩ (v12) fun y12=>StC B y12 ⟨g,k+13,none⟩ (v13) fun y13=>StC B y13 ⟨g,k+14,none⟩ (v14) fun y14=>StC B y14 ⟨g,k+15,none⟩ (v15) fun y15=>StC B y15 ⟨g,k+16,none⟩ (v16) fun y16=>StC B y16 ⟨g,k+17,none⟩ (v17) fun y17=>StC B y17 ⟨g,k+18,none⟩ (v18) fun y18=>StC B y18 ⟨g,k+19,none⟩ (v19) fun y19=>StC B y19 ⟨g,k+20,none⟩ (v20) fun y20=>StC B y20 ⟨g,k+21,none⟩ (v21) fun y21=>StC B y21 ⟨g,k+22,none⟩ (v22) fun y22=>StC B y22 ⟨g,k+23,none⟩ (v23) fun y23=>StC B y23 ⟨g,k+24,none⟩ (v24) fun y24=>StC B y24 ⟨g,k+25,none⟩ (v25) fun y25=>StC B y25 ⟨g,k+26,none⟩ (v26) fun y26=>StC B y26 ⟨g,k+27,none⟩ (v27) fun y27=>StC B y27 ⟨g,k+28,none⟩ (v28) fun y28=>StC B y28 ⟨g,k+29,none⟩ (v29) fun y29=>StC B y29 ⟨g,k+30,none⟩ (v30) fun y30=>StC B y30 ⟨g,k+31,none⟩ (v31) fun y31=>K y31:=by
 have h:=StL_cells (B:=B) (g:=g) (e:=t) (K:=K) [v0,v1,v2,v3,v4,v5,v6,v7,v8,v9,v10,v11,v12,v13,v14,v15,v16,v17,v18,v19,v20,v21,v22,v23,v24,v25,v26,v27,v28,v29,v30,v31] 0 k m c hg hB (by simp; omega) (by simpa using hK)
 simpa [StL,Addr.add] using h
theorem st32a {B g:Nat} {m:AM} {c:Array Value} {t:TypeId} {K:AM->Prop} {v0 v1 v2 v3 v4 v5 v6 v7 v8 v9 v10 v11 v12 v13 v14 v15 v16 v17 v18 v19 v20 v21 v22 v23 v24 v25 v26 v27 v28 v29 v30 v31:Value} (hg:m g=some (.cells c t)) (hB:B<=g) (hs:c.size=32) (hK:K (m.upd g (.cells (#[v0,v1,v2,v3,v4,v5,v6,v7,v8,v9,v10,v11,v12,v13,v14,v15,v16,v17,v18,v19,v20,v21,v22,v23,v24,v25,v26,v27,v28,v29,v30,v31]) t))) :
  StC B m ⟨g,0,none⟩ (v0) fun y0=>StC B y0 ⟨g,1,none⟩ (v1) fun y1=>StC B y1 ⟨g,2,none⟩ (v2) fun y2=>StC B y2 ⟨g,3,none⟩ (v3) fun y3=>StC B y3 ⟨g,4,none⟩ (v4) fun y4=>StC B y4 ⟨g,5,none⟩ (v5) fun y5=>StC B y5 ⟨g,6,none⟩ (v6) fun y6=>StC B y6 ⟨g,7,none⟩ (v7) fun y7=>StC B y7 ⟨g,8,none⟩ (v8) fun y8=>StC B y8 ⟨g,9,none⟩ (v9) fun y9=>StC B y9 ⟨g,10,none⟩ (v10) fun y10=>StC B y10 ⟨g,11,none⟩ (v11) fun y11=>StC B y11 ⟨g,12,none⟩ (v12) fun y12=>StC B y12 ⟨g,13,none⟩ (v13) fun y13=>StC B y13 ⟨g,14,none⟩ (v14) fun y14=>StC B y14 ⟨g,15,none⟩ (v15) fun y15=>StC B y15 ⟨g,16,none⟩ (v16) fun y16=>StC B y16 ⟨g,17,none⟩ (v17) fun y17=>StC B y17 ⟨g,18,none⟩ (v18) fun y18=>StC B y18 ⟨g,19,none⟩ (v19) fun y19=>StC B y19 ⟨g,20,none⟩ (v20) fun y20=>StC B y20 ⟨g,21,none⟩ (v21) fun y21=>StC B y21 ⟨g,22,none⟩ (v22) fun y22=>StC B y22 ⟨g,23,none⟩ (v23) fun y23=>StC B y23 ⟨g,24,none⟩ (v24) fun y24=>StC B y24 ⟨g,25,none⟩ (v25) fun y25=>StC B y25 ⟨g,26,none⟩ (v26) fun y26=>StC B y26 ⟨g,27,none⟩ (v27) fun y27=>StC B y27 ⟨g,28,none⟩ (v28) fun y28=>StC B y28 ⟨g,29,none⟩ (v29) fun y29=>StC B y29 ⟨g,30,none⟩ (v30) fun y30=>StC B y30 ⟨g,31,none⟩ (v31) fun y31=>K y31:=by
 refine st32 (k:=0) hg hB (by omega) ?_
 rw [show splice c 0 [v0,v1,v2,v3,v4,v5,v6,v7,v8,v9,v10,v11,v12,v13,v14,v15,v16,v17,v18,v19,v20,v21,v22,v23,v24,v25,v26,v27,v28,v29,v30,v31] = #[v0,v1,v2,v3,v4,v5,v6,v7,v8,v9,v10,v11,v12,v13,v14,v15,v16,v17,v18,v19,v20,v21,v22,v23,v24,v25,v26,v27,v28,v29,v30,v31] by unfold splice; rw [List.take_zero,List.nil_append,List.drop_of_length_le (by rw [Array.length_toList,hs]; exact Nat.le_refl _),List.append_nil]]
 exact hK
theorem new12 {B:Nat} {m:AM} {T:TypeId} {K:Nat->AM->Prop} {v0 v1 v2 v3 v4 v5 v6 v7 v8 v9 v10 v11:Value} (h:∀ b m',B<=b->m b=none->m.le m'->m' b=some (.cells #[v0,v1,v2,v3,v4,v5,v6,v7,v8,v9,v10,v11] T)->K b m') :
  ∀ b:Nat,B<=b->m b=none->let m1:=AM.upd m b (.cells #[.bool false,.int .i64 0,.int .i64 0,.int .i64 0,.int .i64 0,.int .i64 0,.int .i64 0,.int .i64 0,.int .i64 0,.int .i64 0,.int .i64 0,.int .i64 0] T); StC B m1 ⟨b,0,none⟩ (v0) fun y0=>StC B y0 ⟨b,1,none⟩ (v1) fun y1=>StC B y1 ⟨b,2,none⟩ (v2) fun y2=>StC B y2 ⟨b,3,none⟩ (v3) fun y3=>StC B y3 ⟨b,4,none⟩ (v4) fun y4=>StC B y4 ⟨b,5,none⟩ (v5) fun y5=>StC B y5 ⟨b,6,none⟩ (v6) fun y6=>StC B y6 ⟨b,7,none⟩ (v7) fun y7=>StC B y7 ⟨b,8,none⟩ (v8) fun y8=>StC B y8 ⟨b,9,none⟩ (v9) fun y9=>StC B y9 ⟨b,10,none⟩ (v10) fun y10=>StC B y10 ⟨b,11,none⟩ (v11) fun y11=>K b y11:=by
 intro b hb hm m1
 refine st12 (c:=#[.bool false,.int .i64 0,.int .i64 0,.int .i64 0,.int .i64 0,.int .i64 0,.int .i64 0,.int .i64 0,.int .i64 0,.int .i64 0,.int .i64 0,.int .i64 0]) (t:=T) (k:=0) upd_get_same hb (by simp) ?_
 exact h b _ hb hm (fun x o' hx=>by
  have:x≠b:=fun e=>by subst e; rw [hm] at hx; cases hx
  rw [upd_get_ne this]; exact le_new hm _ x o' hx) upd_get_same
abbrev arr32 (l:List Int):Array Value:=#[.int .i64 (l.getD 0 0),.int .i64 (l.getD 1 0),.int .i64 (l.getD 2 0),.int .i64 (l.getD 3 0),.int .i64 (l.getD 4 0),.int .i64 (l.getD 5 0),.int .i64 (l.getD 6 0),.int .i64 (l.getD 7 0),.int .i64 (l.getD 8 0),.int .i64 (l.getD 9 0),.int .i64 (l.getD 10 0),.int .i64 (l.getD 11 0),.int .i64 (l.getD 12 0),.int .i64 (l.getD 13 0),.int .i64 (l.getD 14 0),.int .i64 (l.getD 15 0),.int .i64 (l.getD 16 0),.int .i64 (l.getD 17 0),.int .i64 (l.getD 18 0),.int .i64 (l.getD 19 0),.int .i64 (l.getD 20 0),.int .i64 (l.getD 21 0),.int .i64 (l.getD 22 0),.int .i64 (l.getD 23 0),.int .i64 (l.getD 24 0),.int .i64 (l.getD 25 0),.int .i64 (l.getD 26 0),.int .i64 (l.getD 27 0),.int .i64 (l.getD 28 0),.int .i64 (l.getD 29 0),.int .i64 (l.getD 30 0),.int .i64 (l.getD 31 0)]
theorem arr32_eq (l:List Int):arr32 l=((List.range 32).map fun k=>Value.int .i64 (l.getD k 0)).toArray:=rfl
theorem arr32_get (l:List Int) {n:Int} (hn:0<=n/\n<32):(arr32 l)[n.toNat]?=some (.int .i64 (regOf l n)):=by
 have:n.toNat<32:=by omega
 rw [arr32_eq]; simp [this,regOf]
theorem arr32_set (l:List Int) (hl:l.length=32) {n:Nat} (hn:n<32) (v:Int):(arr32 l).setIfInBounds n (.int .i64 v)=arr32 (l.set n v):=by
 rw [arr32_eq,arr32_eq,List.setIfInBounds_toArray]
 congr 1
 refine List.ext_getElem? fun k=>?_
 rw [List.getElem?_set]
 by_cases hk:k<32
 .by_cases e:n=k
  .subst e; simp [hn,hl,List.getD]
  .simp [e,hk,List.getD,List.getElem?_set_ne e]
 .by_cases e:n=k
  .omega
  .simp [e,hk]
structure PS where
 regs:List Int
 mem:List Int
 at_:Int
 inp:List Int
 out:List Int
 f:La
 r:La
 k:La
 a:La
structure PA where
 Ac:Option Addr
 cc:Nat
 gm:Nat
 Ai:Option Addr
 ci:Nat
 Ao:Option Addr
 co:Nat
 Aw:Option Addr
 cw:Nat
def PA.fp (q:PA) (g:Nat):List Nat:=g :: (obl q.Aw ++ obl q.Ao)
def pL (q:PA) (nc:Nat) (s:PS):List Value:=machL q.Ac nc q.cc q.gm s.regs s.at_ q.Ai s.inp.length q.ci q.Ao s.out.length q.co ++ (s.f.vals ++ (s.r.vals ++ (s.k.vals ++ s.a.vals)))
structure PipR (m:AM) (B g:Nat) (code:List Ins) (s:PS) (q:PA):Prop where
 hg:m g=some (.cells (pL q code.length s).toArray 117)
 hB:B<=g
 hr:s.regs.length=32
 hc:Reads m 5 q.Ac code.length (insCells code)
 hm:m q.gm=some (.cells #[.slice q.Aw s.mem.length q.cw] 149)
 hw:Alog.Own m B 3 1 q.Aw s.mem.length q.cw (intCells .i64 s.mem)
 hi:Reads m 1 q.Ai s.inp.length (intCells .i64 s.inp)
 hic:s.inp.length<=q.ci
 ho:Alog.Own m B 3 1 q.Ao s.out.length q.co (intCells .i64 s.out)
 dwo:∀ k∈obl q.Aw,k∉obl q.Ao
 dc:0<code.length->∀ k∈obl q.Ac,k∉q.fp g
 di:0<s.inp.length->∀ k∈obl q.Ai,k∉q.fp g
 dm:q.gm∉q.fp g
 ti:0<s.inp.length->∀ k∈obl q.Ai,∃ c,m k=some (.cells c 3)
theorem PipR.le {m m':AM} {B g:Nat} {code:List Ins} {s:PS} {q:PA} (h:PipR m B g code s q) (hl:m.le m'):PipR m' B g code s q :=
 ⟨hl _ _ h.hg,h.hB,h.hr,h.hc.le hl,hl _ _ h.hm,h.hw.le hl,h.hi.le hl,h.hic,h.ho.le hl,h.dwo,h.dc,h.di,h.dm,fun h0 k hk=>(h.ti h0 k hk).imp fun _ e=>hl _ _ e⟩
theorem PipR.gfp {m:AM} {B g:Nat} {code:List Ins} {s:PS} {q:PA} (h:PipR m B g code s q):g∈q.fp g:=by simp [PA.fp]
theorem PipR.put {m:AM} {B g:Nat} {code:List Ins} {s:PS} {q:PA} (h:PipR m B g code s q) (s':PS) (hr:s'.regs.length=32) (hm:s'.mem=s.mem) (hi:s'.inp=s.inp) (ho:s'.out=s.out) :
  PipR (m.upd g (.cells (pL q code.length s').toArray 117)) B g code s' q/\Fr m (m.upd g (.cells (pL q code.length s').toArray 117)) [g]:=by
 have hfr:Fr m (m.upd g (.cells (pL q code.length s').toArray 117)) [g]:=Fr.upd (Fr.refl _ _) (.inl (by simp)) _
 have hgf:=h.gfp
 refine ⟨⟨upd_get_same,h.hB,hr,Reads_fr h.hc hfr fun h0 k hk hin=>h.dc h0 k hk (by simp at hin; rw [hin]; exact hgf),?_,?_,?_,by rw [hi]; exact h.hic,?_,h.dwo,h.dc,by rw [hi]; exact h.di,h.dm,?_⟩,hfr⟩
 .rw [hm]; exact hfr _ _ h.hm (by intro hin; simp at hin; exact h.dm (by rw [hin]; exact hgf))
 .rw [hm]; exact h.hw.upd (h.hw.ne_type h.hg (by decide))
 .rw [hi]; exact Reads_fr h.hi hfr fun h0 k hk hin=>h.di h0 k hk (by simp at hin; rw [hin]; exact hgf)
 .rw [ho]; exact h.ho.upd (h.ho.ne_type h.hg (by decide))
 .rw [hi]; exact fun h0 k hk=>(h.ti h0 k hk).imp fun _ e=>hfr _ _ e fun hin=>h.di h0 k hk (by simp at hin; rw [hin]; exact hgf)
theorem pL_lo {q:PA} {nc:Nat} {s:PS} (hr:s.regs.length=32) {j:Nat} (hj:j<37):(pL q nc s)[j]?=(machL q.Ac nc q.cc q.gm s.regs s.at_ q.Ai s.inp.length q.ci q.Ao s.out.length q.co)[j]?:=by
 unfold pL; rw [List.getElem?_append_left (by rw [machL_len hr]; exact hj)]
theorem pL_hi {q:PA} {nc:Nat} {s:PS} (hr:s.regs.length=32) (j:Nat):(pL q nc s)[37+j]?=(s.f.vals ++ (s.r.vals ++ (s.k.vals ++ s.a.vals)))[j]?:=by
 unfold pL; rw [List.getElem?_append_right (by rw [machL_len hr]; omega),machL_len hr,Nat.add_sub_cancel_left]
theorem PipR.hi' {m:AM} {B g:Nat} {code:List Ins} {s:PS} {q:PA} (h:PipR m B g code s q) (j:Nat):m.cell ⟨g,37+j,none⟩=(s.f.vals ++ (s.r.vals ++ (s.k.vals ++ s.a.vals)))[j]?:=by
 rw [cell_of h.hg,List.getElem?_toArray,pL_hi h.hr]
theorem PipR.reg' {m:AM} {B g:Nat} {code:List Ins} {s:PS} {q:PA} (h:PipR m B g code s q) (k:Nat) (hk:k<32):m.cell ⟨g,2+k,none⟩=some (.int .i64 (s.regs.getD k 0)):=by
 rw [cell_of h.hg,List.getElem?_toArray,pL_lo h.hr (by omega)]
 refine machL_reg ?_
 have:k<s.regs.length:=by rw [h.hr]; exact hk
 simp [List.getD,this]
theorem PipR.cells {m:AM} {B g:Nat} {code:List Ins} {s:PS} {q:PA} (h:PipR m B g code s q) :
  m.cell ⟨g,0,none⟩=some (.slice q.Ac code.length q.cc)/\m.cell ⟨g,1,none⟩=some (.pointer (some ⟨q.gm,0,none⟩))/\m.cell ⟨g,34,none⟩=some (.int .i64 s.at_)/\m.cell ⟨g,35,none⟩=some (.slice q.Ai s.inp.length q.ci)/\m.cell ⟨g,36,none⟩=some (.slice q.Ao s.out.length q.co):=by
 refine ⟨?_,?_,?_,?_,?_⟩ <;> rw [cell_of h.hg,List.getElem?_toArray,pL_lo h.hr (by omega)]
 .rfl
 .rfl
 .exact machL_34 h.hr
 .exact machL_35 h.hr
 .exact machL_36 h.hr
theorem pL_size {q:PA} {nc:Nat} {s:PS} (hr:s.regs.length=32):(pL q nc s).toArray.size=85:=by
 unfold pL; rw [List.size_toArray,List.length_append,machL_len hr]; rfl
theorem pL_set {q:PA} {nc:Nat} {s s':PS} (hr:s.regs.length=32) {j:Nat} (hj:j<37) {v:Value} (hf:s'.f=s.f) (h2:s'.r=s.r) (hk:s'.k=s.k) (ha:s'.a=s.a)
  (h:(machL q.Ac nc q.cc q.gm s.regs s.at_ q.Ai s.inp.length q.ci q.Ao s.out.length q.co).set j v=machL q.Ac nc q.cc q.gm s'.regs s'.at_ q.Ai s'.inp.length q.ci q.Ao s'.out.length q.co):(pL q nc s).toArray.setIfInBounds j v=(pL q nc s').toArray:=by
 rw [List.setIfInBounds_toArray]; unfold pL
 rw [List.set_append_left _ _ (by rw [machL_len hr]; exact hj),h,hf,h2,hk,ha]
theorem splice_mid {P old new Q:List Value} (h:old.length=new.length):splice (P ++ (old ++ Q)).toArray P.length new=(P ++ (new ++ Q)).toArray:=by
 unfold splice
 congr 1
 rw [List.take_left,<- h,show P.length+old.length=(P ++ old).length by simp,<- List.append_assoc P old Q,List.drop_left,List.append_assoc]
structure PQ (m0:AM) (B g:Nat) (code:List Ins) (q0 q:PA) (m:AM) (s:PS):Prop where
 R:PipR m B g code s q
 fr:Fr m0 m (q0.fp g)
 kn:∀ k∈q.fp g,k∈q0.fp g\/m0 k=none
 gme:q.gm=q0.gm
 kc:0<code.length->∀ k∈obl q.Ac,m0 k≠none
theorem gfp {q:PA} {g:Nat}:g∈q.fp g:=by simp [PA.fp]
theorem PQ.of {m0:AM} {B g:Nat} {code:List Ins} {q:PA} {s:PS} (h:PipR m0 B g code s q):PQ m0 B g code q q m0 s:=⟨h,Fr.refl _ _,fun _ h=>.inl h,rfl,fun h0 k hk=>Reads_known h.hc h0 (by decide) k hk⟩
theorem PQ.le {m0 m m':AM} {B g:Nat} {code:List Ins} {s:PS} {q0 q:PA} (h:PQ m0 B g code q0 q m s) (hl:m.le m'):PQ m0 B g code q0 q m' s:=⟨h.R.le hl,h.fr.trans (Fr.of_le hl _) fun _ h=>.inl h,h.kn,h.gme,h.kc⟩
theorem PQ.trans {m0 m m':AM} {B g:Nat} {code:List Ins} {s s':PS} {q0 q q':PA} (h:PQ m0 B g code q0 q m s) (h':PQ m B g code q q' m' s') (hc:q'.Ac=q.Ac):PQ m0 B g code q0 q' m' s':=by
 refine ⟨h'.R,h.fr.trans h'.fr h.kn,fun k hk=>?_,h'.gme.trans h.gme,by rw [hc]; exact h.kc⟩
 rcases h'.kn k hk with h1 | h1
 .exact h.kn k h1
 .by_cases hin:k∈q0.fp g
  .exact .inl hin
  .cases hm:m0 k with
   | none=>exact .inr rfl
   | some o=>rw [h.fr k o hm hin] at h1; cases h1
def PPost (B:Nat) (m:AM) (g:Nat) (q:PA) (code:List Ins) (s:PS) (m':AM):Prop:=∃ q',q'.Ac=q.Ac/\PQ m B g code q q' m' s
theorem PQ.post {m0 m:AM} {B g:Nat} {code:List Ins} {s:PS} {q0 q:PA} (h:PQ m0 B g code q0 q m s) (hc:q.Ac=q0.Ac):PPost B m0 g q0 code s m:=⟨q,hc,h⟩
theorem PQ.upd {m0 m m':AM} {B g:Nat} {code:List Ins} {s s':PS} {q0 q:PA} (h:PQ m0 B g code q0 q m s) (hR:PipR m' B g code s' q) (hf:Fr m m' [g]):PQ m0 B g code q0 q m' s' :=
 ⟨hR,h.fr.trans hf fun k hk=>.inl (by simp at hk; rw [hk]; exact gfp),h.kn,h.gme,h.kc⟩
theorem PQ.foreign {m0 m:AM} {B g:Nat} {code:List Ins} {s:PS} {q0 q:PA} (h:PQ m0 B g code q0 q m s) {b:Nat} {c:Array Value} {t:TypeId} (hb:m b=some (.cells c t)) (h0:m0 b=none) (t1:t≠117) (t2:t≠149) (t3:t≠3) (o:Obj) :
  PQ m0 B g code q0 q (m.upd b o) s/\Fr m (m.upd b o) [b]:=by
 have hfr:Fr m (m.upd b o) [b]:=Fr.upd (Fr.refl _ _) (.inl (by simp)) _
 have hne:∀ {k:Nat} {c':Array Value} {t':TypeId},m k=some (.cells c' t')->t≠t'->k∉[b]:=fun {k c' t'} hk ht hin=>by
  simp at hin; subst hin; rw [hb] at hk; injection hk with hk; injection hk with _ h2; exact ht h2
 have hAc:0<code.length->∀ k∈obl q.Ac,k∉[b]:=fun h1 k hk hin=>by simp at hin; subst hin; exact h.kc h1 _ hk h0
 have hAi:0<s.inp.length->∀ k∈obl q.Ai,k∉[b]:=fun h1 k hk=>by
  obtain ⟨c',h'⟩:=h.R.ti h1 k hk
  exact hne h' t3
 have hOb:∀ {A:Option Addr} {n cp:Nat} {xs:List Value},Alog.Own m B 3 1 A n cp xs->∀ k∈obl A,k∉[b]:=fun ho k hk=>by
  obtain ⟨_,c',h'⟩:=ho.obl_some hk
  exact hne h' t3
 refine ⟨⟨⟨hfr _ _ h.R.hg (hne h.R.hg t1),h.R.hB,h.R.hr,Reads_fr h.R.hc hfr hAc,hfr _ _ h.R.hm (hne h.R.hm t2),h.R.hw.fr hfr (hOb h.R.hw),Reads_fr h.R.hi hfr hAi,h.R.hic,h.R.ho.fr hfr (hOb h.R.ho),h.R.dwo,h.R.dc,h.R.di,h.R.dm,fun h1 k hk=>(h.R.ti h1 k hk).imp fun _ e=>hfr _ _ e (hAi h1 k hk)⟩,?_,h.kn,h.gme,h.kc⟩,hfr⟩
 exact h.fr.trans hfr fun k hk=>.inr (by simp at hk; rw [hk]; exact h0)
theorem PQ.loc {m0 m:AM} {B g:Nat} {code:List Ins} {s:PS} {q0 q:PA} (h:PQ m0 B g code q0 q m s) {b k:Nat} {l:La} (l':La) (hp:m b=some (.cells l.vals.toArray 115)) (hB:B<=b) (h0:m0 b=none) {v:Value} (he:l.vals.set k v=l'.vals) (hk:k<12) {K:AM->Prop}
  (hK:∀ m',PQ m0 B g code q0 q m' s->m' b=some (.cells l'.vals.toArray 115)->Fr m m' [b]->K m'):StC B m ⟨b,k,none⟩ v K:=by
 refine StC_own hp hB (by simpa using hk) ?_
 rw [List.setIfInBounds_toArray,he]
 obtain ⟨h1,h2⟩:=h.foreign hp h0 (by decide) (by decide) (by decide) (.cells l'.vals.toArray 115)
 exact hK _ h1 upd_get_same h2
theorem PQ.putAt {m0 m:AM} {B g:Nat} {code:List Ins} {s:PS} {q0 q:PA} (h:PQ m0 B g code q0 q m s) (v:Int) {K:AM->Prop} (hK:∀ m',PQ m0 B g code q0 q m' { s with at_:=v }->Fr m m' [g]->K m'):StC B m ⟨g,34,none⟩ (.int .i64 v) K:=by
 refine StC_own h.R.hg h.R.hB (by rw [pL_size h.R.hr]; omega) ?_
 rw [pL_set (s':={ s with at_:=v }) h.R.hr (by omega) rfl rfl rfl rfl (machL_setat h.R.hr)]
 obtain ⟨h1,h2⟩:=h.R.put { s with at_:=v } h.R.hr rfl rfl rfl
 exact hK _ (h.upd h1 h2) h2
theorem PQ.putReg {m0 m:AM} {B g:Nat} {code:List Ins} {s:PS} {q0 q:PA} (h:PQ m0 B g code q0 q m s) {n:Int} (hn:0<=n/\n<32) (v:Int) {K:AM->Prop} (hK:∀ m',PQ m0 B g code q0 q m' { s with regs:=s.regs.set n.toNat v }->Fr m m' [g]->K m'):StC B m ((⟨g,2,none⟩:Addr).add (n.toNat*1)) (.int .i64 v) K:=by
 rw [addn,Nat.mul_one]
 refine StC_own h.R.hg h.R.hB (by rw [pL_size h.R.hr]; omega) ?_
 rw [pL_set (s':={ s with regs:=s.regs.set n.toNat v }) h.R.hr (by omega) rfl rfl rfl rfl (machL_setreg h.R.hr (by omega))]
 obtain ⟨h1,h2⟩:=h.R.put { s with regs:=s.regs.set n.toNat v } (by simp [h.R.hr]) rfl rfl rfl
 exact hK _ (h.upd h1 h2) h2
theorem PQ.put_f {m0 m:AM} {B g:Nat} {code:List Ins} {s:PS} {q0 q:PA} (h:PQ m0 B g code q0 q m s) (l:La) {K:AM->Prop} (hK:∀ m',PQ m0 B g code q0 q m' { s with f:=l }->Fr m m' [g]->K m') :
  StC B m ⟨g,37,none⟩ (.bool l.full) fun y0=>StC B y0 ⟨g,38,none⟩ (.int .i64 l.i.op) fun y1=>StC B y1 ⟨g,39,none⟩ (.int .i64 l.i.a) fun y2=>StC B y2 ⟨g,40,none⟩ (.int .i64 l.i.b) fun y3=>StC B y3 ⟨g,41,none⟩ (.int .i64 l.i.c) fun y4=>StC B y4 ⟨g,42,none⟩ (.int .i64 l.i.imm) fun y5=>StC B y5 ⟨g,43,none⟩ (.int .i64 l.at_) fun y6=>StC B y6 ⟨g,44,none⟩ (.int .i64 l.reg) fun y7=>StC B y7 ⟨g,45,none⟩ (.int .i64 l.value) fun y8=>StC B y8 ⟨g,46,none⟩ (.int .i64 l.stored) fun y9=>StC B y9 ⟨g,47,none⟩ (.int .i64 l.where_) fun y10=>StC B y10 ⟨g,48,none⟩ (.int .i64 l.trap) fun y11=>K y11:=by
 refine st12 (k:=37) h.R.hg h.R.hB (by rw [pL_size h.R.hr]; omega) ?_
 have e:splice (pL q code.length s).toArray 37 l.vals=(pL q code.length { s with f:=l }).toArray:=by
  have hP:(machL q.Ac code.length q.cc q.gm s.regs s.at_ q.Ai s.inp.length q.ci q.Ao s.out.length q.co ++ ([])).length=37:=by rw [List.length_append,machL_len h.R.hr]; rfl
  have:=splice_mid (P:=machL q.Ac code.length q.cc q.gm s.regs s.at_ q.Ai s.inp.length q.ci q.Ao s.out.length q.co ++ ([])) (old:=s.f.vals) (new:=l.vals) (Q:=s.r.vals ++ (s.k.vals ++ s.a.vals)) rfl
  rw [hP] at this
  unfold pL
  simpa only [List.append_assoc,List.append_nil,List.nil_append] using this
 rw [show splice (pL q code.length s).toArray 37 [.bool l.full,.int .i64 l.i.op,.int .i64 l.i.a,.int .i64 l.i.b,.int .i64 l.i.c,.int .i64 l.i.imm,.int .i64 l.at_,.int .i64 l.reg,.int .i64 l.value,.int .i64 l.stored,.int .i64 l.where_,.int .i64 l.trap]=(pL q code.length { s with f:=l }).toArray from e]
 obtain ⟨h1,h2⟩:=h.R.put { s with f:=l } h.R.hr rfl rfl rfl
 exact hK _ (h.upd h1 h2) h2
theorem PQ.put_r {m0 m:AM} {B g:Nat} {code:List Ins} {s:PS} {q0 q:PA} (h:PQ m0 B g code q0 q m s) (l:La) {K:AM->Prop} (hK:∀ m',PQ m0 B g code q0 q m' { s with r:=l }->Fr m m' [g]->K m') :
  StC B m ⟨g,49,none⟩ (.bool l.full) fun y0=>StC B y0 ⟨g,50,none⟩ (.int .i64 l.i.op) fun y1=>StC B y1 ⟨g,51,none⟩ (.int .i64 l.i.a) fun y2=>StC B y2 ⟨g,52,none⟩ (.int .i64 l.i.b) fun y3=>StC B y3 ⟨g,53,none⟩ (.int .i64 l.i.c) fun y4=>StC B y4 ⟨g,54,none⟩ (.int .i64 l.i.imm) fun y5=>StC B y5 ⟨g,55,none⟩ (.int .i64 l.at_) fun y6=>StC B y6 ⟨g,56,none⟩ (.int .i64 l.reg) fun y7=>StC B y7 ⟨g,57,none⟩ (.int .i64 l.value) fun y8=>StC B y8 ⟨g,58,none⟩ (.int .i64 l.stored) fun y9=>StC B y9 ⟨g,59,none⟩ (.int .i64 l.where_) fun y10=>StC B y10 ⟨g,60,none⟩ (.int .i64 l.trap) fun y11=>K y11:=by
 refine st12 (k:=49) h.R.hg h.R.hB (by rw [pL_size h.R.hr]; omega) ?_
 have e:splice (pL q code.length s).toArray 49 l.vals=(pL q code.length { s with r:=l }).toArray:=by
  have hP:(machL q.Ac code.length q.cc q.gm s.regs s.at_ q.Ai s.inp.length q.ci q.Ao s.out.length q.co ++ (s.f.vals)).length=49:=by rw [List.length_append,machL_len h.R.hr]; rfl
  have:=splice_mid (P:=machL q.Ac code.length q.cc q.gm s.regs s.at_ q.Ai s.inp.length q.ci q.Ao s.out.length q.co ++ (s.f.vals)) (old:=s.r.vals) (new:=l.vals) (Q:=s.k.vals ++ s.a.vals) rfl
  rw [hP] at this
  unfold pL
  simpa only [List.append_assoc,List.append_nil,List.nil_append] using this
 rw [show splice (pL q code.length s).toArray 49 [.bool l.full,.int .i64 l.i.op,.int .i64 l.i.a,.int .i64 l.i.b,.int .i64 l.i.c,.int .i64 l.i.imm,.int .i64 l.at_,.int .i64 l.reg,.int .i64 l.value,.int .i64 l.stored,.int .i64 l.where_,.int .i64 l.trap]=(pL q code.length { s with r:=l }).toArray from e]
 obtain ⟨h1,h2⟩:=h.R.put { s with r:=l } h.R.hr rfl rfl rfl
 exact hK _ (h.upd h1 h2) h2
theorem PQ.put_k {m0 m:AM} {B g:Nat} {code:List Ins} {s:PS} {q0 q:PA} (h:PQ m0 B g code q0 q m s) (l:La) {K:AM->Prop} (hK:∀ m',PQ m0 B g code q0 q m' { s with k:=l }->Fr m m' [g]->K m') :
  StC B m ⟨g,61,none⟩ (.bool l.full) fun y0=>StC B y0 ⟨g,62,none⟩ (.int .i64 l.i.op) fun y1=>StC B y1 ⟨g,63,none⟩ (.int .i64 l.i.a) fun y2=>StC B y2 ⟨g,64,none⟩ (.int .i64 l.i.b) fun y3=>StC B y3 ⟨g,65,none⟩ (.int .i64 l.i.c) fun y4=>StC B y4 ⟨g,66,none⟩ (.int .i64 l.i.imm) fun y5=>StC B y5 ⟨g,67,none⟩ (.int .i64 l.at_) fun y6=>StC B y6 ⟨g,68,none⟩ (.int .i64 l.reg) fun y7=>StC B y7 ⟨g,69,none⟩ (.int .i64 l.value) fun y8=>StC B y8 ⟨g,70,none⟩ (.int .i64 l.stored) fun y9=>StC B y9 ⟨g,71,none⟩ (.int .i64 l.where_) fun y10=>StC B y10 ⟨g,72,none⟩ (.int .i64 l.trap) fun y11=>K y11:=by
 refine st12 (k:=61) h.R.hg h.R.hB (by rw [pL_size h.R.hr]; omega) ?_
 have e:splice (pL q code.length s).toArray 61 l.vals=(pL q code.length { s with k:=l }).toArray:=by
  have hP:(machL q.Ac code.length q.cc q.gm s.regs s.at_ q.Ai s.inp.length q.ci q.Ao s.out.length q.co ++ (s.f.vals ++ s.r.vals)).length=61:=by rw [List.length_append,machL_len h.R.hr]; rfl
  have:=splice_mid (P:=machL q.Ac code.length q.cc q.gm s.regs s.at_ q.Ai s.inp.length q.ci q.Ao s.out.length q.co ++ (s.f.vals ++ s.r.vals)) (old:=s.k.vals) (new:=l.vals) (Q:=s.a.vals) rfl
  rw [hP] at this
  unfold pL
  simpa only [List.append_assoc,List.append_nil,List.nil_append] using this
 rw [show splice (pL q code.length s).toArray 61 [.bool l.full,.int .i64 l.i.op,.int .i64 l.i.a,.int .i64 l.i.b,.int .i64 l.i.c,.int .i64 l.i.imm,.int .i64 l.at_,.int .i64 l.reg,.int .i64 l.value,.int .i64 l.stored,.int .i64 l.where_,.int .i64 l.trap]=(pL q code.length { s with k:=l }).toArray from e]
 obtain ⟨h1,h2⟩:=h.R.put { s with k:=l } h.R.hr rfl rfl rfl
 exact hK _ (h.upd h1 h2) h2
theorem PQ.put_a {m0 m:AM} {B g:Nat} {code:List Ins} {s:PS} {q0 q:PA} (h:PQ m0 B g code q0 q m s) (l:La) {K:AM->Prop} (hK:∀ m',PQ m0 B g code q0 q m' { s with a:=l }->Fr m m' [g]->K m') :
  StC B m ⟨g,73,none⟩ (.bool l.full) fun y0=>StC B y0 ⟨g,74,none⟩ (.int .i64 l.i.op) fun y1=>StC B y1 ⟨g,75,none⟩ (.int .i64 l.i.a) fun y2=>StC B y2 ⟨g,76,none⟩ (.int .i64 l.i.b) fun y3=>StC B y3 ⟨g,77,none⟩ (.int .i64 l.i.c) fun y4=>StC B y4 ⟨g,78,none⟩ (.int .i64 l.i.imm) fun y5=>StC B y5 ⟨g,79,none⟩ (.int .i64 l.at_) fun y6=>StC B y6 ⟨g,80,none⟩ (.int .i64 l.reg) fun y7=>StC B y7 ⟨g,81,none⟩ (.int .i64 l.value) fun y8=>StC B y8 ⟨g,82,none⟩ (.int .i64 l.stored) fun y9=>StC B y9 ⟨g,83,none⟩ (.int .i64 l.where_) fun y10=>StC B y10 ⟨g,84,none⟩ (.int .i64 l.trap) fun y11=>K y11:=by
 refine st12 (k:=73) h.R.hg h.R.hB (by rw [pL_size h.R.hr]; omega) ?_
 have e:splice (pL q code.length s).toArray 73 l.vals=(pL q code.length { s with a:=l }).toArray:=by
  have hP:(machL q.Ac code.length q.cc q.gm s.regs s.at_ q.Ai s.inp.length q.ci q.Ao s.out.length q.co ++ (s.f.vals ++ s.r.vals ++ s.k.vals)).length=73:=by rw [List.length_append,machL_len h.R.hr]; rfl
  have:=splice_mid (P:=machL q.Ac code.length q.cc q.gm s.regs s.at_ q.Ai s.inp.length q.ci q.Ao s.out.length q.co ++ (s.f.vals ++ s.r.vals ++ s.k.vals)) (old:=s.a.vals) (new:=l.vals) (Q:=[]) rfl
  rw [hP] at this
  unfold pL
  simpa only [List.append_assoc,List.append_nil,List.nil_append] using this
 rw [show splice (pL q code.length s).toArray 73 [.bool l.full,.int .i64 l.i.op,.int .i64 l.i.a,.int .i64 l.i.b,.int .i64 l.i.c,.int .i64 l.i.imm,.int .i64 l.at_,.int .i64 l.reg,.int .i64 l.value,.int .i64 l.stored,.int .i64 l.where_,.int .i64 l.trap]=(pL q code.length { s with a:=l }).toArray from e]
 obtain ⟨h1,h2⟩:=h.R.put { s with a:=l } h.R.hr rfl rfl rfl
 exact hK _ (h.upd h1 h2) h2
theorem PQ.locAll {m0 m:AM} {B g:Nat} {code:List Ins} {s:PS} {q0 q:PA} (h:PQ m0 B g code q0 q m s) {b:Nat} {l:La} (l':La) (hp:m b=some (.cells l.vals.toArray 115)) (hB:B<=b) (h0:m0 b=none) {K:AM->Prop}
  (hK:∀ m',PQ m0 B g code q0 q m' s->m' b=some (.cells l'.vals.toArray 115)->Fr m m' [b]->K m') :
  StC B m ⟨b,0,none⟩ (.bool l'.full) fun y0=>StC B y0 ⟨b,1,none⟩ (.int .i64 l'.i.op) fun y1=>StC B y1 ⟨b,2,none⟩ (.int .i64 l'.i.a) fun y2=>StC B y2 ⟨b,3,none⟩ (.int .i64 l'.i.b) fun y3=>StC B y3 ⟨b,4,none⟩ (.int .i64 l'.i.c) fun y4=>StC B y4 ⟨b,5,none⟩ (.int .i64 l'.i.imm) fun y5=>StC B y5 ⟨b,6,none⟩ (.int .i64 l'.at_) fun y6=>StC B y6 ⟨b,7,none⟩ (.int .i64 l'.reg) fun y7=>StC B y7 ⟨b,8,none⟩ (.int .i64 l'.value) fun y8=>StC B y8 ⟨b,9,none⟩ (.int .i64 l'.stored) fun y9=>StC B y9 ⟨b,10,none⟩ (.int .i64 l'.where_) fun y10=>StC B y10 ⟨b,11,none⟩ (.int .i64 l'.trap) fun y11=>K y11:=by
 refine st12a hp hB (by simp) ?_
 obtain ⟨h1,h2⟩:=h.foreign hp h0 (by decide) (by decide) (by decide) (.cells l'.vals.toArray 115)
 exact hK _ h1 upd_get_same h2
theorem keepB {m m':AM} {b c:Nat} {o:Obj} (hf:Fr m m' [c]) (hp:m b=some o) (hne:b≠c):m' b=some o:=hf _ _ hp (by simpa using hne)
theorem PQ.notin {m0 m:AM} {B g:Nat} {code:List Ins} {s:PS} {q0 q:PA} (h:PQ m0 B g code q0 q m s) {b:Nat} {c:Array Value} (hb:m b=some (.cells c 115)):b∉q.fp g:=by
 intro hin
 simp only [PA.fp,List.mem_cons,List.mem_append] at hin
 rcases hin with rfl | hin | hin
 .rw [h.R.hg] at hb; injection hb with hb; injection hb with _ h2; exact absurd h2 (by decide)
 .exact h.R.hw.obl_ne hb (by decide) hin
 .exact h.R.ho.obl_ne hb (by decide) hin
theorem PQ.neg {m0 m:AM} {B g:Nat} {code:List Ins} {s:PS} {q0 q:PA} (h:PQ m0 B g code q0 q m s) {b:Nat} {c:Array Value} (hb:m b=some (.cells c 115)):b≠g:=fun e=>h.notin hb (by rw [e]; exact gfp)
def earlyP (n:Int) (l:La) (regs:List Int):Int:=if n≠0/\l.full=true/\l.reg=n/\lateP l.i=false then l.value else regOf regs n
theorem early_spec (w0:World) (m:AM) (n:Int) (hn:0<=n/\n<32) (l:La) (regs:List Int) :
  CallsA Tryz.prog w0 134 #[.int .i64 n,l.val,.agg (arr32 regs)] m (fun r m'=>r=.int .i64 (earlyP n l regs)/\m'=m):=by
 refine cf134 w0 m _ _ _ _ _ _ _ _ _ _ _ _ _ _ _ _ _ _ _ _ _ _ _ _ _ _ _ _ _ _ _ _ _ _ _ _ _ _ _ _ _ _ _ _ _ _ ?_
 intro b1 hb1 hm1 m2
 have l1:m.le m2:=le_new hm1 _
 have p1:m2 b1=some (.cells l.vals.toArray 115):=upd_get_same
 clear_value m2
 intro b3 hb3 hm3 m4
 have l3:m2.le m4:=le_new hm3 _
 have p3:m4 b3=some (.cells (arr32 regs) 108):=upd_get_same
 have q1:=l3 _ _ p1
 clear_value m4
 have L:=AM.le_trans l1 l3
 have reg:∀ m',m4.le m'->∀ v,v=earlyP n l regs->∀ (R:Value->AM->Prop),R=(fun r m'=>r=.int .i64 (earlyP n l regs)/\m'=m)->RetP R (.int .i64 v) m':=by
  intro m' l' v hv R hR
  rw [hR]
  exact ⟨m,AM.le_trans L l',by rw [hv],rfl⟩
 have ld:∀ m',m4.le m'->m'.cell ((⟨b3,0,none⟩:Addr).add (n.toNat*1))=some (.int .i64 (regOf regs n)):=by
  intro m' l'
  rw [addn,Nat.mul_one,Nat.zero_add]
  exact cel (l' _ _ p3) (arr32_get regs hn)
 refine ⟨rfl,bcI (fun h0=>?_) fun h0=>?_⟩
 .refine ⟨_,cel q1 rfl,bcI (fun hf=>?_) fun hf=>?_⟩
  .refine ⟨_,cel q1 rfl,rfl,bcI (fun hr=>?_) fun hr=>?_⟩
   .refine ⟨_,cel q1 rfl,_,cel q1 rfl,_,cel q1 rfl,_,cel q1 rfl,_,cel q1 rfl,?_⟩
    refine CallsA.mono (late_spec w0 m4 l.i) ?_
    rintro r m5 ⟨rfl,l5⟩
    refine ⟨_,rfl,bcI (fun ht=>?_) fun ht=>?_⟩
    .refine ⟨_,cel (l5 _ _ q1) rfl,reg m5 l5 _ ?_ _ rfl⟩
     simp [h0,hf] at hr ht
     simp at h0
     unfold earlyP
     rw [if_pos]; simp_all
    .refine ⟨⟨hn.1,hn.2⟩,_,ld m5 l5,reg m5 l5 _ ?_ _ rfl⟩
     simp [h0,hf] at hr ht
     simp at h0
     unfold earlyP
     rw [if_neg]; intro hh; simp_all
   .refine ⟨hr,⟨hn.1,hn.2⟩,_,ld m4 (AM.le_refl _),reg m4 (AM.le_refl _) _ ?_ _ rfl⟩
    simp [h0,hf] at hr
    simp at h0
    unfold earlyP
    rw [if_neg]; intro hh; simp_all
  .refine ⟨hf,rfl,⟨hn.1,hn.2⟩,_,ld m4 (AM.le_refl _),reg m4 (AM.le_refl _) _ ?_ _ rfl⟩
   simp [h0] at hf
   unfold earlyP
   rw [if_neg]; intro hh; simp_all
 .refine ⟨h0,rfl,rfl,⟨hn.1,hn.2⟩,_,ld m4 (AM.le_refl _),reg m4 (AM.le_refl _) _ ?_ _ rfl⟩
  simp at h0
  unfold earlyP
  rw [if_neg]; intro hh; simp_all
theorem with_spec (w0:World) (m:AM) (g:Nat) (code:List Ins) (s:PS) (q:PA) (n v:Int) (hn:0<=n/\n<32) (h:PipR m w0.heap.size g code s q) :
  CallsA Tryz.prog w0 167 #[.pointer (some ⟨g,0,none⟩),.int .i64 n,.int .i64 v] m (fun r m'=>r=.agg (arr32 (s.regs.set n.toNat v))/\m'=m):=by
 refine cf167 w0 m g n v _ ?_
 intro b1 hb1 hm1 m2
 have l1:m.le m2:=le_new hm1 _
 have p1:m2 b1=some (.cells _ _):=upd_get_same
 clear_value m2
 have h2:=h.le l1
 refine ⟨_,h2.reg' 0 (by decide),_,h2.reg' 1 (by decide),_,h2.reg' 2 (by decide),_,h2.reg' 3 (by decide),_,h2.reg' 4 (by decide),_,h2.reg' 5 (by decide),_,h2.reg' 6 (by decide),_,h2.reg' 7 (by decide),_,h2.reg' 8 (by decide),_,h2.reg' 9 (by decide),_,h2.reg' 10 (by decide),_,h2.reg' 11 (by decide),_,h2.reg' 12 (by decide),_,h2.reg' 13 (by decide),_,h2.reg' 14 (by decide),_,h2.reg' 15 (by decide),_,h2.reg' 16 (by decide),_,h2.reg' 17 (by decide),_,h2.reg' 18 (by decide),_,h2.reg' 19 (by decide),_,h2.reg' 20 (by decide),_,h2.reg' 21 (by decide),_,h2.reg' 22 (by decide),_,h2.reg' 23 (by decide),_,h2.reg' 24 (by decide),_,h2.reg' 25 (by decide),_,h2.reg' 26 (by decide),_,h2.reg' 27 (by decide),_,h2.reg' 28 (by decide),_,h2.reg' 29 (by decide),_,h2.reg' 30 (by decide),_,h2.reg' 31 (by decide),?_⟩
 intro b35 hb35 hm35 m36
 have l3:m2.le m36:=le_new hm35 _
 have p35:m36 b35=some (.cells _ _):=upd_get_same
 have q1:=l3 _ _ p1
 clear_value m36
 have ne:b1≠b35:=fun e=>by subst e; rw [p1] at hm35; cases hm35
 refine st32a p35 hb35 (by simp) ?_
 have l4:m2.le (m36.upd b35 (.cells (arr32 s.regs) 108)):=fun x o hx=>by
  have:x≠b35:=fun e=>by subst e; rw [hm35] at hx; cases hx
  rw [upd_get_ne this]; exact l3 _ _ hx
 refine (show (fun m68=>(0<=n/\n<32)/\StC w0.heap.size m68 ((⟨b35,0,none⟩:Addr).add (n.toNat*1)) (.int .i64 v) _) (m36.upd b35 (.cells (arr32 s.regs) 108)) from ?_)
 refine ⟨hn,?_⟩
 rw [addn,Nat.mul_one,Nat.zero_add]
 refine StC_own upd_get_same hb35 (by simp; omega) ?_
 rw [arr32_set _ h.hr (by omega)]
 generalize hM:(m36.upd b35 (.cells (arr32 s.regs) 108)).upd b35 (.cells (arr32 (s.regs.set n.toNat v)) 108)=M
 have pM:M b35=some (.cells (arr32 (s.regs.set n.toNat v)) 108):=by rw [<- hM]; exact upd_get_same
 have pM1:M b1=m36 b1:=by rw [<- hM,upd_get_ne ne,upd_get_ne ne]
 rw [q1] at pM1
 have lM:m.le M:=fun x o hx=>by
  have:x≠b35:=fun e=>by subst e; rw [l1 _ _ hx] at hm35; cases hm35
  rw [<- hM,upd_get_ne this,upd_get_ne this]; exact l3 _ _ (l1 _ _ hx)
 refine ⟨_,cel pM rfl,_,cel pM rfl,_,cel pM rfl,_,cel pM rfl,_,cel pM rfl,_,cel pM rfl,_,cel pM rfl,_,cel pM rfl,_,cel pM rfl,_,cel pM rfl,_,cel pM rfl,_,cel pM rfl,_,cel pM rfl,_,cel pM rfl,_,cel pM rfl,_,cel pM rfl,_,cel pM rfl,_,cel pM rfl,_,cel pM rfl,_,cel pM rfl,_,cel pM rfl,_,cel pM rfl,_,cel pM rfl,_,cel pM rfl,_,cel pM rfl,_,cel pM rfl,_,cel pM rfl,_,cel pM rfl,_,cel pM rfl,_,cel pM rfl,_,cel pM rfl,_,cel pM rfl,?_⟩
 refine st32a pM1 hb1 (by simp) ?_
 have pF:(M.upd b1 (.cells (arr32 (s.regs.set n.toNat v)) 108)) b1=some (.cells (arr32 (s.regs.set n.toNat v)) 108):=upd_get_same
 have lF:m.le (M.upd b1 (.cells (arr32 (s.regs.set n.toNat v)) 108)):=fun x o hx=>by
  have:x≠b1:=fun e=>by subst e; rw [hx] at hm1; cases hm1
  rw [upd_get_ne this]; exact lM _ _ hx
 generalize M.upd b1 (.cells (arr32 (s.regs.set n.toNat v)) 108)=MF at pF lF ⊢
 refine ⟨_,cel pF rfl,_,cel pF rfl,_,cel pF rfl,_,cel pF rfl,_,cel pF rfl,_,cel pF rfl,_,cel pF rfl,_,cel pF rfl,_,cel pF rfl,_,cel pF rfl,_,cel pF rfl,_,cel pF rfl,_,cel pF rfl,_,cel pF rfl,_,cel pF rfl,_,cel pF rfl,_,cel pF rfl,_,cel pF rfl,_,cel pF rfl,_,cel pF rfl,_,cel pF rfl,_,cel pF rfl,_,cel pF rfl,_,cel pF rfl,_,cel pF rfl,_,cel pF rfl,_,cel pF rfl,_,cel pF rfl,_,cel pF rfl,_,cel pF rfl,_,cel pF rfl,_,cel pF rfl,?_⟩
 exact ⟨m,lF,rfl,rfl⟩
def nowP (s:PS) (n:Int):Int:=if n≠0/\s.a.full=true/\s.a.reg=n then earlyP n s.k (s.regs.set n.toNat s.a.value) else earlyP n s.k s.regs
theorem now_spec (w0:World) (m:AM) (g:Nat) (code:List Ins) (s:PS) (q:PA) (n:Int) (hn:0<=n/\n<32) (h:PipR m w0.heap.size g code s q) :
  CallsA Tryz.prog w0 135 #[.pointer (some ⟨g,0,none⟩),.int .i64 n] m (fun r m'=>r=.int .i64 (nowP s n)/\m'=m):=by
 generalize hR:(fun (r:Value) (m':AM)=>r=.int .i64 (nowP s n)/\m'=m)=R
 refine cf135 w0 m g n _ ?_
 dsimp only [cf135,mkF]
 have low:∀ (m':AM) (σ:Sg),m'=m->σ 0=.pointer (some ⟨g,0,none⟩)->σ 1=.int .i64 n->¬ (n≠0/\s.a.full=true/\s.a.reg=n)->(∀ m,m=m'->(XV w0 F135 (Tz R) 7 σ m)):=by
  intro m' σ hm h0 h1 hno m hm2
  subst hm2
  subst hm
  refine vk135_11 w0 m σ R g n h0 h1 ?_
  refine ⟨_,h.hi' 24,_,h.hi' 25,_,h.hi' 26,_,h.hi' 27,_,h.hi' 28,_,h.hi' 29,_,h.hi' 30,_,h.hi' 31,_,h.hi' 32,_,h.hi' 33,_,h.hi' 34,_,h.hi' 35,_,h.reg' 0 (by decide),_,h.reg' 1 (by decide),_,h.reg' 2 (by decide),_,h.reg' 3 (by decide),_,h.reg' 4 (by decide),_,h.reg' 5 (by decide),_,h.reg' 6 (by decide),_,h.reg' 7 (by decide),_,h.reg' 8 (by decide),_,h.reg' 9 (by decide),_,h.reg' 10 (by decide),_,h.reg' 11 (by decide),_,h.reg' 12 (by decide),_,h.reg' 13 (by decide),_,h.reg' 14 (by decide),_,h.reg' 15 (by decide),_,h.reg' 16 (by decide),_,h.reg' 17 (by decide),_,h.reg' 18 (by decide),_,h.reg' 19 (by decide),_,h.reg' 20 (by decide),_,h.reg' 21 (by decide),_,h.reg' 22 (by decide),_,h.reg' 23 (by decide),_,h.reg' 24 (by decide),_,h.reg' 25 (by decide),_,h.reg' 26 (by decide),_,h.reg' 27 (by decide),_,h.reg' 28 (by decide),_,h.reg' 29 (by decide),_,h.reg' 30 (by decide),_,h.reg' 31 (by decide),?_⟩
  refine CallsA.mono (early_spec w0 m n hn s.k s.regs) ?_
  rintro r m2 ⟨rfl,h2⟩
  refine ⟨_,rfl,retP_of ?_⟩
  rw [<- hR]
  refine ⟨?_,h2⟩
  unfold nowP
  rw [if_neg hno]
 refine ⟨rfl,bcI (fun c0=>?_) fun c0=>?_⟩
 .refine ⟨_,h.hi' 36,bcI (fun cf=>?_) fun cf=>?_⟩
  .refine ⟨_,h.hi' 43,rfl,bcI (fun cr=>?_) fun cr=>?_⟩
   .refine ⟨_,h.hi' 24,_,h.hi' 25,_,h.hi' 26,_,h.hi' 27,_,h.hi' 28,_,h.hi' 29,_,h.hi' 30,_,h.hi' 31,_,h.hi' 32,_,h.hi' 33,_,h.hi' 34,_,h.hi' 35,_,h.hi' 44,?_⟩
    refine ⟨(s.regs.set n.toNat s.a.value).getD 0 0,(s.regs.set n.toNat s.a.value).getD 1 0,(s.regs.set n.toNat s.a.value).getD 2 0,(s.regs.set n.toNat s.a.value).getD 3 0,(s.regs.set n.toNat s.a.value).getD 4 0,(s.regs.set n.toNat s.a.value).getD 5 0,(s.regs.set n.toNat s.a.value).getD 6 0,(s.regs.set n.toNat s.a.value).getD 7 0,(s.regs.set n.toNat s.a.value).getD 8 0,(s.regs.set n.toNat s.a.value).getD 9 0,(s.regs.set n.toNat s.a.value).getD 10 0,(s.regs.set n.toNat s.a.value).getD 11 0,(s.regs.set n.toNat s.a.value).getD 12 0,(s.regs.set n.toNat s.a.value).getD 13 0,(s.regs.set n.toNat s.a.value).getD 14 0,(s.regs.set n.toNat s.a.value).getD 15 0,(s.regs.set n.toNat s.a.value).getD 16 0,(s.regs.set n.toNat s.a.value).getD 17 0,(s.regs.set n.toNat s.a.value).getD 18 0,(s.regs.set n.toNat s.a.value).getD 19 0,(s.regs.set n.toNat s.a.value).getD 20 0,(s.regs.set n.toNat s.a.value).getD 21 0,(s.regs.set n.toNat s.a.value).getD 22 0,(s.regs.set n.toNat s.a.value).getD 23 0,(s.regs.set n.toNat s.a.value).getD 24 0,(s.regs.set n.toNat s.a.value).getD 25 0,(s.regs.set n.toNat s.a.value).getD 26 0,(s.regs.set n.toNat s.a.value).getD 27 0,(s.regs.set n.toNat s.a.value).getD 28 0,(s.regs.set n.toNat s.a.value).getD 29 0,(s.regs.set n.toNat s.a.value).getD 30 0,(s.regs.set n.toNat s.a.value).getD 31 0,CallsA.mono (with_spec w0 m g code s q n s.a.value hn h) ?_,?_⟩
    .rintro r m2 ⟨rfl,h2⟩
     exact ⟨rfl,h2⟩
    refine CallsA.mono (early_spec w0 m n hn s.k (s.regs.set n.toNat s.a.value)) ?_
    rintro r m2 ⟨rfl,h2⟩
    refine ⟨_,rfl,retP_of ?_⟩
    rw [<- hR]
    refine ⟨?_,h2⟩
    unfold nowP
    rw [if_pos]
    simp at c0
    simp_all
   .refine low _ _ rfl rfl rfl ?_ _ rfl
    simp at c0
    simp_all
  .refine ⟨cf,?_⟩
   refine low _ _ rfl rfl rfl ?_ _ rfl
   simp at c0
   simp_all
 .refine ⟨c0,rfl,?_⟩
  refine low _ _ rfl rfl rfl ?_ _ rfl
  simp at c0
  simp_all
theorem PQ.setMem {m0 m:AM} {B g:Nat} {code:List Ins} {s:PS} {q0 q:PA} (hQ:PQ m0 B g code q0 q m s) {ad:Addr} (hA:q.Aw=some ad) {k:Nat} (hk:k<s.mem.length) (v:Int) {K:AM->Prop}
  (hK:∀ m',PQ m0 B g code q0 q m' { s with mem:=s.mem.set k v }->Fr m m' (q.fp g)->K m'):StC B m (ad.add (k*1)) (.int .i64 v) K:=by
 have h:=hQ.R
 have hw:=h.hw
 rw [intCells_flat,hA] at hw
 refine Own.storeRow (f:=fun x=>[Value.int .i64 x]) (sz:=1) (fun _=>rfl) hw hk v (K:=K) (fun gA cur hA' ho=>?_)
 subst hA'
 have hw':=h.hw
 have hgin:gA∈q.fp g:=by simp [PA.fp,hA,obl]
 have hgne:g≠gA:=fun e=>by subst e; exact h.hw.ne_type h.hg (by decide) 0 hA
 have hfr:Fr m (m.upd gA (.cells cur 3)) (q.fp g):=Fr.upd (Fr.refl _ _) (.inl hgin) _
 refine hK _ ⟨⟨by rw [upd_get_ne hgne]; exact h.hg,h.hB,h.hr,Reads_fr h.hc hfr h.dc,?_,?_,Reads_fr h.hi hfr h.di,h.hic,?_,h.dwo,h.dc,h.di,h.dm,fun h0 k hk=>(h.ti h0 k hk).imp fun _ e=>hfr _ _ e (h.di h0 k hk)⟩,hQ.fr.trans hfr hQ.kn,hQ.kn,hQ.gme,hQ.kc⟩ hfr
 .rw [List.length_set]; exact hfr _ _ h.hm h.dm
 .rw [intCells_flat,hA]; exact ho
 .refine h.ho.upd fun off hA'=>?_
  refine h.dwo gA (by simp [obl,hA]) ?_
  rw [hA']; simp [obl]
theorem store_pip (w0:World) (m:AM) (g:Nat) (code:List Ins) (s:PS) (q:PA) (h:PipR m w0.heap.size g code s q) (a v:Int) :
  CallsA Tryz.prog w0 128 #[.pointer (some ⟨q.gm,0,none⟩),.int .i64 a,.int .i64 v] m (fun r m'=>r=.bool (decide (0<=a/\a<s.mem.length))/\PQ m w0.heap.size g code q q m' (if 0<=a/\a<s.mem.length then { s with mem:=s.mem.set a.toNat (w32 v) } else s)):=by
 have hQ:=PQ.of h
 refine cf128 w0 m q.gm a v _ ?_
 refine CallsA.mono (there_spec w0 m q.gm q.Aw _ q.cw h.hm a) ?_
 rintro r m1 ⟨rfl,rfl⟩
 refine ⟨_,rfl,?_⟩
 by_cases hin:0<=a/\a<s.mem.length
 .simp only [decide_eq_true hin,Bool.not_true,bcase_f,if_pos hin]
  obtain ⟨ad,hA,_⟩:=h.hw.ex (by omega)
  have hlt:a.toNat<s.mem.length:=by omega
  have st:StC w0.heap.size m1 (ad.add (a.toNat*1)) (.int .i64 (w32 v)) (fun m'=>PQ m1 w0.heap.size g code q q m' { s with mem:=s.mem.set a.toNat (w32 v) }):=hQ.setMem hA hlt (w32 v) fun m' h' hf=>h'
  refine vr128_110 w0 m1 _ _ q.gm a v (fun m'=>PQ m1 w0.heap.size g code q q m' { s with mem:=s.mem.set a.toNat (w32 v) }) rfl rfl rfl ?_ ?_
  .refine ⟨?_,?_⟩
   .simp only [cell_of h.hm,std_all,sto_all,Nat.reduceAdd,Nat.reduceLT,LI_,LB_,LA_,SI_,pt_,KI_,I_,SJ_,S_,LT_,LS_,LC_,LU_,LV_,RB_,RI_,RS_,N_,T_,SE_,hA]
    refine CallsA.mono (wrapW w0 m1 v) ?_
    rintro r m2 ⟨rfl,rfl⟩
    exact ⟨_,rfl,hin.1,hin.2,st⟩
   .refine CallsA.mono (wrapW w0 m1 v) ?_
    rintro r m2 ⟨rfl,rfl⟩
    simp only [cell_of h.hm,std_all,sto_all,Nat.reduceAdd,Nat.reduceLT,LI_,LB_,LA_,SI_,pt_,KI_,I_,SJ_,S_,LT_,LS_,LC_,LU_,LV_,RB_,RI_,RS_,N_,T_,SE_,hA]
    exact ⟨hin.1,hin.2,st⟩
  .intro σ m2 hp
   exact retP_of ⟨rfl,hp⟩
 .simp only [decide_eq_false hin,Bool.not_false,bcase_t,if_neg hin]
  exact retP_of ⟨rfl,hQ⟩
theorem PQ.putIn {m0 m:AM} {B g:Nat} {code:List Ins} {s:PS} {q0 q:PA} (hQ:PQ m0 B g code q0 q m s) {x:Int} {r:List Int} (hin:s.inp=x :: r) {K:AM->Prop}
  (hK:∀ m' q',q'.Ac=q.Ac->PQ m0 B g code q0 q' m' { s with inp:=r }->Fr m m' [g]->K m') :
  StC B m ⟨g,35,none⟩ (.slice (if q.ci=(1:Int).toNat then q.Ai else Option.map (fun x=>Addr.add x ((1:Int).toNat*1)) q.Ai) (s.inp.length-(1:Int).toNat) (q.ci-(1:Int).toNat)) K:=by
 have h:=hQ.R
 have e1:(1:Int).toNat=1:=rfl
 rw [e1]
 refine StC_own h.hg h.hB (by rw [pL_size h.hr]; omega) ?_
 have hl:s.inp.length=r.length+1:=by rw [hin]; rfl
 rw [show s.inp.length-1=r.length by omega]
 have he:(pL q code.length s).toArray.setIfInBounds 35 (.slice (if q.ci=1 then q.Ai else Option.map (fun x=>Addr.add x (1*1)) q.Ai) r.length (q.ci-1))=(pL { q with Ai:=(if q.ci=1 then q.Ai else Option.map (fun x=>Addr.add x (1*1)) q.Ai),ci:=q.ci-1 } code.length { s with inp:=r }).toArray:=by
  rw [List.setIfInBounds_toArray]; unfold pL
  rw [List.set_append_left _ _ (by rw [machL_len h.hr]; omega),machL_setin h.hr]
 rw [he]
 obtain ⟨ai,hai,hc⟩:=h.hi.ex (by omega)
 have hob:obl (if q.ci=1 then q.Ai else Option.map (fun x=>Addr.add x (1*1)) q.Ai)=obl q.Ai:=by
  split
  .rfl
  .rw [hai]; simp [obl,add_block]
 generalize hAi':(if q.ci=1 then q.Ai else Option.map (fun x=>Addr.add x (1*1)) q.Ai)=Ai' at hob
 have hfr:Fr m (m.upd g (.cells (pL ({ q with Ai:=Ai',ci:=q.ci-1 }:PA) code.length { s with inp:=r }).toArray 117)) [g]:=Fr.upd (Fr.refl _ _) (.inl (by simp)) _
 have hfp:({ q with Ai:=Ai',ci:=q.ci-1 }:PA).fp g=q.fp g:=by rfl
 have gno:∀ k,k∈[g]->k∈q.fp g:=fun k hk=>by simp at hk; rw [hk]; exact gfp
 have hR:PipR (m.upd g (.cells (pL ({ q with Ai:=Ai',ci:=q.ci-1 }:PA) code.length { s with inp:=r }).toArray 117)) B g code { s with inp:=r } ({ q with Ai:=Ai',ci:=q.ci-1 }:PA):=by
  refine ⟨upd_get_same,h.hB,h.hr,?_,?_,?_,?_,?_,?_,?_,?_,?_,?_,?_⟩
  .exact Reads_fr h.hc hfr fun h0 k hk hin=>h.dc h0 k hk (gno k hin)
  .exact hfr _ _ h.hm fun hin=>h.dm (gno _ hin)
  .exact (h.hw.fr hfr (fun k hk hin=>by
    simp at hin; subst hin; exact h.hw.obl_ne h.hg (by decide) hk))
  .refine Reads_fr (m:=m) ?_ hfr (fun _=>by
    intro k hk hin2
    exact h.di (by omega) k (by rw [<- hob]; exact hk) (gno k hin2))
   refine ⟨by simp [intCells],?_⟩
   by_cases h1:q.ci=1
   .have:r = []:=List.eq_nil_of_length_eq_zero (by have:=h.hic; omega)
    subst this
    exact .inr ⟨ai,by rw [<- hAi',if_pos h1,hai],fun j u hu=>by simp [intCells] at hu⟩
   .refine .inr ⟨ai.add 1,by rw [<- hAi',if_neg h1,hai]; rfl,fun j u hu=>?_⟩
    rw [add_add]
    refine hc (1+j) u ?_
    rw [hin,Nat.add_comm]
    simpa [intCells] using hu
  .have:=h.hic; show r.length<=q.ci-1; omega
  .exact (h.ho.fr hfr (fun k hk hin=>by
    simp at hin; subst hin; exact h.ho.obl_ne h.hg (by decide) hk))
  .exact h.dwo
  .rw [hfp]; exact h.dc
  .intro _; rw [hfp,hob]; exact h.di (by omega)
  .rw [hfp]; exact h.dm
  .exact fun h0 k hk=>(h.ti (by omega) k (by rw [<- hob]; exact hk)).imp fun _ e=>hfr _ _ e fun hin=>h.di (by omega) k (by rw [<- hob]; exact hk) (gno k hin)
 refine hK _ ({ q with Ai:=Ai',ci:=q.ci-1 }:PA) (rfl) ⟨hR,hQ.fr.trans hfr fun k hk=>hQ.kn k (gno k hk),by rw [hfp]; exact hQ.kn,by exact hQ.gme,by exact hQ.kc⟩ hfr
theorem PQ.putOut {m0:AM} {g:Nat} {code:List Ins} {s:PS} {q0 q:PA} {w0:World} {m:AM} (hQ:PQ m0 w0.heap.size g code q0 q m s) (v:Int) (hlen:s.out.length<10000) {K:Nat->Option Addr->Nat->Nat->AM->Prop}
  (hK:∀ b A n c m' q',q'.Ac=q.Ac->PQ m0 w0.heap.size g code q0 q' m' { s with out:=s.out ++ [v] }->(∀ b c,m b=some (.cells c 115)->m' b=some (.cells c 115))->K b A n c m') :
  ∀ b:Nat,w0.heap.size<=b->m b=none->let m1:=AM.upd m b (.cells #[.int .i64 v] 3);
   awp Tryz.prog w0.heap.size (Builtin.append_ #[33,33] 33 #[.slice q.Ao s.out.length q.co,.slice (some ⟨b,0,none⟩) 1 1]) m1 fun v106 m107=>∃ (A:Option Addr) (n c:Nat),v106=.slice A n c/\StC w0.heap.size m107 ⟨g,36,none⟩ (.slice A n c) (K b A n c):=by
 intro b hb hmb
 have lb:=le_new hmb (.cells [Value.int .i64 v].toArray 3)
 have hbQ:=hQ.le lb
 have hbM:=hbQ.R
 have h:=hQ.R
 have hrd:Reads (m.upd b (.cells [Value.int .i64 v].toArray 3)) 1 (some ⟨b,0,none⟩) 1 [Value.int .i64 v]:=Reads.lit rfl
 refine awp_append_own el33 hbM.ho hrd (by intro u hu; simp at hu; subst hu; rfl) (by omega) (by omega) (fun g2 cp' cur hor hB2 ho2=>?_) (fun h0=>by omega)
 refine ⟨_,_,_,rfl,?_⟩
 have hgg:g≠g2:=fun e=>by
  subst e
  rcases hor with h' | h'
  .exact hbM.ho.ne_type hbM.hg (by decide) 0 h'
  .rw [hbM.hg] at h'; cases h'
 have kn:∀ k,(∀ k'∈obl q.Ao,k≠k')->(m.upd b (.cells [Value.int .i64 v].toArray 3)) k≠none->k≠g2:=fun k h1 h2 e=>by
  subst e
  rcases hor with h' | h'
  .exact h1 k (by rw [h']; simp [obl]) rfl
  .exact h2 h'
 have hfr:Fr (m.upd b (.cells [Value.int .i64 v].toArray 3)) ((m.upd b (.cells [Value.int .i64 v].toArray 3)).upd g2 (.cells cur 3)) (obl q.Ao):=by
  refine Fr.upd (Fr.refl _ _) ?_ _
  rcases hor with h' | h'
  .left; rw [h']; simp [obl]
  .right; exact h'
 have hAoFp:∀ k∈obl q.Ao,k∈q.fp g:=fun k hk=>by simp [PA.fp,hk]
 refine StC_own (c:=(pL q code.length s).toArray) (t:=117) (by rw [upd_get_ne hgg]; exact hbM.hg) h.hB (by rw [pL_size h.hr]; omega) ?_
 have he:(pL q code.length s).toArray.setIfInBounds 36 (.slice (some ⟨g2,0,none⟩) (s.out.length+1) cp')=(pL { q with Ao:=some ⟨g2,0,none⟩,co:=cp' } code.length { s with out:=s.out ++ [v] }).toArray:=by
  rw [List.setIfInBounds_toArray]; unfold pL
  rw [List.set_append_left _ _ (by rw [machL_len h.hr]; omega),machL_setout h.hr,List.length_append]; rfl
 rw [he]
 generalize hm1:(m.upd b (.cells [Value.int .i64 v].toArray 3)).upd g2 (.cells cur 3)=m1 at hfr ho2
 have hfr2:Fr m1 (m1.upd g (.cells (pL ({ q with Ao:=some ⟨g2,0,none⟩,co:=cp' }:PA) code.length { s with out:=s.out ++ [v] }).toArray 117)) [g]:=Fr.upd (Fr.refl _ _) (.inl (by simp)) _
 have hg1:m1 g=some (.cells (pL q code.length s).toArray 117):=by rw [<- hm1,upd_get_ne hgg]; exact hbM.hg
 have gno:∀ k,k∈[g]->k∈q.fp g:=fun k hk=>by simp at hk; rw [hk]; exact gfp
 have hfp':({ q with Ao:=some ⟨g2,0,none⟩,co:=cp' }:PA).fp g=g :: (obl q.Aw ++ [g2]):=by rfl
 have sub:∀ {k},k∈({ q with Ao:=some ⟨g2,0,none⟩,co:=cp' }:PA).fp g->k∈q.fp g\/k=g2:=by
  intro k hk
  rw [hfp'] at hk
  simp only [List.mem_cons,List.mem_append,List.not_mem_nil,or_false] at hk
  rcases hk with rfl | hk | rfl
  .exact .inl gfp
  .exact .inl (by simp [PA.fp,hk])
  .exact .inr rfl
 have hR:PipR (m1.upd g (.cells (pL ({ q with Ao:=some ⟨g2,0,none⟩,co:=cp' }:PA) code.length { s with out:=s.out ++ [v] }).toArray 117)) w0.heap.size g code { s with out:=s.out ++ [v] } ({ q with Ao:=some ⟨g2,0,none⟩,co:=cp' }:PA):=by
  refine ⟨upd_get_same,h.hB,h.hr,?_,?_,?_,?_,?_,?_,?_,?_,?_,?_,?_⟩
  .exact Reads_fr (Reads_fr hbM.hc hfr fun h0 k hk hin=>h.dc h0 k hk (hAoFp k hin)) hfr2 fun h0 k hk hin=>h.dc h0 k hk (gno k hin)
  .exact hfr2 _ _ (hfr _ _ hbM.hm fun hin=>h.dm (hAoFp _ hin)) fun hin=>h.dm (gno _ hin)
  .exact (hbM.hw.fr hfr h.dwo).upd ((hbM.hw.fr hfr h.dwo).ne_type hg1 (by decide))
  .exact Reads_fr (Reads_fr hbM.hi hfr fun h0 k hk hin=>h.di h0 k hk (hAoFp k hin)) hfr2 fun h0 k hk hin=>h.di h0 k hk (gno k hin)
  .exact h.hic
  .have h9:=ho2.upd (ho2.ne_type hg1 (by decide)) (o:=.cells (pL ({ q with Ao:=some ⟨g2,0,none⟩,co:=cp' }:PA) code.length { s with out:=s.out ++ [v] }).toArray 117)
   simpa [intCells] using h9
  .intro k hk hin
   simp [obl] at hin
   obtain ⟨_,cur',hk'⟩:=hbM.hw.obl_some hk
   exact kn k (fun k' hk2 e=>h.dwo k hk (e ▸ hk2)) (by rw [hk']; simp) hin
  .intro h0 k hk hin
   have hk:k∈obl q.Ac:=hk
   rcases sub hin with hin | hin
   .exact h.dc h0 _ hk hin
   .exact kn k (fun k' hk2 e=>h.dc h0 k hk (hAoFp k (e ▸ hk2))) (Reads_known hbM.hc h0 (by decide) k hk) hin
  .intro h0 k hk hin
   have hk:k∈obl q.Ai:=hk
   rcases sub hin with hin | hin
   .exact h.di h0 _ hk hin
   .exact kn k (fun k' hk2 e=>h.di h0 k hk (hAoFp k (e ▸ hk2))) (Reads_known hbM.hi h0 (by decide) k hk) hin
  .intro hin
   have e:({ q with Ao:=some ⟨g2,0,none⟩,co:=cp' }:PA).gm=q.gm:=rfl
   rw [e] at hin
   rcases sub hin with hin | hin
   .exact h.dm hin
   .exact kn q.gm (fun k' hk2 e=>h.dm (hAoFp q.gm (e ▸ hk2))) (by rw [hbM.hm]; simp) hin
  .exact fun h0 k hk=>(hbM.ti h0 k hk).imp fun _ e=>hfr2 _ _ (hfr _ _ e fun hin=>h.di h0 k hk (hAoFp k hin)) fun hin=>h.di h0 k hk (gno k hin)
 refine hK _ _ _ _ _ ({ q with Ao:=some ⟨g2,0,none⟩,co:=cp' }:PA) (rfl) ⟨hR,?_,?_,by exact hQ.gme,by exact hQ.kc⟩ ?_
 .exact (hbQ.fr.trans (hfr.mono hAoFp) hQ.kn).trans (hfr2.mono gno) hQ.kn
 .intro k hk
  rcases sub hk with h' | h'
  .exact hQ.kn k h'
  .subst h'
   rcases hor with h' | h'
   .exact hQ.kn _ (hAoFp _ (by rw [h']; simp [obl]))
   .by_cases hin:k∈q0.fp g
    .exact .inl hin
    .right
     cases hm0:m0 k with
     | none=>rfl
     | some o=>rw [hbQ.fr k o hm0 hin] at h'; cases h'
 .intro x c hx
  have hx':=lb _ _ hx
  have n1:x∉q.fp g:=hQ.notin hx
  exact hfr2 _ _ (hfr _ _ hx' fun hin=>n1 (hAoFp _ hin)) fun hin=>n1 (gno _ hin)
def writeP (s:PS):PS:={ s with regs:=if s.a.full=true/\s.a.reg≠0 then s.regs.set s.a.reg.toNat s.a.value else s.regs,a:=La0 }
theorem write_spec (w0:World) (m:AM) (g:Nat) (code:List Ins) (s:PS) (q:PA) (hn:0<=s.a.reg/\s.a.reg<32) (h:PipR m w0.heap.size g code s q) :
  CallsA Tryz.prog w0 83 #[.pointer (some ⟨g,0,none⟩)] m (fun r m'=>r=.tuple #[]/\PPost w0.heap.size m g q code (writeP s) m'):=by
 refine cf83 w0 m g _ ?_
 refine ⟨_,h.hi' 36,_,h.hi' 37,_,h.hi' 38,_,h.hi' 39,_,h.hi' 40,_,h.hi' 41,_,h.hi' 42,_,h.hi' 43,_,h.hi' 44,_,h.hi' 45,_,h.hi' 46,_,h.hi' 47,?_⟩
 refine new12 fun b m1 hb hm l1 p1=>?_
 have Q:PQ m w0.heap.size g code q q m1 s:=(PQ.of h).le l1
 unfold writeP
 refine ⟨_,cel p1 rfl,bcI (fun hf=>⟨_,cel p1 rfl,rfl,bcI (fun hr=>?_) fun hr=>?_⟩) fun hf=>?_⟩
 .refine ⟨_,cel p1 rfl,_,cel p1 rfl,hn,Q.putReg hn _ fun m2 Q2 _=>⟨rfl,Q2.put_a La0 fun m3 Q3 _=>retP_of ⟨rfl,?_⟩⟩⟩
  rw [if_pos (by simp [hf] at hr; exact ⟨hf,hr⟩)]
  exact Q3.post rfl
 .refine ⟨rfl,Q.put_a La0 fun m3 Q3 _=>retP_of ⟨rfl,?_⟩⟩
  rw [if_neg (by simp [hf] at hr; simp [hr])]
  exact Q3.post rfl
 .refine ⟨hf,rfl,Q.put_a La0 fun m3 Q3 _=>retP_of ⟨rfl,?_⟩⟩
  rw [if_neg (by simp [hf])]
  exact Q3.post rfl
def sysL (s:PS) (l:La):PS × La :=
 if l.i.imm=0 then (s,{ l with trap:=1 })
 else if l.i.imm=1 then match s.inp with
  | []=>(s,{ l with trap:=6 })
  | x :: r=>({ s with inp:=r },{ l with value:=w32 x })
 else if l.i.imm=2 then (if s.out.length>=10000 then (s,{ l with trap:=9 }) else ({ s with out:=s.out ++ [l.stored] },l))
 else (s,l)
theorem psys_spec (w0:World) (m:AM) (g:Nat) (code:List Ins) (s:PS) (q:PA) (l:La) (h:PipR m w0.heap.size g code s q) :
  CallsA Tryz.prog w0 133 #[.pointer (some ⟨g,0,none⟩),l.val] m (fun r m'=>r=(sysL s l).2.val/\PPost w0.heap.size m g q code (sysL s l).1 m'):=by
 generalize hR:(fun (r:Value) (m':AM)=>r=(sysL s l).2.val/\PPost w0.heap.size m g q code (sysL s l).1 m')=R
 refine cf133 w0 m g _ _ _ _ _ _ _ _ _ _ _ _ R ?_
 intro b1 hb1 hm1 m2
 have l1:m.le m2:=le_new hm1 _
 have p1:m2 b1=some (.cells l.vals.toArray 115):=upd_get_same
 clear_value m2
 intro b3 hb3 hm3 m4
 have l3:m2.le m4:=le_new hm3 _
 have p3:m4 b3=some (.cells La0.vals.toArray 115):=upd_get_same
 have q1:=l3 _ _ p1
 clear_value m4
 have ne:b1≠b3:=fun e=>by subst e; rw [p1] at hm3; cases hm3
 have hm3':m b3=none:=AM.le_none l1 hm3
 have Q:PQ m w0.heap.size g code q q m4 s:=((PQ.of h).le l1).le l3
 have fin:∀ (m5:AM) (s':PS) (q':PA) (l':La) (σ:Sg),q'.Ac=q.Ac->PQ m w0.heap.size g code q q' m5 s'->m5 b1=some (.cells l'.vals.toArray 115)->m5 b3=some (.cells La0.vals.toArray 115)->sysL s l=(s',l') ->
   StC w0.heap.size m5 ⟨b3,0,none⟩ (.bool l'.full) fun y0=>StC w0.heap.size y0 ⟨b3,1,none⟩ (.int .i64 l'.i.op) fun y1=>StC w0.heap.size y1 ⟨b3,2,none⟩ (.int .i64 l'.i.a) fun y2=>StC w0.heap.size y2 ⟨b3,3,none⟩ (.int .i64 l'.i.b) fun y3=>StC w0.heap.size y3 ⟨b3,4,none⟩ (.int .i64 l'.i.c) fun y4=>StC w0.heap.size y4 ⟨b3,5,none⟩ (.int .i64 l'.i.imm) fun y5=>StC w0.heap.size y5 ⟨b3,6,none⟩ (.int .i64 l'.at_) fun y6=>StC w0.heap.size y6 ⟨b3,7,none⟩ (.int .i64 l'.reg) fun y7=>StC w0.heap.size y7 ⟨b3,8,none⟩ (.int .i64 l'.value) fun y8=>StC w0.heap.size y8 ⟨b3,9,none⟩ (.int .i64 l'.stored) fun y9=>StC w0.heap.size y9 ⟨b3,10,none⟩ (.int .i64 l'.where_) fun y10=>StC w0.heap.size y10 ⟨b3,11,none⟩ (.int .i64 l'.trap) fun y11=>∃ t0:Bool,y11.cell ⟨b3,0,none⟩=some (.bool t0)/\∃ i1:Int,y11.cell ⟨b3,1,none⟩=some (.int .i64 i1)/\∃ i2:Int,y11.cell ⟨b3,2,none⟩=some (.int .i64 i2)/\∃ i3:Int,y11.cell ⟨b3,3,none⟩=some (.int .i64 i3)/\∃ i4:Int,y11.cell ⟨b3,4,none⟩=some (.int .i64 i4)/\∃ i5:Int,y11.cell ⟨b3,5,none⟩=some (.int .i64 i5)/\∃ i6:Int,y11.cell ⟨b3,6,none⟩=some (.int .i64 i6)/\∃ i7:Int,y11.cell ⟨b3,7,none⟩=some (.int .i64 i7)/\∃ i8:Int,y11.cell ⟨b3,8,none⟩=some (.int .i64 i8)/\∃ i9:Int,y11.cell ⟨b3,9,none⟩=some (.int .i64 i9)/\∃ i10:Int,y11.cell ⟨b3,10,none⟩=some (.int .i64 i10)/\∃ i11:Int,y11.cell ⟨b3,11,none⟩=some (.int .i64 i11)/\RetP R (.agg #[.bool t0,.int .i64 i1,.int .i64 i2,.int .i64 i3,.int .i64 i4,.int .i64 i5,.int .i64 i6,.int .i64 i7,.int .i64 i8,.int .i64 i9,.int .i64 i10,.int .i64 i11]) y11:=by
  intro m5 s' q' l' σ hc Q5 p15 p35 hs
  refine Q5.locAll l' p35 hb3 hm3' fun m6 Q6 p6 _=>?_
  refine ⟨_,cel p6 rfl,_,cel p6 rfl,_,cel p6 rfl,_,cel p6 rfl,_,cel p6 rfl,_,cel p6 rfl,_,cel p6 rfl,_,cel p6 rfl,_,cel p6 rfl,_,cel p6 rfl,_,cel p6 rfl,_,cel p6 rfl,retP_of ?_⟩
  rw [<- hR,hs]
  exact ⟨rfl,Q6.post hc⟩
 have fin2:∀ (m5:AM) (s':PS) (q':PA) (l':La) (σ:Sg),q'.Ac=q.Ac->PQ m w0.heap.size g code q q' m5 s'->m5 b1=some (.cells l'.vals.toArray 115)->m5 b3=some (.cells La0.vals.toArray 115)->sysL s l=(s',l')->σ 3=.pointer (some ⟨b1,0,none⟩)->σ 4=.pointer (some ⟨b3,0,none⟩)->∀ m,m=m5->(XV w0 F133 (Tz R) 7 σ m):=by
  intro m5 s' q' l' σ hc Q5 p15 p35 hs h3 h4 m hm
  subst hm
  refine vk133_11 w0 m σ R b1 b3 h3 h4 ?_
  refine ⟨_,cel p15 rfl,_,cel p15 rfl,_,cel p15 rfl,_,cel p15 rfl,_,cel p15 rfl,_,cel p15 rfl,_,cel p15 rfl,_,cel p15 rfl,_,cel p15 rfl,_,cel p15 rfl,_,cel p15 rfl,_,cel p15 rfl,?_⟩
  exact fin m s' q' l' σ hc Q5 p15 p35 hs
 refine ⟨_,cel q1 rfl,rfl,bcI (fun h0=>?_) fun h0=>⟨rfl,bcI (fun h1=>?_) fun h1=>⟨rfl,bcI (fun h2=>?_) fun h2=>?_⟩⟩⟩
 .refine Q.loc { l with trap:=1 } q1 hb1 hm1 rfl (by omega) fun m5 Q5 p5 f5=>?_
  exact fin2 m5 _ q _ _ rfl Q5 p5 (keepB f5 p3 ne.symm) (by unfold sysL; rw [if_pos (by simpa using h0)]) rfl rfl _ rfl
 .have n0:l.i.imm≠0:=by simpa using h0
  have e1:l.i.imm=1:=by simpa using h1
  refine ⟨_,_,_,Q.R.cells.2.2.2.1,rfl,bcI (fun hl=>?_) fun hl=>?_⟩
  .refine Q.loc { l with trap:=6 } q1 hb1 hm1 rfl (by omega) fun m5 Q5 p5 f5=>?_
   have hi:s.inp = []:=List.eq_nil_of_length_eq_zero (by simpa using hl)
   refine ⟨_,cel p5 rfl,_,cel p5 rfl,_,cel p5 rfl,_,cel p5 rfl,_,cel p5 rfl,_,cel p5 rfl,_,cel p5 rfl,_,cel p5 rfl,_,cel p5 rfl,_,cel p5 rfl,_,cel p5 rfl,_,cel p5 rfl,?_⟩
   exact fin m5 s q { l with trap:=6 } (fun _=>.bool false) rfl Q5 p5 (keepB f5 p3 ne.symm) (by unfold sysL; rw [if_neg n0,if_pos e1,hi])
  .obtain ⟨x,r,hi⟩:∃ x r,s.inp=x :: r:=by
    cases hs:s.inp with
    | nil=>rw [hs] at hl; exact absurd hl (by decide)
    | cons x r=>exact ⟨x,r,rfl⟩
   have hl2:1<=s.inp.length:=by rw [hi]; simp
   obtain ⟨ai,hai,hci⟩:=Q.R.hi.ex (by omega)
   have hx:m4.cell (ai.add 0)=some (.int .i64 x):=hci 0 _ (by rw [hi]; rfl)
   refine ⟨_,_,_,Q.R.cells.2.2.2.1,⟨by decide,by omega⟩,?_⟩
   rw [hai,nilO_some]
   refine ⟨_,hx,?_⟩
   refine CallsA.mono (wrapW w0 m4 x) ?_
   rintro r' m5 ⟨rfl,hm5⟩
   subst hm5
   refine ⟨_,rfl,?_⟩
   refine Q.loc { l with value:=w32 x } q1 hb1 hm1 rfl (by omega) fun m6 Q6 p6 f6=>?_
   refine ⟨_,_,_,Q6.R.cells.2.2.2.1,by decide,Q6.R.hic,hl2,?_⟩
   refine Q6.putIn hi fun m7 q7 hc7 Q7 f7=>?_
   exact fin2 m7 _ q7 _ _ hc7 Q7 (keepB f7 p6 (Q6.neg p6)) (keepB f7 (keepB f6 p3 ne.symm) (Q6.neg (keepB f6 p3 ne.symm))) (by unfold sysL; rw [if_neg n0,if_pos e1,hi]) rfl rfl _ rfl
 .have n0:l.i.imm≠0:=by simpa using h0
  have n1:l.i.imm≠1:=by simpa using h1
  have e2:l.i.imm=2:=by simpa using h2
  refine ⟨_,_,_,Q.R.cells.2.2.2.2,rfl,bcI (fun hl=>?_) fun hl=>?_⟩
  .refine Q.loc { l with trap:=9 } q1 hb1 hm1 rfl (by omega) fun m5 Q5 p5 f5=>?_
   have hl':s.out.length>=10000:=by have:=of_decide_eq_true hl; omega
   refine ⟨_,cel p5 rfl,_,cel p5 rfl,_,cel p5 rfl,_,cel p5 rfl,_,cel p5 rfl,_,cel p5 rfl,_,cel p5 rfl,_,cel p5 rfl,_,cel p5 rfl,_,cel p5 rfl,_,cel p5 rfl,_,cel p5 rfl,?_⟩
   exact fin m5 s q { l with trap:=9 } (fun _=>.bool false) rfl Q5 p5 (keepB f5 p3 ne.symm) (by unfold sysL; rw [if_neg n0,if_neg n1,if_pos e2,if_pos hl'])
  .have hl':¬ s.out.length>=10000:=by have:=of_decide_eq_false hl; omega
   refine ⟨_,_,_,Q.R.cells.2.2.2.2,_,cel q1 rfl,rfl,?_⟩
   refine Q.putOut l.stored (by omega) fun _ _ _ _ m5 q5 hc5 Q5 k5=>?_
   exact fin2 m5 _ q5 _ _ hc5 Q5 (k5 _ _ q1) (k5 _ _ p3) (by unfold sysL; rw [if_neg n0,if_neg n1,if_pos e2,if_neg hl']) rfl rfl _ rfl
 .have n0:l.i.imm≠0:=by simpa using h0
  have n1:l.i.imm≠1:=by simpa using h1
  have n2:l.i.imm≠2:=by simpa using h2
  exact fin2 m4 s q l _ rfl Q q1 p3 (by unfold sysL; rw [if_neg n0,if_neg n1,if_neg n2]) rfl rfl _ rfl
def pactP (s:PS):PS × Int :=
 let l:=s.k
 let s1:PS:={ s with k:=La0 }
 if l.full=false\/l.trap≠0 then (s1,l.trap)
 else if l.i.op=12 then (if 0<=l.where_/\l.where_<s.mem.length then ({ s1 with a:={ l with value:=s.mem.getD l.where_.toNat 0 } },l.trap) else (s1,3))
 else if l.i.op=13 then (if 0<=l.where_/\l.where_<s.mem.length then ({ s1 with mem:=s.mem.set l.where_.toNat (w32 l.stored),a:=l },l.trap) else (s1,3))
 else if l.i.op=20 then ({ (sysL s1 l).1 with a:=(sysL s1 l).2 },(sysL s1 l).2.trap)
 else ({ s1 with a:=l },l.trap)
theorem pact_spec (w0:World) (m:AM) (g:Nat) (code:List Ins) (s:PS) (q:PA) (h:PipR m w0.heap.size g code s q) :
  CallsA Tryz.prog w0 84 #[.pointer (some ⟨g,0,none⟩)] m (fun r m'=>r=.int .i64 (pactP s).2/\PPost w0.heap.size m g q code (pactP s).1 m'):=by
 generalize hR:(fun (r:Value) (m':AM)=>r=.int .i64 (pactP s).2/\PPost w0.heap.size m g q code (pactP s).1 m')=R
 refine cf84 w0 m g R ?_
 refine ⟨_,h.hi' 24,_,h.hi' 25,_,h.hi' 26,_,h.hi' 27,_,h.hi' 28,_,h.hi' 29,_,h.hi' 30,_,h.hi' 31,_,h.hi' 32,_,h.hi' 33,_,h.hi' 34,_,h.hi' 35,?_⟩
 refine new12 fun b m1 hb hm l1 p1=>?_
 have p1:m1 b=some (.cells s.k.vals.toArray 115):=p1
 have Q1:PQ m w0.heap.size g code q q m1 s:=(PQ.of h).le l1
 refine ⟨rfl,Q1.put_k La0 fun m2 Q2 f2=>?_⟩
 have p2:=keepB f2 p1 (Q1.neg p1)
 generalize hl:s.k=l at p2
 generalize hs1:({ s with k:=La0 }:PS)=s1 at Q2
 have fin:∀ (m5:AM) (s':PS) (q':PA) (l':La) (σ:Sg),q'.Ac=q.Ac->PQ m w0.heap.size g code q q' m5 s'->m5 b=some (.cells l'.vals.toArray 115)->pactP s=({ s' with a:=l' },l'.trap)->σ 0=.pointer (some ⟨g,0,none⟩)->σ 3=.pointer (some ⟨b,0,none⟩)->∀ m,m=m5->(XV w0 F84 (Tz R) 63 σ m):=by
  intro m5 s' q' l' σ hc Q5 p5 hs h0 h3 m hm
  subst hm
  refine vk84_11111 w0 m σ R g b h0 h3 ?_
  refine ⟨_,cel p5 rfl,_,cel p5 rfl,_,cel p5 rfl,_,cel p5 rfl,_,cel p5 rfl,_,cel p5 rfl,_,cel p5 rfl,_,cel p5 rfl,_,cel p5 rfl,_,cel p5 rfl,_,cel p5 rfl,_,cel p5 rfl,?_⟩
  refine Q5.put_a l' fun m6 Q6 f6=>?_
  refine ⟨_,cel (keepB f6 p5 (Q5.neg p5)) rfl,retP_of ?_⟩
  rw [<- hR,hs]
  exact ⟨rfl,Q6.post hc⟩
 have eP:¬ (l.full=false\/l.trap≠0)->pactP s=(if l.i.op=12 then (if 0<=l.where_/\l.where_<s.mem.length then ({ s1 with a:={ l with value:=s.mem.getD l.where_.toNat 0 } },l.trap) else (s1,3))
   else if l.i.op=13 then (if 0<=l.where_/\l.where_<s.mem.length then ({ s1 with mem:=s.mem.set l.where_.toNat (w32 l.stored),a:=l },l.trap) else (s1,3))
   else if l.i.op=20 then ({ (sysL s1 l).1 with a:=(sysL s1 l).2 },(sysL s1 l).2.trap)
   else ({ s1 with a:=l },l.trap)):=fun hh=>by
  unfold pactP
  simp only [hl,hs1]
  rw [if_neg hh,<- hs1]
 have eN:(l.full=false\/l.trap≠0)->pactP s=(s1,l.trap):=fun hh=>by
  unfold pactP
  simp only [hl,hs1]
  rw [if_pos hh]
 have hmem:s1.mem=s.mem:=by rw [<- hs1]
 refine ⟨_,cel p2 rfl,bcI (fun hf=>?_) fun hf=>⟨_,cel p2 rfl,rfl,bcI (fun ht=>?_) fun ht=>?_⟩⟩
 .refine ⟨hf,_,cel p2 rfl,retP_of ?_⟩
  rw [<- hR,eN (.inl (by simpa using hf))]
  exact ⟨rfl,Q2.post rfl⟩
 .refine ⟨_,cel p2 rfl,retP_of ?_⟩
  rw [<- hR,eN (.inr (by simp [hf] at ht; exact ht))]
  exact ⟨rfl,Q2.post rfl⟩
 have hgo:¬ (l.full=false\/l.trap≠0):=by
  simp at hf
  simp [hf] at ht
  simp [hf,ht]
 refine ⟨_,cel p2 rfl,rfl,bcI (fun h12=>?_) fun h12=>⟨rfl,bcI (fun h13=>?_) fun h13=>⟨rfl,bcI (fun h20=>?_) fun h20=>?_⟩⟩⟩
 .have e12:l.i.op=12:=by simpa using h12
  refine ⟨_,Q2.R.cells.2.1,_,cel p2 rfl,?_⟩
  refine CallsA.mono (load_mem w0 m2 w0.heap.size q.gm q.Aw s1.mem q.cw Q2.R.hm Q2.R.hw l.where_) ?_
  rintro r m3 ⟨rfl,hm3⟩
  subst hm3
  refine ⟨_,_,rfl,?_⟩
  rw [hmem]
  by_cases hin:0<=l.where_/\l.where_<s.mem.length
  .rw [decide_eq_true hin,if_pos hin]
   refine bcEF rfl ?_
   refine Q2.loc { l with value:=s.mem.getD l.where_.toNat 0 } p2 hb hm rfl (by omega) fun m4 Q4 p4 f4=>?_
   exact fin m4 s1 q _ _ rfl Q4 p4 (by rw [eP hgo,if_pos e12,if_pos hin]) rfl rfl _ rfl
  .rw [decide_eq_false hin,if_neg hin]
   refine bcET rfl (retP_of ?_)
   rw [<- hR,eP hgo,if_pos e12,if_neg hin]
   exact ⟨rfl,Q2.post rfl⟩
 .have n12:l.i.op≠12:=by simpa using h12
  have e13:l.i.op=13:=by simpa using h13
  refine ⟨_,Q2.R.cells.2.1,_,cel p2 rfl,_,cel p2 rfl,?_⟩
  refine CallsA.mono (store_pip w0 m2 g code s1 q Q2.R l.where_ l.stored) ?_
  rintro r m3 ⟨rfl,Q3⟩
  refine ⟨_,rfl,?_⟩
  rw [hmem] at Q3 ⊢
  have Q23:=Q2.trans Q3 rfl
  have p3:=Q3.fr _ _ p2 (Q2.notin p2)
  by_cases hin:0<=l.where_/\l.where_<s.mem.length
  .rw [decide_eq_true hin]
   rw [if_pos hin] at Q23
   refine bcEF rfl ?_
   exact fin m3 _ q l _ rfl Q23 p3 (by rw [eP hgo,if_neg n12,if_pos e13,if_pos hin]) rfl rfl _ rfl
  .rw [decide_eq_false hin]
   rw [if_neg hin] at Q23
   refine bcET rfl (retP_of ?_)
   rw [<- hR,eP hgo,if_neg n12,if_pos e13,if_neg hin]
   exact ⟨rfl,Q23.post rfl⟩
 .have n12:l.i.op≠12:=by simpa using h12
  have n13:l.i.op≠13:=by simpa using h13
  have e20:l.i.op=20:=by simpa using h20
  refine ⟨_,cel p2 rfl,_,cel p2 rfl,_,cel p2 rfl,_,cel p2 rfl,_,cel p2 rfl,_,cel p2 rfl,_,cel p2 rfl,_,cel p2 rfl,_,cel p2 rfl,_,cel p2 rfl,_,cel p2 rfl,_,cel p2 rfl,?_⟩
  refine CallsA.mono (psys_spec w0 m2 g code s1 q l Q2.R) ?_
  rintro r m3 ⟨rfl,q3,hc3,Q3⟩
  have Q23:=Q2.trans Q3 hc3
  have p3:=Q3.fr _ _ p2 (Q2.notin p2)
  refine ⟨_,_,_,_,_,_,_,_,_,_,_,_,rfl,?_⟩
  refine Q23.locAll (sysL s1 l).2 p3 hb hm fun m4 Q4 p4 f4=>?_
  exact fin m4 _ q3 _ _ hc3 Q4 p4 (by rw [eP hgo,if_neg n12,if_neg n13,if_pos e20]) rfl rfl _ rfl
 .have n12:l.i.op≠12:=by simpa using h12
  have n13:l.i.op≠13:=by simpa using h13
  have n20:l.i.op≠20:=by simpa using h20
  exact fin m2 s1 q l _ rfl Q2 p2 (by rw [eP hgo,if_neg n12,if_neg n13,if_neg n20]) rfl rfl _ rfl
def nextF (s:PS) (l:La):Int :=
 let n:=IntKind.wrap .i64 (s.at_+1)
 if l.full=false\/l.trap≠0 then n
 else if l.i.op=15\/l.i.op=16 then (if (nowP s l.i.a == nowP s l.i.b) == (l.i.op == 15) then IntKind.wrap .i64 (IntKind.wrap .i64 (l.at_+1)+l.i.imm) else n)
 else if l.i.op=17\/l.i.op=18 then l.i.imm
 else if l.i.op=19 then nowP s l.i.a
 else n
def decideP (s:PS):PS × Int :=
 let s1:PS:={ s with f:=La0,r:=s.f }
 (s1,nextF s1 s.f)
theorem decide_spec (w0:World) (m:AM) (g:Nat) (code:List Ins) (s:PS) (q:PA) (hw:s.f.full=true->s.f.trap=0->InR s.f.i) (h:PipR m w0.heap.size g code s q) :
  CallsA Tryz.prog w0 87 #[.pointer (some ⟨g,0,none⟩)] m (fun r m'=>r=.int .i64 (decideP s).2/\PPost w0.heap.size m g q code (decideP s).1 m'):=by
 generalize hR:(fun (r:Value) (m':AM)=>r=.int .i64 (decideP s).2/\PPost w0.heap.size m g q code (decideP s).1 m')=R
 refine cf87 w0 m g R ?_
 refine ⟨_,h.hi' 0,_,h.hi' 1,_,h.hi' 2,_,h.hi' 3,_,h.hi' 4,_,h.hi' 5,_,h.hi' 6,_,h.hi' 7,_,h.hi' 8,_,h.hi' 9,_,h.hi' 10,_,h.hi' 11,?_⟩
 refine new12 fun b m1 hb hm l1 p1=>?_
 have p1:m1 b=some (.cells s.f.vals.toArray 115):=p1
 have Q1:PQ m w0.heap.size g code q q m1 s:=(PQ.of h).le l1
 refine ⟨rfl,Q1.put_f La0 fun m2 Q2 f2=>?_⟩
 have p2:=keepB f2 p1 (Q1.neg p1)
 refine ⟨_,cel p2 rfl,_,cel p2 rfl,_,cel p2 rfl,_,cel p2 rfl,_,cel p2 rfl,_,cel p2 rfl,_,cel p2 rfl,_,cel p2 rfl,_,cel p2 rfl,_,cel p2 rfl,_,cel p2 rfl,_,cel p2 rfl,?_⟩
 refine Q2.put_r s.f fun m3 Q3 f3=>?_
 have p3:=keepB f3 p2 (Q2.neg p2)
 have eP:decideP s=(({ s with f:=La0,r:=s.f }:PS),nextF { s with f:=La0,r:=s.f } s.f):=rfl
 have Q3:PQ m w0.heap.size g code q q m3 { s with f:=La0,r:=s.f }:=Q3
 generalize hs1:({ s with f:=La0,r:=s.f }:PS)=s1 at Q3 eP
 generalize s.f=l at hw p3 eP
 have ret:∀ v,v=nextF s1 l->RetP R (.int .i64 v) m3:=fun v hv=>retP_of (by rw [<- hR,eP,hv]; exact ⟨rfl,Q3.post rfl⟩)
 have hn:IntKind.wrap .i64 (s1.at_+1)=IntKind.wrap .i64 (s1.at_+1):=rfl
 refine ⟨_,Q3.R.cells.2.2.1,rfl,_,cel p3 rfl,bcI (fun hf=>?_) fun hf=>⟨_,cel p3 rfl,rfl,bcI (fun ht=>?_) fun ht=>?_⟩⟩
 .exact ⟨hf,ret _ (by unfold nextF; simp only []; rw [if_pos (.inl (by simpa using hf))])⟩
 .exact ret _ (by unfold nextF; simp only []; rw [if_pos (.inr (by simp [hf] at ht; exact ht))])
 have hgo:¬ (l.full=false\/l.trap≠0):=by
  simp at hf
  simp [hf] at ht
  simp [hf,ht]
 have hI:InR l.i:=hw (by simpa using hf) (by
  simp at hf
  simpa [hf] using ht)
 have eN:nextF s1 l=(if l.i.op=15\/l.i.op=16 then (if (nowP s1 l.i.a == nowP s1 l.i.b) == (l.i.op == 15) then IntKind.wrap .i64 (IntKind.wrap .i64 (l.at_+1)+l.i.imm) else IntKind.wrap .i64 (s1.at_+1))
   else if l.i.op=17\/l.i.op=18 then l.i.imm else if l.i.op=19 then nowP s1 l.i.a else IntKind.wrap .i64 (s1.at_+1)):=by
  unfold nextF; simp only []; rw [if_neg hgo]
 have now:∀ n,0<=n/\n<32->CallsA Tryz.prog w0 135 #[.pointer (some ⟨g,0,none⟩),.int .i64 n] m3 (fun r m'=>r=.int .i64 (nowP s1 n)/\m'=m3):=fun n hn=>now_spec w0 m3 g code s1 q n hn Q3.R
 refine ⟨_,cel p3 rfl,rfl,bcI (fun h15=>?_) fun h15=>⟨rfl,bcI (fun h16=>?_) fun h16=>⟨rfl,bcI (fun h17=>?_) fun h17=>⟨rfl,bcI (fun h18=>?_) fun h18=>⟨rfl,bcI (fun h19=>?_) fun h19=>?_⟩⟩⟩⟩⟩
 .refine bcET h15 ⟨_,cel p3 rfl,_,now _ hI.1,_,cel p3 rfl,_,now _ hI.2.1,rfl,_,cel p3 rfl,rfl,bcI (fun hb=>?_) fun hb=>?_⟩
  .exact ⟨_,cel p3 rfl,rfl,_,cel p3 rfl,rfl,ret _ (by rw [eN,if_pos (.inl (by simpa using h15)),if_pos hb])⟩
  .exact ret _ (by rw [eN,if_pos (.inl (by simpa using h15)),if_neg (by rw [hb]; exact Bool.false_ne_true)])
 .refine ⟨_,cel p3 rfl,_,now _ hI.1,_,cel p3 rfl,_,now _ hI.2.1,rfl,_,cel p3 rfl,rfl,bcI (fun hb=>?_) fun hb=>?_⟩
  .exact ⟨_,cel p3 rfl,rfl,_,cel p3 rfl,rfl,ret _ (by rw [eN,if_pos (.inr (by simpa using h16)),if_pos hb])⟩
  .exact ret _ (by rw [eN,if_pos (.inr (by simpa using h16)),if_neg (by rw [hb]; exact Bool.false_ne_true)])
 all_goals
  have n15:l.i.op≠15:=by simpa using h15
  have n16:l.i.op≠16:=by simpa using h16
  have n56:¬ (l.i.op=15\/l.i.op=16):=by rintro (e | e) <;> contradiction
 .have e17:l.i.op=17:=by simpa using h17
  exact bcET h17 ⟨_,cel p3 rfl,ret _ (by rw [eN,if_neg n56,if_pos (.inl e17)])⟩
 .have e18:l.i.op=18:=by simpa using h18
  exact ⟨_,cel p3 rfl,ret _ (by rw [eN,if_neg n56,if_pos (.inr e18)])⟩
 all_goals
  have n17:l.i.op≠17:=by simpa using h17
  have n18:l.i.op≠18:=by simpa using h18
  have n78:¬ (l.i.op=17\/l.i.op=18):=by rintro (e | e) <;> contradiction
 .have e19:l.i.op=19:=by simpa using h19
  refine ⟨_,cel p3 rfl,CallsA.mono (now _ hI.1) ?_⟩
  rintro r m4 ⟨rfl,hm4⟩
  subst hm4
  exact ⟨_,rfl,ret _ (by rw [eN,if_neg n56,if_neg n78,if_pos e19])⟩
 .have n19:l.i.op≠19:=by simpa using h19
  exact ret _ (by rw [eN,if_neg n56,if_neg n78,if_neg n19])
def stage3 (l ahead:La) (regs:List Int):La :=
 let a:=earlyP l.i.a ahead regs
 let b:=earlyP l.i.b ahead regs
 let c:=earlyP l.i.c ahead regs
 let l1:La:={ l with reg:=writesP l.i,where_:=w32 (b+l.i.imm),stored:=a }
 if l.i.op=14 then (if a<0\/a>=l.i.imm then { l1 with trap:=if l.i.b≠0 then l.i.b else 5 } else l1)
 else if l.i.op=18 then { l1 with value:=IntKind.wrap .i64 (l.at_+2) }
 else if l.i.op=20 then { l1 with stored:=earlyP 4 ahead regs }
 else { l1 with value:=(reckonP l.i b c).1,trap:=(reckonP l.i b c).2.1 }
def reckP3 (s:PS) (ahead:La):PS:={ s with r:=La0,k:=if s.r.full=true/\s.r.trap=0 then stage3 s.r ahead s.regs else s.r }
theorem reck3_spec (w0:World) (m:AM) (g:Nat) (code:List Ins) (s:PS) (q:PA) (ahead:La) (hw:s.r.full=true->s.r.trap=0->InR s.r.i) (h:PipR m w0.heap.size g code s q) :
  CallsA Tryz.prog w0 85 #[.pointer (some ⟨g,0,none⟩),ahead.val] m (fun r m'=>r=.tuple #[]/\PPost w0.heap.size m g q code (reckP3 s ahead) m'):=by
 generalize hR:(fun (r:Value) (m':AM)=>r=.tuple #[]/\PPost w0.heap.size m g q code (reckP3 s ahead) m')=R
 refine cf85 w0 m g _ _ _ _ _ _ _ _ _ _ _ _ R ?_
 intro b1 hb1 hm1 m2
 have l1:m.le m2:=le_new hm1 _
 have p1:m2 b1=some (.cells ahead.vals.toArray 115):=upd_get_same
 clear_value m2
 have h2:=h.le l1
 refine ⟨_,h2.hi' 12,_,h2.hi' 13,_,h2.hi' 14,_,h2.hi' 15,_,h2.hi' 16,_,h2.hi' 17,_,h2.hi' 18,_,h2.hi' 19,_,h2.hi' 20,_,h2.hi' 21,_,h2.hi' 22,_,h2.hi' 23,?_⟩
 refine new12 fun b m3 hb hm3 l3 p3=>?_
 have p3:m3 b=some (.cells s.r.vals.toArray 115):=p3
 have hm:m b=none:=AM.le_none l1 hm3
 have ne:b1≠b:=fun e=>by subst e; rw [p1] at hm3; cases hm3
 have Q3:PQ m w0.heap.size g code q q m3 s:=((PQ.of h).le l1).le l3
 have a3:=l3 _ _ p1
 refine ⟨rfl,Q3.put_r La0 fun m4 Q4 f4=>?_⟩
 have p4:=keepB f4 p3 (Q3.neg p3)
 have a4:=keepB f4 a3 (Q3.neg a3)
 have eP:reckP3 s ahead = { ({ s with r:=La0 }:PS) with k:=if s.r.full=true/\s.r.trap=0 then stage3 s.r ahead ({ s with r:=La0 }:PS).regs else s.r }:=rfl
 generalize hs1:({ s with r:=La0 }:PS)=s1 at Q4 eP
 generalize s.r=l at hw p4 eP
 have fin:∀ (m5:AM) (l':La) (σ:Sg),PQ m w0.heap.size g code q q m5 s1->m5 b=some (.cells l'.vals.toArray 115)->(if l.full=true/\l.trap=0 then stage3 l ahead s1.regs else l)=l'->σ 0=.pointer (some ⟨g,0,none⟩)->σ 4=.pointer (some ⟨b,0,none⟩)->∀ m,m=m5->(XV w0 F85 (Tz R) 31 σ m):=by
  intro m5 l' σ Q5 p5 hs h0 h4 m hm
  subst hm
  refine vk85_1111 w0 m σ R g b h0 h4 ?_
  refine ⟨_,cel p5 rfl,_,cel p5 rfl,_,cel p5 rfl,_,cel p5 rfl,_,cel p5 rfl,_,cel p5 rfl,_,cel p5 rfl,_,cel p5 rfl,_,cel p5 rfl,_,cel p5 rfl,_,cel p5 rfl,_,cel p5 rfl,?_⟩
  refine Q5.put_k l' fun m6 Q6 f6=>?_
  refine retP_of ?_
  rw [<- hR,eP,hs]
  exact ⟨rfl,Q6.post rfl⟩
 refine ⟨_,cel p4 rfl,bcI (fun hf=>⟨_,cel p4 rfl,rfl,bcI (fun ht=>?_) fun ht=>?_⟩) fun hf=>?_⟩
 .have hgo:l.full=true/\l.trap=0:=by
   simp [hf] at ht
   exact ⟨hf,ht⟩
  have hI:=hw hgo.1 hgo.2
  rw [if_pos hgo] at fin
  have early:∀ n,0<=n/\n<32->∀ m5,PQ m w0.heap.size g code q q m5 s1->CallsA Tryz.prog w0 134 #[.int .i64 n,ahead.val,.agg (arr32 s1.regs)] m5 (fun r m'=>r=.int .i64 (earlyP n ahead s1.regs)/\m'=m5):=fun n hn m5 Q5=>early_spec w0 m5 n hn ahead s1.regs
  have hr:=Q4.R
  refine ⟨_,cel p4 rfl,_,cel a4 rfl,_,cel a4 rfl,_,cel a4 rfl,_,cel a4 rfl,_,cel a4 rfl,_,cel a4 rfl,_,cel a4 rfl,_,cel a4 rfl,_,cel a4 rfl,_,cel a4 rfl,_,cel a4 rfl,_,cel a4 rfl,_,hr.reg' 0 (by decide),_,hr.reg' 1 (by decide),_,hr.reg' 2 (by decide),_,hr.reg' 3 (by decide),_,hr.reg' 4 (by decide),_,hr.reg' 5 (by decide),_,hr.reg' 6 (by decide),_,hr.reg' 7 (by decide),_,hr.reg' 8 (by decide),_,hr.reg' 9 (by decide),_,hr.reg' 10 (by decide),_,hr.reg' 11 (by decide),_,hr.reg' 12 (by decide),_,hr.reg' 13 (by decide),_,hr.reg' 14 (by decide),_,hr.reg' 15 (by decide),_,hr.reg' 16 (by decide),_,hr.reg' 17 (by decide),_,hr.reg' 18 (by decide),_,hr.reg' 19 (by decide),_,hr.reg' 20 (by decide),_,hr.reg' 21 (by decide),_,hr.reg' 22 (by decide),_,hr.reg' 23 (by decide),_,hr.reg' 24 (by decide),_,hr.reg' 25 (by decide),_,hr.reg' 26 (by decide),_,hr.reg' 27 (by decide),_,hr.reg' 28 (by decide),_,hr.reg' 29 (by decide),_,hr.reg' 30 (by decide),_,hr.reg' 31 (by decide),_,early _ hI.1 _ Q4,_,cel p4 rfl,_,cel a4 rfl,_,cel a4 rfl,_,cel a4 rfl,_,cel a4 rfl,_,cel a4 rfl,_,cel a4 rfl,_,cel a4 rfl,_,cel a4 rfl,_,cel a4 rfl,_,cel a4 rfl,_,cel a4 rfl,_,cel a4 rfl,_,hr.reg' 0 (by decide),_,hr.reg' 1 (by decide),_,hr.reg' 2 (by decide),_,hr.reg' 3 (by decide),_,hr.reg' 4 (by decide),_,hr.reg' 5 (by decide),_,hr.reg' 6 (by decide),_,hr.reg' 7 (by decide),_,hr.reg' 8 (by decide),_,hr.reg' 9 (by decide),_,hr.reg' 10 (by decide),_,hr.reg' 11 (by decide),_,hr.reg' 12 (by decide),_,hr.reg' 13 (by decide),_,hr.reg' 14 (by decide),_,hr.reg' 15 (by decide),_,hr.reg' 16 (by decide),_,hr.reg' 17 (by decide),_,hr.reg' 18 (by decide),_,hr.reg' 19 (by decide),_,hr.reg' 20 (by decide),_,hr.reg' 21 (by decide),_,hr.reg' 22 (by decide),_,hr.reg' 23 (by decide),_,hr.reg' 24 (by decide),_,hr.reg' 25 (by decide),_,hr.reg' 26 (by decide),_,hr.reg' 27 (by decide),_,hr.reg' 28 (by decide),_,hr.reg' 29 (by decide),_,hr.reg' 30 (by decide),_,hr.reg' 31 (by decide),_,early _ hI.2.1 _ Q4,_,cel p4 rfl,_,cel a4 rfl,_,cel a4 rfl,_,cel a4 rfl,_,cel a4 rfl,_,cel a4 rfl,_,cel a4 rfl,_,cel a4 rfl,_,cel a4 rfl,_,cel a4 rfl,_,cel a4 rfl,_,cel a4 rfl,_,cel a4 rfl,_,hr.reg' 0 (by decide),_,hr.reg' 1 (by decide),_,hr.reg' 2 (by decide),_,hr.reg' 3 (by decide),_,hr.reg' 4 (by decide),_,hr.reg' 5 (by decide),_,hr.reg' 6 (by decide),_,hr.reg' 7 (by decide),_,hr.reg' 8 (by decide),_,hr.reg' 9 (by decide),_,hr.reg' 10 (by decide),_,hr.reg' 11 (by decide),_,hr.reg' 12 (by decide),_,hr.reg' 13 (by decide),_,hr.reg' 14 (by decide),_,hr.reg' 15 (by decide),_,hr.reg' 16 (by decide),_,hr.reg' 17 (by decide),_,hr.reg' 18 (by decide),_,hr.reg' 19 (by decide),_,hr.reg' 20 (by decide),_,hr.reg' 21 (by decide),_,hr.reg' 22 (by decide),_,hr.reg' 23 (by decide),_,hr.reg' 24 (by decide),_,hr.reg' 25 (by decide),_,hr.reg' 26 (by decide),_,hr.reg' 27 (by decide),_,hr.reg' 28 (by decide),_,hr.reg' 29 (by decide),_,hr.reg' 30 (by decide),_,hr.reg' 31 (by decide),_,early _ hI.2.2 _ Q4,_,cel p4 rfl,_,cel p4 rfl,_,cel p4 rfl,_,cel p4 rfl,_,cel p4 rfl,?_⟩
  generalize hx:earlyP l.i.a ahead s1.regs=xa
  generalize hy:earlyP l.i.b ahead s1.regs=xb
  generalize hz:earlyP l.i.c ahead s1.regs=xc
  refine CallsA.mono (writes_spec w0 m4 l.i) ?_
  rintro r m5 ⟨rfl,l5⟩
  refine ⟨_,rfl,?_⟩
  have p5:=l5 _ _ p4
  have a5:=l5 _ _ a4
  refine (Q4.le l5).loc { l with reg:=writesP l.i } p5 hb hm rfl (by omega) fun m6 Q6 p6 f6=>?_
  have a6:=keepB f6 a5 ne
  refine ⟨_,cel p6 rfl,?_⟩
  refine CallsA.mono (addW w0 m6 xb l.i.imm) ?_
  rintro r m7 ⟨rfl,hm7⟩
  subst hm7
  refine ⟨_,rfl,?_⟩
  refine Q6.loc { l with reg:=writesP l.i,where_:=w32 (xb+l.i.imm) } p6 hb hm rfl (by omega) fun m7 Q7 p7 f7=>?_
  have a7:=keepB f7 a6 ne
  refine Q7.loc { l with reg:=writesP l.i,where_:=w32 (xb+l.i.imm),stored:=xa } p7 hb hm rfl (by omega) fun m8 Q8 p8 f8=>?_
  have a8:=keepB f8 a7 ne
  generalize hl1:({ l with reg:=writesP l.i,where_:=w32 (xb+l.i.imm),stored:=xa }:La)=l1 at p8
  have hS:stage3 l ahead s1.regs=(if l.i.op=14 then (if xa<0\/xa>=l.i.imm then { l1 with trap:=if l.i.b≠0 then l.i.b else 5 } else l1)
   else if l.i.op=18 then { l1 with value:=IntKind.wrap .i64 (l.at_+2) }
   else if l.i.op=20 then { l1 with stored:=earlyP 4 ahead s1.regs }
   else { l1 with value:=(reckonP l.i xb xc).1,trap:=(reckonP l.i xb xc).2.1 }):=by
   rw [<- hl1]; unfold stage3; simp only [hx,hy,hz]
  rw [hS] at fin
  have ei:l1.i=l.i:=by rw [<- hl1]
  have ea:l1.at_=l.at_:=by rw [<- hl1]
  have eop:l1.i.op=l.i.op:=by rw [ei]
  refine ⟨_,cel p8 rfl,rfl,bcI (fun h14=>?_) fun h14=>⟨rfl,bcI (fun h18=>?_) fun h18=>⟨rfl,bcI (fun h20=>?_) fun h20=>?_⟩⟩⟩
  .have e14:l.i.op=14:=by rw [<- eop]; simpa using h14
   rw [if_pos e14] at fin
   have K14:∀ (m5:AM) (σ:Sg) (x:Bool),m5=m8->x=decide (xa<0\/xa>=l.i.imm)->σ 0=.pointer (some ⟨g,0,none⟩)->σ 4=.pointer (some ⟨b,0,none⟩)->σ 86=.bool x->∀ m,m=m5->(XV w0 F85 (Tz R) 31477 σ m):=by
    intro m5 σ x he hx h0 h4 h86 m hm'
    subst hm'
    subst he
    refine vk85_11101011110101 w0 m σ R g b x h0 h4 h86 ?_
    refine bcI (fun hc=>?_) fun hc=>?_
    .rw [hx] at hc
     rw [if_pos (of_decide_eq_true hc)] at fin
     refine Q8.loc { l1 with trap:=5 } p8 hb ‹_› rfl (by omega) fun m9 Q9 p9 f9=>?_
     refine ⟨_,cel p9 rfl,rfl,bcI (fun hb0=>?_) fun hb0=>?_⟩
     .have nb:l.i.b≠0:=by rw [<- ei]; simpa using hb0
      refine ⟨_,cel p9 rfl,?_⟩
      refine Q9.loc { l1 with trap:=l.i.b } p9 hb ‹_› (by rw [<- ei]; rfl) (by omega) fun m10 Q10 p10 f10=>?_
      rw [if_pos nb] at fin
      exact fin m10 _ _ Q10 p10 rfl rfl rfl _ rfl
     .have nb:¬ l.i.b≠0:=by rw [<- ei]; simpa using hb0
      rw [if_neg nb] at fin
      exact fin m9 _ _ Q9 p9 rfl rfl rfl _ rfl
    .rw [hx] at hc
     rw [if_neg (of_decide_eq_false hc)] at fin
     exact fin m _ _ Q8 p8 rfl rfl rfl _ rfl
   refine ⟨rfl,bcI (fun hn=>⟨hn,?_⟩) fun hn=>⟨_,cel p8 rfl,rfl,?_⟩⟩
   .refine K14 _ _ _ rfl ?_ rfl rfl rfl _ rfl
    have h1:=of_decide_eq_true hn
    simp [h1]
   .refine K14 _ _ _ rfl ?_ rfl rfl rfl _ rfl
    rw [hn,ei]
    have:=of_decide_eq_false hn
    exact (decide_eq_decide.2 ⟨fun h=>.inr h,fun h=>h.resolve_left this⟩)
  .have n14:l.i.op≠14:=by rw [<- eop]; simpa using h14
   have e18:l.i.op=18:=by rw [<- eop]; simpa using h18
   rw [if_neg n14,if_pos e18] at fin
   refine ⟨_,cel p8 rfl,rfl,?_⟩
   refine Q8.loc { l1 with value:=IntKind.wrap .i64 (l.at_+2) } p8 hb hm (by rw [<- ea]; rfl) (by omega) fun m9 Q9 p9 f9=>?_
   exact fin m9 _ _ Q9 p9 rfl rfl rfl _ rfl
  .have n14:l.i.op≠14:=by rw [<- eop]; simpa using h14
   have n18:l.i.op≠18:=by rw [<- eop]; simpa using h18
   have e20:l.i.op=20:=by rw [<- eop]; simpa using h20
   rw [if_neg n14,if_neg n18,if_pos e20] at fin
   have hr:=Q8.R
   refine ⟨_,cel a8 rfl,_,cel a8 rfl,_,cel a8 rfl,_,cel a8 rfl,_,cel a8 rfl,_,cel a8 rfl,_,cel a8 rfl,_,cel a8 rfl,_,cel a8 rfl,_,cel a8 rfl,_,cel a8 rfl,_,cel a8 rfl,_,hr.reg' 0 (by decide),_,hr.reg' 1 (by decide),_,hr.reg' 2 (by decide),_,hr.reg' 3 (by decide),_,hr.reg' 4 (by decide),_,hr.reg' 5 (by decide),_,hr.reg' 6 (by decide),_,hr.reg' 7 (by decide),_,hr.reg' 8 (by decide),_,hr.reg' 9 (by decide),_,hr.reg' 10 (by decide),_,hr.reg' 11 (by decide),_,hr.reg' 12 (by decide),_,hr.reg' 13 (by decide),_,hr.reg' 14 (by decide),_,hr.reg' 15 (by decide),_,hr.reg' 16 (by decide),_,hr.reg' 17 (by decide),_,hr.reg' 18 (by decide),_,hr.reg' 19 (by decide),_,hr.reg' 20 (by decide),_,hr.reg' 21 (by decide),_,hr.reg' 22 (by decide),_,hr.reg' 23 (by decide),_,hr.reg' 24 (by decide),_,hr.reg' 25 (by decide),_,hr.reg' 26 (by decide),_,hr.reg' 27 (by decide),_,hr.reg' 28 (by decide),_,hr.reg' 29 (by decide),_,hr.reg' 30 (by decide),_,hr.reg' 31 (by decide),?_⟩
   refine CallsA.mono (early 4 (by decide) _ Q8) ?_
   rintro r m9 ⟨rfl,hm9⟩
   subst hm9
   refine ⟨_,rfl,?_⟩
   refine Q8.loc { l1 with stored:=earlyP 4 ahead s1.regs } p8 hb hm rfl (by omega) fun m9 Q9 p9 f9=>?_
   exact fin m9 _ _ Q9 p9 rfl rfl rfl _ rfl
  .have n14:l.i.op≠14:=by rw [<- eop]; simpa using h14
   have n18:l.i.op≠18:=by rw [<- eop]; simpa using h18
   have n20:l.i.op≠20:=by rw [<- eop]; simpa using h20
   rw [if_neg n14,if_neg n18,if_neg n20] at fin
   refine ⟨_,cel p8 rfl,_,cel p8 rfl,_,cel p8 rfl,_,cel p8 rfl,_,cel p8 rfl,?_⟩
   refine CallsA.mono (Reckon_spec w0 m8 l1.i xb xc) ?_
   rintro r m9 ⟨rfl,l9⟩
   refine ⟨_,_,_,rfl,?_⟩
   rw [ei]
   refine (Q8.le l9).loc { l1 with value:=(reckonP l.i xb xc).1 } (l9 _ _ p8) hb hm rfl (by omega) fun m10 Q10 p10 f10=>?_
   refine Q10.loc { l1 with value:=(reckonP l.i xb xc).1,trap:=(reckonP l.i xb xc).2.1 } p10 hb hm rfl (by omega) fun m11 Q11 p11 f11=>?_
   exact fin m11 _ _ Q11 p11 rfl rfl rfl _ rfl
 .have hno:¬ (l.full=true/\l.trap=0):=by
   rintro ⟨_,e⟩
   simp [hf,e] at ht
  exact fin m4 l _ Q4 p4 (by rw [if_neg hno]) rfl rfl _ rfl
 .have hno:¬ (l.full=true/\l.trap=0):=by
   rintro ⟨e,_⟩
   rw [e] at hf; cases hf
  exact ⟨hf,fin m4 l _ Q4 p4 (by rw [if_neg hno]) rfl rfl _ rfl⟩
def fetchL (code:List Ins) (at_:Int):La :=
 if at_<0\/at_>=code.length then { La0 with full:=true,at_:=at_,trap:=2 }
 else if rightR (code.getD at_.toNat default)=true then { La0 with full:=true,at_:=at_,i:=code.getD at_.toNat default }
 else { La0 with full:=true,at_:=at_,trap:=8 }
def fetchP (code:List Ins) (s:PS) (next:Int):PS:={ s with f:=fetchL code s.at_,at_:=next }
theorem fetch_spec (w0:World) (m:AM) (g:Nat) (code:List Ins) (s:PS) (q:PA) (next:Int) (h:PipR m w0.heap.size g code s q) :
  CallsA Tryz.prog w0 86 #[.pointer (some ⟨g,0,none⟩),.int .i64 next] m (fun r m'=>r=.tuple #[]/\PPost w0.heap.size m g q code (fetchP code s next) m'):=by
 generalize hR:(fun (r:Value) (m':AM)=>r=.tuple #[]/\PPost w0.heap.size m g q code (fetchP code s next) m')=R
 refine cf86 w0 m g next R ?_
 refine ⟨_,h.cells.2.2.1,rfl,?_⟩
 refine new12 fun b m1 hb hm l1 p1=>?_
 have p1:m1 b=some (.cells ({ La0 with full:=true,at_:=s.at_ }:La).vals.toArray 115):=p1
 have Q1:PQ m w0.heap.size g code q q m1 s:=(PQ.of h).le l1
 have fin:∀ (m5:AM) (l':La) (σ:Sg),PQ m w0.heap.size g code q q m5 s->m5 b=some (.cells l'.vals.toArray 115)->fetchL code s.at_=l'->σ 0=.pointer (some ⟨g,0,none⟩)->σ 1=.int .i64 next->σ 4=.pointer (some ⟨b,0,none⟩)->∀ m,m=m5->(XV w0 F86 (Tz R) 7 σ m):=by
  intro m5 l' σ Q5 p5 hs h0 h1 h4 m hm
  subst hm
  refine vk86_11 w0 m σ R g next b h0 h1 h4 ?_
  refine ⟨_,cel p5 rfl,_,cel p5 rfl,_,cel p5 rfl,_,cel p5 rfl,_,cel p5 rfl,_,cel p5 rfl,_,cel p5 rfl,_,cel p5 rfl,_,cel p5 rfl,_,cel p5 rfl,_,cel p5 rfl,_,cel p5 rfl,?_⟩
  refine Q5.put_f l' fun m6 Q6 f6=>?_
  refine Q6.putAt next fun m7 Q7 f7=>retP_of ?_
  rw [<- hR]
  unfold fetchP
  rw [hs]
  exact ⟨rfl,Q7.post rfl⟩
 unfold fetchL at fin
 refine ⟨_,Q1.R.cells.2.2.1,rfl,bcI (fun h1=>⟨h1,?_⟩) fun h1=>⟨_,Q1.R.cells.2.2.1,_,_,_,Q1.R.cells.1,rfl,bcI (fun h2=>?_) fun h2=>?_⟩⟩
 .have h1:=of_decide_eq_true h1
  rw [if_pos (.inl h1)] at fin
  refine Q1.loc { La0 with full:=true,at_:=s.at_,trap:=2 } p1 hb hm rfl (by omega) fun m2 Q2 p2 f2=>?_
  exact fin m2 _ _ Q2 p2 rfl rfl rfl rfl _ rfl
 .rw [h1] at h2
  have h2:=of_decide_eq_true h2
  rw [if_pos (.inr h2)] at fin
  refine Q1.loc { La0 with full:=true,at_:=s.at_,trap:=2 } p1 hb hm rfl (by omega) fun m2 Q2 p2 f2=>?_
  exact fin m2 _ _ Q2 p2 rfl rfl rfl rfl _ rfl
 .rw [h1] at h2
  have h1:=of_decide_eq_false h1
  have h2:=of_decide_eq_false h2
  rw [if_neg (show ¬ (s.at_<0\/s.at_>=code.length) from fun h=>h.elim h1 h2)] at fin
  have hlt:s.at_.toNat<code.length:=by omega
  have hd:code.getD s.at_.toNat default=code[s.at_.toNat]:=by simp [List.getD,hlt]
  rw [hd] at fin
  have get:∀ m5,PQ m w0.heap.size g code q q m5 s->∃ ad,q.Ac=some ad/\(m5.cell (ad.add (s.at_.toNat*5))=some (.int .i64 (code[s.at_.toNat]).op)/\m5.cell ((ad.add (s.at_.toNat*5)).add 1)=some (.int .i64 (code[s.at_.toNat]).a)/\m5.cell ((ad.add (s.at_.toNat*5)).add 2)=some (.int .i64 (code[s.at_.toNat]).b)/\m5.cell ((ad.add (s.at_.toNat*5)).add 3)=some (.int .i64 (code[s.at_.toNat]).c)/\m5.cell ((ad.add (s.at_.toNat*5)).add 4)=some (.int .i64 (code[s.at_.toNat]).imm)):=by
   intro m5 Q5
   obtain ⟨ad,ha,hc⟩:=Q5.R.hc.ex (by omega)
   exact ⟨ad,ha,hc.ins (List.getElem?_eq_getElem hlt)⟩
  generalize code[s.at_.toNat]=i at fin get
  obtain ⟨ad,ha,c0,c1,c2,c3,c4⟩:=get m1 Q1
  refine ⟨_,_,_,Q1.R.cells.1,_,Q1.R.cells.2.2.1,⟨by omega,by omega⟩,?_⟩
  rw [ha,nilO_some]
  refine ⟨_,c0,_,c1,_,c2,_,c3,_,c4,?_⟩
  refine CallsA.mono (isaRight w0 m1 i) ?_
  rintro r m2 ⟨rfl,l2⟩
  refine ⟨_,rfl,?_⟩
  have Q2:=Q1.le l2
  have p2:=l2 _ _ p1
  cases hr:rightR i
  .rw [if_neg (by rw [hr]; exact Bool.false_ne_true)] at fin
   refine bcET rfl ?_
   refine Q2.loc { La0 with full:=true,at_:=s.at_,trap:=8 } p2 hb hm rfl (by omega) fun m3 Q3 p3 f3=>?_
   exact fin m3 _ _ Q3 p3 rfl rfl rfl rfl _ rfl
  .rw [if_pos hr] at fin
   refine bcEF rfl ?_
   obtain ⟨ad2,ha2,d0,d1,d2,d3,d4⟩:=get m2 Q2
   rw [ha] at ha2; cases ha2
   refine ⟨_,_,_,Q2.R.cells.1,_,Q2.R.cells.2.2.1,⟨by omega,by omega⟩,?_⟩
   rw [ha,nilO_some]
   refine ⟨_,d0,_,d1,_,d2,_,d3,_,d4,?_⟩
   refine Q2.loc { La0 with full:=true,at_:=s.at_,i:=⟨i.op,0,0,0,0⟩ } p2 hb hm rfl (by omega) fun m3 Q3 p3 f3=>?_
   refine Q3.loc { La0 with full:=true,at_:=s.at_,i:=⟨i.op,i.a,0,0,0⟩ } p3 hb hm rfl (by omega) fun m4 Q4 p4 f4=>?_
   refine Q4.loc { La0 with full:=true,at_:=s.at_,i:=⟨i.op,i.a,i.b,0,0⟩ } p4 hb hm rfl (by omega) fun m5 Q5 p5 f5=>?_
   refine Q5.loc { La0 with full:=true,at_:=s.at_,i:=⟨i.op,i.a,i.b,i.c,0⟩ } p5 hb hm rfl (by omega) fun m6 Q6 p6 f6=>?_
   refine Q6.loc { La0 with full:=true,at_:=s.at_,i:=i } p6 hb hm rfl (by omega) fun m7 Q7 p7 f7=>?_
   exact fin m7 _ _ Q7 p7 rfl rfl rfl rfl _ rfl
def cycleP (code:List Ins) (s:PS):PS × Int :=
 let s1:=writeP s
 let s3:=reckP3 (pactP s1).1 s1.k
 (fetchP code (decideP s3).1 (decideP s3).2,(pactP s1).2)
def LW (l:La):Prop:=(l.full=true->l.trap=0->InR l.i)/\0<=l.reg/\l.reg<32
def WfP (s:PS):Prop:=LW s.f/\LW s.r/\LW s.k/\LW s.a
theorem lw0:LW La0:=⟨fun h=>by simp [La0] at h,by decide,by decide⟩
theorem fieldW_le {i:Ins} (h:InR i):0<=fieldW i/\fieldW i<32:=by
 obtain ⟨⟨h1,h2⟩,_⟩:=h
 unfold fieldW
 split
 .exact ⟨h1,h2⟩
 split
 .decide
 split <;> decide
theorem writesP_le (i:Ins):0<=writesP i/\writesP i<32:=by
 unfold writesP
 split
 .exact fieldW_le (right_regs ‹_›)
 .decide
theorem stage3_i (l a:La) (r:List Int):(stage3 l a r).i=l.i:=by
 unfold stage3; simp only []
 split
 .split <;> rfl
 split
 .rfl
 split <;> rfl
theorem stage3_reg (l a:La) (r:List Int):(stage3 l a r).reg=writesP l.i:=by
 unfold stage3; simp only []
 split
 .split <;> rfl
 split
 .rfl
 split <;> rfl
theorem pact_f (s:PS):(pactP s).1.f=s.f/\(pactP s).1.r=s.r/\(pactP s).1.k=La0/\((pactP s).1.a.reg=s.a.reg/\(pactP s).1.a.i=s.a.i/\(pactP s).1.a.full=s.a.full/\(pactP s).1.a.trap=s.a.trap\/(pactP s).1.a.reg=s.k.reg/\(pactP s).1.a.i=s.k.i/\s.k.full=true/\s.k.trap=0 ):=by
 unfold pactP; simp only []
 split
 .exact ⟨rfl,rfl,rfl,.inl ⟨rfl,rfl,rfl,rfl⟩⟩
 rename_i hg
 have hg':s.k.full=true/\s.k.trap=0:=by
  cases h:s.k.full <;> simp [h] at hg ⊢
  exact hg
 split
 .split
  .exact ⟨rfl,rfl,rfl,.inr ⟨rfl,rfl,hg'⟩⟩
  .exact ⟨rfl,rfl,rfl,.inl ⟨rfl,rfl,rfl,rfl⟩⟩
 split
 .split
  .exact ⟨rfl,rfl,rfl,.inr ⟨rfl,rfl,hg'⟩⟩
  .exact ⟨rfl,rfl,rfl,.inl ⟨rfl,rfl,rfl,rfl⟩⟩
 split
 .unfold sysL
  split
  .exact ⟨rfl,rfl,rfl,.inr ⟨rfl,rfl,hg'⟩⟩
  split
  .cases s.inp <;> exact ⟨rfl,rfl,rfl,.inr ⟨rfl,rfl,hg'⟩⟩
  split
  .split <;> exact ⟨rfl,rfl,rfl,.inr ⟨rfl,rfl,hg'⟩⟩
  .exact ⟨rfl,rfl,rfl,.inr ⟨rfl,rfl,hg'⟩⟩
 .exact ⟨rfl,rfl,rfl,.inr ⟨rfl,rfl,hg'⟩⟩
theorem fetchL_wf (code:List Ins) (a:Int):LW (fetchL code a):=by
 unfold fetchL
 split
 .exact ⟨fun _ h=>absurd (show (_:Int)=0 from h) (by simp),(by decide:(0:Int)<=0/\(0:Int)<32)⟩
 split
 .exact ⟨fun _ _=>right_regs ‹_›,(by decide:(0:Int)<=0/\(0:Int)<32)⟩
 .exact ⟨fun _ h=>absurd (show (_:Int)=0 from h) (by simp),(by decide:(0:Int)<=0/\(0:Int)<32)⟩
theorem wf_cycle (code:List Ins) {s:PS} (h:WfP s):WfP (cycleP code s).1:=by
 obtain ⟨hf,hr,hk,ha⟩:=h
 obtain ⟨e1,e2,e3,e4⟩:=pact_f (writeP s)
 unfold cycleP
 simp only []
 refine ⟨fetchL_wf _ _,?_,?_,?_⟩
 .show LW (pactP (writeP s)).1.f
  rw [e1]; exact hf
 .show LW (if (pactP (writeP s)).1.r.full=true/\(pactP (writeP s)).1.r.trap=0 then stage3 (pactP (writeP s)).1.r (writeP s).k (pactP (writeP s)).1.regs else (pactP (writeP s)).1.r)
  rw [e2]
  split
  .rename_i hh
   refine ⟨fun _ _=>?_,?_⟩
   .rw [stage3_i]; exact hr.1 hh.1 hh.2
   .rw [stage3_reg]; exact writesP_le _
  .exact hr
 .show LW (pactP (writeP s)).1.a
  rcases e4 with ⟨a1,a2,a3,a4⟩ | ⟨a1,a2,a3,a4⟩
  .rw [LW,a1,a2,a3,a4]; exact lw0
  .rw [LW,a1,a2]; exact ⟨fun _ _=>hk.1 a3 a4,hk.2⟩
theorem cycle_spec (w0:World) (m:AM) (g:Nat) (code:List Ins) (s:PS) (q:PA) (hw:WfP s) (h:PipR m w0.heap.size g code s q) :
  CallsA Tryz.prog w0 43 #[.pointer (some ⟨g,0,none⟩)] m (fun r m'=>r=.int .i64 (cycleP code s).2/\PPost w0.heap.size m g q code (cycleP code s).1 m'):=by
 refine cf43 w0 m g _ ?_
 refine CallsA.mono (write_spec w0 m g code s q hw.2.2.2.2 h) ?_
 rintro r m1 ⟨rfl,q1,hc1,Q1⟩
 have h1:=Q1.R
 refine ⟨rfl,_,h1.hi' 24,_,h1.hi' 25,_,h1.hi' 26,_,h1.hi' 27,_,h1.hi' 28,_,h1.hi' 29,_,h1.hi' 30,_,h1.hi' 31,_,h1.hi' 32,_,h1.hi' 33,_,h1.hi' 34,_,h1.hi' 35,?_⟩
 refine new12 fun b m2 hb hm2 l2 p2=>?_
 have p2:m2 b=some (.cells (writeP s).k.vals.toArray 115):=p2
 have Q2:=Q1.le l2
 refine CallsA.mono (pact_spec w0 m2 g code (writeP s) q1 Q2.R) ?_
 rintro r m3 ⟨rfl,q3,hc3,Q3⟩
 have p3:=Q3.fr _ _ p2 (Q2.notin p2)
 refine ⟨_,rfl,_,cel p3 rfl,_,cel p3 rfl,_,cel p3 rfl,_,cel p3 rfl,_,cel p3 rfl,_,cel p3 rfl,_,cel p3 rfl,_,cel p3 rfl,_,cel p3 rfl,_,cel p3 rfl,_,cel p3 rfl,_,cel p3 rfl,?_⟩
 obtain ⟨e1,e2,e3,e4⟩:=pact_f (writeP s)
 refine CallsA.mono (reck3_spec w0 m3 g code (pactP (writeP s)).1 q3 (writeP s).k (by rw [e2]; exact hw.2.1.1) Q3.R) ?_
 rintro r m4 ⟨rfl,q4,hc4,Q4⟩
 refine ⟨rfl,?_⟩
 refine CallsA.mono (decide_spec w0 m4 g code (reckP3 (pactP (writeP s)).1 (writeP s).k) q4 (by
  show (pactP (writeP s)).1.f.full=true->(pactP (writeP s)).1.f.trap=0->InR (pactP (writeP s)).1.f.i
  rw [e1]; exact hw.1.1) Q4.R) ?_
 rintro r m5 ⟨rfl,q5,hc5,Q5⟩
 refine ⟨_,rfl,?_⟩
 refine CallsA.mono (fetch_spec w0 m5 g code _ q5 _ Q5.R) ?_
 rintro r m6 ⟨rfl,q6,hc6,Q6⟩
 refine ⟨rfl,retP_of ⟨rfl,q6,by rw [hc6,hc5,hc4,hc3,hc1],?_⟩⟩
 exact (((Q2.trans Q3 hc3).trans Q4 hc4).trans Q5 hc5).trans Q6 hc6
def runPG (code:List Ins):Nat->PS × Int × Int->PS × Int × Int
 | 0,x=>x
 | n+1,(s,t,k)=>if t=0 then runPG code n ((cycleP code s).1,(cycleP code s).2,k+1) else (s,t,k)
def beginPS (mem:Int) (inp:List Int):PS:=⟨List.replicate 32 0,List.replicate mem.toNat 0,0,inp,[],La0,La0,La0,La0⟩
def runPP (code:List Ins) (mem:Int) (inp:List Int) (fuel:Int):Res :=
 if code.length>4096\/mem<0\/mem>32000 then ⟨0,0,[],[]⟩
 else let x:=runPG code fuel.toNat (beginPS mem inp,0,0); ⟨x.2.1,x.2.2,x.1.out,usedP x.1.mem⟩
theorem wf_begin (mem:Int) (inp:List Int):WfP (beginPS mem inp):=⟨lw0,lw0,lw0,lw0⟩
theorem sysL_mem (s:PS) (l:La):(sysL s l).1.mem=s.mem:=by
 unfold sysL
 split
 .rfl
 split
 .cases s.inp <;> rfl
 split
 .split <;> rfl
 .rfl
theorem cycle_mem (code:List Ins) (s:PS):(cycleP code s).1.mem.length=s.mem.length:=by
 show (pactP (writeP s)).1.mem.length=s.mem.length
 unfold pactP; simp only []
 split
 .rfl
 split
 .split <;> rfl
 split
 .split
  .exact List.length_set
  .rfl
 split
 .show (sysL _ _).1.mem.length=_
  rw [sysL_mem]; rfl
 .rfl
theorem runPG_mem (code:List Ins):∀ (n:Nat) (x:PS × Int × Int),(runPG code n x).1.mem.length=x.1.mem.length
 | 0,x=>rfl
 | n+1,(s,t,k)=>by
  unfold runPG
  split
  .rw [runPG_mem code n]; exact cycle_mem code s
  .rfl
structure PRunC (w0:World) (m:AM) (b1 b35 b37 gm:Nat) (Ac:Option Addr) (code:List Ins) (m6:AM) (s:PS) (t k:Int) (q:PA):Prop where
 hS:PipR m6 w0.heap.size b35 code s q
 hgm:q.gm=gm
 hAc:q.Ac=Ac
 hl:m.le m6
 h1:m6 b1=some (.cells #[.int .i64 0,.int .i64 0,.slice none 0 0,.slice none 0 0] 39)
 h37:m6 b37=some (.cells #[.int .i64 t,.int .i64 k,.slice none 0 0,.slice none 0 0] 39)
 hf:∀ x∈q.fp b35,m x=none
 n1:b1∉q.fp b35
 n37:b37∉q.fp b35
 wf:WfP s
def PRunI (w0:World) (m:AM) (b1 b35 b37 gm:Nat) (Ac:Option Addr) (code:List Ins) (fuel:Int) (F:PS × Int × Int) (n:Nat) (m6:AM):Prop :=
 ∃ s t k q,PRunC w0 m b1 b35 b37 gm Ac code m6 s t k q/\runPG code n (s,t,k)=F/\0<=k/\(t=0->n=(fuel-k).toNat)
def PRunE (w0:World) (m:AM) (b1 b35 b37 gm:Nat) (Ac:Option Addr) (code:List Ins) (F:PS × Int × Int) (m6:AM):Prop :=
 ∃ s t k q,PRunC w0 m b1 b35 b37 gm Ac code m6 s t k q/\(s,t,k)=F
theorem runPP_spec (w0:World) (m:AM) (Ac:Option Addr) (cc:Nat) (code:List Ins) (mem:Int) (Ai:Option Addr) (ci:Nat) (inp:List Int) (fuel:Int) (hf:InI fuel) (hc:Reads m 5 Ac code.length (insCells code)) (hi:Reads m 1 Ai inp.length (intCells .i64 inp)) (hin:inp.length<=1000000) :
  CallsA Tryz.prog w0 19 #[.slice Ac code.length cc,.int .i64 mem,.slice Ai inp.length ci,.int .i64 fuel] m (fun r m'=>m.le m'/\RRes m' w0.heap.size r (runPP code mem inp fuel)):=by
 refine cf19 w0 m Ac code.length cc mem Ai inp.length ci fuel _ ?_
 intro b1 hb1 hm1 M
 have l1:m.le M:=le_new hm1 _
 have p1:M b1=some (.cells #[.int .i64 0,.int .i64 0,.slice none 0 0,.slice none 0 0] 39):=upd_get_same
 clear_value M
 refine CallsA.mono (new_spec w0 M mem) ?_
 rintro r m2 ⟨l2,hr⟩
 have p2:=l2 _ _ p1
 have retB:∀ (m3:AM) (A:Option Addr) (n c:Nat) (A':Option Addr) (n' c':Nat) (t k:Int) (R:Value->AM->Prop),m3 b1=some (.cells #[.int .i64 0,.int .i64 0,.slice none 0 0,.slice none 0 0] 39)->m.le m3 ->
   (∀ m4,m.le m4->Fr m3 m4 [b1]->R (.agg #[.int .i64 t,.int .i64 k,.slice A n c,.slice A' n' c']) m4) ->
   StC w0.heap.size m3 ⟨b1,0,none⟩ (.int .i64 t) fun m75=>StC w0.heap.size m75 ⟨b1,1,none⟩ (.int .i64 k) fun m76=>StC w0.heap.size m76 ⟨b1,2,none⟩ (.slice A n c) fun m77=>StC w0.heap.size m77 ⟨b1,3,none⟩ (.slice A' n' c') fun m78 =>
    ∃ i79:Int,m78.cell ⟨b1,0,none⟩=some (.int .i64 i79)/\∃ i80:Int,m78.cell ⟨b1,1,none⟩=some (.int .i64 i80)/\∃ (A81:Option Addr) (n82 c83:Nat),m78.cell ⟨b1,2,none⟩=some (.slice A81 n82 c83)/\∃ (A84:Option Addr) (n85 c86:Nat),m78.cell ⟨b1,3,none⟩=some (.slice A84 n85 c86)/\RetP R (.agg #[.int .i64 i79,.int .i64 i80,.slice A81 n82 c83,.slice A84 n85 c86]) m78:=by
  intro m3 A n c A' n' c' t k R q1 L hR
  refine StC_own q1 hb1 (by simp) ?_
  simp only [std_all,sto_all,Nat.reduceAdd,Nat.reduceLT,LI_,LB_,LA_,SI_,pt_,KI_,I_,SJ_,S_,LT_,LS_,LC_,LU_,LV_,RB_,RI_,RS_,N_,T_,SE_,hb1]
  refine retP_of (hR _ ?_ (Fr.upd (Fr.refl _ _) (.inl (by simp)) _))
  intro x o hx
  rw [upd_get]
  by_cases e:x=b1
  .subst e; rw [hm1] at hx; cases hx
  .rw [if_neg e]; exact L _ _ hx
 have L2:=AM.le_trans l1 l2
 have nil:∀ m4,RRes m4 w0.heap.size (.agg #[.int .i64 0,.int .i64 0,.slice none 0 0,.slice none 0 0]) ⟨0,0,[],[]⟩:=fun m4=>⟨none,0,none,0,rfl,Own.nil _ _ _ _,Own.nil _ _ _ _⟩
 unfold runPP
 by_cases hbad:mem<0\/mem>32000
 .rw [if_pos hbad] at hr
  subst hr
  rw [if_pos (Or.inr hbad)]
  refine ⟨none,rfl,rfl,?_⟩
  by_cases hl:((code.length:Nat):Int)>4096
  .rw [decide_eq_true hl,bcase_t]
   exact ⟨rfl,rfl,retB m2 none 0 0 none 0 0 0 0 _ p2 L2 fun m4 l4 _=>⟨l4,nil m4⟩⟩
  .rw [decide_eq_false hl,bcase_f]
   simp only [cond_false,Option.isNone_none,bcase_t]
   exact ⟨trivial,retB m2 none 0 0 none 0 0 0 0 _ p2 L2 fun m4 l4 _=>⟨l4,nil m4⟩⟩
 rw [if_neg hbad] at hr
 obtain ⟨gm,Aw,rfl,hgm,hw,hnw,hng⟩:=hr
 refine ⟨_,rfl,rfl,?_⟩
 by_cases hl:((code.length:Nat):Int)>4096
 .rw [decide_eq_true hl,bcase_t,if_pos (Or.inl (by omega))]
  exact ⟨rfl,rfl,retB m2 none 0 0 none 0 0 0 0 _ p2 L2 fun m4 l4 _=>⟨l4,nil m4⟩⟩
 rw [decide_eq_false hl,bcase_f,if_neg (show ¬ (code.length>4096\/mem<0\/mem>32000) from fun h=>h.elim (fun h=>hl (by omega)) hbad)]
 refine (show bcase false _ _ from ?_)
 rw [bcase_f]
 refine CallsA.mono (clone_int w0 m2 Ai _ ci inp (hi.le L2) hin) ?_
 rintro r m3 ⟨l3,Ai',ci',rfl,hoi,hni⟩
 refine ⟨_,_,_,rfl,rfl,?_⟩
 intro b35 hb35 hm35 m4
 have l4:m3.le m4:=le_new hm35 _
 have p4:m4 b35=some (.cells (pL ⟨Ac,cc,gm,Ai',ci',none,0,Aw,mem.toNat⟩ code.length (beginPS mem inp)).toArray 117):=upd_get_same
 clear_value m4
 intro b37 hb37 hm37 m5
 have l5:m4.le m5:=le_new hm37 _
 have p5:m5 b37=some (.cells #[.int .i64 0,.int .i64 0,.slice none 0 0,.slice none 0 0] 39):=upd_get_same
 clear_value m5
 have L5:=AM.le_trans (AM.le_trans (AM.le_trans L2 l3) l4) l5
 have n35:m b35=none:=AM.le_none (AM.le_trans L2 l3) hm35
 have n37:m b37=none:=AM.le_none (AM.le_trans (AM.le_trans L2 l3) l4) hm37
 have hS:PipR m5 w0.heap.size b35 code (beginPS mem inp) ⟨Ac,cc,gm,Ai',ci',none,0,Aw,mem.toNat⟩:=by
  have hoi5:=(hoi.le l4).le l5
  have hw5:=((hw.le l3).le l4).le l5
  refine ⟨l5 _ _ p4,hb35,by simp [beginPS],hc.le L5,l5 _ _ (l4 _ _ (l3 _ _ hgm)),hw5,hoi5.reads,hoi.2.1,Own.nil _ _ _ _,by simp [obl],?_,?_,?_,?_⟩
  .intro h0 k hk hin
   have hk0:=Reads_known hc h0 (by decide) k hk
   simp only [PA.fp,List.mem_cons,List.mem_append,obl,List.not_mem_nil,or_false] at hin
   rcases hin with rfl | hin
   .exact hk0 n35
   .exact hk0 (AM.le_none l1 (hnw k hin))
  .intro h0 k hk hin
   simp only [PA.fp,List.mem_cons,List.mem_append,obl,List.not_mem_nil,or_false] at hin
   obtain ⟨_,cur,hk3⟩:=hoi.obl_some hk
   rcases hin with rfl | hin
   .rw [hm35] at hk3; cases hk3
   .obtain ⟨_,cur2,hk2⟩:=hw.obl_some hin
    rw [hni k hk] at hk2; cases hk2
  .intro hin
   simp only [PA.fp,List.mem_cons,List.mem_append,obl,List.not_mem_nil,or_false] at hin
   rcases hin with e | hin
   .rw [<- e] at hm35; rw [l3 _ _ hgm] at hm35; cases hm35
   .exact hw.obl_ne hgm (by decide) hin
  .intro h0 k hk
   obtain ⟨_,cur,hk3⟩:=hoi5.obl_some hk
   exact ⟨cur,hk3⟩
 have hfp0:∀ k∈PA.fp ⟨Ac,cc,gm,Ai',ci',none,0,Aw,mem.toNat⟩ b35,m k=none:=by
  intro k hin
  simp only [PA.fp,List.mem_cons,List.mem_append,obl,List.not_mem_nil,or_false] at hin
  rcases hin with rfl | hin
  .exact n35
  .exact AM.le_none l1 (hnw k hin)
 have q1:=l5 _ _ (l4 _ _ (l3 _ _ p2))
 have hb1f:b1∉PA.fp ⟨Ac,cc,gm,Ai',ci',none,0,Aw,mem.toNat⟩ b35:=by
  intro hin
  simp only [PA.fp,List.mem_cons,List.mem_append,obl,List.not_mem_nil,or_false] at hin
  rcases hin with e | hin
  .rw [<- e,l3 _ _ p2] at hm35; cases hm35
  .exact hw.obl_ne p2 (by decide) hin
 have hb37f:b37∉PA.fp ⟨Ac,cc,gm,Ai',ci',none,0,Aw,mem.toNat⟩ b35:=by
  intro hin
  simp only [PA.fp,List.mem_cons,List.mem_append,obl,List.not_mem_nil,or_false] at hin
  rcases hin with e | hin
  .rw [e,p4] at hm37; cases hm37
  .exact (hw.le l3 |>.le l4 |>.le l5).obl_ne p5 (by decide) hin
 have h137:b1≠b37:=fun e=>by rw [<- e,l4 _ _ (l3 _ _ p2)] at hm37; cases hm37
 generalize hF:runPG code fuel.toNat (beginPS mem inp,0,0)=F
 refine vl19_1111100 w0 m5 _ _ fuel b1 (some ⟨gm,0,none⟩) b35 b37 (PRunI w0 m b1 b35 b37 gm Ac code fuel F) (PRunE w0 m b1 b35 b37 gm Ac code F) fuel.toNat rfl rfl rfl rfl rfl ⟨beginPS mem inp,0,0,_,⟨hS,rfl,rfl,L5,q1,p5,hfp0,hb1f,hb37f,wf_begin mem inp⟩,hF,by omega,fun _=>by simp⟩ ?_ ?_
 .rintro n σ m6 ⟨s,t,k,q,hC,hG,hk,hn⟩
  simp only [cell_of hC.h37,std_all,sto_all,Nat.reduceAdd,Nat.reduceLT,LI_,LB_,LA_,SI_,pt_,KI_,I_,SJ_,S_,LT_,LS_,LC_,LU_,LV_,RB_,RI_,RS_,N_,T_,SE_]
  by_cases ht:t=0
  .subst ht
   simp only [beq_self_eq_true,std_all,sto_all,Nat.reduceAdd,Nat.reduceLT,LI_,LB_,LA_,SI_,pt_,KI_,I_,SJ_,S_,LT_,LS_,LC_,LU_,LV_,RB_,RI_,RS_,N_,T_,SE_]
   by_cases hkf:k<fuel
   .simp only [decide_eq_true hkf,std_all,sto_all,Nat.reduceAdd,Nat.reduceLT,LI_,LB_,LA_,SI_,pt_,KI_,I_,SJ_,S_,LT_,LS_,LC_,LU_,LV_,RB_,RI_,RS_,N_,T_,SE_]
    refine CallsA.mono (cycle_spec w0 m6 b35 code s q hC.wf hC.hS) ?_
    rintro r m7 ⟨rfl,q7,hc7,Q7⟩
    have k37:=Q7.fr _ _ hC.h37 hC.n37
    have k1:=Q7.fr _ _ hC.h1 hC.n1
    have Q7':PQ m w0.heap.size b35 code q q7 m7 (cycleP code s).1:=⟨Q7.R,(Fr.of_le hC.hl _).trans Q7.fr fun _ h=>.inl h,fun x hx=>(Q7.kn x hx).imp id fun h=>AM.le_none hC.hl h,Q7.gme,fun h0 x hx=>by rw [hc7,hC.hAc] at hx; exact Reads_known hc h0 (by decide) x hx⟩
    refine ⟨_,rfl,?_⟩
    refine StC_own k37 hb37 (by simp) ?_
    have wk:IntKind.wrap .i64 (k+1)=k+1:=by rw [IntKind.wrap_i64]; unfold InI at hf; omega
    simp only [std_all,sto_all,Nat.reduceAdd,Nat.reduceLT,LI_,LB_,LA_,SI_,pt_,KI_,I_,SJ_,S_,LT_,LS_,LC_,LU_,LV_,RB_,RI_,RS_,N_,T_,SE_,hb37,wk]
    have hn1:n=(fuel-k).toNat:=hn rfl
    obtain ⟨n',rfl⟩:∃ n',n=n'+1:=⟨n-1,by omega⟩
    have F37:=Q7'.foreign k37 n37 (by decide) (by decide) (by decide) (.cells #[.int .i64 (cycleP code s).2,.int .i64 (k+1),.slice none 0 0,.slice none 0 0] 39)
    refine ⟨n',by omega,(cycleP code s).1,(cycleP code s).2,k+1,q7,⟨F37.1.R,Q7.gme.trans hC.hgm,hc7.trans hC.hAc,?_,?_,upd_get_same,?_,?_,?_,wf_cycle code hC.wf⟩,?_,by omega,fun _=>by omega⟩
    .intro x o hx
     rw [upd_get]
     by_cases e:x=b37
     .subst e; rw [n37] at hx; cases hx
     .rw [if_neg e]; exact Q7.fr _ _ (hC.hl _ _ hx) fun hin=>by rw [hC.hf x hin] at hx; cases hx
    .rw [upd_get_ne h137]; exact k1
    .intro x hx
     rcases Q7.kn x hx with h | h
     .exact hC.hf x h
     .exact AM.le_none hC.hl h
    .intro hx
     rcases Q7.kn _ hx with h | h
     .exact hC.n1 h
     .rw [hC.h1] at h; cases h
    .intro hx
     rcases Q7.kn _ hx with h | h
     .exact hC.n37 h
     .rw [hC.h37] at h; cases h
    .rw [<- hG]; simp [runPG]
   .simp only [decide_eq_false hkf,std_all,sto_all,Nat.reduceAdd,Nat.reduceLT,LI_,LB_,LA_,SI_,pt_,KI_,I_,SJ_,S_,LT_,LS_,LC_,LU_,LV_,RB_,RI_,RS_,N_,T_,SE_]
    refine ⟨s,0,k,q,hC,?_⟩
    have hn1:n=(fuel-k).toNat:=hn rfl
    have:n=0:=by omega
    subst this
    exact hG
  .have hb:(t == 0)=false:=by simpa using ht
   simp only [hb,std_all,sto_all,Nat.reduceAdd,Nat.reduceLT,LI_,LB_,LA_,SI_,pt_,KI_,I_,SJ_,S_,LT_,LS_,LC_,LU_,LV_,RB_,RI_,RS_,N_,T_,SE_]
   refine ⟨s,t,k,q,hC,?_⟩
   rw [<- hG]
   cases n with
   | zero=>rfl
   | succ n=>simp [runPG,ht]
 .rintro σ m6 ⟨s,t,k,q,hC,rfl⟩
  have hml:s.mem.length<=1000000:=by
   have:=runPG_mem code fuel.toNat (beginPS mem inp,0,0)
   rw [hF] at this
   have h2:s.mem.length=(beginPS mem inp).mem.length:=this
   rw [h2]; simp [beginPS]; omega
  have h6:=hC.hS
  obtain ⟨_,_,_,_,r36⟩:=h6.cells
  have hgm6:=hC.hgm
  have fin:∀ (m7:AM) (A:Option Addr) (c:Nat),m6.le m7->Alog.Own m7 w0.heap.size 3 1 A (usedP s.mem).length c (intCells .i64 (usedP s.mem))->∀ (K:AM->Prop),
    (∀ m8,m.le m8->m8 b1=some (.cells #[.int .i64 0,.int .i64 0,.slice none 0 0,.slice none 0 0] 39)->m8 b37=some (.cells #[.int .i64 t,.int .i64 k,.slice q.Ao s.out.length q.co,.slice A (usedP s.mem).length c] 39)->Alog.Own m8 w0.heap.size 3 1 q.Ao s.out.length q.co (intCells .i64 s.out)->Alog.Own m8 w0.heap.size 3 1 A (usedP s.mem).length c (intCells .i64 (usedP s.mem))->K m8) ->
    StC w0.heap.size m7 ⟨b37,2,none⟩ (.slice q.Ao s.out.length q.co) fun m55=>StC w0.heap.size m55 ⟨b37,3,none⟩ (.slice A (usedP s.mem).length c) K:=by
   intro m7 A c l7 o7 K hK
   have k37:=l7 _ _ hC.h37
   refine StC_own k37 hb37 (by simp) ?_
   simp only [std_all,sto_all,Nat.reduceAdd,Nat.reduceLT,LI_,LB_,LA_,SI_,pt_,KI_,I_,SJ_,S_,LT_,LS_,LC_,LU_,LV_,RB_,RI_,RS_,N_,T_,SE_,hb37]
   refine hK _ ?_ (by rw [upd_get_ne h137]; exact l7 _ _ hC.h1) upd_get_same ((h6.ho.le l7).upd ((h6.ho.le l7).ne_type k37 (by decide))) (o7.upd (o7.ne_type k37 (by decide)))
   intro x o hx
   rw [upd_get]
   by_cases e:x=b37
   .subst e; rw [n37] at hx; cases hx
   .rw [if_neg e]; exact l7 _ _ (hC.hl _ _ hx)
  refine vr19_1111110 w0 m6 _ _ b1 (some ⟨gm,0,none⟩) b35 b37 (fun m8=>∃ A c,m.le m8/\m8 b1=some (.cells #[.int .i64 0,.int .i64 0,.slice none 0 0,.slice none 0 0] 39)/\m8 b37=some (.cells #[.int .i64 t,.int .i64 k,.slice q.Ao s.out.length q.co,.slice A (usedP s.mem).length c] 39)/\Alog.Own m8 w0.heap.size 3 1 q.Ao s.out.length q.co (intCells .i64 s.out)/\Alog.Own m8 w0.heap.size 3 1 A (usedP s.mem).length c (intCells .i64 (usedP s.mem))) rfl rfl rfl rfl ?_ ?_
  .refine ⟨⟨_,_,_,r36,?_⟩,?_⟩
   .refine CallsA.mono (used_spec w0 m6 w0.heap.size gm q.Aw s.mem q.cw (hgm6 ▸ h6.hm) h6.hw hml) ?_
    rintro r m7 ⟨l7,A,c,rfl,o7,_⟩
    refine ⟨_,_,_,rfl,fin m7 A c l7 o7 _ fun m8 a1 a2 a3 a4 a5=>?_⟩
    exact ⟨rfl,rfl,rfl,A,c,a1,a2,a3,a4,a5⟩
   .refine CallsA.mono (used_spec w0 m6 w0.heap.size gm q.Aw s.mem q.cw (hgm6 ▸ h6.hm) h6.hw hml) ?_
    rintro r m7 ⟨l7,A,c,rfl,o7,_⟩
    refine ⟨_,_,_,rfl,_,_,_,AM.le_cell l7 r36,fin m7 A c l7 o7 _ fun m8 a1 a2 a3 a4 a5=>?_⟩
    exact ⟨rfl,rfl,rfl,A,c,a1,a2,a3,a4,a5⟩
  .rintro σ m8 ⟨A,c,a1,a2,a3,a4,a5⟩
   simp only [cell_of a3,std_all,sto_all,Nat.reduceAdd,Nat.reduceLT,LI_,LB_,LA_,SI_,pt_,KI_,I_,SJ_,S_,LT_,LS_,LC_,LU_,LV_,RB_,RI_,RS_,N_,T_,SE_]
   refine StC_own a2 hb1 (by simp) ?_
   simp only [std_all,sto_all,Nat.reduceAdd,Nat.reduceLT,LI_,LB_,LA_,SI_,pt_,KI_,I_,SJ_,S_,LT_,LS_,LC_,LU_,LV_,RB_,RI_,RS_,N_,T_,SE_,hb1]
   refine retP_of ⟨?_,q.Ao,q.co,A,c,rfl,a4.upd (a4.ne_type a2 (by decide)),a5.upd (a5.ne_type a2 (by decide))⟩
   intro x o hx
   rw [upd_get]
   by_cases e:x=b1
   .subst e; rw [hm1] at hx; cases hx
   .rw [if_neg e]; exact a1 _ _ hx
def txt:ByteArray:=ByteArray.mk #[112,114,111,103,114,97,109,32,97,59,32,98,101,103,105,110,32,119,114,105,116,101,32,55,32,101,110,100,46]
def txtT:List Tok:=[⟨1,ByteArray.mk #[112,114,111,103,114,97,109],0,0⟩,⟨1,ByteArray.mk #[97],0,8⟩,⟨3,ByteArray.mk #[59],0,9⟩,⟨1,ByteArray.mk #[98,101,103,105,110],0,11⟩,⟨1,ByteArray.mk #[119,114,105,116,101],0,17⟩,⟨2,ByteArray.empty,7,23⟩,⟨1,ByteArray.mk #[101,110,100],0,25⟩,⟨3,ByteArray.mk #[46],0,28⟩]
theorem txt_scan:scanP txt=(txtT,0,0):=by kernel_rfl
def txtS:CS:=initCS txtT 29
theorem txt_writes:Writes txtS ⟨1,ByteArray.mk #[101,110,100],0,25⟩ [⟨3,ByteArray.mk #[46],0,28⟩] where
 a1:=by kernel_rfl
 a2:=by kernel_rfl
 a3:=by kernel_rfl
 b0:=by kernel_rfl
 b1:=by kernel_rfl
 b2:=by kernel_rfl
 b3:=by kernel_rfl
 b4:=by kernel_rfl
 c1:=⟨by kernel_rfl,by kernel_rfl,by kernel_rfl⟩
 c2:=⟨by kernel_rfl,by kernel_rfl,by kernel_rfl,by kernel_rfl,by kernel_rfl,by kernel_rfl,by kernel_rfl,by decide,by decide,Nat.le_of_ble_eq_true (by kernel_rfl)⟩
 c3:=⟨by kernel_rfl,by kernel_rfl,by kernel_rfl,by kernel_rfl,fun y hy=>by
  have h:signs.all (fun y=>!txtS.p3.nxt.cst.sees y)=true:=by kernel_rfl
  simpa using List.all_eq_true.1 h y hy⟩
 c4:=by kernel_rfl
 c5:=by kernel_rfl
 d1:=by kernel_rfl
 d2:=by kernel_rfl
 d3:=by kernel_rfl
 d4:=by kernel_rfl
 l1:=Nat.le_of_ble_eq_true (by kernel_rfl)
 l2:=Nat.le_of_ble_eq_true (by kernel_rfl)
 l3:=Nat.le_of_ble_eq_true (by kernel_rfl)
 l4:=Nat.le_of_ble_eq_true (by kernel_rfl)
 l5:=Nat.le_of_ble_eq_true (by kernel_rfl)
 l6:=Nat.le_of_ble_eq_true (by kernel_rfl)
def txtE:CS:=txtS.p4.nxt.nxt
def txtC:List Ins:=[⟨17,0,0,0,1⟩,⟨10,29,0,0,9⟩,⟨10,8,0,0,7⟩,⟨1,4,8,0,0⟩,⟨20,0,0,0,2⟩,⟨20,0,0,0,0⟩]
def txtD:List Ins:=[⟨17,0,0,0,2⟩,⟨0,0,0,0,0⟩,⟨10,8,0,0,7⟩,⟨1,4,8,0,0⟩,⟨20,0,0,0,2⟩,⟨10,29,0,0,9⟩,⟨20,0,0,0,0⟩]
theorem txt_re:reorgP txtC=(txtD,[0,2,7],0):=by kernel_rfl
theorem txt_run:(runP txtC 9 [] 99).trap=1/\(runP txtC 9 [] 99).out = [7]:=⟨by kernel_rfl,by kernel_rfl⟩
theorem txt_pipe:(runPP txtD 9 [] 99).trap=1/\(runPP txtD 9 [] 99).out = [7]:=⟨by kernel_rfl,by kernel_rfl⟩
theorem txt_good:Good (fun s=>s=txtE) 9 txt txtC where
 sc:=by rw [txt_scan]
 ok:=by rintro s rfl; exact ⟨by kernel_rfl,Nat.le_of_ble_eq_true (by kernel_rfl)⟩
 si:=by
  rintro s y rfl hy
  refine ⟨?_,?_,?_,?_,by decide,by decide,?_,?_,?_⟩ <;> rw [hy]
  .kernel_rfl
  .kernel_rfl
  .have h:txtE.ob.pats.all (fun p=>p.kind != 2)=true:=by kernel_rfl
   intro p hp
   simpa using List.all_eq_true.1 h p hp
  .kernel_rfl
  .exact Nat.le_of_ble_eq_true (by kernel_rfl)
  .exact of_decide_eq_true (by kernel_rfl)
  .kernel_rfl
 re:=by rw [txt_re]
theorem txt_comp (w0:World) (m:AM) (hsp:Sp m):CallsA Tryz.prog w0 11 #[.string txt] m (oComp m (fun s=>s=txtE) txt):=by
 refine compile_of w0 m txt (Nat.le_of_ble_eq_true (by kernel_rfl)) hsp _ (by rintro s rfl; exact ⟨Nat.le_of_ble_eq_true (by kernel_rfl),Nat.le_of_ble_eq_true (by kernel_rfl)⟩) fun _ m1 M c h=>?_
 rw [txt_scan] at h
 refine CallsA.mono (program_x (s:=txtS) txt_writes h) ?_
 rintro r m' ⟨rfl,h'⟩
 exact ⟨rfl,_,h',rfl⟩
def oLr (B:Nat) (m:AM) (r:Value) (m':AM):Prop:=m.le m'/\∃ (s:Int) (A:Option Addr) (c:Nat) (Am:Option Addr) (n cm:Nat),r=.agg #[.int .i64 1,.int .i64 s,.slice A 1 c,.slice Am n cm]/\Alog.Own m' B 3 1 A 1 c [.int .i64 7]
def zRes:List Value:=[.int .i64 0,.int .i64 0,.slice none 0 0,.slice none 0 0]
section
variable {w0:World} {m:AM}
theorem res_box {b:Nat} {M:AM} {B:Nat} {v:Value} {r:Res} (hB:B<=b) (hb:m b=none) (l:m.le M) (hz:M b=some (.cells zRes.toArray 39)) (h:RRes M B v r) (ht:r.trap=1) (ho:r.out = [7]) {R:Value->AM->Prop} (hR:∀ r m',oLr B m r m'->R r m') :
  ∃ (i j:Int) (A:Option Addr) (n c:Nat) (A2:Option Addr) (n2 c2:Nat),v=.agg #[.int .i64 i,.int .i64 j,.slice A n c,.slice A2 n2 c2]/\StC B M ⟨b,0,none⟩ (.int .i64 i) fun m1=>StC B m1 ⟨b,1,none⟩ (.int .i64 j) fun m2=>StC B m2 ⟨b,2,none⟩ (.slice A n c) fun m3=>StC B m3 ⟨b,3,none⟩ (.slice A2 n2 c2) fun m4 =>
   ∃ i:Int,m4.cell ⟨b,0,none⟩=some (.int .i64 i)/\∃ j:Int,m4.cell ⟨b,1,none⟩=some (.int .i64 j)/\∃ (A:Option Addr) (n c:Nat),m4.cell ⟨b,2,none⟩=some (.slice A n c)/\∃ (A2:Option Addr) (n2 c2:Nat),m4.cell ⟨b,3,none⟩=some (.slice A2 n2 c2)/\RetP R (.agg #[.int .i64 i,.int .i64 j,.slice A n c,.slice A2 n2 c2]) m4:=by
 obtain ⟨Ao,co,Am,cm,rfl,o1,o2⟩:=h
 refine ⟨_,_,_,_,_,_,_,_,rfl,fillB4 hB rfl hz _ _ _ _ ?_⟩
 refine ⟨_,cel upd_get_same rfl,_,cel upd_get_same rfl,_,_,_,cel upd_get_same rfl,_,_,_,cel upd_get_same rfl,retP_of (hR _ _ ⟨fun k o hk=>?_,r.steps,Ao,co,Am,r.mem.length,cm,?_,?_⟩)⟩
 .rw [upd_get_ne (fun e=>by rw [e,hb] at hk; cases hk)]; exact l _ _ hk
 .rw [ht,ho]; rfl
 .rw [ho] at o1
  exact o1.upd fun off e=>o1.ne_type hz (by decide) off e
theorem bRun_x (A1:Option Addr) (c1:Nat) (d:Int) (A2:Option Addr) (n2 c2:Nat) (rd:Reads m 5 A1 txtC.length (insCells txtC)) :
  CallsA Tryz.prog w0 9 #[.agg #[.slice A1 txtC.length c1,.int .i64 d,.slice A2 n2 c2,.int .i64 9],.slice none 0 0,.int .i64 99] m (oLr w0.heap.size m):=by
 refine cf9 w0 m A1 txtC.length c1 d A2 n2 c2 9 none 0 0 99 _ ?_
 intro b1 hB1 hN1 M1
 have l1:m.le M1:=le_new hN1 _
 have p1:M1 b1=some (.cells #[.slice A1 txtC.length c1,.int .i64 d,.slice A2 n2 c2,.int .i64 9] 29):=upd_get_same
 clear_value M1
 intro b2 hB2 hN2 M2
 have l2:M1.le M2:=le_new hN2 _
 have p2:M2 b2=some (.cells zRes.toArray 39):=upd_get_same
 clear_value M2
 refine ⟨_,_,_,cel (l2 _ _ p1) rfl,_,cel (l2 _ _ p1) rfl,CallsA.mono (run_spec w0 M2 A1 c1 txtC 9 none 0 [] 99 (by unfold InI; decide) (rd.le (AM.le_trans l1 l2)) (Reads.nil _ _) (by decide)) ?_⟩
 rintro r M3 ⟨l3,hr⟩
 exact res_box hB2 (AM.le_none l1 hN2) (AM.le_trans (AM.le_trans l1 l2) l3) (l3 _ _ p2) hr txt_run.1 txt_run.2 fun _ _ h=>h
theorem bPipe_x (A1:Option Addr) (n1 c1:Nat) (d:Int) (A2:Option Addr) (c2:Nat) (rd:Reads m 5 A2 txtD.length (insCells txtD)) :
  CallsA Tryz.prog w0 10 #[.agg #[.slice A1 n1 c1,.int .i64 d,.slice A2 txtD.length c2,.int .i64 9],.slice none 0 0,.int .i64 99] m (oLr w0.heap.size m):=by
 refine cf10 w0 m A1 n1 c1 d A2 txtD.length c2 9 none 0 0 99 _ ?_
 intro b1 hB1 hN1 M1
 have l1:m.le M1:=le_new hN1 _
 have p1:M1 b1=some (.cells #[.slice A1 n1 c1,.int .i64 d,.slice A2 txtD.length c2,.int .i64 9] 29):=upd_get_same
 clear_value M1
 intro b2 hB2 hN2 M2
 have l2:M1.le M2:=le_new hN2 _
 have p2:M2 b2=some (.cells zRes.toArray 39):=upd_get_same
 clear_value M2
 refine ⟨_,_,_,cel (l2 _ _ p1) rfl,_,cel (l2 _ _ p1) rfl,CallsA.mono (runPP_spec w0 M2 A2 c2 txtD 9 none 0 [] 99 (by unfold InI; decide) (rd.le (AM.le_trans l1 l2)) (Reads.nil _ _) (by decide)) ?_⟩
 rintro r M3 ⟨l3,hr⟩
 exact res_box hB2 (AM.le_none l1 hN2) (AM.le_trans (AM.le_trans l1 l2) l3) (l3 _ _ p2) hr txt_pipe.1 txt_pipe.2 fun _ _ h=>h
end
structure LR (m0 M:AM) (B:Nat) (z:List Nat) (o5 o6:Option (Option Addr × Nat)):Prop where
 le:m0.le M
 bx:∀ b∈z,B<=b/\m0 b=none/\M b=some (.cells zRes.toArray 39 (0,0))
 nd:z.Nodup
 h5:∀ A c,o5=some (A,c)->Alog.Own M B 3 1 A 1 c [.int .i64 7]
 h6:∀ A c,o6=some (A,c)->Alog.Own M B 3 1 A 1 c [.int .i64 7]
def LB (M:AM) (B b:Nat):Prop:=∃ (s:Int) (A:Option Addr) (c:Nat) (Am:Option Addr) (n cm:Nat),M b=some (.cells #[.int .i64 1,.int .i64 s,.slice A 1 c,.slice Am n cm] 39 (0,0))/\Alog.Own M B 3 1 A 1 c [.int .i64 7]
section
variable {m0 M M':AM} {B:Nat} {z:List Nat} {o5 o6:Option (Option Addr × Nat)}
theorem LR.grow (h:LR m0 M B z o5 o6) (l:M.le M'):LR m0 M' B z o5 o6 :=
 ⟨AM.le_trans h.le l,fun b hb=>⟨(h.bx b hb).1,(h.bx b hb).2.1,l _ _ (h.bx b hb).2.2⟩,h.nd,fun A c e=>(h.h5 A c e).le l,fun A c e=>(h.h6 A c e).le l⟩
theorem LR.new (h:LR m0 M B z o5 o6) {b:Nat} (hB:B<=b) (hN:M b=none):LR m0 (M.upd b (.cells zRes.toArray 39)) B (b :: z) o5 o6:=by
 have g:=h.grow (le_new hN (.cells zRes.toArray 39))
 refine ⟨g.le,fun k hk=>?_,List.nodup_cons.2 ⟨fun hin=>?_,h.nd⟩,g.h5,g.h6⟩
 .rcases List.mem_cons.1 hk with rfl | hk
  .exact ⟨hB,AM.le_none h.le hN,upd_get_same⟩
  .exact g.bx k hk
 .have:=(h.bx b hin).2.2
  rw [hN] at this; cases this
theorem LR.run5 (h:LR m0 M B z none o6) (l:M.le M') {A:Option Addr} {c:Nat} (o:Alog.Own M' B 3 1 A 1 c [.int .i64 7]):LR m0 M' B z (some (A,c)) o6 :=
 ⟨(h.grow l).le,(h.grow l).bx,h.nd,fun A c e=>by cases e; exact o,(h.grow l).h6⟩
theorem LR.run6 (h:LR m0 M B z o5 none) (l:M.le M') {A:Option Addr} {c:Nat} (o:Alog.Own M' B 3 1 A 1 c [.int .i64 7]):LR m0 M' B z o5 (some (A,c)) :=
 ⟨(h.grow l).le,(h.grow l).bx,h.nd,(h.grow l).h5,fun A c e=>by cases e; exact o⟩
theorem LR.fin {A A':Option Addr} {c c' x y:Nat} (h:LR m0 M B z (some (A,c)) (some (A',c'))) (hx:x∈z) (hy:y∈z) (hxy:x≠y) (s s':Int) (Am Am':Option Addr) (n cm n' cm':Nat) {K:AM->Prop} (hK:∀ M',LB M' B x->LB M' B y->m0.le M'->K M') :
  StC B M ⟨x,0,none⟩ (.int .i64 1) fun m1=>StC B m1 ⟨x,1,none⟩ (.int .i64 s) fun m2=>StC B m2 ⟨x,2,none⟩ (.slice A 1 c) fun m3=>StC B m3 ⟨x,3,none⟩ (.slice Am n cm) fun m4 =>
  StC B m4 ⟨y,0,none⟩ (.int .i64 1) fun m5=>StC B m5 ⟨y,1,none⟩ (.int .i64 s') fun m6=>StC B m6 ⟨y,2,none⟩ (.slice A' 1 c') fun m7=>StC B m7 ⟨y,3,none⟩ (.slice Am' n' cm') fun m8=>K m8:=by
 obtain ⟨hx1,hx2,hx3⟩:=h.bx x hx
 obtain ⟨hy1,hy2,hy3⟩:=h.bx y hy
 have p1:(M.upd x (.cells ([.int .i64 1,.int .i64 s,.slice A 1 c,.slice Am n cm]:List Value).toArray 39)) y=some (.cells zRes.toArray 39 (0,0)):=by rw [upd_get_ne (Ne.symm hxy)]; exact hy3
 refine fillB4 hx1 rfl hx3 _ _ _ _ (fillB4 hy1 rfl p1 _ _ _ _ (hK _ ⟨s,A,c,Am,n,cm,?_,?_⟩ ⟨s',A',c',Am',n',cm',upd_get_same,?_⟩ fun k o hk=>?_))
 .rw [upd_get_ne hxy]; exact upd_get_same
 .have o1:=h.h5 _ _ rfl
  have o2:=o1.upd (o:=.cells ([.int .i64 1,.int .i64 s,.slice A 1 c,.slice Am n cm]:List Value).toArray 39) fun off e=>o1.ne_type hx3 (by decide) off e
  exact o2.upd fun off e=>o2.ne_type p1 (by decide) off e
 .have o1:=h.h6 _ _ rfl
  have o2:=o1.upd (o:=.cells ([.int .i64 1,.int .i64 s,.slice A 1 c,.slice Am n cm]:List Value).toArray 39) fun off e=>o1.ne_type hx3 (by decide) off e
  exact o2.upd fun off e=>o2.ne_type p1 (by decide) off e
 .rw [upd_get_ne (fun e=>by rw [e,hy2] at hk; cases hk),upd_get_ne (fun e=>by rw [e,hx2] at hk; cases hk)]
  exact h.le _ _ hk
end
theorem runs_x (w0:World) (m:AM) (σ:Sg) (R:Value->AM->Prop) (b:Nat) (A1:Option Addr) (c1:Nat) (d:Int) (A2:Option Addr) (c2:Nat) (hb:m b=some (.cells #[.slice A1 txtC.length c1,.int .i64 d,.slice A2 txtD.length c2,.int .i64 9] 29 (0,0)))
  (r1:Reads m 5 A1 txtC.length (insCells txtC)) (r2:Reads m 5 A2 txtD.length (insCells txtD)) (s1:σ 1=.pointer (some ⟨b,0,none⟩)) (s4:σ 4=.int .i64 0) (hR:∀ m',m.le m'->R (.bool true) m') :
  (XV w0 F5 (Tz R) 14 σ m):=by
 refine vr5_110 w0 m σ R b 0 (fun y5 y6 m'=>LB m' w0.heap.size y5/\LB m' w0.heap.size y6/\m.le m') s1 s4 ?_ ?_
 .refine ⟨_,_,_,cel hb rfl,_,cel hb rfl,_,_,_,cel hb rfl,_,cel hb rfl,_,_,_,cel hb rfl,_,cel hb rfl,_,_,_,cel hb rfl,_,cel hb rfl,?_⟩
  have h:LR m m w0.heap.size [] none none:=⟨AM.le_refl _,nofun,List.nodup_nil,nofun,nofun⟩
  have c9:∀ {M:AM} {z o5 o6},LR m M w0.heap.size z o5 o6->CallsA Tryz.prog w0 9 #[.agg #[.slice A1 txtC.length c1,.int .i64 d,.slice A2 txtD.length c2,.int .i64 9],.slice none 0 0,.int .i64 99] M (oLr w0.heap.size M):=fun h=>bRun_x A1 c1 d A2 _ c2 (r1.le h.le)
  have c10:∀ {M:AM} {z o5 o6},LR m M w0.heap.size z o5 o6->CallsA Tryz.prog w0 10 #[.agg #[.slice A1 txtC.length c1,.int .i64 d,.slice A2 txtD.length c2,.int .i64 9],.slice none 0 0,.int .i64 99] M (oLr w0.heap.size M):=fun h=>bPipe_x A1 _ c1 d A2 c2 (r2.le h.le)
  repeat' first
   | (intro bb hB hN M'; replace h:=h.new hB hN; change LR m M' _ _ _ _ at h; clear_value M')
   | ((with_reducible refine CallsA.mono (c9 h) ?_); rintro r M' ⟨l,s,A,c,Am,n,cm,rfl,o⟩; refine ⟨l,_,_,_,_,_,_,_,_,rfl,?_⟩; replace h:=h.run5 l o; clear l o)
   | ((with_reducible refine CallsA.mono (c10 h) ?_); rintro r M' ⟨l,s,A,c,Am,n,cm,rfl,o⟩; refine ⟨l,_,_,_,_,_,_,_,_,rfl,?_⟩; replace h:=h.run6 l o; clear l o)
   | exact h.fin (by simp) (by simp) (by have:=h.nd; simp at this; omega) _ _ _ _ _ _ _ _ fun M' h1 h2 h3=>⟨rfl,rfl,rfl,rfl,h1,h2,h3⟩
   | with_reducible refine And.intro ?_ ?_
 .rintro σ y5 y6 M ⟨⟨s,A,c,Am,n,cm,p5,o5⟩,⟨s',A',c',Am',n',cm',p6,o6⟩,l⟩
  obtain ⟨a5,rfl,q5⟩:=o5.ex (by omega)
  obtain ⟨a6,rfl,q6⟩:=o6.ex (by omega)
  have z5:=q5 0 _ rfl
  have z6:=q6 0 _ rfl
  exact ⟨rfl,bcET rfl ⟨_,cel p5 rfl,rfl,bcET rfl ⟨_,cel p6 rfl,rfl,bcET rfl ⟨_,_,_,cel p5 rfl,rfl,bcET rfl ⟨_,_,_,cel p6 rfl,rfl,bcET rfl ⟨_,_,_,cel p5 rfl,⟨by omega,by omega⟩,nilO_at rfl ⟨_,z5,rfl,bcET rfl ⟨_,_,_,cel p6 rfl,⟨by omega,by omega⟩,nilO_at rfl ⟨_,z6,rfl,retP_of (hR _ l)⟩⟩⟩⟩⟩⟩⟩⟩⟩
theorem lives_x (w0:World) (m:AM) (hsp:Sp m):CallsA Tryz.prog w0 5 #[] m (oLives m):=by
 refine cf5 w0 m _ ⟨rfl,?_⟩
 intro b1 hB1 hN1 M1
 have l1:m.le M1:=le_new hN1 _
 have p1:M1 b1=some (.cells ([.string txt]:List Value).toArray 9):=upd_get_same
 clear_value M1
 refine CallsA.mono (build_of w0 M1 (some ⟨b1,0,none⟩) 1 [txt] 9 (fun s=>s=txtE) (by decide) (rd_of p1 rfl) (by rintro s rfl; exact ⟨Nat.le_of_ble_eq_true (by kernel_rfl),Nat.le_of_ble_eq_true (by kernel_rfl),Nat.le_of_ble_eq_true (by kernel_rfl),Nat.le_of_ble_eq_true (by kernel_rfl)⟩) fun x hx M hM=>?_) ?_
 .rw [List.mem_singleton.1 hx]
  exact txt_comp w0 M (hsp.le (AM.le_trans l1 hM))
 rintro r m2 ⟨l2,A1,n1,c1,d,A2,n2,c2,mm,i,j,e,rfl,hres⟩
 rcases hres with ⟨he,_,hno⟩ | ⟨rfl,rfl,code,rfl,hlen,hz,rfl,hc2,r1,r2,hex⟩
 .exact (hno txt txtC rfl txt_good).elim
 obtain rfl:code=txtC:=hex txt txtC rfl txt_good
 rw [txt_re] at r2
 refine ⟨_,_,_,_,_,_,_,_,_,_,_,rfl,?_⟩
 intro b hB hN M3
 refine fillB4 hB (z:=zBt) rfl upd_get_same _ _ _ _ ?_
 rw [upd_upd]
 have l3:m2.le (m2.upd b (.cells ([.slice A1 txtC.length c1,.int .i64 d,.slice A2 (reorgP txtC).1.length c2,.int .i64 9]:List Value).toArray 29)):=le_new hN _
 exact runs_x w0 _ _ _ b A1 c1 d A2 c2 upd_get_same (r1.le l3) (r2.le l3) rfl rfl fun m' hm=>⟨rfl,AM.le_trans (AM.le_trans l1 (AM.le_trans l2 l3)) hm⟩
theorem top_safe (w0:World) (m:AM) (A:Option Addr) (c:Nat) (l:List ByteArray) (mem:Int) (hl:l.length<=4611686018427387904) (rd:Reads m 1 A l.length (l.map Value.string)) (hsp:Sp m) :
  CallsA Tryz.prog w0 3 #[.slice A l.length c,.int .i64 mem] m (fun r _=>r=.bool true) :=
 top_of w0 m A c l mem hl rd hsp fun M h=>lives_x w0 M h
end Go.Proofs.YtgjamnhjlaohaaaGreatDoor.S
namespace Go.Proofs.YtgjamnhjlaohaaaGreatDoor.Facts
open Go Go.RowKit
theorem words:Tryz.prog.initOrder.toList = [Char.ofNat 104,Char.ofNat 97,Char.ofNat 114,Char.ofNat 110,Char.ofNat 101,Char.ofNat 115,Char.ofNat 115,Char.ofNat 32,Char.ofNat 98,Char.ofNat 100,Char.ofNat 48,Char.ofNat 57,Char.ofNat 57,Char.ofNat 55,Char.ofNat 98,Char.ofNat 100,Char.ofNat 55,Char.ofNat 101,Char.ofNat 53,Char.ofNat 57,Char.ofNat 97,Char.ofNat 55,Char.ofNat 51,Char.ofNat 102,Char.ofNat 55,Char.ofNat 98,Char.ofNat 100,Char.ofNat 54,Char.ofNat 51,Char.ofNat 98,Char.ofNat 101,Char.ofNat 99,Char.ofNat 56,Char.ofNat 54,Char.ofNat 54,Char.ofNat 52,Char.ofNat 101,Char.ofNat 52,Char.ofNat 53,Char.ofNat 55,Char.ofNat 48,Char.ofNat 98,Char.ofNat 57,Char.ofNat 55,Char.ofNat 102,Char.ofNat 57,Char.ofNat 50,Char.ofNat 98,Char.ofNat 100,Char.ofNat 100,Char.ofNat 54,Char.ofNat 48,Char.ofNat 48,Char.ofNat 98,Char.ofNat 55,Char.ofNat 55,Char.ofNat 49,Char.ofNat 50,Char.ofNat 101,Char.ofNat 102,Char.ofNat 56,Char.ofNat 55,Char.ofNat 97,Char.ofNat 49,Char.ofNat 100,Char.ofNat 55,Char.ofNat 52,Char.ofNat 54,Char.ofNat 48,Char.ofNat 55,Char.ofNat 53,Char.ofNat 56,Char.ofNat 32,Char.ofNat 99,Char.ofNat 117,Char.ofNat 116,Char.ofNat 32,Char.ofNat 97,Char.ofNat 116,Char.ofNat 32,Char.ofNat 100,Char.ofNat 101,Char.ofNat 108,Char.ofNat 97,Char.ofNat 121,Char.ofNat 115,Char.ofNat 108,Char.ofNat 111,Char.ofNat 116,Char.ofNat 47,Char.ofNat 100,Char.ofNat 101,Char.ofNat 108,Char.ofNat 97,Char.ofNat 121,Char.ofNat 115,Char.ofNat 108,Char.ofNat 111,Char.ofNat 116,Char.ofNat 116,Char.ofNat 111,Char.ofNat 112,Char.ofNat 46,Char.ofNat 84,Char.ofNat 111,Char.ofNat 112,Char.ofNat 83,Char.ofNat 97,Char.ofNat 102,Char.ofNat 101]:=(congrArg String.toList (by kernel_rfl:Tryz.prog.initOrder=String.ofList [Char.ofNat 104,Char.ofNat 97,Char.ofNat 114,Char.ofNat 110,Char.ofNat 101,Char.ofNat 115,Char.ofNat 115,Char.ofNat 32,Char.ofNat 98,Char.ofNat 100,Char.ofNat 48,Char.ofNat 57,Char.ofNat 57,Char.ofNat 55,Char.ofNat 98,Char.ofNat 100,Char.ofNat 55,Char.ofNat 101,Char.ofNat 53,Char.ofNat 57,Char.ofNat 97,Char.ofNat 55,Char.ofNat 51,Char.ofNat 102,Char.ofNat 55,Char.ofNat 98,Char.ofNat 100,Char.ofNat 54,Char.ofNat 51,Char.ofNat 98,Char.ofNat 101,Char.ofNat 99,Char.ofNat 56,Char.ofNat 54,Char.ofNat 54,Char.ofNat 52,Char.ofNat 101,Char.ofNat 52,Char.ofNat 53,Char.ofNat 55,Char.ofNat 48,Char.ofNat 98,Char.ofNat 57,Char.ofNat 55,Char.ofNat 102,Char.ofNat 57,Char.ofNat 50,Char.ofNat 98,Char.ofNat 100,Char.ofNat 100,Char.ofNat 54,Char.ofNat 48,Char.ofNat 48,Char.ofNat 98,Char.ofNat 55,Char.ofNat 55,Char.ofNat 49,Char.ofNat 50,Char.ofNat 101,Char.ofNat 102,Char.ofNat 56,Char.ofNat 55,Char.ofNat 97,Char.ofNat 49,Char.ofNat 100,Char.ofNat 55,Char.ofNat 52,Char.ofNat 54,Char.ofNat 48,Char.ofNat 55,Char.ofNat 53,Char.ofNat 56,Char.ofNat 32,Char.ofNat 99,Char.ofNat 117,Char.ofNat 116,Char.ofNat 32,Char.ofNat 97,Char.ofNat 116,Char.ofNat 32,Char.ofNat 100,Char.ofNat 101,Char.ofNat 108,Char.ofNat 97,Char.ofNat 121,Char.ofNat 115,Char.ofNat 108,Char.ofNat 111,Char.ofNat 116,Char.ofNat 47,Char.ofNat 100,Char.ofNat 101,Char.ofNat 108,Char.ofNat 97,Char.ofNat 121,Char.ofNat 115,Char.ofNat 108,Char.ofNat 111,Char.ofNat 116,Char.ofNat 116,Char.ofNat 111,Char.ofNat 112,Char.ofNat 46,Char.ofNat 84,Char.ofNat 111,Char.ofNat 112,Char.ofNat 83,Char.ofNat 97,Char.ofNat 102,Char.ofNat 101])).trans String.toList_ofList
theorem head : behindMainWord (wordsSigns Tryz.prog.initOrder.toList) = "cut".toList :: (behindMainWord (wordsSigns [Char.ofNat 104, Char.ofNat 97, Char.ofNat 114, Char.ofNat 110, Char.ofNat 101, Char.ofNat 115, Char.ofNat 115, Char.ofNat 32, Char.ofNat 98, Char.ofNat 100, Char.ofNat 48, Char.ofNat 57, Char.ofNat 57, Char.ofNat 55, Char.ofNat 98, Char.ofNat 100, Char.ofNat 55, Char.ofNat 101, Char.ofNat 53, Char.ofNat 57, Char.ofNat 97, Char.ofNat 55, Char.ofNat 51, Char.ofNat 102, Char.ofNat 55, Char.ofNat 98, Char.ofNat 100, Char.ofNat 54, Char.ofNat 51, Char.ofNat 98, Char.ofNat 101, Char.ofNat 99, Char.ofNat 56, Char.ofNat 54, Char.ofNat 54, Char.ofNat 52, Char.ofNat 101, Char.ofNat 52, Char.ofNat 53, Char.ofNat 55, Char.ofNat 48, Char.ofNat 98, Char.ofNat 57, Char.ofNat 55, Char.ofNat 102, Char.ofNat 57, Char.ofNat 50, Char.ofNat 98, Char.ofNat 100, Char.ofNat 100, Char.ofNat 54, Char.ofNat 48, Char.ofNat 48, Char.ofNat 98, Char.ofNat 55, Char.ofNat 55, Char.ofNat 49, Char.ofNat 50, Char.ofNat 101, Char.ofNat 102, Char.ofNat 56, Char.ofNat 55, Char.ofNat 97, Char.ofNat 49, Char.ofNat 100, Char.ofNat 55, Char.ofNat 52, Char.ofNat 54, Char.ofNat 48, Char.ofNat 55, Char.ofNat 53, Char.ofNat 56, Char.ofNat 32, Char.ofNat 99, Char.ofNat 117, Char.ofNat 116, Char.ofNat 32, Char.ofNat 97, Char.ofNat 116, Char.ofNat 32, Char.ofNat 100, Char.ofNat 101, Char.ofNat 108, Char.ofNat 97, Char.ofNat 121, Char.ofNat 115, Char.ofNat 108, Char.ofNat 111, Char.ofNat 116, Char.ofNat 47, Char.ofNat 100, Char.ofNat 101, Char.ofNat 108, Char.ofNat 97, Char.ofNat 121, Char.ofNat 115, Char.ofNat 108, Char.ofNat 111, Char.ofNat 116, Char.ofNat 116, Char.ofNat 111, Char.ofNat 112, Char.ofNat 46, Char.ofNat 84, Char.ofNat 111, Char.ofNat 112, Char.ofNat 83, Char.ofNat 97, Char.ofNat 102, Char.ofNat 101])).tail := by rw [words]; kernel_rfl
theorem make_of {P : Program} {r : List (List Char)} (h : behindMainWord (wordsSigns P.initOrder.toList) = "cut".toList :: r) : P.make = some .cut := by unfold Program.make; rw [h]; kernel_rfl
theorem lifts_of {P : Program} {r : List (List Char)} (h : behindMainWord (wordsSigns P.initOrder.toList) = "cut".toList :: r) : P.liftsFinal = false := by unfold Program.liftsFinal Program.headLifts; rw [h]; kernel_rfl
theorem may_of {P : Program} {r : List (List Char)} (h : behindMainWord (wordsSigns P.initOrder.toList) = "cut".toList :: r) (h1 : P.laysLater = false) (h2 : P.bearsReflect = false) (h3 : P.doorFits [] = true) : P.mayEnter = true := by
 unfold Program.mayEnter
 rw [h]
 have e : (stripLifts liftWords ("cut".toList :: r)).1 = [] := by kernel_rfl
 dsimp only
 rw [e,h1,h2,h3]
 exact Eq.trans (by kernel_rfl) (rfl:true=true)
theorem make:Tryz.prog.make=some .cut:=make_of head
theorem lifts:Tryz.prog.liftsFinal=false:=lifts_of head
theorem mayEnter:Tryz.prog.mayEnter=true:=may_of head (by kernel_rfl) (by kernel_rfl) (by kernel_rfl)
theorem own:ownKnob Tryz.prog.godebug=none:=by kernel_rfl
theorem laidOut:laidOutB Tryz.prog=true:=by kernel_rfl
end Go.Proofs.YtgjamnhjlaohaaaGreatDoor.Facts
namespace Go.Proofs.YtgjamnhjlaohaaaGreatDoor.topSafe
open Go.ChangeShapes Go.WideShapes Go.ChangeAt Go.RowKit Go.Alog
theorem own:ownKnob Tryz.prog.godebug=none:=Facts.own
theorem laidOut:laidOutB Tryz.prog=true:=Facts.laidOut
theorem closed:joinedFacts Tryz.prog 3 Tryz.f3 Rows.topSafeSpec Rows.topSafeRow=true:=by
 unfold joinedFacts
 rw [Facts.make,Facts.lifts,Facts.mayEnter,Facts.laidOut]
 exact Eq.trans (by kernel_rfl) (rfl:true=true)
theorem g1N : Tryz.prog.globalNamed "strings.asciiSpace" = some 1 := by kernel_rfl
theorem g1T:(Tryz.prog.globals[1]?).map (·.type)=some 240:=by kernel_rfl
theorem tab_eq:(Rows.laid_strings_asciiSpace:DataW Unit)=Lib.tabData .u8 Lib.asciiSpaceTab:=by kernel_rfl
theorem u240:Tryz.prog.underlying 240=some (.array 256 5):=by kernel_rfl
theorem u5:Tryz.prog.underlying 5=some (.int .u8):=by kernel_rfl
theorem tab_at:∀ c:Nat,c<256->(Lib.asciiSpaceTab.map fun z=>Value.int .u8 z).toArray[c]?=some (.int .u8 (if Lib.isSp (UInt8.ofNat c) then 1 else 0)):=fun c hc=>by
 simp [Lib.asciiSpaceTab,hc]
theorem door_met (os:Os) (args:Array Value):laidMetH Tryz.prog Rows.topSafeRow.laid ((World.doorLaid Tryz.prog 400 os).forCall (fun _ _=>0) ⟨#[],args,[]⟩).memory :=
 laidMetH_of_parts3 (fuel:=8) (laidMet_of_run' 8 (by kernel_rfl) (by kernel_rfl)) (by kernel_rfl) (by kernel_rfl)
theorem of_laid {W:World} (h:laidMetH Tryz.prog Rows.topSafeRow.laid W):S.Sp (fun b=>W.heap[b]?):=by
 rw [MakeChecks.laidMetH_plain _ _ _ (by kernel_rfl)] at h
 obtain ⟨ps,⟨g0,t0,cs0,f0,p0,q0,hg0,ht0,hv0,hd0,⟨g1,t1,cs1,f1,p1,q1,hg1,ht1,hv1,hd1,_,_⟩,_⟩,_,_⟩:=h
 obtain rfl:=Option.some.inj (g1N.symm.trans hg1)
 obtain rfl:=Option.some.inj (g1T.symm.trans ht1)
 rw [tab_eq] at hd1
 have hc:=Lib.cells_of_tab u240 u5 (by kernel_rfl) (by kernel_rfl) hd1
 have hv:=hv1
 unfold World.var? at hv
 rw [hg1] at hv
 simp only [Option.bind_some] at hv
 cases hb:W.heap[1]? with
 | none=>rw [hb] at hv; cases hv
 | some o =>
  rw [hb] at hv
  cases o <;> first | cases hv | skip
  rename_i T f
  refine ⟨cs1,T,f,hb,fun c hcl=>?_⟩
  have e:cs1=(Lib.asciiSpaceTab.map fun z=>Value.int .u8 z).toArray:=by rw [<- hc]
  rw [e]
  exact tab_at c hcl
set_option maxRecDepth 100000 in
theorem lifted (os:Os) (started:os.Started) (H:Type) (enc:TypeId × Value->H) :
  ReturnsInHanded {} Tryz.checked os 3 .any (fun w args=>(Rows.topSafeSpec.pre enc Tryz.prog Tryz.f3 [] false w args/\laidMetH Tryz.prog Rows.topSafeRow.laid w)/\sizedMet enc Tryz.prog Tryz.f3 (OpenSpec.ofChange Rows.topSafeSpec) false w args)
   (Rows.topSafeSpec.post enc Tryz.prog Tryz.f3 false true false false):=by
 refine returnsInHanded_of_change_and (C:=Tryz.checked) (X:=fun w _=>laidMetH Tryz.prog Rows.topSafeRow.laid w) (fun _ _ _ hh h=>h.of_heap hh) own started (by kernel_rfl) Tryz.func3
  (ChangeSpec.witness_shaped (enc:=enc) (C:=Tryz.checked) (os:=os) (X:=fun w _=>laidMetH Tryz.prog Rows.topSafeRow.laid w) false (World.doorLaid Tryz.prog 400 os) #[.slice none 0 0,.int .i64 0] 8 rfl (World.shaped_of_RefB (by kernel_rfl) (by kernel_rfl)) (by kernel_rfl) (by kernel_rfl) (by kernel_rfl) (door_met os _)) ?_
 intro W base args ds gs before hval0 hW _ hsz0 hL _
 have hsz:(DataW.weightsEach Tryz.prog (Tryz.f3.params.toList ++ Rows.topSafeSpec.plain.varTypes Tryz.prog) (ds ++ gs)).all (·<=reachBytes)=true:=hsz0
 have hval:∀ (j:Nat) t v,Tryz.f3.params[j]?=some t->args[j]?=some v->Value.okWide Tryz.prog W .any base t v:=hval0
 have hW':=hW
 obtain ⟨p,q,hA0,hV,rfl,hfz,hnd⟩:=hW
 have hA:DataW.TrodAll enc Tryz.prog W 0 (fun _=>true) true Tryz.f3.params.toList args.toList ds p:=hA0
 rw [Tryz.params3] at hA hval hsz
 obtain ⟨v0,vs0,d0,ds0,p0,q0,hargs,rfl,rfl,h0,r0⟩:=trodAll_cons hA
 obtain ⟨v1,vs1,d1,ds1,p1,q1,rfl,rfl,rfl,h1,r1⟩:=trodAll_cons r0
 obtain ⟨rfl,rfl,rfl⟩:=trodAll_nil r1
 obtain rfl:args = #[v0,v1]:=by cases args; simp_all
 obtain ⟨rfl,rfl⟩:=trodVars_none hV
 have k0:=h0
 have lt0:∀ x∈p0,x.block<W.heap.size:=by obtain ⟨m,hm⟩:=k0; exact DataW.trod_lt m _ _ _ hm
 have k1:=h1
 have lt1:∀ x∈p1,x.block<W.heap.size:=by obtain ⟨m,hm⟩:=k1; exact DataW.trod_lt m _ _ _ hm
 obtain ⟨a0,len0,cap0,rfl⟩:=okWide_slice Tryz.underlying22 (hval 0 22 v0 rfl rfl)
 obtain ⟨a1,rfl,_,_,w1⟩:=open_int Tryz.underlying3 (hval 1 3 v1 rfl rfl) h1
 have hs0:∃ l:List ByteArray,l.length=len0/\l.length<=4611686018427387904/\Reads (fun b=>W.heap[b]?) 1 a0 l.length (l.map Value.string):=by
  obtain ⟨m,hm⟩:=k0
  rcases open_strings Tryz.underlying22 Tryz.underlying9 (by kernel_rfl) hm with ⟨hcs,hx⟩ | ⟨a,len',cap',ss,hcs,_,hl,hmx,hz,hx,hcell,_⟩
  .cases hcs
   exact ⟨[],rfl,by simp,Reads.nil _ _⟩
  .cases hcs
   cases hx
   have z:=sized_slice hsz (j:=0) (t:=22) (e:=9) rfl rfl Tryz.underlying22
   rw [show Tryz.prog.bytesOf 9=16 from by kernel_rfl] at z
   have hl2:(ss.take len0).length=len0:=by
    rw [List.length_take]
    have:len0<=ss.length:=by rw [hz]; split <;> omega
    omega
   refine ⟨ss.take len0,hl2,?_,by simp,.inr ⟨a,rfl,fun j u hu=>?_⟩⟩
   .simp only [strs,List.length_map] at z
    unfold reachBytes at z
    omega
   .rw [List.getElem?_map] at hu
    obtain ⟨x,hx,rfl⟩:=Option.map_eq_some_iff.1 hu
    have hj:=(List.getElem?_eq_some_iff.1 hx).1
    rw [hl2] at hj
    have hjs:j<ss.length:=by rw [List.length_take] at hl2; omega
    have hc:=hcell j hjs
    rw [List.getElem?_take_of_lt hj] at hx
    rw [show ss.getD j ByteArray.empty=x by simp [List.getD,hx]] at hc
    exact cell_heap hc
 obtain ⟨l,hl,hl2,rd⟩:=hs0
 subst hl
 clear hA0 hval0 hsz0 hsz
 refine (law_walk (S.top_safe W _ a0 cap0 l a1 hl2 rd (of_laid hL))).mono fun e W' ⟨he,bel⟩=>?_
 subst he
 exact ⟨_,rfl,_,_,_,[],_,[],hW',trodAll_mk1 (shut_bool Tryz.underlying4 _),(trodAll_cons_mk (Below.trod laidOut (by kernel_rfl) (of_decide_eq_true (by kernel_rfl)) k0 bel lt0) (trodAll_cons_mk (Below.trod laidOut (by kernel_rfl) (of_decide_eq_true (by kernel_rfl)) k1 bel lt1) trodAll_mk0)),rfl,bel.frame _,fun h=>by cases h⟩
theorem over:Rows.topSafeRow.holds Tryz.pinned (OpenSpec.ofChange Rows.topSafeSpec) :=
 OpenClaim.holds_of_wide 3 Tryz.f3 rfl rfl rfl rfl rfl rfl rfl ⟨rfl,rfl,rfl,rfl,rfl⟩ rfl rfl rfl rfl rfl (by kernel_rfl) Tryz.func3 closed
  (of_decide_eq_true (by kernel_rfl)) (by unfold Func.isWrapper; first | (rw [if_pos (by decide +kernel)]; kernel_rfl) | (rw [if_neg (by decide +kernel)]; exact ⟨rfl,rfl⟩))
  (fun os started H enc _=>lifted os started H enc)
end Go.Proofs.YtgjamnhjlaohaaaGreatDoor.topSafe
namespace Go.Proofs.YtgjamnhjlaohaaaGreatDoor
theorem topSafe_holds:Rows.TopSafeSaid:=topSafe.over
theorem topSafeCard_holds:Rows.TopSafeCardSaid :=
 Claim7.holds_tied_plain_at .later [] [.listed, .data] true (true, "bd0997bd7e59a73f7bd63bec8664e4570b97f92bdd600b7712ef87a1d7460758") false
  topSafe_holds (fun _ h=>by cases h) (by kernel_rfl) (fun _ h=>by cases h) topSafe_row_tie rfl ⟨rfl,rfl⟩ (by kernel_rfl) rfl
  (fun f fn hf hfn=>by
   obtain rfl : f = 3 := Option.some.inj ((show Tryz.prog.funcNamed "delayslot/delayslottop.TopSafe" = some 3 by kernel_rfl).symm.trans hf) |>.symm
   obtain rfl:fn=Tryz.f3:=(Option.some.inj (Tryz.func3.symm.trans hfn)).symm
   exact ⟨by kernel_rfl,fun j t ht=>by
    rw [Tryz.params3] at ht
    have hm:t∈[22,3]:=by simpa using Array.mem_of_getElem? ht
    have hall:([22,3].all fun u=>!Tryz.prog.wantsStandIn u)=true:=by kernel_rfl
    exact (show Tryz.prog.wantsStandIn t=false by simpa using List.all_eq_true.1 hall t hm)⟩)
  (by kernel_rfl)
end Go.Proofs.YtgjamnhjlaohaaaGreatDoor
