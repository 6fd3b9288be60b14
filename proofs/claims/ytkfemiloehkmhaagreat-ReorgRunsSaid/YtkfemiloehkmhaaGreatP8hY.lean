/- YtkfemiloehkmhaaGreat: a text of our own, by an AI agent: P8hY -/
import Derived.Test.YtkfemiloehkmhaaGreatP8BY
import Derived.Test.YtkfemiloehkmhaaGreatMaBY
set_option linter.unusedSimpArgs false
set_option linter.unusedVariables false
set_option maxRecDepth 100000
namespace Go.Proofs.YtkfemiloehkmhaaGreat.S
open Go Go.RowKit Go.Alog Go.Proofs.YtkfemiloehkmhaaGreat.T Go.Proofs.YtkfemiloehkmhaaGreat.V

def cycleP (code:List Ins) (s:PS):PS × Int :=
 let s1:=writeP s
 let s3:=reckP3 (pactP s1).1 s1.k
 (fetchP code (decideP s3).1 (decideP s3).2,(pactP s1).2)

def LW (l:La):Prop:=(l.full=true→l.trap=0→InR l.i)∧0≤l.reg∧l.reg<32
def WfP (s:PS):Prop:=LW s.f∧LW s.r∧LW s.k∧LW s.a
theorem lw0:LW La0:=⟨fun h=>by simp [La0] at h,by decide,by decide⟩
theorem fieldW_le {i:Ins} (h:InR i):0≤fieldW i∧fieldW i<32:=by
 obtain ⟨⟨h1,h2⟩,_⟩:=h
 unfold fieldW
 split
 ·exact ⟨h1,h2⟩
 split
 ·decide
 split <;> decide
theorem writesP_le (i:Ins):0≤writesP i∧writesP i<32:=by
 unfold writesP
 split
 ·exact fieldW_le (right_regs ‹_›)
 ·decide
theorem stage3_i (l a:La) (r:List Int):(stage3 l a r).i=l.i:=by
 unfold stage3; simp only []
 split
 ·split <;> rfl
 split
 ·rfl
 split <;> rfl
theorem stage3_reg (l a:La) (r:List Int):(stage3 l a r).reg=writesP l.i:=by
 unfold stage3; simp only []
 split
 ·split <;> rfl
 split
 ·rfl
 split <;> rfl
theorem pact_f (s:PS):(pactP s).1.f=s.f∧(pactP s).1.r=s.r∧(pactP s).1.k=La0∧((pactP s).1.a.reg=s.a.reg∧(pactP s).1.a.i=s.a.i∧(pactP s).1.a.full=s.a.full∧(pactP s).1.a.trap=s.a.trap∨(pactP s).1.a.reg=s.k.reg∧(pactP s).1.a.i=s.k.i∧s.k.full=true∧s.k.trap=0 ):=by
 unfold pactP; simp only []
 split
 ·exact ⟨rfl,rfl,rfl,.inl ⟨rfl,rfl,rfl,rfl⟩⟩
 rename_i hg
 have hg':s.k.full=true∧s.k.trap=0:=by
  cases h:s.k.full <;> simp [h] at hg ⊢
  exact hg
 split
 ·split
  ·exact ⟨rfl,rfl,rfl,.inr ⟨rfl,rfl,hg'⟩⟩
  ·exact ⟨rfl,rfl,rfl,.inl ⟨rfl,rfl,rfl,rfl⟩⟩
 split
 ·split
  ·exact ⟨rfl,rfl,rfl,.inr ⟨rfl,rfl,hg'⟩⟩
  ·exact ⟨rfl,rfl,rfl,.inl ⟨rfl,rfl,rfl,rfl⟩⟩
 split
 ·unfold sysL
  split
  ·exact ⟨rfl,rfl,rfl,.inr ⟨rfl,rfl,hg'⟩⟩
  split
  ·cases s.inp <;> exact ⟨rfl,rfl,rfl,.inr ⟨rfl,rfl,hg'⟩⟩
  split
  ·split <;> exact ⟨rfl,rfl,rfl,.inr ⟨rfl,rfl,hg'⟩⟩
  ·exact ⟨rfl,rfl,rfl,.inr ⟨rfl,rfl,hg'⟩⟩
 ·exact ⟨rfl,rfl,rfl,.inr ⟨rfl,rfl,hg'⟩⟩
theorem fetchL_wf (code:List Ins) (a:Int):LW (fetchL code a):=by
 unfold fetchL
 split
 ·exact ⟨fun _ h=>absurd (show (_:Int)=0 from h) (by simp),(by decide:(0:Int)≤0∧(0:Int)<32)⟩
 split
 ·exact ⟨fun _ _=>right_regs ‹_›,(by decide:(0:Int)≤0∧(0:Int)<32)⟩
 ·exact ⟨fun _ h=>absurd (show (_:Int)=0 from h) (by simp),(by decide:(0:Int)≤0∧(0:Int)<32)⟩
theorem wf_cycle (code:List Ins) {s:PS} (h:WfP s):WfP (cycleP code s).1:=by
 obtain ⟨hf,hr,hk,ha⟩:=h
 obtain ⟨e1,e2,e3,e4⟩:=pact_f (writeP s)
 unfold cycleP
 simp only []
 refine ⟨fetchL_wf _ _,?_,?_,?_⟩
 ·show LW (pactP (writeP s)).1.f
  rw [e1]; exact hf
 ·show LW (if (pactP (writeP s)).1.r.full=true∧(pactP (writeP s)).1.r.trap=0 then stage3 (pactP (writeP s)).1.r (writeP s).k (pactP (writeP s)).1.regs else (pactP (writeP s)).1.r)
  rw [e2]
  split
  ·rename_i hh
   refine ⟨fun _ _=>?_,?_⟩
   ·rw [stage3_i]; exact hr.1 hh.1 hh.2
   ·rw [stage3_reg]; exact writesP_le _
  ·exact hr
 ·show LW (pactP (writeP s)).1.a
  rcases e4 with ⟨a1,a2,a3,a4⟩ | ⟨a1,a2,a3,a4⟩
  ·rw [LW,a1,a2,a3,a4]; exact lw0
  ·rw [LW,a1,a2]; exact ⟨fun _ _=>hk.1 a3 a4,hk.2⟩

theorem cycle_spec (w0:World) (m:AM) (g:Nat) (code:List Ins) (s:PS) (q:PA) (hw:WfP s) (h:PipR m w0.heap.size g code s q) :
  CallsA Tryz.prog w0 22 #[.pointer (some ⟨g,0,none⟩)] m (fun r m'=>r=.int .i64 (cycleP code s).2∧PPost w0.heap.size m g q code (cycleP code s).1 m'):=by
 refine cf22 w0 m g _ ?_
 refine CallsA.mono (write_spec w0 m g code s q hw.2.2.2.2 h) ?_
 rintro r m1 ⟨rfl,q1,hc1,Q1⟩
 have h1:=Q1.R
 refine ⟨rfl,_,h1.hi' 24,_,h1.hi' 25,_,h1.hi' 26,_,h1.hi' 27,_,h1.hi' 28,_,h1.hi' 29,_,h1.hi' 30,_,h1.hi' 31,_,h1.hi' 32,_,h1.hi' 33,_,h1.hi' 34,_,h1.hi' 35,?_⟩
 refine new12 fun b m2 hb hm2 l2 p2=>?_
 have p2:m2 b=some (.cells (writeP s).k.vals.toArray 58):=p2
 have Q2:=Q1.le l2
 refine CallsA.mono (pact_spec w0 m2 g code (writeP s) q1 Q2.R) ?_
 rintro r m3 ⟨rfl,q3,hc3,Q3⟩
 have p3:=Q3.fr _ _ p2 (Q2.notin p2)
 refine ⟨_,rfl,_,cel p3 rfl,_,cel p3 rfl,_,cel p3 rfl,_,cel p3 rfl,_,cel p3 rfl,_,cel p3 rfl,_,cel p3 rfl,_,cel p3 rfl,_,cel p3 rfl,_,cel p3 rfl,_,cel p3 rfl,_,cel p3 rfl,?_⟩
 obtain ⟨e1,e2,e3,e4⟩:=pact_f (writeP s)
 refine CallsA.mono (reck3_spec w0 m3 g code (pactP (writeP s)).1 q3 (writeP s).k (by rw [e2]; exact hw.2.1.1) Q3.R) ?_
 rintro r m4 ⟨rfl,q4,hc4,Q4⟩
 refine ⟨rfl,?_⟩
 refine CallsA.mono (decide_spec w0 m4 g code (reckP3 (pactP (writeP s)).1 (writeP s).k) q4 (by
  show (pactP (writeP s)).1.f.full=true→(pactP (writeP s)).1.f.trap=0→InR (pactP (writeP s)).1.f.i
  rw [e1]; exact hw.1.1) Q4.R) ?_
 rintro r m5 ⟨rfl,q5,hc5,Q5⟩
 refine ⟨_,rfl,?_⟩
 refine CallsA.mono (fetch_spec w0 m5 g code _ q5 _ Q5.R) ?_
 rintro r m6 ⟨rfl,q6,hc6,Q6⟩
 refine ⟨rfl,retP_of ⟨rfl,q6,by rw [hc6,hc5,hc4,hc3,hc1],?_⟩⟩
 exact (((Q2.trans Q3 hc3).trans Q4 hc4).trans Q5 hc5).trans Q6 hc6

def runPG (code:List Ins):Nat→PS × Int × Int→PS × Int × Int
 | 0,x=>x
 | n+1,(s,t,k)=>if t=0 then runPG code n ((cycleP code s).1,(cycleP code s).2,k+1) else (s,t,k)
def beginPS (mem:Int) (inp:List Int):PS:=⟨List.replicate 32 0,List.replicate mem.toNat 0,0,inp,[],La0,La0,La0,La0⟩
def runPP (code:List Ins) (mem:Int) (inp:List Int) (fuel:Int):Res :=
 if code.length>4096∨mem<0∨mem>32000 then ⟨0,0,[],[]⟩
 else let x:=runPG code fuel.toNat (beginPS mem inp,0,0); ⟨x.2.1,x.2.2,x.1.out,usedP x.1.mem⟩
theorem wf_begin (mem:Int) (inp:List Int):WfP (beginPS mem inp):=⟨lw0,lw0,lw0,lw0⟩

theorem sysL_mem (s:PS) (l:La):(sysL s l).1.mem=s.mem:=by
 unfold sysL
 split
 ·rfl
 split
 ·cases s.inp <;> rfl
 split
 ·split <;> rfl
 ·rfl
theorem cycle_mem (code:List Ins) (s:PS):(cycleP code s).1.mem.length=s.mem.length:=by
 show (pactP (writeP s)).1.mem.length=s.mem.length
 unfold pactP; simp only []
 split
 ·rfl
 split
 ·split <;> rfl
 split
 ·split
  ·exact List.length_set
  ·rfl
 split
 ·show (sysL _ _).1.mem.length=_
  rw [sysL_mem]; rfl
 ·rfl
theorem runPG_mem (code:List Ins):∀ (n:Nat) (x:PS × Int × Int),(runPG code n x).1.mem.length=x.1.mem.length
 | 0,x=>rfl
 | n+1,(s,t,k)=>by
  unfold runPG
  split
  ·rw [runPG_mem code n]; exact cycle_mem code s
  ·rfl

structure PRunC (w0:World) (m:AM) (b1 b35 b37 gm:Nat) (Ac:Option Addr) (code:List Ins) (m6:AM) (s:PS) (t k:Int) (q:PA):Prop where
 hS:PipR m6 w0.heap.size b35 code s q
 hgm:q.gm=gm
 hAc:q.Ac=Ac
 hl:m.le m6
 h1:m6 b1=some (.cells #[.int .i64 0,.int .i64 0,.slice none 0 0,.slice none 0 0] 30)
 h37:m6 b37=some (.cells #[.int .i64 t,.int .i64 k,.slice none 0 0,.slice none 0 0] 30)
 hf:∀ x∈q.fp b35,m x=none
 n1:b1∉q.fp b35
 n37:b37∉q.fp b35
 wf:WfP s
def PRunI (w0:World) (m:AM) (b1 b35 b37 gm:Nat) (Ac:Option Addr) (code:List Ins) (fuel:Int) (F:PS × Int × Int) (n:Nat) (m6:AM):Prop :=
 ∃ s t k q,PRunC w0 m b1 b35 b37 gm Ac code m6 s t k q∧runPG code n (s,t,k)=F∧0≤k∧(t=0→n=(fuel-k).toNat)
def PRunE (w0:World) (m:AM) (b1 b35 b37 gm:Nat) (Ac:Option Addr) (code:List Ins) (F:PS × Int × Int) (m6:AM):Prop :=
 ∃ s t k q,PRunC w0 m b1 b35 b37 gm Ac code m6 s t k q∧(s,t,k)=F

theorem runPP_spec (w0:World) (m:AM) (Ac:Option Addr) (cc:Nat) (code:List Ins) (mem:Int) (Ai:Option Addr) (ci:Nat) (inp:List Int) (fuel:Int) (hf:InI fuel) (hc:Reads m 5 Ac code.length (insCells code)) (hi:Reads m 1 Ai inp.length (intCells .i64 inp)) (hin:inp.length≤1000000) :
  CallsA Tryz.prog w0 8 #[.slice Ac code.length cc,.int .i64 mem,.slice Ai inp.length ci,.int .i64 fuel] m (fun r m'=>m.le m'∧RRes m' w0.heap.size r (runPP code mem inp fuel)):=by
 refine cf8 w0 m Ac code.length cc mem Ai inp.length ci fuel _ ?_
 intro b1 hb1 hm1 M
 have l1:m.le M:=le_new hm1 _
 have p1:M b1=some (.cells #[.int .i64 0,.int .i64 0,.slice none 0 0,.slice none 0 0] 30):=upd_get_same
 clear_value M
 refine CallsA.mono (new_spec w0 M mem) ?_
 rintro r m2 ⟨l2,hr⟩
 have p2:=l2 _ _ p1
 have retB:∀ (m3:AM) (A:Option Addr) (n c:Nat) (A':Option Addr) (n' c':Nat) (t k:Int) (R:Value→AM→Prop),m3 b1=some (.cells #[.int .i64 0,.int .i64 0,.slice none 0 0,.slice none 0 0] 30)→m.le m3 →
   (∀ m4,m.le m4→Fr m3 m4 [b1]→R (.agg #[.int .i64 t,.int .i64 k,.slice A n c,.slice A' n' c']) m4) →
   StC w0.heap.size m3 ⟨b1,0,none⟩ (.int .i64 t) fun m75=>StC w0.heap.size m75 ⟨b1,1,none⟩ (.int .i64 k) fun m76=>StC w0.heap.size m76 ⟨b1,2,none⟩ (.slice A n c) fun m77=>StC w0.heap.size m77 ⟨b1,3,none⟩ (.slice A' n' c') fun m78 =>
    ∃ i79:Int,m78.cell ⟨b1,0,none⟩=some (.int .i64 i79)∧∃ i80:Int,m78.cell ⟨b1,1,none⟩=some (.int .i64 i80)∧∃ (A81:Option Addr) (n82 c83:Nat),m78.cell ⟨b1,2,none⟩=some (.slice A81 n82 c83)∧∃ (A84:Option Addr) (n85 c86:Nat),m78.cell ⟨b1,3,none⟩=some (.slice A84 n85 c86)∧RetP R (.agg #[.int .i64 i79,.int .i64 i80,.slice A81 n82 c83,.slice A84 n85 c86]) m78:=by
  intro m3 A n c A' n' c' t k R q1 L hR
  refine StC_own q1 hb1 (by simp) ?_
  simp only [std_all,sto_all,Nat.reduceAdd,Nat.reduceLT,LI_,LB_,LA_,SI_,pt_,KI_,hb1]
  refine retP_of (hR _ ?_ (Fr.upd (Fr.refl _ _) (.inl (by simp)) _))
  intro x o hx
  rw [upd_get]
  by_cases e:x=b1
  ·subst e; rw [hm1] at hx; cases hx
  ·rw [if_neg e]; exact L _ _ hx
 have L2:=AM.le_trans l1 l2
 have nil:∀ m4,RRes m4 w0.heap.size (.agg #[.int .i64 0,.int .i64 0,.slice none 0 0,.slice none 0 0]) ⟨0,0,[],[]⟩:=fun m4=>⟨none,0,none,0,rfl,Own.nil _ _ _ _,Own.nil _ _ _ _⟩
 unfold runPP
 by_cases hbad:mem<0∨mem>32000
 ·rw [if_pos hbad] at hr
  subst hr
  rw [if_pos (Or.inr hbad)]
  refine ⟨none,rfl,rfl,?_⟩
  by_cases hl:((code.length:Nat):Int)>4096
  ·rw [decide_eq_true hl,bcase_t]
   exact ⟨rfl,rfl,retB m2 none 0 0 none 0 0 0 0 _ p2 L2 fun m4 l4 _=>⟨l4,nil m4⟩⟩
  ·rw [decide_eq_false hl,bcase_f]
   simp only [cond_false,Option.isNone_none,bcase_t]
   exact ⟨trivial,retB m2 none 0 0 none 0 0 0 0 _ p2 L2 fun m4 l4 _=>⟨l4,nil m4⟩⟩
 rw [if_neg hbad] at hr
 obtain ⟨gm,Aw,rfl,hgm,hw,hnw,hng⟩:=hr
 refine ⟨_,rfl,rfl,?_⟩
 by_cases hl:((code.length:Nat):Int)>4096
 ·rw [decide_eq_true hl,bcase_t,if_pos (Or.inl (by omega))]
  exact ⟨rfl,rfl,retB m2 none 0 0 none 0 0 0 0 _ p2 L2 fun m4 l4 _=>⟨l4,nil m4⟩⟩
 rw [decide_eq_false hl,bcase_f,if_neg (show ¬ (code.length>4096∨mem<0∨mem>32000) from fun h=>h.elim (fun h=>hl (by omega)) hbad)]
 refine (show bcase false _ _ from ?_)
 rw [bcase_f]
 refine CallsA.mono (clone_int w0 m2 Ai _ ci inp (hi.le L2) hin) ?_
 rintro r m3 ⟨l3,Ai',ci',rfl,hoi,hni⟩
 refine ⟨_,_,_,rfl,rfl,?_⟩
 intro b35 hb35 hm35 m4
 have l4:m3.le m4:=le_new hm35 _
 have p4:m4 b35=some (.cells (pL ⟨Ac,cc,gm,Ai',ci',none,0,Aw,mem.toNat⟩ code.length (beginPS mem inp)).toArray 60):=upd_get_same
 clear_value m4
 intro b37 hb37 hm37 m5
 have l5:m4.le m5:=le_new hm37 _
 have p5:m5 b37=some (.cells #[.int .i64 0,.int .i64 0,.slice none 0 0,.slice none 0 0] 30):=upd_get_same
 clear_value m5
 have L5:=AM.le_trans (AM.le_trans (AM.le_trans L2 l3) l4) l5
 have n35:m b35=none:=AM.le_none (AM.le_trans L2 l3) hm35
 have n37:m b37=none:=AM.le_none (AM.le_trans (AM.le_trans L2 l3) l4) hm37
 have hS:PipR m5 w0.heap.size b35 code (beginPS mem inp) ⟨Ac,cc,gm,Ai',ci',none,0,Aw,mem.toNat⟩:=by
  have hoi5:=(hoi.le l4).le l5
  have hw5:=((hw.le l3).le l4).le l5
  refine ⟨l5 _ _ p4,hb35,by simp [beginPS],hc.le L5,l5 _ _ (l4 _ _ (l3 _ _ hgm)),hw5,hoi5.reads,hoi.2.1,Own.nil _ _ _ _,by simp [obl],?_,?_,?_,?_⟩
  ·intro h0 k hk hin
   have hk0:=Reads_known hc h0 (by decide) k hk
   simp only [PA.fp,List.mem_cons,List.mem_append,obl,List.not_mem_nil,or_false] at hin
   rcases hin with rfl | hin
   ·exact hk0 n35
   ·exact hk0 (AM.le_none l1 (hnw k hin))
  ·intro h0 k hk hin
   simp only [PA.fp,List.mem_cons,List.mem_append,obl,List.not_mem_nil,or_false] at hin
   obtain ⟨_,cur,hk3⟩:=hoi.obl_some hk
   rcases hin with rfl | hin
   ·rw [hm35] at hk3; cases hk3
   ·obtain ⟨_,cur2,hk2⟩:=hw.obl_some hin
    rw [hni k hk] at hk2; cases hk2
  ·intro hin
   simp only [PA.fp,List.mem_cons,List.mem_append,obl,List.not_mem_nil,or_false] at hin
   rcases hin with e | hin
   ·rw [← e] at hm35; rw [l3 _ _ hgm] at hm35; cases hm35
   ·exact hw.obl_ne hgm (by decide) hin
  ·intro h0 k hk
   obtain ⟨_,cur,hk3⟩:=hoi5.obl_some hk
   exact ⟨cur,hk3⟩
 have hfp0:∀ k∈PA.fp ⟨Ac,cc,gm,Ai',ci',none,0,Aw,mem.toNat⟩ b35,m k=none:=by
  intro k hin
  simp only [PA.fp,List.mem_cons,List.mem_append,obl,List.not_mem_nil,or_false] at hin
  rcases hin with rfl | hin
  ·exact n35
  ·exact AM.le_none l1 (hnw k hin)
 have q1:=l5 _ _ (l4 _ _ (l3 _ _ p2))
 have hb1f:b1∉PA.fp ⟨Ac,cc,gm,Ai',ci',none,0,Aw,mem.toNat⟩ b35:=by
  intro hin
  simp only [PA.fp,List.mem_cons,List.mem_append,obl,List.not_mem_nil,or_false] at hin
  rcases hin with e | hin
  ·rw [← e,l3 _ _ p2] at hm35; cases hm35
  ·exact hw.obl_ne p2 (by decide) hin
 have hb37f:b37∉PA.fp ⟨Ac,cc,gm,Ai',ci',none,0,Aw,mem.toNat⟩ b35:=by
  intro hin
  simp only [PA.fp,List.mem_cons,List.mem_append,obl,List.not_mem_nil,or_false] at hin
  rcases hin with e | hin
  ·rw [e,p4] at hm37; cases hm37
  ·exact (hw.le l3 |>.le l4 |>.le l5).obl_ne p5 (by decide) hin
 have h137:b1≠b37:=fun e=>by rw [← e,l4 _ _ (l3 _ _ p2)] at hm37; cases hm37
 generalize hF:runPG code fuel.toNat (beginPS mem inp,0,0)=F
 refine vl8_1111100 w0 m5 _ _ fuel b1 (some ⟨gm,0,none⟩) b35 b37 (PRunI w0 m b1 b35 b37 gm Ac code fuel F) (PRunE w0 m b1 b35 b37 gm Ac code F) fuel.toNat rfl rfl rfl rfl rfl ⟨beginPS mem inp,0,0,_,⟨hS,rfl,rfl,L5,q1,p5,hfp0,hb1f,hb37f,wf_begin mem inp⟩,hF,by omega,fun _=>by simp⟩ ?_ ?_
 ·rintro n σ m6 ⟨s,t,k,q,hC,hG,hk,hn⟩
  simp only [cell_of hC.h37,std_all,sto_all,Nat.reduceAdd,Nat.reduceLT,LI_,LB_,LA_,SI_,pt_,KI_]
  by_cases ht:t=0
  ·subst ht
   simp only [beq_self_eq_true,std_all,sto_all,Nat.reduceAdd,Nat.reduceLT,LI_,LB_,LA_,SI_,pt_,KI_]
   by_cases hkf:k<fuel
   ·simp only [decide_eq_true hkf,std_all,sto_all,Nat.reduceAdd,Nat.reduceLT,LI_,LB_,LA_,SI_,pt_,KI_]
    refine CallsA.mono (cycle_spec w0 m6 b35 code s q hC.wf hC.hS) ?_
    rintro r m7 ⟨rfl,q7,hc7,Q7⟩
    have k37:=Q7.fr _ _ hC.h37 hC.n37
    have k1:=Q7.fr _ _ hC.h1 hC.n1
    have Q7':PQ m w0.heap.size b35 code q q7 m7 (cycleP code s).1:=⟨Q7.R,(Fr.of_le hC.hl _).trans Q7.fr fun _ h=>.inl h,fun x hx=>(Q7.kn x hx).imp id fun h=>AM.le_none hC.hl h,Q7.gme,fun h0 x hx=>by rw [hc7,hC.hAc] at hx; exact Reads_known hc h0 (by decide) x hx⟩
    refine ⟨_,rfl,?_⟩
    refine StC_own k37 hb37 (by simp) ?_
    have wk:IntKind.wrap .i64 (k+1)=k+1:=by rw [IntKind.wrap_i64]; unfold InI at hf; omega
    simp only [std_all,sto_all,Nat.reduceAdd,Nat.reduceLT,LI_,LB_,LA_,SI_,pt_,KI_,hb37,wk]
    have hn1:n=(fuel-k).toNat:=hn rfl
    obtain ⟨n',rfl⟩:∃ n',n=n'+1:=⟨n-1,by omega⟩
    have F37:=Q7'.foreign k37 n37 (by decide) (by decide) (by decide) (.cells #[.int .i64 (cycleP code s).2,.int .i64 (k+1),.slice none 0 0,.slice none 0 0] 30)
    refine ⟨n',by omega,(cycleP code s).1,(cycleP code s).2,k+1,q7,⟨F37.1.R,Q7.gme.trans hC.hgm,hc7.trans hC.hAc,?_,?_,upd_get_same,?_,?_,?_,wf_cycle code hC.wf⟩,?_,by omega,fun _=>by omega⟩
    ·intro x o hx
     rw [upd_get]
     by_cases e:x=b37
     ·subst e; rw [n37] at hx; cases hx
     ·rw [if_neg e]; exact Q7.fr _ _ (hC.hl _ _ hx) fun hin=>by rw [hC.hf x hin] at hx; cases hx
    ·rw [upd_get_ne h137]; exact k1
    ·intro x hx
     rcases Q7.kn x hx with h | h
     ·exact hC.hf x h
     ·exact AM.le_none hC.hl h
    ·intro hx
     rcases Q7.kn _ hx with h | h
     ·exact hC.n1 h
     ·rw [hC.h1] at h; cases h
    ·intro hx
     rcases Q7.kn _ hx with h | h
     ·exact hC.n37 h
     ·rw [hC.h37] at h; cases h
    ·rw [← hG]; simp [runPG]
   ·simp only [decide_eq_false hkf,std_all,sto_all,Nat.reduceAdd,Nat.reduceLT,LI_,LB_,LA_,SI_,pt_,KI_]
    refine ⟨s,0,k,q,hC,?_⟩
    have hn1:n=(fuel-k).toNat:=hn rfl
    have:n=0:=by omega
    subst this
    exact hG
  ·have hb:(t == 0)=false:=by simpa using ht
   simp only [hb,std_all,sto_all,Nat.reduceAdd,Nat.reduceLT,LI_,LB_,LA_,SI_,pt_,KI_]
   refine ⟨s,t,k,q,hC,?_⟩
   rw [← hG]
   cases n with
   | zero=>rfl
   | succ n=>simp [runPG,ht]
 ·rintro σ m6 ⟨s,t,k,q,hC,rfl⟩
  have hml:s.mem.length≤1000000:=by
   have:=runPG_mem code fuel.toNat (beginPS mem inp,0,0)
   rw [hF] at this
   have h2:s.mem.length=(beginPS mem inp).mem.length:=this
   rw [h2]; simp [beginPS]; omega
  have h6:=hC.hS
  obtain ⟨_,_,_,_,r36⟩:=h6.cells
  have hgm6:=hC.hgm
  have fin:∀ (m7:AM) (A:Option Addr) (c:Nat),m6.le m7→Own m7 w0.heap.size 3 1 A (usedP s.mem).length c (intCells .i64 (usedP s.mem))→∀ (K:AM→Prop),
    (∀ m8,m.le m8→m8 b1=some (.cells #[.int .i64 0,.int .i64 0,.slice none 0 0,.slice none 0 0] 30)→m8 b37=some (.cells #[.int .i64 t,.int .i64 k,.slice q.Ao s.out.length q.co,.slice A (usedP s.mem).length c] 30)→Own m8 w0.heap.size 3 1 q.Ao s.out.length q.co (intCells .i64 s.out)→Own m8 w0.heap.size 3 1 A (usedP s.mem).length c (intCells .i64 (usedP s.mem))→K m8) →
    StC w0.heap.size m7 ⟨b37,2,none⟩ (.slice q.Ao s.out.length q.co) fun m55=>StC w0.heap.size m55 ⟨b37,3,none⟩ (.slice A (usedP s.mem).length c) K:=by
   intro m7 A c l7 o7 K hK
   have k37:=l7 _ _ hC.h37
   refine StC_own k37 hb37 (by simp) ?_
   simp only [std_all,sto_all,Nat.reduceAdd,Nat.reduceLT,LI_,LB_,LA_,SI_,pt_,KI_,hb37]
   refine hK _ ?_ (by rw [upd_get_ne h137]; exact l7 _ _ hC.h1) upd_get_same ((h6.ho.le l7).upd ((h6.ho.le l7).ne_type k37 (by decide))) (o7.upd (o7.ne_type k37 (by decide)))
   intro x o hx
   rw [upd_get]
   by_cases e:x=b37
   ·subst e; rw [n37] at hx; cases hx
   ·rw [if_neg e]; exact l7 _ _ (hC.hl _ _ hx)
  refine vr8_1111110 w0 m6 _ _ b1 (some ⟨gm,0,none⟩) b35 b37 (fun m8=>∃ A c,m.le m8∧m8 b1=some (.cells #[.int .i64 0,.int .i64 0,.slice none 0 0,.slice none 0 0] 30)∧m8 b37=some (.cells #[.int .i64 t,.int .i64 k,.slice q.Ao s.out.length q.co,.slice A (usedP s.mem).length c] 30)∧Own m8 w0.heap.size 3 1 q.Ao s.out.length q.co (intCells .i64 s.out)∧Own m8 w0.heap.size 3 1 A (usedP s.mem).length c (intCells .i64 (usedP s.mem))) rfl rfl rfl rfl ?_ ?_
  ·refine ⟨⟨_,_,_,r36,?_⟩,?_⟩
   ·refine CallsA.mono (used_spec w0 m6 w0.heap.size gm q.Aw s.mem q.cw (hgm6 ▸ h6.hm) h6.hw hml) ?_
    rintro r m7 ⟨l7,A,c,rfl,o7,_⟩
    refine ⟨_,_,_,rfl,fin m7 A c l7 o7 _ fun m8 a1 a2 a3 a4 a5=>?_⟩
    exact ⟨rfl,rfl,rfl,A,c,a1,a2,a3,a4,a5⟩
   ·refine CallsA.mono (used_spec w0 m6 w0.heap.size gm q.Aw s.mem q.cw (hgm6 ▸ h6.hm) h6.hw hml) ?_
    rintro r m7 ⟨l7,A,c,rfl,o7,_⟩
    refine ⟨_,_,_,rfl,_,_,_,AM.le_cell l7 r36,fin m7 A c l7 o7 _ fun m8 a1 a2 a3 a4 a5=>?_⟩
    exact ⟨rfl,rfl,rfl,A,c,a1,a2,a3,a4,a5⟩
  ·rintro σ m8 ⟨A,c,a1,a2,a3,a4,a5⟩
   simp only [cell_of a3,std_all,sto_all,Nat.reduceAdd,Nat.reduceLT,LI_,LB_,LA_,SI_,pt_,KI_]
   refine StC_own a2 hb1 (by simp) ?_
   simp only [std_all,sto_all,Nat.reduceAdd,Nat.reduceLT,LI_,LB_,LA_,SI_,pt_,KI_,hb1]
   refine retP_of ⟨?_,q.Ao,q.co,A,c,rfl,a4.upd (a4.ne_type a2 (by decide)),a5.upd (a5.ne_type a2 (by decide))⟩
   intro x o hx
   rw [upd_get]
   by_cases e:x=b1
   ·subst e; rw [hm1] at hx; cases hx
   ·rw [if_neg e]; exact a1 _ _ hx
end Go.Proofs.YtkfemiloehkmhaaGreat.S

