/- YtkfemiloehkmhaaGreat: a text of our own, by an AI agent: RrBY -/
import Derived.Test.YtkfemiloehkmhaaGreatLsBY
import Derived.Test.YtkfemiloehkmhaaGreatP8DY
set_option linter.unusedSimpArgs false
set_option linter.unusedVariables false
set_option maxRecDepth 100000
namespace Go.Proofs.YtkfemiloehkmhaaGreat.S
open Go Go.RowKit Go.Alog

theorem regOf_setR {regs:List Int} {n v r:Int} (hn:0≤n∧n<32) (hl:regs.length=32) (h0:0≤r):regOf (setR regs n v) r=if n≠0∧n=r then w32 v else regOf regs r:=by
 unfold setR
 by_cases e:n=0
 ·rw [if_pos e,if_neg (fun h=>h.1 e)]
 ·rw [if_neg e,regOf_set (by omega) h0]
  by_cases e2:n=r
  ·rw [if_pos e2,if_pos ⟨e,e2⟩]
  ·rw [if_neg e2,if_neg (fun h=>e2 h.2)]
theorem doP_no {s:MS} {i:Ins} {x:MS × Int} (h:actP s i=x) (hk:¬ (1≤i.op∧i.op≤11)):doP s i=x:=by
 obtain ⟨a,t⟩:=x
 unfold doP
 rw [h]
 by_cases ht:t=0
 ·subst ht
  simp only [ne_eq,not_true_eq_false,if_false]
  rw [reck_no i _ _ hk]
  simp
 ·simp only [ne_eq,ht,not_false_eq_true,if_true]
theorem doP12 (s:MS) (i:Ins) (h:i.op=12):doP s i=if 0≤w32 (regOf s.regs i.b+i.imm)∧w32 (regOf s.regs i.b+i.imm)<s.mem.length then ({ s with regs:=setR s.regs i.a (s.mem.getD (w32 (regOf s.regs i.b+i.imm)).toNat 0) },0) else (s,3):=by
 refine doP_no ?_ (by omega)
 unfold actP
 simp only []
 rw [if_pos h]
theorem doP13 (s:MS) (i:Ins) (h:i.op=13):doP s i=if 0≤w32 (regOf s.regs i.b+i.imm)∧w32 (regOf s.regs i.b+i.imm)<s.mem.length then ({ s with mem:=s.mem.set (w32 (regOf s.regs i.b+i.imm)).toNat (w32 (regOf s.regs i.a)) },0) else (s,3):=by
 refine doP_no ?_ (by omega)
 unfold actP
 simp only []
 rw [if_neg (by omega),if_pos h]
theorem doP14 (s:MS) (i:Ins) (h:i.op=14):doP s i=(s,if regOf s.regs i.a<0∨regOf s.regs i.a≥i.imm then (if i.b=0 then 5 else i.b) else 0):=by
 refine doP_no ?_ (by omega)
 unfold actP
 simp only []
 rw [if_neg (by omega),if_neg (by omega),if_pos h]
 split <;> rfl
theorem doP20 (s:MS) (i:Ins) (h:i.op=20):doP s i=sysP s i.imm:=by
 refine doP_no ?_ (by omega)
 unfold actP
 simp only []
 rw [if_neg (by omega),if_neg (by omega),if_neg (by omega),if_pos h]
theorem act_none (s:MS) (i:Ins) (h:i.op<12∨(15≤i.op∧i.op≠20)):actP s i=(s,0):=by
 unfold actP
 simp only []
 rw [if_neg (by omega),if_neg (by omega),if_neg (by omega),if_neg (by omega)]
theorem doPr (s:MS) (i:Ins) (h:1≤i.op∧i.op≤11) (hr:rightR i=true):doP s i=if (reckonP i (regOf s.regs i.b) (regOf s.regs i.c)).2.1≠0 then (s,(reckonP i (regOf s.regs i.b) (regOf s.regs i.c)).2.1) else ({ s with regs:=setR s.regs i.a (reckonP i (regOf s.regs i.b) (regOf s.regs i.c)).1 },0):=by
 unfold doP
 rw [act_none s i (by omega)]
 simp only [ne_eq,not_true_eq_false,if_false]
 rw [reck_yes i _ _ h hr]
 simp
theorem doPn (s:MS) (i:Ins) (h:i.op<1∨(15≤i.op∧i.op≠20)):doP s i=(s,0):=doP_no (act_none s i (by omega)) (by omega)
theorem op_kind (i:Ins):i.op=12∨i.op=13∨i.op=14∨i.op=20∨(1≤i.op∧i.op≤11)∨(i.op<1∨(15≤i.op∧i.op≠20)):=by omega

theorem wr_field {i:Ins} (hr:rightR i=true):writesP i=fieldW i:=by unfold writesP; rw [if_pos hr]
theorem doP_frame {s:MS} {i:Ins} (hr:rightR i=true) (hl:s.regs.length=32) {r:Int} (h0:0≤r) (hw:writesP i=0∨writesP i≠r):regOf (doP s i).1.regs r=regOf s.regs r:=by
 have hI:=right_regs hr
 rw [wr_field hr] at hw
 rcases op_kind i with h | h | h | h | h | h
 ·have fw:fieldW i=i.a:=by unfold fieldW; rw [if_pos (by omega)]
  rw [doP12 s i h]
  split
  ·show regOf (setR s.regs i.a _) r=_
   rw [regOf_setR hI.1 hl h0,if_neg]
   rw [fw] at hw
   omega
  ·rfl
 ·rw [doP13 s i h]; split <;> rfl
 ·rw [doP14 s i h]
 ·rw [doP20 s i h]
  unfold sysP
  split
  ·rfl
  split
  ·rename_i h1
   have fw:fieldW i=4:=by unfold fieldW; rw [if_neg (by omega),if_neg (by omega),if_pos ⟨h,h1⟩]
   cases s.inp with
   | nil=>rfl
   | cons x rr =>
    show regOf (setR s.regs 4 x) r=_
    rw [regOf_setR (by decide) hl h0,if_neg]
    rw [fw] at hw
    omega
  split
  ·split <;> rfl
  ·rfl
 ·have fw:fieldW i=i.a:=by unfold fieldW; rw [if_pos (by omega)]
  rw [doPr s i h hr]
  split
  ·rfl
  ·show regOf (setR s.regs i.a _) r=_
   rw [regOf_setR hI.1 hl h0,if_neg]
   rw [fw] at hw
   omega
 ·rw [doPn s i h]
theorem doP_calm {s:MS} {i:Ins} (hr:rightR i=true) (ha:actsP i=false):(doP s i).2=0∧(doP s i).1.mem=s.mem∧(doP s i).1.inp=s.inp∧(doP s i).1.out=s.out:=by
 have hop:¬ (i.op=4∨i.op=5∨i.op=12∨i.op=13∨i.op=14∨i.op=20):=by
  unfold actsP at ha
  rw [hr,Bool.true_and] at ha
  exact of_decide_eq_false ha
 rcases op_kind i with h | h | h | h | h | h
 ·omega
 ·omega
 ·omega
 ·omega
 ·rw [doPr s i h hr]
  have ht:(reckonP i (regOf s.regs i.b) (regOf s.regs i.c)).2.1=0:=by
   unfold reckonP
   rw [if_neg (by rw [hr]; simp)]
   cases reckP i (w32 (regOf s.regs i.b)) (w32 (regOf s.regs i.c)) with
   | some v=>rfl
   | none =>
    show (if i.op≠4∧i.op≠5 then ((0:Int),(0:Int),false) else _).2.1=0
    rw [if_pos (by omega)]
  rw [ht]
  exact ⟨rfl,rfl,rfl,rfl⟩
 ·rw [doPn s i h]; exact ⟨rfl,rfl,rfl,rfl⟩
theorem reads_mem {i:Ins} (hr:rightR i=true) {r:Int} (h0:1≤r) (h1:r≤31) (hm:r∈fieldL i):readsR i r=true:=by
 unfold readsR
 rw [hr,Bool.true_and,decide_eq_true ⟨h0,h1⟩,Bool.true_and]
 exact List.contains_iff_mem.2 hm
theorem doP_same {s s':MS} {i:Ins} (hr:rightR i=true) (h18:i.op≠18) (hl:s.regs.length=32) (hl':s'.regs.length=32) (h0:regOf s.regs 0=regOf s'.regs 0) (hs:∀ r,readsR i r=true→regOf s.regs r=regOf s'.regs r) (ha:actsP i=true→s.mem=s'.mem∧s.inp=s'.inp∧s.out=s'.out) :
  (doP s i).2=(doP s' i).2∧((doP s i).2=0→writesP i≠0→regOf (doP s i).1.regs (writesP i)=regOf (doP s' i).1.regs (writesP i))∧(actsP i=true→(doP s i).1.mem=(doP s' i).1.mem∧(doP s i).1.out=(doP s' i).1.out∧(doP s i).1.inp=(doP s' i).1.inp):=by
 have hI:=right_regs hr
 have hw:=wr_field hr
 have rd:∀ r,0≤r→r<32→r∈fieldL i→regOf s.regs r=regOf s'.regs r:=fun r r0 r1 hm=>by
  by_cases e:r=0
  ·rw [e]; exact h0
  ·exact hs r (reads_mem hr (by omega) (by omega) hm)
 have act:(i.op=4∨i.op=5∨i.op=12∨i.op=13∨i.op=14∨i.op=20)→actsP i=true:=fun h=>by
  unfold actsP
  rw [hr,Bool.true_and]
  exact decide_eq_true h
 rcases op_kind i with h | h | h | h | h | h
 ·obtain ⟨e1,e2,e3⟩:=ha (act (by omega))
  have fw:fieldW i=i.a:=by unfold fieldW; rw [if_pos (by omega)]
  have eb:=rd i.b hI.2.1.1 hI.2.1.2 (by unfold fieldL; rw [if_neg (by omega),if_pos (by omega)]; simp)
  rw [doP12 s i h,doP12 s' i h,← eb,← e1,hw,fw]
  by_cases hc:0≤w32 (regOf s.regs i.b+i.imm)∧w32 (regOf s.regs i.b+i.imm)<s.mem.length
  ·rw [if_pos hc,if_pos hc]
   refine ⟨rfl,fun _ hne=>?_,fun _=>⟨rfl,e3,e2⟩⟩
   show regOf (setR s.regs i.a _) i.a=regOf (setR s'.regs i.a _) i.a
   rw [regOf_setR hI.1 hl hI.1.1,regOf_setR hI.1 hl' hI.1.1,if_pos ⟨hne,rfl⟩,if_pos ⟨hne,rfl⟩]
  ·rw [if_neg hc,if_neg hc]
   exact ⟨rfl,fun h=>absurd h (show ¬ ((3:Int)=0) by decide),fun _=>⟨e1,e3,e2⟩⟩
 ·obtain ⟨e1,e2,e3⟩:=ha (act (by omega))
  have fw:fieldW i=0:=by unfold fieldW; rw [if_neg (by omega),if_neg (by omega),if_neg (by omega)]
  have ea:=rd i.a hI.1.1 hI.1.2 (by unfold fieldL; rw [if_neg (by omega),if_neg (by omega),if_pos (by omega)]; simp)
  have eb:=rd i.b hI.2.1.1 hI.2.1.2 (by unfold fieldL; rw [if_neg (by omega),if_neg (by omega),if_pos (by omega)]; simp)
  rw [doP13 s i h,doP13 s' i h,← eb,← ea,← e1,hw,fw]
  by_cases hc:0≤w32 (regOf s.regs i.b+i.imm)∧w32 (regOf s.regs i.b+i.imm)<s.mem.length
  ·rw [if_pos hc,if_pos hc]
   exact ⟨rfl,fun _ hne=>absurd rfl hne,fun _=>⟨rfl,e3,e2⟩⟩
  ·rw [if_neg hc,if_neg hc]
   exact ⟨rfl,fun h=>absurd h (show ¬ ((3:Int)=0) by decide),fun _=>⟨e1,e3,e2⟩⟩
 ·obtain ⟨e1,e2,e3⟩:=ha (act (by omega))
  have fw:fieldW i=0:=by unfold fieldW; rw [if_neg (by omega),if_neg (by omega),if_neg (by omega)]
  have ea:=rd i.a hI.1.1 hI.1.2 (by unfold fieldL; rw [if_neg (by omega),if_neg (by omega),if_neg (by omega),if_pos (by omega)]; simp)
  rw [doP14 s i h,doP14 s' i h,← ea,hw,fw]
  exact ⟨rfl,fun _ hne=>absurd rfl hne,fun _=>⟨e1,e3,e2⟩⟩
 ·obtain ⟨e1,e2,e3⟩:=ha (act (by omega))
  rw [doP20 s i h,doP20 s' i h,hw]
  unfold sysP
  by_cases c0:i.imm=0
  ·rw [if_pos c0,if_pos c0]; exact ⟨rfl,fun h=>absurd h (show ¬ ((1:Int)=0) by decide),fun _=>⟨e1,e3,e2⟩⟩
  rw [if_neg c0,if_neg c0]
  by_cases c1:i.imm=1
  ·have fw:fieldW i=4:=by unfold fieldW; rw [if_neg (by omega),if_neg (by omega),if_pos ⟨h,c1⟩]
   rw [if_pos c1,if_pos c1,← e2,fw]
   cases hin:s.inp with
   | nil=>exact ⟨rfl,fun h=>absurd h (show ¬ ((6:Int)=0) by decide),fun _=>⟨e1,e3,e2⟩⟩
   | cons x rr =>
    refine ⟨rfl,fun _ _=>?_,fun _=>⟨e1,e3,rfl⟩⟩
    show regOf (setR s.regs 4 x) 4=regOf (setR s'.regs 4 x) 4
    rw [regOf_setR (by decide) hl (by decide),regOf_setR (by decide) hl' (by decide),if_pos (by decide),if_pos (by decide)]
  rw [if_neg c1,if_neg c1]
  have fw:fieldW i=0:=by unfold fieldW; rw [if_neg (by omega),if_neg (by omega),if_neg (by omega)]
  rw [fw]
  by_cases c2:i.imm=2
  ·have e4:=rd 4 (by decide) (by decide) (by unfold fieldL; rw [if_neg (by omega),if_neg (by omega),if_neg (by omega),if_neg (by omega),if_pos ⟨h,c2⟩]; simp)
   rw [if_pos c2,if_pos c2,← e3,← e4]
   by_cases hc:s.out.length≥10000
   ·rw [if_pos hc,if_pos hc]; exact ⟨rfl,fun h=>absurd h (show ¬ ((9:Int)=0) by decide),fun _=>⟨e1,e3,e2⟩⟩
   ·rw [if_neg hc,if_neg hc]; exact ⟨rfl,fun _ hne=>absurd rfl hne,fun _=>⟨e1,rfl,e2⟩⟩
  ·rw [if_neg c2,if_neg c2]; exact ⟨rfl,fun _ hne=>absurd rfl hne,fun _=>⟨e1,e3,e2⟩⟩
 ·have fw:fieldW i=i.a:=by unfold fieldW; rw [if_pos (by omega)]
  have hR:reckonP i (regOf s.regs i.b) (regOf s.regs i.c)=reckonP i (regOf s'.regs i.b) (regOf s'.regs i.c):=by
   by_cases h9:i.op≤9
   ·rw [rd i.b hI.2.1.1 hI.2.1.2 (by unfold fieldL; rw [if_pos (by omega)]; simp),rd i.c hI.2.2.1 hI.2.2.2 (by unfold fieldL; rw [if_pos (by omega)]; simp)]
   ·by_cases h10:i.op=10
    ·rw [rd i.b hI.2.1.1 hI.2.1.2 (by unfold fieldL; rw [if_neg (by omega),if_pos (by omega)]; simp)]
     unfold reckonP reckP
     simp only [h10]
     rfl
    ·have h11:i.op=11:=by omega
     unfold reckonP reckP
     simp only [h11]
     rfl
  rw [doPr s i h hr,doPr s' i h hr,← hR,hw,fw]
  by_cases hc:(reckonP i (regOf s.regs i.b) (regOf s.regs i.c)).2.1≠0
  ·rw [if_pos hc,if_pos hc]
   exact ⟨rfl,fun h=>absurd h hc,fun h2=>by obtain ⟨e1,e2,e3⟩:=ha h2; exact ⟨e1,e3,e2⟩⟩
  ·rw [if_neg hc,if_neg hc]
   refine ⟨rfl,fun _ hne=>?_,fun h2=>by obtain ⟨e1,e2,e3⟩:=ha h2; exact ⟨e1,e3,e2⟩⟩
   show regOf (setR s.regs i.a _) i.a=regOf (setR s'.regs i.a _) i.a
   rw [regOf_setR hI.1 hl hI.1.1,regOf_setR hI.1 hl' hI.1.1,if_pos ⟨hne,rfl⟩,if_pos ⟨hne,rfl⟩]
 ·rw [doPn s i h,doPn s' i h]
  refine ⟨rfl,fun _ hne=>?_,fun h2=>by obtain ⟨e1,e2,e3⟩:=ha h2; exact ⟨e1,e3,e2⟩⟩
  exfalso
  refine hne ?_
  rw [hw]
  unfold fieldW
  rw [if_neg (by omega),if_neg (by omega),if_neg (by omega)]
end Go.Proofs.YtkfemiloehkmhaaGreat.S

set_option linter.unusedSimpArgs false
set_option linter.unusedVariables false
set_option maxRecDepth 100000
namespace Go.Proofs.YtkfemiloehkmhaaGreat.S
open Go Go.RowKit Go.Alog

theorem eff_w {i:Ins} {l A:La} {w:Int} (hi:l.i=i) (hf:l.full=true) (hr:l.reg=w) (hA:A.full=true∧A.reg=w) (hw:0≤w∧w<32) (hLi:lateP l.i=false→True) :
  ∃ val:Int,∀ B:List Int,B.length=32→∀ r:Int,0≤r→regOf (wrA (if lateP i=true then A else La0) (wrL l B)) r=(if w≠0∧w=r then val else regOf B r)∧((w=0∨w≠r)→regOf (wrA (if lateP i=true then A else La0) (wrL l B)) r=regOf (wrL l B) r):=by
 subst hi
 cases hlate:lateP l.i with
 | true =>
  refine ⟨A.value,fun B hB r h0=>?_⟩
  have e1:wrL l B=B:=by
   unfold wrL
   rw [if_neg]
   rintro ⟨_,_,h⟩
   rw [hlate] at h; cases h
  rw [if_pos rfl,e1]
  unfold wrA
  rw [hA.1,hA.2]
  by_cases e:w=0
  ·rw [if_neg (fun h=>h.2 e),if_neg (fun h=>h.1 e)]
   exact ⟨rfl,fun _=>rfl⟩
  ·rw [if_pos ⟨rfl,e⟩,regOf_set (by omega) h0]
   by_cases e2:w=r
   ·rw [if_pos e2,if_pos ⟨e,e2⟩]
    exact ⟨rfl,fun h=>by omega⟩
   ·rw [if_neg e2,if_neg (fun h=>e2 h.2)]
    exact ⟨rfl,fun _=>rfl⟩
 | false =>
  refine ⟨l.value,fun B hB r h0=>?_⟩
  have e0:∀ X:List Int,wrA (if false=true then A else La0) X=X:=fun X=>rfl
  rw [e0]
  refine ⟨?_,fun _=>rfl⟩
  unfold wrL
  rw [hf,hr,hlate]
  by_cases e:w=0
  ·rw [if_neg (fun h=>h.2.1 e),if_neg (fun h=>h.1 e)]
  ·rw [if_pos ⟨rfl,e,rfl⟩,regOf_set (by omega) h0]
   by_cases e2:w=r
   ·rw [if_pos e2,if_pos ⟨e,e2⟩]
   ·rw [if_neg e2,if_neg (fun h=>e2 h.2)]

structure PD (d d':DS) (t:Int) (i:Ins) (q:MS × Int):Prop where
 ht:t=q.2
 hm:d'.mem=q.1.mem
 ho:d'.out=q.1.out
 hi:t=0→d'.inp=q.1.inp
 hr:t=0→∀ r,0≤r→r<32→regOf (wrA d'.late d'.regs) r=regOf q.1.regs r
 hp:t=0→∀ r,0≤r→(writesP i=0∨writesP i≠r∨lateP i=false)→regOf (wrA d'.late d'.regs) r=regOf d'.regs r
 ha:d'.at_=d.next
 hl:d'.regs.length=32

theorem stepD_pend (code:List Ins) (d:DS) (i:Ins) (x:Int) (hf:fetchL code d.at_ = { La0 with full:=true,at_:=d.at_,i:=i }) (hr:rightR i=true) (h18:i.op≠18) (hm:∀ v∈d.mem,w32 v=v) (hlen:d.regs.length=32)
  (hno:∀ r,r=0∨readsR i r=true→regOf (wrA d.late d.regs) r=regOf d.regs r) :
  PD d (stepD code d).1 (stepD code d).2 i (doP ⟨wrA d.late d.regs,d.mem,x,d.inp,d.out⟩ i):=by
 obtain ⟨hD,hD2⟩:=stepD_do code { d with late:=La0 } i x hf hr rfl hm h18 hlen
 have hFl:(wrA d.late d.regs).length=32:=by rw [wrA_len,hlen]

 obtain ⟨l,hl⟩:∃ l,l=stL (fetchL code d.at_) La0 d.regs:=⟨_,rfl⟩
 have hli:l.i=i:=by rw [hl,stL_i,hf]
 have hlf:l.full=true:=by rw [hl,stL_full,hf]
 have hlr:l.reg=writesP i:=by
  rw [hl,hf]
  unfold stL
  rw [if_pos ⟨rfl,rfl⟩,stage3_reg]
 have hS:stepD code d=(⟨wrL l (wrA d.late d.regs),(actD d.mem d.inp d.out l).1.mem,d.next,nxtP d.regs d.next (fetchL code d.at_),(actD d.mem d.inp d.out l).1.inp,(actD d.mem d.inp d.out l).1.out,if lateP (actD d.mem d.inp d.out l).1.a.i=true then (actD d.mem d.inp d.out l).1.a else La0⟩,(actD d.mem d.inp d.out l).2):=by
  unfold stepD
  simp only [← hl]
 have hS0:stepD code { d with late:=La0 }=(⟨wrL l d.regs,(actD d.mem d.inp d.out l).1.mem,d.next,nxtP d.regs d.next (fetchL code d.at_),(actD d.mem d.inp d.out l).1.inp,(actD d.mem d.inp d.out l).1.out,if lateP (actD d.mem d.inp d.out l).1.a.i=true then (actD d.mem d.inp d.out l).1.a else La0⟩,(actD d.mem d.inp d.out l).2):=by
  unfold stepD
  simp only [← hl]
  rfl
 have hact:=act0 (mem:=d.mem) (inp:=d.inp) (out:=d.out) hlf
 rw [hS0] at hD hD2
 rw [hS]
 clear hS hS0
 have hw:=writesP_le i
 generalize actD d.mem d.inp d.out l=P at hD hD2 hact ⊢
 obtain ⟨q1,q2,q3,q4,q5,q6⟩:=hD
 simp only at q1 q2 q3 q4 q5 q6
 have hsame:=doP_same (s:=⟨d.regs,d.mem,x,d.inp,d.out⟩) (s':=⟨wrA d.late d.regs,d.mem,x,d.inp,d.out⟩) (i:=i) hr h18 hlen hFl (hno 0 (.inl rfl)).symm (fun r h=>(hno r (.inr h)).symm) (fun _=>⟨rfl,rfl,rfl⟩)
 have hframe:=fun r h0 hw=>doP_frame (s:=⟨wrA d.late d.regs,d.mem,x,d.inp,d.out⟩) (i:=i) hr hFl (r:=r) h0 hw
 have hc1:=doP_calm (s:=⟨d.regs,d.mem,x,d.inp,d.out⟩) (i:=i) hr
 have hc2:=doP_calm (s:=⟨wrA d.late d.regs,d.mem,x,d.inp,d.out⟩) (i:=i) hr
 obtain ⟨s1,s2,s3⟩:=hsame
 have world:(doP ⟨d.regs,d.mem,x,d.inp,d.out⟩ i).1.mem=(doP ⟨wrA d.late d.regs,d.mem,x,d.inp,d.out⟩ i).1.mem∧(doP ⟨d.regs,d.mem,x,d.inp,d.out⟩ i).1.out=(doP ⟨wrA d.late d.regs,d.mem,x,d.inp,d.out⟩ i).1.out∧(doP ⟨d.regs,d.mem,x,d.inp,d.out⟩ i).1.inp=(doP ⟨wrA d.late d.regs,d.mem,x,d.inp,d.out⟩ i).1.inp:=by
  cases ha:actsP i with
  | true=>exact s3 ha
  | false =>
   obtain ⟨_,a1,a2,a3⟩:=hc1 ha
   obtain ⟨_,b1,b2,b3⟩:=hc2 ha
   exact ⟨by rw [a1,b1],by rw [a3,b3],by rw [a2,b2]⟩
 generalize doP ⟨d.regs,d.mem,x,d.inp,d.out⟩ i=Q0 at *
 generalize doP ⟨wrA d.late d.regs,d.mem,x,d.inp,d.out⟩ i=Q at *
 have eff:P.2=0→∃ val:Int,∀ B:List Int,B.length=32→∀ r:Int,0≤r→regOf (wrA (if lateP P.1.a.i=true then P.1.a else La0) (wrL l B)) r=(if writesP i≠0∧writesP i=r then val else regOf B r)∧((writesP i=0∨writesP i≠r)→regOf (wrA (if lateP P.1.a.i=true then P.1.a else La0) (wrL l B)) r=regOf (wrL l B) r):=by
  intro ht
  obtain ⟨a1,a2,a3,_,_⟩:=hact ht (fun _=>by rw [hli]; exact hr)
  rw [a3]
  obtain ⟨val,h⟩:=eff_w (i:=l.i) (l:=l) (A:=P.1.a) (w:=writesP i) rfl hlf hlr ⟨a1,by rw [a2,hlr]⟩ hw (fun _=>trivial)
  exact ⟨val,h⟩
 refine ⟨by rw [← s1]; exact q1,by rw [← world.1]; exact q2,by rw [← world.2.1]; exact q3,fun ht=>by rw [← world.2.2]; exact q4 ht,fun ht r r0 r1=>?_,fun ht r r0 hh=>?_,rfl,by rw [wrL_len,wrA_len,hlen]⟩
 ·obtain ⟨val,h⟩:=eff ht
  show regOf (wrA (if lateP P.1.a.i=true then P.1.a else La0) (wrL l (wrA d.late d.regs))) r=regOf Q.1.regs r
  rw [(h _ hFl r r0).1]
  by_cases e:writesP i≠0∧writesP i=r
  ·rw [if_pos e]
   have h1:=(h d.regs hlen r r0).1
   rw [if_pos e] at h1
   have h2:=q5 ht
   have h3:=s2 (by rw [← q1]; exact ht) e.1
   rw [← h1,← e.2,← h3,← h2]
  ·rw [if_neg e]
   exact (hframe r r0 (by omega)).symm
 ·obtain ⟨val,h⟩:=eff ht
  show regOf (wrA (if lateP P.1.a.i=true then P.1.a else La0) (wrL l (wrA d.late d.regs))) r=regOf (wrL l (wrA d.late d.regs)) r
  rcases hh with hh | hh | hh
  ·exact (h _ hFl r r0).2 (.inl hh)
  ·exact (h _ hFl r r0).2 (.inr hh)
  ·have:P.1.a.i=i:=by
    obtain ⟨_,_,a3,_,_⟩:=hact ht (fun _=>by rw [hli]; exact hr)
    rw [a3,hli]
   rw [this,hh]
   rfl

theorem stepD_go (code:List Ins) (d:DS) (i:Ins) (hf:fetchL code d.at_ = { La0 with full:=true,at_:=d.at_,i:=i }) (hr:rightR i=true) (hop:15≤i.op∧i.op≤19) :
  stepD code d=(⟨if i.op=18 then (wrA d.late d.regs).set 31 (IntKind.wrap .i64 (d.at_+2)) else wrA d.late d.regs,d.mem,d.next,nxtP d.regs d.next (fetchL code d.at_),d.inp,d.out,La0⟩,0):=by
 have ew:writesP i=fieldW i:=by unfold writesP; rw [if_pos hr]
 have hlate:lateP i=false:=by unfold lateP; rw [hr,Bool.true_and]; simp; omega
 have hl:stL (fetchL code d.at_) La0 d.regs = { (La0:La) with full:=true,i:=i,at_:=d.at_,reg:=fieldW i,trap:=0,stored:=regOf d.regs i.a,where_:=w32 (regOf d.regs i.b+i.imm),value:=if i.op=18 then IntKind.wrap .i64 (d.at_+2) else 0 }:=by
  rw [hf]
  unfold stL
  rw [if_pos ⟨rfl,rfl⟩]
  unfold stage3
  simp only [early0,ew]
  rw [if_neg (by omega)]
  by_cases h18:i.op=18
  ·rw [if_pos h18,if_pos h18]
   rfl
  ·rw [if_neg h18,if_neg h18,if_neg (by omega),reck_no i _ _ (by omega)]
 have ea:∀ l:La,l.full=true→l.trap=0→l.i=i→actD d.mem d.inp d.out l=(⟨[],d.mem,0,d.inp,d.out,La0,La0,La0,l⟩,l.trap):=by
  intro l h1 h2 h3
  unfold actD pactP
  simp only [h3]
  rw [if_neg (by rw [h1,h2]; simp),if_neg (by omega),if_neg (by omega),if_neg (by omega)]
 unfold stepD
 simp only []
 rw [hl]
 have e:=ea { (La0:La) with full:=true,i:=i,at_:=d.at_,reg:=fieldW i,trap:=0,stored:=regOf d.regs i.a,where_:=w32 (regOf d.regs i.b+i.imm),value:=if i.op=18 then IntKind.wrap .i64 (d.at_+2) else 0 } rfl rfl rfl
 rw [e]
 simp only [hlate]
 have hwr:wrL { (La0:La) with full:=true,i:=i,at_:=d.at_,reg:=fieldW i,trap:=0,stored:=regOf d.regs i.a,where_:=w32 (regOf d.regs i.b+i.imm),value:=if i.op=18 then IntKind.wrap .i64 (d.at_+2) else 0 } (wrA d.late d.regs)=if i.op=18 then (wrA d.late d.regs).set 31 (IntKind.wrap .i64 (d.at_+2)) else wrA d.late d.regs:=by
  unfold wrL
  simp only [hlate]
  by_cases h18:i.op=18
  ·have fw:fieldW i=31:=by unfold fieldW; rw [if_neg (by omega),if_pos h18]
   rw [fw,if_pos h18,if_pos h18,if_pos ⟨trivial,by decide,trivial⟩]
   rfl
  ·have fw:fieldW i=0:=by unfold fieldW; rw [if_neg (by omega),if_neg h18,if_neg (by omega)]
   rw [fw,if_neg (fun h=>h.2.1 rfl),if_neg h18]
 rw [hwr]
 rfl
end Go.Proofs.YtkfemiloehkmhaaGreat.S

set_option linter.unusedSimpArgs false
set_option linter.unusedVariables false
set_option maxRecDepth 100000
namespace Go.Proofs.YtkfemiloehkmhaaGreat.S
open Go Go.RowKit Go.Alog

def stB (l:List Ins) (s:MS):Nat→MS
 | 0=>s
 | k+1=>{ (doP (stB l s k) (cAt l k)).1 with at_:=(stB l s k).at_+1 }
theorem stB_at (l:List Ins) (s:MS) (k:Nat):(stB l s k).at_=s.at_+k:=by
 induction k with
 | zero=>simp [stB]
 | succ k ih=>show (stB l s k).at_+1=_; rw [ih]; omega
theorem stB_ok (l:List Ins) {s:MS} (hl:s.regs.length=32) (hm:∀ v∈s.mem,w32 v=v) (k:Nat):(stB l s k).regs.length=32∧∀ v∈(stB l s k).mem,w32 v=v:=by
 induction k with
 | zero=>exact ⟨hl,hm⟩
 | succ k ih =>
  have:=doP_keep (stB l s k) (cAt l k) ih.2
  exact ⟨by show (doP (stB l s k) (cAt l k)).1.regs.length=32; rw [this.1,ih.1],this.2⟩

structure BodyI (l:List Ins) (e:Nat):Prop where
 he:e≤l.length
 hr:∀ j:Nat,j<e→rightR (cAt l j)=true
 hg:∀ j:Nat,j<e→(cAt l j).op<15∨19<(cAt l j).op
 hw:∀ j:Nat,j<e→writesP (cAt l j)≠31
 hd:∀ j:Nat,j<e→readsR (cAt l j) 31=false
structure OrdI (l:List Ins) (e:Nat) (b:List Int):Prop where
 hin:∀ x∈b,x = -1∨(0≤x∧x<e)
 hn:(nnL b).Nodup
 far:∀ t:Nat,t<b.length→∀ i:Nat,0≤b.getD t 0→(i:Int)<b.getD t 0→farP (cAt l i) (cAt l (b.getD t 0))>0→∃ t':Nat,t'<t∧b.getD t' 0=i∧(t':Int)+farP (cAt l i) (cAt l (b.getD t 0))≤t

theorem stB_reg {l:List Ins} {s:MS} {e:Nat} (hb:BodyI l e) (hl:s.regs.length=32) (hm:∀ v∈s.mem,w32 v=v) {r:Int} (h0:0≤r):∀ {k1 k2:Nat},k1≤k2→k2≤e→(∀ w:Nat,k1≤w→w<k2→¬ (writesP (cAt l w)≠0∧writesP (cAt l w)=r))→regOf (stB l s k2).regs r=regOf (stB l s k1).regs r:=by
 intro k1 k2
 induction k2 with
 | zero=>intro h _ _; rw [show k1=0 by omega]
 | succ k ih =>
  intro h he hw
  by_cases e1:k1=k+1
  ·rw [e1]
  ·rw [← ih (by omega) (by omega) fun w h1 h2=>hw w h1 (by omega)]
   have:=hw k (by omega) (by omega)
   exact doP_frame (s:=stB l s k) (hb.hr k (by omega)) (stB_ok l hl hm k).1 h0 (by omega)
theorem stB_wor {l:List Ins} {s:MS} {e:Nat} (hb:BodyI l e):∀ {k1 k2:Nat},k1≤k2→k2≤e→(∀ w:Nat,k1≤w→w<k2→actsP (cAt l w)=false)→(stB l s k2).mem=(stB l s k1).mem∧(stB l s k2).inp=(stB l s k1).inp∧(stB l s k2).out=(stB l s k1).out:=by
 intro k1 k2
 induction k2 with
 | zero=>intro h _ _; rw [show k1=0 by omega]; exact ⟨rfl,rfl,rfl⟩
 | succ k ih =>
  intro h he hw
  by_cases e1:k1=k+1
  ·rw [e1]; exact ⟨rfl,rfl,rfl⟩
  ·obtain ⟨a1,a2,a3⟩:=ih (by omega) (by omega) fun w h1 h2=>hw w h1 (by omega)
   obtain ⟨_,b1,b2,b3⟩:=doP_calm (s:=stB l s k) (hb.hr k (by omega)) (hw k (by omega) (by omega))
   exact ⟨by rw [← a1]; exact b1,by rw [← a2]; exact b2,by rw [← a3]; exact b3⟩

theorem take_stepN {b:List Int} {t:Nat} (h:t<b.length):b.take (t+1)=b.take t ++ [b.getD t 0]:=by
 rw [List.take_add_one]
 congr 1
 simp [List.getD,h]
theorem mem_takeN {b:List Int} {t:Nat} {x:Int}:x∈b.take t↔∃ t':Nat,t'<t∧t'<b.length∧b.getD t' 0=x:=by
 constructor
 ·intro h
  obtain ⟨i,hi,he⟩:=List.mem_iff_getElem.1 h
  rw [List.length_take] at hi
  rw [List.getElem_take] at he
  exact ⟨i,by omega,by omega,by simp [List.getD,show i<b.length by omega,he]⟩
 ·rintro ⟨t',h1,h2,rfl⟩
  rw [List.mem_iff_getElem]
  exact ⟨t',by rw [List.length_take]; omega,by rw [List.getElem_take]; simp [List.getD,h2]⟩
theorem OrdI.uniq {l:List Ins} {e:Nat} {b:List Int} (h:OrdI l e b) {t t':Nat} (h1:t<b.length) (h2:t'<b.length) (h0:0≤b.getD t 0) (he:b.getD t 0=b.getD t' 0):t=t':=by
 rcases Nat.lt_trichotomy t t' with hl | hl | hl
 ·have:=nn_once h.hn t t' hl h2 he; omega
 ·exact hl
 ·have:=nn_once h.hn t' t hl h1 he.symm; omega
theorem OrdI.late {l:List Ins} {e:Nat} {b:List Int} (h:OrdI l e b) {t:Nat} (ht:t<b.length) {j:Nat} (hj:b.getD t 0=j) {i:Nat} (hi:j<i) (hf:farP (cAt l j) (cAt l i)>0):(i:Int)∉b.take t:=fun hm=>by
 obtain ⟨t',h1,h2,h3⟩:=mem_takeN.1 hm
 obtain ⟨t2,h4,h5,_⟩:=h.far t' h2 j (by omega) (by omega) (by rw [h3]; exact hf)
 have:=h.uniq (t:=t2) (t':=t) (by omega) ht (by omega) (by rw [h5,hj])
 omega
theorem OrdI.early {l:List Ins} {e:Nat} {b:List Int} (h:OrdI l e b) {t:Nat} (ht:t<b.length) {j:Nat} (hj:b.getD t 0=j) {i:Nat} (hi:i<j) (hf:farP (cAt l i) (cAt l j)>0):(i:Int)∈b.take t:=by
 obtain ⟨t',h1,h2,_⟩:=h.far t ht i (by omega) (by omega) (by rw [hj]; exact hf)
 exact mem_takeN.2 ⟨t',h1,by omega,h2⟩
theorem OrdI.self {l:List Ins} {e:Nat} {b:List Int} (h:OrdI l e b) {t:Nat} (ht:t<b.length) {j:Nat} (hj:b.getD t 0=j):(j:Int)∉b.take t:=fun hm=>by
 obtain ⟨t',h1,h2,h3⟩:=mem_takeN.1 hm
 have:=h.uniq (t:=t') (t':=t) h2 ht (by omega) (by rw [h3,hj])
 omega

theorem far_raw {a b:Ins} (h:readsR b (writesP a)=true):farP a b>0:=by
 unfold farP
 split
 ·decide
 ·rw [if_pos (by simp [h])]; decide
theorem far_war {a b:Ins} (h:readsR a (writesP b)=true):farP a b>0:=by
 unfold farP
 split
 ·decide
 ·rw [if_pos (by simp [h])]; decide
theorem far_waw {a b:Ins} (h0:writesP a≠0) (h:writesP a=writesP b):farP a b>0:=by
 unfold farP
 split
 ·decide
 ·rw [if_pos (by simp [h,h ▸ h0])]; decide
theorem far_act {a b:Ins} (h1:actsP a=true) (h2:actsP b=true):farP a b>0:=by
 unfold farP
 split
 ·decide
 ·rw [if_pos (by simp [h1,h2])]; decide
theorem far_late {a b:Ins} (h:readsR b (writesP a)=true) (hl:lateP a=true):farP a b=2:=by
 unfold farP
 rw [if_pos (by simp [h,hl])]

structure BC (l:List Ins) (e:Nat) (b:List Int) (s:MS) (R31:Int) (t:Nat) (d:DS):Prop where
 len:d.regs.length=32
 w:∀ v∈d.mem,w32 v=v
 reg:∀ r,0≤r→r<32→r≠31→∀ k:Nat,k≤e→(∀ w:Nat,w<e→writesP (cAt l w)≠0→writesP (cAt l w)=r→((w:Int)∈b.take t↔w<k))→regOf (wrA d.late d.regs) r=regOf (stB l s k).regs r
 wor:∀ k:Nat,k≤e→(∀ w:Nat,w<e→actsP (cAt l w)=true→((w:Int)∈b.take t↔w<k))→d.mem=(stB l s k).mem∧d.inp=(stB l s k).inp∧d.out=(stB l s k).out
 pen:∀ r,0≤r→regOf (wrA d.late d.regs) r=regOf d.regs r∨∃ t':Nat,t=t'+1∧∃ j:Nat,b.getD t' 0=j∧lateP (cAt l j)=true∧writesP (cAt l j)=r∧r≠0
 r31:regOf (wrA d.late d.regs) 31=R31
 calm:∀ w:Nat,w<e→(w:Int)∈b.take t→(doP (stB l s w) (cAt l w)).2=0

theorem body_step {nc l:List Ins} {e:Nat} {b:List Int} {s:MS} {R31:Int} (hb:BodyI l e) (ho:OrdI l e b) (hl:s.regs.length=32) (hm:∀ v∈s.mem,w32 v=v) {t:Nat} (ht:t<b.length)
  {d:DS} (hf:fetchL nc d.at_ = { La0 with full:=true,at_:=d.at_,i:=pickAt l (b.getD t 0) }) (hnx:0≤d.next∧d.next≤1000000) (h:BC l e b s R31 t d) :
  (∃ j:Nat,j<e∧(doP (stB l s j) (cAt l j)).2≠0∧(∀ i:Nat,i<j→(doP (stB l s i) (cAt l i)).2=0)∧(stepD nc d).2=(doP (stB l s j) (cAt l j)).2∧(stepD nc d).1.mem=(doP (stB l s j) (cAt l j)).1.mem∧(stepD nc d).1.out=(doP (stB l s j) (cAt l j)).1.out) ∨
  ((stepD nc d).2=0∧BC l e b s R31 (t+1) (stepD nc d).1∧(stepD nc d).1.at_=d.next∧(stepD nc d).1.next=d.next+1):=by
 have htk:=take_stepN ht
 have hx:=ho.hin (b.getD t 0) (by simp [List.getD,ht])
 rcases hx with hx | hx
 ·
  right
  rw [hx] at htk hf
  have hp:pickAt l (-1)=nopI:=by unfold pickAt; rw [if_neg (by omega)]; rfl
  rw [hp] at hf
  have hn:=stepD_nop nc d hf
  rw [hn]
  have hmem:∀ w:Nat,(w:Int)∈b.take (t+1)↔(w:Int)∈b.take t:=fun w=>by
   rw [htk,List.mem_append,List.mem_singleton]
   constructor
   ·rintro (h | h)
    ·exact h
    ·omega
   ·exact .inl
  have ww:IntKind.wrap .i64 (d.next+1)=d.next+1:=wrap_s (by omega) (by omega)
  refine ⟨rfl,⟨by show (wrA d.late d.regs).length=32; rw [wrA_len,h.len],h.w,fun r r0 r1 r2 k hk hw=>?_,fun k hk hw=>?_,fun r r0=>.inl rfl,h.r31,fun w hw hm=>h.calm w hw ((hmem w).1 hm)⟩,rfl,ww⟩
  ·exact h.reg r r0 r1 r2 k hk fun w h1 h2 h3=>by rw [← hmem]; exact hw w h1 h2 h3
  ·exact h.wor k hk fun w h1 h2=>by rw [← hmem]; exact hw w h1 h2
 ·
  obtain ⟨j,hj⟩:∃ j:Nat,b.getD t 0=j:=⟨(b.getD t 0).toNat,by omega⟩
  have hje:j<e:=by omega
  rw [hj] at htk hf
  have hp:pickAt l (j:Int)=cAt l j:=by unfold pickAt; rw [if_pos ⟨by omega,by have:=hb.he; omega⟩]
  rw [hp] at hf
  have hR:=hb.hr j hje
  have hop:=hb.hg j hje
  have hself:=ho.self ht hj
  have hearly:=fun i hi hf=>ho.early (i:=i) ht hj hi hf
  have hlate:=fun i hi hf=>ho.late (i:=i) ht hj hi hf
  have hmem:∀ w:Nat,w≠j→((w:Int)∈b.take (t+1)↔(w:Int)∈b.take t):=fun w hw=>by
   rw [htk,List.mem_append,List.mem_singleton]
   constructor
   ·rintro (h | h)
    ·exact h
    ·omega
   ·exact .inl
  have hmj:(j:Int)∈b.take (t+1):=by rw [htk]; simp
  have hok:=stB_ok l hl hm j
  have hFl:(wrA d.late d.regs).length=32:=by rw [wrA_len,h.len]
  have hPD:=stepD_pend nc d (cAt l j) 0 hf hR (by omega) h.w h.len (fun r hr=>by
   have r0:0≤r:=by
    rcases hr with hr | hr
    ·omega
    ·unfold readsR at hr
     simp only [Bool.and_eq_true,decide_eq_true_eq] at hr
     omega
   rcases h.pen r r0 with h1 | ⟨t',h1,j',h2,h3,h4,h5⟩
   ·exact h1
   ·exfalso
    rcases hr with hr | hr
    ·exact h5 hr
    ·rw [← h4] at hr
     have hin:(j':Int)∈b.take t:=mem_takeN.2 ⟨t',by omega,by omega,h2⟩
     rcases Nat.lt_trichotomy j' j with hlt | hlt | hlt
     ·obtain ⟨t2,g1,g2,g3⟩:=ho.far t ht j' (by omega) (by omega) (by rw [hj]; exact far_raw hr)
      rw [hj,far_late hr h3] at g3
      have:=ho.uniq (t:=t2) (t':=t') (by omega) (by omega) (by omega) (by rw [g2,h2])
      omega
     ·rw [hlt] at hin; exact hself hin
     ·exact hlate j' hlt (far_war hr) hin)
  have hnext:=stepD_next nc d
  rw [hf,nxt_plain _ _ _ hop] at hnext
  have hsame:=doP_same (s:=⟨wrA d.late d.regs,d.mem,0,d.inp,d.out⟩) (s':=stB l s j) (i:=cAt l j) hR (by omega) hFl hok.1
   (h.reg 0 (by omega) (by omega) (by omega) j (by omega) fun w h1 h2 h3=>absurd h3 h2)
   (fun r hr=>by
    have hr':=hr
    unfold readsR at hr'
    simp only [Bool.and_eq_true,decide_eq_true_eq] at hr'
    refine h.reg r (by omega) (by omega) (fun e31=>?_) j (by omega) fun w h1 h2 h3=>⟨fun hm=>?_,fun hlt=>?_⟩
    ·rw [e31,hb.hd j hje] at hr; cases hr
    ·rcases Nat.lt_trichotomy w j with hlt | hlt | hlt
     ·exact hlt
     ·rw [hlt] at hm; exact absurd hm hself
     ·exact absurd hm (hlate w hlt (far_war (by rw [h3]; exact hr)))
    ·exact hearly w hlt (far_raw (by rw [h3]; exact hr)))
   (fun ha=>h.wor j (by omega) fun w h1 h2=>⟨fun hm=>by
    rcases Nat.lt_trichotomy w j with hlt | hlt | hlt
    ·exact hlt
    ·rw [hlt] at hm; exact absurd hm hself
    ·exact absurd hm (hlate w hlt (far_act ha h2)),fun hlt=>hearly w hlt (far_act h2 ha)⟩)
  have hcq:=doP_calm (s:=⟨wrA d.late d.regs,d.mem,0,d.inp,d.out⟩) (i:=cAt l j) hR
  have hcs:=doP_calm (s:=stB l s j) (i:=cAt l j) hR
  have hfr:=fun r h0 hw=>doP_frame (s:=⟨wrA d.late d.regs,d.mem,0,d.inp,d.out⟩) (i:=cAt l j) hR hFl (r:=r) h0 hw
  have hkeep:=doP_keep ⟨wrA d.late d.regs,d.mem,0,d.inp,d.out⟩ (cAt l j) h.w
  have hst:∀ r,regOf (stB l s (j+1)).regs r=regOf (doP (stB l s j) (cAt l j)).1.regs r:=fun r=>rfl
  have hst2:(stB l s (j+1)).mem=(doP (stB l s j) (cAt l j)).1.mem∧(stB l s (j+1)).inp=(doP (stB l s j) (cAt l j)).1.inp∧(stB l s (j+1)).out=(doP (stB l s j) (cAt l j)).1.out:=⟨rfl,rfl,rfl⟩
  obtain ⟨s1,s2,s3⟩:=hsame
  generalize doP ⟨wrA d.late d.regs,d.mem,0,d.inp,d.out⟩ (cAt l j)=Q at *
  obtain ⟨p1,p2,p3,p4,p5,p6,p7,p8⟩:=hPD
  generalize hS:stepD nc d=SD at *
  by_cases htr:(doP (stB l s j) (cAt l j)).2=0
  ·right
   have hq0:Q.2=0:=by rw [s1]; exact htr
   have ht0:SD.2=0:=by rw [p1]; exact hq0
   have ww:IntKind.wrap .i64 (d.next+1)=d.next+1:=wrap_s (by omega) (by omega)
   rw [ww] at hnext
   refine ⟨ht0,⟨p8,by rw [p2]; exact hkeep.2,fun r r0 r1 r2 k hk hw=>?_,fun k hk hw=>?_,fun r r0=>?_,?_,fun w hw hm=>?_⟩,p7,hnext⟩
   ·rw [p5 ht0 r r0 r1]
    by_cases hwr:writesP (cAt l j)≠0∧writesP (cAt l j)=r
    ·have hjk:=(hw j hje hwr.1 hwr.2).1 hmj
     have h1:=s2 hq0 hwr.1
     rw [hwr.2] at h1
     rw [h1,← hst]
     refine (stB_reg hb hl hm r0 (k1:=j+1) (k2:=k) (by omega) hk fun w w1 w2 h3=>?_).symm
     have h4:=(hw w (by omega) h3.1 h3.2).2 w2
     rw [hmem w (by omega)] at h4
     exact hlate w (by omega) (far_waw hwr.1 (by rw [hwr.2,h3.2])) h4
    ·rw [hfr r r0 (by omega)]
     exact h.reg r r0 r1 r2 k hk fun w w1 w2 w3=>by
      have:w≠j:=fun e=>by subst e; exact hwr ⟨w2,w3⟩
      rw [← hmem w this]
      exact hw w w1 w2 w3
   ·rw [p2,p3,p4 ht0]
    cases ha:actsP (cAt l j) with
    | true =>
     obtain ⟨a1,a2,a3⟩:=s3 ha
     have hjk:=(hw j hje ha).1 hmj
     have hw2:=stB_wor (s:=s) hb (k1:=j+1) (k2:=k) (by omega) hk fun w w1 w2=>by
      cases haw:actsP (cAt l w) with
      | false=>rfl
      | true =>
       have h4:=(hw w (by omega) haw).2 w2
       rw [hmem w (by omega)] at h4
       exact absurd h4 (hlate w (by omega) (far_act ha haw))
     rw [hw2.1,hw2.2.1,hw2.2.2]
     exact ⟨a1,a3,a2⟩
    | false =>
     obtain ⟨_,a1,a2,a3⟩:=hcq ha
     rw [a1,a2,a3]
     exact h.wor k hk fun w w1 w2=>by
      have:w≠j:=fun e=>by subst e; rw [ha] at w2; cases w2
      rw [← hmem w this]
      exact hw w w1 w2
   ·by_cases hc:writesP (cAt l j)=0∨writesP (cAt l j)≠r∨lateP (cAt l j)=false
    ·exact .inl (p6 ht0 r r0 hc)
    ·right
     refine ⟨t,rfl,j,hj,?_,by omega,by omega⟩
     cases hlt:lateP (cAt l j) with
     | true=>rfl
     | false=>exact absurd (.inr (.inr hlt)) hc
   ·rw [p5 ht0 31 (by omega) (by omega),hfr 31 (by omega) (.inr (hb.hw j hje))]
    exact h.r31
   ·by_cases e1:w=j
    ·rw [e1]; exact htr
    ·exact h.calm w hw ((hmem w e1).1 hm)
  ·left
   have ha:actsP (cAt l j)=true:=by
    cases ha:actsP (cAt l j) with
    | true=>rfl
    | false=>exact absurd (hcs ha).1 htr
   obtain ⟨a1,a2,a3⟩:=s3 ha
   refine ⟨j,hje,htr,fun i hi=>?_,by rw [p1,s1],by rw [p2,a1],by rw [p3,a2]⟩
   cases hai:actsP (cAt l i) with
   | true=>exact h.calm i (by omega) (hearly i hi (far_act hai ha))
   | false=>exact (doP_calm (s:=stB l s i) (hb.hr i (by omega)) hai).1
end Go.Proofs.YtkfemiloehkmhaaGreat.S

set_option linter.unusedSimpArgs false
set_option linter.unusedVariables false
set_option maxRecDepth 100000
namespace Go.Proofs.YtkfemiloehkmhaaGreat.S
open Go Go.RowKit Go.Alog

def StopD (nc l:List Ins) (s:MS) (e m:Nat) (d:DS):Prop:=∃ j:Nat,j<e∧(doP (stB l s j) (cAt l j)).2≠0∧(∀ i:Nat,i<j→(doP (stB l s i) (cAt l i)).2=0)∧∃ m':Nat,m'≤m∧∀ x:Int,(runDG nc m' (d,0,x)).2.1=(doP (stB l s j) (cAt l j)).2∧(runDG nc m' (d,0,x)).1.mem=(doP (stB l s j) (cAt l j)).1.mem∧(runDG nc m' (d,0,x)).1.out=(doP (stB l s j) (cAt l j)).1.out
theorem StopD.later {nc l:List Ins} {s:MS} {e m n:Nat} {d d':DS} (h:StopD nc l s e m d') (hd:∀ x:Int,runDG nc n (d,0,x)=(d',0,x+n)):StopD nc l s e (n+m) d:=by
 obtain ⟨j,h1,h2,h3,m',h4,h5⟩:=h
 refine ⟨j,h1,h2,h3,n+m',by omega,fun x=>?_⟩
 rw [runDG_add,hd]
 exact h5 _
theorem StopD.more {nc l:List Ins} {s:MS} {e m n:Nat} {d:DS} (h:StopD nc l s e m d) (hn:m≤n):StopD nc l s e n d:=by
 obtain ⟨j,h1,h2,h3,m',h4,h5⟩:=h
 exact ⟨j,h1,h2,h3,m',by omega,h5⟩

theorem one_stop {nc l:List Ins} {e:Nat} {s:MS} {d:DS} (h:∃ j:Nat,j<e∧(doP (stB l s j) (cAt l j)).2≠0∧(∀ i:Nat,i<j→(doP (stB l s i) (cAt l i)).2=0)∧(stepD nc d).2=(doP (stB l s j) (cAt l j)).2∧(stepD nc d).1.mem=(doP (stB l s j) (cAt l j)).1.mem∧(stepD nc d).1.out=(doP (stB l s j) (cAt l j)).1.out):StopD nc l s e 1 d:=by
 obtain ⟨j,h1,h2,h3,h4,h5,h6⟩:=h
 refine ⟨j,h1,h2,h3,1,Nat.le_refl _,fun x=>?_⟩
 rw [show (1:Nat)=0+1 from rfl,runDG_one]
 exact ⟨h4,h5,h6⟩

theorem body_run {nc l:List Ins} {e:Nat} {b:List Int} {s:MS} {R31:Int} (hb:BodyI l e) (ho:OrdI l e b) (hl:s.regs.length=32) (hm:∀ v∈s.mem,w32 v=v) (T:Nat) (hT:T≤b.length) (P0:Int) (hP:0≤P0∧P0+T≤100000)
  (hf:∀ t:Nat,t<T→fetchL nc (P0+t) = { La0 with full:=true,at_:=P0+t,i:=pickAt l (b.getD t 0) }):∀ (n t:Nat) (d:DS),t+n=T→d.at_=P0+t→d.next=P0+t+1→BC l e b s R31 t d →
  StopD nc l s e n d∨∃ d',(∀ x:Int,runDG nc n (d,0,x)=(d',0,x+n))∧BC l e b s R31 T d'∧d'.at_=P0+T∧d'.next=P0+T+1:=by
 intro n
 induction n with
 | zero =>
  intro t d ht h1 h2 h
  have:t=T:=by omega
  subst this
  exact .inr ⟨d,fun x=>by simp [runDG],h,h1,h2⟩
 | succ n ih =>
  intro t d ht h1 h2 h
  rcases body_step hb ho hl hm (t:=t) (by omega) (by rw [h1]; exact hf t (by omega)) (by omega) h with hs | ⟨hs,hB,a1,a2⟩
  ·exact .inl ((one_stop hs).more (by omega))
  ·have hone:∀ x:Int,runDG nc 1 (d,0,x)=((stepD nc d).1,0,x+1):=fun x=>by
    rw [show (1:Nat)=0+1 from rfl,runDG_one,hs]; rfl
   rcases ih (t+1) (stepD nc d).1 (by omega) (by rw [a1,h2]; omega) (by rw [a2,h2]; omega) hB with h3 | ⟨d',h3,h4,h5,h6⟩
   ·left
    have:=h3.later (n:=1) hone
    rwa [Nat.add_comm] at this
   ·refine .inr ⟨d',fun x=>?_,h4,h5,h6⟩
    rw [Nat.add_comm n 1,runDG_add,hone,h3]
    congr 2
    omega

theorem body_start {l:List Ins} {e:Nat} {b:List Int} {s:MS} {d:DS} (hb:BodyI l e) (hl:s.regs.length=32) (hm:∀ v∈s.mem,w32 v=v) (len:d.regs.length=32) (hr:∀ r,0≤r→r<32→r≠31→regOf (wrA d.late d.regs) r=regOf s.regs r) (hmem:d.mem=s.mem) (hi:d.inp=s.inp) (ho:d.out=s.out) (hp:∀ r,0≤r→regOf (wrA d.late d.regs) r=regOf d.regs r):BC l e b s (regOf (wrA d.late d.regs) 31) 0 d:=by
 refine ⟨len,by rw [hmem]; exact hm,fun r r0 r1 r2 k hk hw=>?_,fun k hk hw=>?_,fun r r0=>.inl (hp r r0),rfl,fun w hw hm=>by simp at hm⟩
 ·rw [hr r r0 r1 r2]
  refine (stB_reg hb hl hm r0 (k1:=0) (k2:=k) (by omega) hk fun w w1 w2 w3=>?_).symm
  have:=(hw w (by omega) w3.1 w3.2).2 w2
  simp at this
 ·have:=stB_wor (s:=s) hb (k1:=0) (k2:=k) (by omega) hk fun w w1 w2=>by
   cases ha:actsP (cAt l w) with
   | false=>rfl
   | true =>
    have:=(hw w (by omega) ha).2 w2
    simp at this
  rw [this.1,this.2.1,this.2.2]
  exact ⟨hmem,hi,ho⟩

theorem ord_I {l:List Ins} {e:Nat} (he:e≤l.length) {z:List Int} (hz:∀ x∈z,x = -1):OrdI l e (ordP (l.take e) ++ z):=by
 have hlen:(l.take e).length=e:=by rw [List.length_take]; omega
 have hat:∀ i:Nat,i<e→cAt (l.take e) (i:Int)=cAt l i:=fun i hi=>by
  unfold cAt
  rw [show ((i:Nat):Int).toNat=i by omega]
  simp only [List.getD]
  rw [List.getElem?_take,if_pos hi]
 have hin:=ordP_in (l.take e)
 have hnn:nnL (ordP (l.take e) ++ z)=nnL (ordP (l.take e)):=by
  rw [nnL_app]
  have:nnL z = []:=by
   unfold nnL
   rw [List.filter_eq_nil_iff]
   intro x hx
   rw [hz x hx]; decide
  rw [this,List.append_nil]
 rw [hlen] at hin
 refine ⟨fun x hx=>?_,by rw [hnn]; exact ordP_nodup _,fun t ht i h0 h1 hf=>?_⟩
 ·rw [List.mem_append] at hx
  rcases hx with hx | hx
  ·exact hin x hx
  ·exact .inl (hz x hx)
 ·have hto:t<(ordP (l.take e)).length:=by
   refine Classical.byContradiction fun hn=>?_
   have:(ordP (l.take e) ++ z).getD t 0 = -1:=by
    rw [List.length_append] at ht
    have hk:t-(ordP (l.take e)).length<z.length:=by omega
    have:(ordP (l.take e) ++ z)[t]?=some z[t-(ordP (l.take e)).length]:=by
     rw [List.getElem?_append_right (by omega),List.getElem?_eq_getElem hk]
    rw [List.getD_eq_getElem?_getD,this]
    exact hz _ (List.getElem_mem hk)
   omega
  have hg:∀ k:Nat,k<(ordP (l.take e)).length→(ordP (l.take e) ++ z).getD k 0=(ordP (l.take e)).getD k 0:=fun k hk=>by
   rw [List.getD_eq_getElem?_getD,List.getD_eq_getElem?_getD,List.getElem?_append_left hk]
  rw [hg t hto] at h0 h1 hf ⊢
  have hm:(ordP (l.take e)).getD t 0∈ordP (l.take e):=by simp [List.getD,hto]
  have hlt:=hin _ hm
  obtain ⟨q,hq⟩:∃ q:Nat,(ordP (l.take e)).getD t 0=q:=⟨((ordP (l.take e)).getD t 0).toNat,by omega⟩
  have hwt:=wh_once (ordP_nodup (l.take e)) hto h0
  rw [hq] at h1 hf hwt ⊢
  have hff:=ordP_far (l.take e) i q h1 (by omega) (by rw [hat i (by omega),hat q (by omega)]; exact hf)
  rw [hat i (by omega),hat q (by omega)] at hff
  rcases whP_sp (ordP (l.take e)) i with ⟨_,h2⟩ | ⟨t',h2,h3,h4,_⟩
  ·exact absurd hff.1 h2
  ·exact ⟨t',by omega,by rw [hg t' h3]; exact h4,by omega⟩

theorem seq_body {code l:List Ins} {e:Nat} {s:MS} (hb:BodyI l e) (h0:0≤s.at_) (h1:s.at_+e≤code.length) (hc:code.length≤100000) (hat:∀ j:Nat,j<e→code.getD (s.at_+j).toNat default=cAt l j):∀ (j:Nat) (k:Int),j≤e→(∀ i:Nat,i<j→(doP (stB l s i) (cAt l i)).2=0)→runG code j (s,0,k)=(stB l s j,0,k+j):=by
 intro j
 induction j with
 | zero=>intro k _ _; simp [runG,stB]
 | succ j ih =>
  intro k hj hn
  rw [runG_add2 code j 1,ih k (by omega) fun i hi=>hn i (by omega)]
  have ha:=stB_at l s j
  have hat:=hat j (by omega)
  have hst:=stepP_do code (stB l s j) (by rw [ha]; omega) (by rw [ha]; omega) (i:=cAt l j) (by rw [ha]; exact hat) (hb.hr j (by omega))
  have ht:=hn j (by omega)
  rw [if_neg (by simp [ht]),nextP_calm _ _ (hb.hg j (by omega)),doP_at,ha,wrap_s (by omega) (by omega)] at hst
  show runG code (0+1) (stB l s j,0,k+j)=_
  simp only [runG,if_true]
  rw [hst]
  congr 1
  ·show _=({ (doP (stB l s j) (cAt l j)).1 with at_:=(stB l s j).at_+1 }:MS)
   rw [ha]
  ·congr 1
   omega
theorem seq_stop {code l:List Ins} {e:Nat} {s:MS} (hb:BodyI l e) (h0:0≤s.at_) (h1:s.at_+e≤code.length) (hc:code.length≤100000) (hat:∀ j:Nat,j<e→code.getD (s.at_+j).toNat default=cAt l j) {j:Nat} (hj:j<e) (ht:(doP (stB l s j) (cAt l j)).2≠0) (hn:∀ i:Nat,i<j→(doP (stB l s i) (cAt l i)).2=0) {n:Nat} (hjn:j<n) (k:Int):runG code n (s,0,k)=((doP (stB l s j) (cAt l j)).1,(doP (stB l s j) (cAt l j)).2,k+j+1):=by
 have hbody:=seq_body hb h0 h1 hc hat j k (by omega) hn
 have ha:=stB_at l s j
 have hat:=hat j hj
 have hst:=stepP_do code (stB l s j) (by rw [ha]; omega) (by rw [ha]; omega) (i:=cAt l j) (by rw [ha]; exact hat) (hb.hr j hj)
 rw [if_pos ht] at hst
 rw [show n=j+(1+(n-j-1)) by omega,runG_add2,hbody,runG_add2]
 have:runG code 1 (stB l s j,0,k+j)=((doP (stB l s j) (cAt l j)).1,(doP (stB l s j) (cAt l j)).2,k+j+1):=by
  show runG code (0+1) (stB l s j,0,k+j)=_
  simp only [runG,if_true]
  rw [hst]
 rw [this]
 exact runG_stop2 code _ ht
end Go.Proofs.YtkfemiloehkmhaaGreat.S

set_option linter.unusedSimpArgs false
set_option linter.unusedVariables false
set_option maxRecDepth 100000
namespace Go.Proofs.YtkfemiloehkmhaaGreat.S
open Go Go.RowKit Go.Alog

structure Ctx (code nc:List Ins):Prop where
 fit:fitP code=true
 strict:∀ j:Nat,j<code.length→sbad (cAt code j)=false
 fin:posF code (outU code (mB code)).length=some nc
 len:code.length≤4096
def PL (code:List Ins) (q:Nat):Int:=(outU code q).length
theorem PL_in {code:List Ins} {q:Nat} (h:q≤mB code):0≤PL code q∧PL code q≤3*code.length:=by
 have:=outU_le h
 unfold PL; omega
theorem posF_some {code nc:List Ins} (h:posF code (outU code (mB code)).length=some nc) {k:Nat} (hk:k≤(outU code (mB code)).length):∃ c,posF code k=some c:=by
 cases hp:posF code k with
 | some c=>exact ⟨c,rfl⟩
 | none =>
  have:=posF_none hp ((outU code (mB code)).length-k)
  rw [show k+((outU code (mB code)).length-k)=(outU code (mB code)).length by omega,h] at this
  cases this
theorem posF_mono {code:List Ins} {k1:Nat} {c1:List Ins} (h1:posF code k1=some c1):∀ {d:Nat} {c2:List Ins},posF code (k1+d)=some c2→∀ p:Nat,p<k1→cAt c2 p=cAt c1 p:=by
 intro d
 induction d with
 | zero=>intro c2 h2 p _; rw [Nat.add_zero,h1] at h2; injection h2 with h2; rw [h2]
 | succ d ih =>
  intro c2 h2 p hp
  have h2':(posF code (k1+d)).bind (stepAt code (k1+d))=some c2:=h2
  obtain ⟨c,hc,hs⟩:=Option.bind_eq_some_iff.1 h2'
  rw [← ih hc p hp]
  unfold stepAt at hs
  split at hs
  ·injection hs with hs; rw [← hs]
  ·split at hs
   ·injection hs with hs
    rw [← hs]
    unfold cAt
    simp only [List.getD]
    rw [List.getElem?_set_ne (by omega)]
   ·cases hs
theorem total_at {code:List Ins} {q:Nat} (hq:q<mB code) {p:Nat} (hp:p<(layP (blkI code q)).length):(outU code q).length+p<(outU code (mB code)).length:=by
 obtain ⟨t,ht⟩:=outU_pre code (q+1) (mB code-(q+1))
 rw [show q+1+(mB code-(q+1))=mB code by omega] at ht
 have h1:=congrArg List.length ht
 rw [List.length_append,outU_succ_len] at h1
 omega
theorem nc_plain {code nc:List Ins} (C:Ctx code nc) {q:Nat} (hq:q<mB code) {p:Nat} (hp:p<(layP (blkI code q)).length) (hs:tok (cAt code (nx code (q+1)-1))=false∨p≠(layP (blkI code q)).length-2):cAt nc (PL code q+p)=pickAt (blkI code q) ((layP (blkI code q)).getD p 0):=by
 have ht:=total_at hq hp
 obtain ⟨c,hc⟩:=posF_some C.fin (k:=(outU code q).length+p) (by omega)
 have h1:posF code ((outU code q).length+p+1)=some c:=by
  show (posF code ((outU code q).length+p)).bind (stepAt code ((outU code q).length+p))=some c
  rw [hc]
  exact step_skip hq hp hs c
 have h2:=posF_mono h1 (d:=(outU code (mB code)).length-((outU code q).length+p+1)) (c2:=nc) (by rw [show (outU code q).length+p+1+((outU code (mB code)).length-((outU code q).length+p+1))=(outU code (mB code)).length by omega]; exact C.fin) ((outU code q).length+p) (by omega)
 have h3:=posF_keep hc ((outU code q).length+p) (Nat.le_refl _)
 rw [out_at hq hp] at h3
 unfold PL
 rw [show ((outU code q).length:Int)+p=(((outU code q).length+p:Nat):Int) by omega,h2,h3]
theorem nc_pat {code nc:List Ins} (C:Ctx code nc) {q:Nat} (hq:q<mB code) (ht:tok (cAt code (nx code (q+1)-1))=true):cAt nc (PL code (q+1)-2)=patI code (PL code (q+1)-2) (cAt code (nx code (q+1)-1)) (tgt (cAt code (nx code (q+1)-1)) (nx code (q+1)-1))∧rightR (patI code (PL code (q+1)-2) (cAt code (nx code (q+1)-1)) (tgt (cAt code (nx code (q+1)-1)) (nx code (q+1)-1)))=true:=by
 have hg:=tok_goes ht
 obtain ⟨h1,h2,h3,h4⟩:=atP_lt hq hg
 obtain ⟨t,htl⟩:=outU_pre code (q+1) (mB code-(q+1))
 rw [show q+1+(mB code-(q+1))=mB code by omega] at htl
 have hlen:=congrArg List.length htl
 rw [List.length_append] at hlen
 obtain ⟨cur,hc⟩:=posF_some C.fin (k:=(outU code q).length) (by omega)
 obtain ⟨hci,hnext⟩:=posF_yes hq ht hc
 obtain ⟨c2,hc2⟩:=posF_some C.fin (k:=(outU code (q+1)).length) (by omega)
 have hP:PL code (q+1)-2=((atP code q:Nat):Int):=by unfold PL; omega
 rw [hP]
 rw [hc2] at hnext
 by_cases hr:rightR (patI code (atP code q) (cAt code (nx code (q+1)-1)) (tgt (cAt code (nx code (q+1)-1)) (nx code (q+1)-1)))=true
 ·rw [if_pos hr] at hnext
  injection hnext with hnext
  refine ⟨?_,hr⟩
  have h5:=posF_mono hc2 (d:=(outU code (mB code)).length-(outU code (q+1)).length) (c2:=nc) (by rw [show (outU code (q+1)).length+((outU code (mB code)).length-(outU code (q+1)).length)=(outU code (mB code)).length by omega]; exact C.fin) (atP code q) (by omega)
  have h6:=posF_len hc
  rw [h5,hnext]
  unfold cAt
  rw [show ((atP code q:Nat):Int).toNat=atP code q by omega]
  simp [List.getD,show atP code q<cur.length by omega]
 ·rw [if_neg hr] at hnext; cases hnext

theorem fit_right {code:List Ins} (h:fitP code=true) {k:Int} (h0:0≤k) (h1:k<code.length):rightR (cAt code k)=true:=by
 have:=(fitP_at h (j:=k.toNat) (by omega)).1
 rwa [show ((k.toNat:Nat):Int)=k by omega] at this
theorem nopR:rightR nop=true:=by decide +kernel
theorem pick_right {code:List Ins} (h:fitP code=true) {q:Nat} (hq:q<mB code) (x:Int):rightR (pickAt (blkI code q) x)=true:=by
 unfold pickAt
 split
 ·rename_i hx
  have h1:=nx_in hq
  have h2:=blkI_len hq
  rw [blkI_at hq hx.1 hx.2]
  exact fit_right h (by omega) (by omega)
 ·exact nopR
theorem fetch_plain {code nc:List Ins} (C:Ctx code nc) {q:Nat} (hq:q<mB code) {p:Nat} (hp:p<(layP (blkI code q)).length) (hs:tok (cAt code (nx code (q+1)-1))=false∨p≠(layP (blkI code q)).length-2):fetchL nc (PL code q+p) = { La0 with full:=true,at_:=PL code q+p,i:=pickAt (blkI code q) ((layP (blkI code q)).getD p 0) }:=by
 have h1:=nc_plain C hq hp hs
 have h2:=total_at hq hp
 have h3:=posF_len C.fin
 exact fetchL_ok (by unfold PL; omega) (by unfold PL; omega) h1 (pick_right C.fit hq _)
theorem fetch_go {code nc:List Ins} (C:Ctx code nc) {q:Nat} (hq:q<mB code) (hg:goesP (cAt code (nx code (q+1)-1))=true) :
  ∃ i2:Ins,(tok (cAt code (nx code (q+1)-1))=true∧i2=patI code (PL code (q+1)-2) (cAt code (nx code (q+1)-1)) (tgt (cAt code (nx code (q+1)-1)) (nx code (q+1)-1))∨tok (cAt code (nx code (q+1)-1))=false∧i2=cAt code (nx code (q+1)-1))∧rightR i2=true∧fetchL nc (PL code (q+1)-2) = { La0 with full:=true,at_:=PL code (q+1)-2,i:=i2 }:=by
 obtain ⟨h1,h2,h3,h4⟩:=atP_lt hq hg
 obtain ⟨t,htl⟩:=outU_pre code (q+1) (mB code-(q+1))
 rw [show q+1+(mB code-(q+1))=mB code by omega] at htl
 have hlen:=congrArg List.length htl
 rw [List.length_append] at hlen
 have hn:=posF_len C.fin
 cases ht:tok (cAt code (nx code (q+1)-1)) with
 | true =>
  obtain ⟨g1,g2⟩:=nc_pat C hq ht
  exact ⟨_,.inl ⟨rfl,rfl⟩,g2,fetchL_ok (by unfold PL; omega) (by unfold PL; omega) g1 g2⟩
 | false =>
  obtain ⟨l1,l2⟩:=layP_goes (blkI code q) (blk_ne hq) (by rw [last_blk hq]; exact hg)
  have h0:=outU_succ_len code q
  have g1:=nc_plain C hq (p:=(layP (blkI code q)).length-2) (by omega) (.inl ht)
  have hx:=nx_in hq
  have hb:=blkI_len hq
  rw [l2] at g1
  have g2:pickAt (blkI code q) (((blkI code q).length:Int)-1)=cAt code (nx code (q+1)-1):=by
   unfold pickAt
   rw [if_pos ⟨by omega,by omega⟩,← last_blk hq]
   rfl
  rw [g2,show PL code q+(((layP (blkI code q)).length-2:Nat):Int)=PL code (q+1)-2 by unfold PL; omega] at g1
  have g3:rightR (cAt code (nx code (q+1)-1))=true:=fit_right C.fit (by omega) (by omega)
  exact ⟨_,.inr ⟨rfl,rfl⟩,g3,fetchL_ok (by unfold PL; omega) (by unfold PL; omega) g1 g3⟩

theorem strict31 {i:Ins} (hr:rightR i=true) (hs:sbad i=false) (h1:i.op≠18) (h2:i.op≠19):writesP i≠31∧readsR i 31=false:=by
 unfold sbad at hs
 rw [if_neg h2,if_neg h1] at hs
 unfold touchesP at hs
 rw [show ((31:Int) != 0)=true from rfl,Bool.true_and,Bool.or_eq_false_iff] at hs
 refine ⟨by simpa using hs.1,?_⟩
 rw [← hs.2,readsL_c]
theorem blk_body {code nc:List Ins} (C:Ctx code nc) {q:Nat} (hq:q<mB code) {e:Nat} (he:e≤(blkI code q).length) (hl:e=(blkI code q).length→goesP (cAt code (nx code (q+1)-1))=false):BodyI (blkI code q) e:=by
 have h1:=nx_in hq
 have h2:=blkI_len hq
 have hat:∀ j:Nat,j<e→cAt (blkI code q) j=cAt code (nx code q+j):=fun j hj=>blkI_at hq (by omega) (by omega)
 have hr:∀ j:Nat,j<e→rightR (cAt code (nx code q+j))=true:=fun j hj=>fit_right C.fit (by omega) (by omega)
 have hg:∀ j:Nat,j<e→(cAt code (nx code q+j)).op<15∨19<(cAt code (nx code q+j)).op:=fun j hj=>by
  have hng:goesP (cAt code (nx code q+j))=false:=by
   by_cases hlast:nx code q+j=nx code (q+1)-1
   ·rw [hlast]
    exact hl (by omega)
   ·exact nogo code code.length q hq (show nx code q≤_ by omega) (show nx code q+(j:Int)+1<nx code (q+1) by omega)
  unfold goesP at hng
  rw [hr j hj,Bool.true_and] at hng
  have:=of_decide_eq_false hng
  omega
 have hs:∀ j:Nat,j<e→sbad (cAt code (nx code q+j))=false:=fun j hj=>by
  have:=C.strict (nx code q+j).toNat (by omega)
  rwa [show (((nx code q+(j:Int)).toNat:Nat):Int)=nx code q+j by omega] at this
 refine ⟨he,fun j hj=>by rw [hat j hj]; exact hr j hj,fun j hj=>by rw [hat j hj]; exact hg j hj,fun j hj=>?_,fun j hj=>?_⟩
 ·rw [hat j hj]
  exact (strict31 (hr j hj) (hs j hj) (by have:=hg j hj; omega) (by have:=hg j hj; omega)).1
 ·rw [hat j hj]
  exact (strict31 (hr j hj) (hs j hj) (by have:=hg j hj; omega) (by have:=hg j hj; omega)).2

theorem go_target {code nc:List Ins} (C:Ctx code nc) {q:Nat} (hq:q<mB code) {i i2:Ins} (hi:cAt code (nx code (q+1)-1)=i) (hg:goesP i=true) (hi2:tok i=true∧i2=patI code (PL code (q+1)-2) i (tgt i (nx code (q+1)-1))∨tok i=false∧i2=i) {se:MS} {regs:List Int} (hse:se.at_=nx code (q+1)-1)
  (hreg:∀ r,r=0∨readsR i r=true→r≠31→regOf regs r=regOf se.regs r) (h31:∃ q3,q3≤mB code∧regOf se.regs 31=nx code q3∧regOf regs 31=PL code q3) :
  ∃ q',q'≤mB code∧(nextP se i).2=nx code q'∧nxtP regs (PL code (q+1)-1) { La0 with full:=true,at_:=PL code (q+1)-2,i:=i2 }=PL code q':=by
 have h1:=nx_in hq
 have hlen:=C.len
 have hP:=PL_in (code:=code) (q:=q+1) (by omega)
 have hr:rightR i=true:=by rw [← hi]; exact fit_right C.fit (by omega) (by omega)
 have hs:sbad i=false:=by
  have:=C.strict (nx code (q+1)-1).toNat (by omega)
  rwa [show (((nx code (q+1)-1).toNat:Nat):Int)=nx code (q+1)-1 by omega,hi] at this
 have hop:15≤i.op∧i.op≤19:=by
  unfold goesP at hg
  rw [hr,Bool.true_and] at hg
  exact of_decide_eq_true hg
 have hI:=right_regs hr
 have htokd:tok i=decide (15≤i.op∧i.op≤18):=by unfold tok; rw [hr,Bool.true_and]
 have hto:tok i=true→∃ qq,qq≤mB code∧tgt i (nx code (q+1)-1)=nx code qq:=fun ht=>by
  have:=to_nx C.fit (k:=(nx code (q+1)-1).toNat) (by omega)
  rw [show (((nx code (q+1)-1).toNat:Nat):Int)=nx code (q+1)-1 by omega,hi] at this
  exact this ht
 have nowrap:∀ n:Int,-1000000≤n→n≤1000000→IntKind.wrap .i64 n=n:=fun n a b=>wrap_s (by omega) (by omega)
 by_cases h15:i.op=15∨i.op=16
 ·have ht:tok i=true:=by rw [htokd]; exact decide_eq_true (by omega)
  rcases hi2 with ⟨_,hi2⟩ | ⟨h,_⟩
  ·obtain ⟨qq,hqq,htq⟩:=hto ht
   have hPq:=PL_in hqq
   have hq2:0≤nx code qq∧nx code qq≤code.length:=by
    by_cases e:qq<mB code
    ·have:=nx_in e; omega
    ·rw [show qq=mB code by omega,nx_end]; omega
   have hst:=strict31 hr hs (by omega) (by omega)
   have mem31:∀ r,r∈fieldL i→r≠31:=fun r hm e=>by
    have:=reads_mem hr (r:=31) (by decide) (by decide) (e ▸ hm)
    rw [hst.2] at this; cases this
   have hfl:fieldL i = [i.a,i.b]:=by unfold fieldL; rw [if_neg (by omega),if_neg (by omega),if_pos (by omega)]
   have rd:∀ r,0≤r→r<32→r∈fieldL i→regOf regs r=regOf se.regs r:=fun r r0 r1 hm=>by
    by_cases e:r=0
    ·exact hreg r (.inl e) (mem31 r hm)
    ·exact hreg r (.inr (reads_mem hr (by omega) (by omega) hm)) (mem31 r hm)
   have ea:=rd i.a hI.1.1 hI.1.2 (by rw [hfl]; simp)
   have eb:=rd i.b hI.2.1.1 hI.2.1.2 (by rw [hfl]; simp)
   have e1:i2.op=i.op∧i2.a=i.a∧i2.b=i.b:=by rw [hi2]; exact ⟨rfl,rfl,rfl⟩
   have e2:i2.imm=w64 (anewP code (tgt i (nx code (q+1)-1))-w64 (PL code (q+1)-2+1)):=by rw [hi2]; unfold patI; rw [if_pos h15]
   rw [nextP_br se i h15,nxt_br _ _ _ rfl rfl (by show i2.op=15∨i2.op=16; rw [e1.1]; exact h15)]
   simp only [e1.1,e1.2.1,e1.2.2,ea,eb,hse]
   have htg:tgt i (nx code (q+1)-1)=IntKind.wrap .i64 (IntKind.wrap .i64 (nx code (q+1)-1+1)+i.imm):=by unfold tgt; rw [if_pos hr,if_pos h15]; rfl
   by_cases hc:((regOf se.regs i.a == regOf se.regs i.b) == (i.op == 15))=true
   ·rw [if_pos hc,if_pos hc,← htg,e2,htq,anewP_at hqq]
    refine ⟨qq,hqq,rfl,?_⟩
    show IntKind.wrap .i64 (IntKind.wrap .i64 (PL code (q+1)-2+1)+w64 (PL code qq-w64 (PL code (q+1)-2+1)))=PL code qq
    unfold w64
    rw [nowrap (PL code (q+1)-2+1) (by omega) (by omega),nowrap (PL code qq-(PL code (q+1)-2+1)) (by omega) (by omega),nowrap _ (by omega) (by omega)]
    omega
   ·rw [if_neg hc,if_neg hc,nowrap _ (by omega) (by omega),nowrap _ (by omega) (by omega)]
    exact ⟨q+1,by omega,by omega,by omega⟩
  ·rw [ht] at h; cases h
 ·by_cases h19:i.op=19
  ·have ht:tok i=false:=by rw [htokd]; exact decide_eq_false (by omega)
   rcases hi2 with ⟨h,_⟩ | ⟨_,hi2⟩
   ·rw [ht] at h; cases h
   ·subst hi2
    have ha:i2.a=31:=by
     unfold sbad at hs
     rw [if_pos h19] at hs
     simpa using hs
    obtain ⟨q3,g1,g2,g3⟩:=h31
    refine ⟨q3,g1,?_,?_⟩
    ·unfold nextP
     simp only
     rw [if_neg h15,if_neg (by omega),if_neg (by omega),if_pos h19,ha,g2]
    ·unfold nxtP
     simp only []
     rw [if_neg (by simp; rfl),if_neg h15,if_neg (by omega),if_pos h19,ha,g3]
  ·have ht:tok i=true:=by rw [htokd]; exact decide_eq_true (by omega)
   rcases hi2 with ⟨_,hi2⟩ | ⟨h,_⟩
   ·obtain ⟨qq,hqq,htq⟩:=hto ht
    have htg:tgt i (nx code (q+1)-1)=i.imm:=by unfold tgt; rw [if_pos hr,if_neg h15,if_pos (by omega)]
    have e1:i2.op=i.op:=by rw [hi2]; rfl
    have e2:i2.imm=anewP code (tgt i (nx code (q+1)-1)):=by rw [hi2]; unfold patI; rw [if_neg h15]
    refine ⟨qq,hqq,?_,?_⟩
    ·unfold nextP
     simp only
     rw [if_neg h15]
     by_cases h18:i.op=18
     ·rw [if_pos h18,← htg,htq]
     ·rw [if_neg h18,if_pos (by omega),← htg,htq]
    ·unfold nxtP
     simp only [e1]
     rw [if_neg (by simp; rfl),if_neg h15,if_pos (by omega),e2,htq,anewP_at hqq]
     rfl
   ·rw [ht] at h; cases h
end Go.Proofs.YtkfemiloehkmhaaGreat.S

set_option linter.unusedSimpArgs false
set_option linter.unusedVariables false
set_option maxRecDepth 100000
namespace Go.Proofs.YtkfemiloehkmhaaGreat.S
open Go Go.RowKit Go.Alog

structure RelB (code:List Ins) (q:Nat) (s:MS) (d:DS):Prop where
 sa:s.at_=nx code q
 da:d.at_=PL code q
 dn:d.next=PL code q+1
 sl:s.regs.length=32
 dl:d.regs.length=32
 w:∀ v∈s.mem,w32 v=v
 reg:∀ r,0≤r→r<32→r≠31→regOf (wrA d.late d.regs) r=regOf s.regs r
 pen:∀ r,0≤r→regOf (wrA d.late d.regs) r=regOf d.regs r
 m:d.mem=s.mem
 i:d.inp=s.inp
 o:d.out=s.out
 link:∃ q3,q3≤mB code∧regOf s.regs 31=nx code q3∧regOf (wrA d.late d.regs) 31=PL code q3

theorem ord_all' {l:List Ins} {e:Nat} (he:e≤l.length) (z:List Int):∀ w:Nat,w<e→(w:Int)∈ordP (l.take e) ++ z:=fun w hw=>List.mem_append_left _ (ordP_all _ (by rw [List.length_take]; omega))

theorem block_calm {code nc:List Ins} (C:Ctx code nc) {q:Nat} (hq:q<mB code) (hg:goesP (cAt code (nx code (q+1)-1))=false) {s:MS} {d:DS} (h:RelB code q s d) :
  StopD nc (blkI code q) s (blkI code q).length (2*(blkI code q).length+1) d∨∃ m:Nat,m≤2*(blkI code q).length+1∧∃ d',(∀ x:Int,runDG nc m (d,0,x)=(d',0,x+m))∧RelB code (q+1) (stB (blkI code q) s (blkI code q).length) d'∧∀ w:Nat,w<(blkI code q).length→(doP (stB (blkI code q) s w) (cAt (blkI code q) w)).2=0:=by
 have h1:=nx_in hq
 have h2:=blkI_len hq
 have hll:=layP_len (blkI code q)
 have hend:=layP_end (blkI code q) (blk_ne hq)
 have hsl:=outU_succ_len code q
 have hPL:=PL_in (code:=code) (q:=q) (by omega)
 have hlen:=C.len
 have hb:=blk_body C hq (Nat.le_refl _) (fun _=>hg)
 have htok:tok (cAt code (nx code (q+1)-1))=false:=by
  cases ht:tok (cAt code (nx code (q+1)-1)) with
  | false=>rfl
  | true=>rw [tok_goes ht] at hg; cases hg
 have hfetch:=fun (p:Nat) hp=>fetch_plain C hq (p:=p) hp (.inl htok)
 obtain ⟨z,hz,hlay⟩:∃ z:List Int,(∀ x∈z,x = -1)∧layP (blkI code q)=ordP ((blkI code q).take (blkI code q).length) ++ z:=by
  rw [List.take_length]
  unfold layP
  rw [if_neg (blk_ne hq),last_blk hq,if_pos hg]
  split
  ·exact ⟨[-1],by simp,rfl⟩
  ·exact ⟨[],by simp,by simp⟩
 have ho:=ord_I (l:=blkI code q) (Nat.le_refl _) hz
 have hall:=ord_all' (l:=blkI code q) (Nat.le_refl _) z
 rw [← hlay] at ho hall
 have hout:PL code (q+1)=PL code q+(layP (blkI code q)).length:=by unfold PL; omega
 generalize layP (blkI code q)=b at *
 generalize hL:blkI code q=l at *
 have hB0:=body_start (b:=b) hb h.sl h.w h.dl h.reg h.m h.i h.o h.pen
 have hf:∀ t:Nat,t<b.length→fetchL nc (PL code q+t) = { La0 with full:=true,at_:=PL code q+t,i:=pickAt l (b.getD t 0) }:=fun t ht=>hfetch t ht
 rcases body_run hb ho h.sl h.w b.length (Nat.le_refl _) (PL code q) ⟨by omega,by omega⟩ hf b.length 0 d (by omega) (by rw [h.da]; omega) (by rw [h.dn]; omega) hB0 with hs | ⟨d',r1,r2,r3,r4⟩
 ·exact .inl (hs.more hll)
 ·right
  refine ⟨b.length,hll,d',r1,?_,fun w hw=>r2.calm w hw (by rw [List.take_length]; exact hall w hw)⟩
  have hin:∀ w:Nat,w<l.length→((w:Int)∈b.take b.length↔w<l.length):=fun w hw=>⟨fun _=>hw,fun _=>by rw [List.take_length]; exact hall w hw⟩
  have hok:=stB_ok l h.sl h.w l.length
  have hpen:∀ r,0≤r→regOf (wrA d'.late d'.regs) r=regOf d'.regs r:=fun r r0=>by
   rcases r2.pen r r0 with h3 | ⟨t',h3,j,h4,h5,_⟩
   ·exact h3
   ·exfalso
    rw [show b.length-1=t' by omega,h4] at hend
    rw [hend (by omega)] at h5; cases h5
  obtain ⟨q3,k1,k2,k3⟩:=h.link
  have hwor:=r2.wor l.length (Nat.le_refl _) fun w w1 _=>hin w w1
  refine ⟨by rw [stB_at,h.sa]; omega,by rw [r3]; omega,by rw [r4]; omega,hok.1,r2.len,hok.2,fun r a1 a2 a3=>r2.reg r a1 a2 a3 l.length (Nat.le_refl _) fun w w1 _ _=>hin w w1,hpen,hwor.1,hwor.2.1,hwor.2.2,⟨q3,k1,?_,?_⟩⟩
  ·rw [stB_reg hb h.sl h.w (by decide) (k1:=0) (k2:=l.length) (by omega) (Nat.le_refl _) fun w _ w2 w3=>hb.hw w w2 w3.2]
   exact k2
  ·rw [r2.r31]; exact k3

theorem bc_go {l:List Ins} {e:Nat} {b:List Int} {s:MS} {R31:Int} {t:Nat} {d:DS} (h:BC l e b s R31 t d) {a nxt v:Int} {c:Prop} [Decidable c]:BC l e b s (regOf (if c then (wrA d.late d.regs).set 31 v else wrA d.late d.regs) 31) t ⟨if c then (wrA d.late d.regs).set 31 v else wrA d.late d.regs,d.mem,a,nxt,d.inp,d.out,La0⟩:=by
 have hl:(wrA d.late d.regs).length=32:=by rw [wrA_len,h.len]
 refine ⟨?_,h.w,fun r r0 r1 r2 k hk hw=>?_,h.wor,fun r r0=>.inl rfl,rfl,h.calm⟩
 ·show (if c then (wrA d.late d.regs).set 31 v else wrA d.late d.regs).length=32
  split
  ·rw [List.length_set,hl]
  ·exact hl
 ·have e1:regOf (if c then (wrA d.late d.regs).set 31 v else wrA d.late d.regs) r=regOf (wrA d.late d.regs) r:=by
   split
   ·have:=regOf_set (r:=wrA d.late d.regs) (k:=31) (n:=r) (v:=v) (by omega) r0
    rw [if_neg (by omega)] at this
    exact this
   ·rfl
  show regOf (wrA La0 (if c then (wrA d.late d.regs).set 31 v else wrA d.late d.regs)) r=_
  have e2:∀ X:List Int,wrA La0 X=X:=fun X=>rfl
  rw [e2,e1]
  exact h.reg r r0 r1 r2 k hk hw

theorem link_go {code:List Ins} {q:Nat} (hq:q<mB code) (hlen:code.length≤4096) {i:Ins} (hop:15≤i.op∧i.op≤19) {se:MS} (hse:se.at_=nx code (q+1)-1) (hsl:se.regs.length=32) {F:List Int} (hF:F.length=32) (h31:∃ q3,q3≤mB code∧regOf se.regs 31=nx code q3∧regOf F 31=PL code q3) :
  ∃ q3,q3≤mB code∧regOf (nextP se i).1.regs 31=nx code q3∧regOf (if i.op=18 then F.set 31 (IntKind.wrap .i64 (PL code (q+1)-2+2)) else F) 31=PL code q3:=by
 have h1:=nx_in hq
 have hP:=PL_in (code:=code) (q:=q+1) (by omega)
 by_cases h18:i.op=18
 ·refine ⟨q+1,by omega,?_,?_⟩
  ·unfold nextP
   simp only
   rw [if_neg (by omega),if_pos h18]
   show regOf (setR se.regs 31 (IntKind.wrap .i64 (se.at_+1))) 31=_
   rw [regOf_setR (by decide) hsl (by decide),if_pos (by decide),hse,wrap_s (by omega) (by omega),w32_eq]
   omega
  ·rw [if_pos h18]
   have:=regOf_set (r:=F) (k:=31) (n:=31) (v:=IntKind.wrap .i64 (PL code (q+1)-2+2)) (by omega) (by decide)
   rw [if_pos rfl] at this
   rw [show (31:Nat)=(31:Int).toNat from rfl,this,wrap_s (by omega) (by omega)]
   omega
 ·have e:(nextP se i).1=se:=by
   unfold nextP
   simp only
   rw [if_neg h18]
   split
   ·rfl
   ·split
    ·rfl
    ·split <;> rfl
  rw [e,if_neg h18]
  exact h31
theorem next_regs {se:MS} {i:Ins} (hsl:se.regs.length=32) {r:Int} (r0:0≤r) (r1:r≠31):regOf (nextP se i).1.regs r=regOf se.regs r∧(nextP se i).1.regs.length=32∧(nextP se i).1.mem=se.mem∧(nextP se i).1.inp=se.inp∧(nextP se i).1.out=se.out:=by
 unfold nextP
 simp only
 split
 ·exact ⟨rfl,hsl,rfl,rfl,rfl⟩
 split
 ·refine ⟨?_,?_,rfl,rfl,rfl⟩
  ·show regOf (setR se.regs 31 (IntKind.wrap .i64 (se.at_+1))) r=_
   rw [regOf_setR (by decide) hsl r0,if_neg (by omega)]
  ·show (setR se.regs 31 _).length=32
   rw [setRl,hsl]
 split
 ·exact ⟨rfl,hsl,rfl,rfl,rfl⟩
 split <;> exact ⟨rfl,hsl,rfl,rfl,rfl⟩
end Go.Proofs.YtkfemiloehkmhaaGreat.S

set_option linter.unusedSimpArgs false
set_option linter.unusedVariables false
set_option maxRecDepth 100000
namespace Go.Proofs.YtkfemiloehkmhaaGreat.S
open Go Go.RowKit Go.Alog

theorem clearP_at {l:List Ins} {b:List Int} {i:Ins} {place:Int} (h:clearP l b i place=true) {k:Nat} (hk:k<b.length):czA l b i place k=false:=by
 unfold clearP at h
 rw [List.all_eq_true] at h
 have:=h k (List.mem_range.2 hk)
 simpa using this

theorem go_step {code nc:List Ins} (C:Ctx code nc) {q:Nat} (hq:q<mB code) {i:Ins} (hi:cAt code (nx code (q+1)-1)=i) (hg:goesP i=true) {e:Nat} {b:List Int} {s:MS} {R31:Int} {t:Nat} {d:DS} (hb:BodyI (blkI code q) e) (ho:OrdI (blkI code q) e b) (ht:t≤b.length) (hse:(stB (blkI code q) s e).at_=nx code (q+1)-1) (hsl:(stB (blkI code q) s e).regs.length=32)
  (h:BC (blkI code q) e b s R31 t d) (hda:d.at_=PL code (q+1)-2) (hdn:d.next=PL code (q+1)-1)
  (hcl:∀ t':Nat,t=t'+1→∀ j:Nat,b.getD t' 0=j→lateP (cAt (blkI code q) j)=true→readsR i (writesP (cAt (blkI code q) j))=true→False)
  (hval:∀ r,r=0∨readsR i r=true→r≠31→regOf (wrA d.late d.regs) r=regOf (stB (blkI code q) s e).regs r)
  (h31:∃ q3,q3≤mB code∧regOf (stB (blkI code q) s e).regs 31=nx code q3∧R31=PL code q3) :
  ∃ q',q'≤mB code∧(nextP (stB (blkI code q) s e) i).2=nx code q'∧(stepD nc d).2=0∧(∃ R',BC (blkI code q) e b s R' t (stepD nc d).1∧∃ q3,q3≤mB code∧regOf (nextP (stB (blkI code q) s e) i).1.regs 31=nx code q3∧R'=PL code q3)∧(stepD nc d).1.at_=PL code (q+1)-1∧(stepD nc d).1.next=PL code q':=by
 obtain ⟨i2,hi2,hr2,hf⟩:=fetch_go C hq (by rw [hi]; exact hg)
 rw [hi] at hi2
 have h1:=nx_in hq
 have hr:rightR i=true:=by rw [← hi]; exact fit_right C.fit (by omega) (by omega)
 have hop:15≤i.op∧i.op≤19:=by
  unfold goesP at hg
  rw [hr,Bool.true_and] at hg
  exact of_decide_eq_true hg
 have hop2:i2.op=i.op:=by
  rcases hi2 with ⟨_,h⟩ | ⟨_,h⟩
  ·rw [h]; rfl
  ·rw [h]
 have hFl:(wrA d.late d.regs).length=32:=by rw [wrA_len,h.len]
 have h0r:∀ r,r=0∨readsR i r=true→0≤r:=fun r hh=>by
  rcases hh with hh | hh
  ·omega
  ·unfold readsR at hh
   simp only [Bool.and_eq_true,decide_eq_true_eq] at hh
   omega
 have hreg:∀ r,r=0∨readsR i r=true→r≠31→regOf d.regs r=regOf (stB (blkI code q) s e).regs r:=fun r hh hne=>by
  rw [← hval r hh hne]
  rcases h.pen r (h0r r hh) with h2 | ⟨t',h2,j,h3,h4,h5,h6⟩
  ·exact h2.symm
  ·exfalso
   rcases hh with hh | hh
   ·exact h6 hh
   ·exact hcl t' h2 j h3 h4 (by rw [h5]; exact hh)
 have hd31:regOf d.regs 31=R31:=by
  rw [← h.r31]
  rcases h.pen 31 (by decide) with h2 | ⟨t',h2,j,h3,h4,h5,h6⟩
  ·exact h2.symm
  ·exfalso
   have hm:b.getD t' 0∈b:=by simp [List.getD,show t'<b.length by omega]
   have:=ho.hin _ hm
   exact hb.hw j (by omega) h5
 obtain ⟨q',hq',g1,g2⟩:=go_target C hq hi hg hi2 hse hreg (by obtain ⟨q3,a,b,c⟩:=h31; exact ⟨q3,a,b,by rw [hd31]; exact c⟩)
 have hst:=stepD_go nc d i2 (by rw [hda]; exact hf) hr2 (by omega)
 rw [hda,hf,hdn,g2] at hst
 rw [hst]
 refine ⟨q',hq',g1,rfl,⟨_,bc_go h,?_⟩,rfl,rfl⟩
 rw [hop2]
 exact link_go hq C.len hop hse hsl hFl (by obtain ⟨q3,a,b,c⟩:=h31; exact ⟨q3,a,b,by rw [h.r31]; exact c⟩)

theorem rel_end {code:List Ins} {q q':Nat} {i:Ins} {e:Nat} {b:List Int} {s:MS} {R':Int} {d:DS} (hb:BodyI (blkI code q) e) (hsl:s.regs.length=32) (hw:∀ v∈s.mem,w32 v=v) (h:BC (blkI code q) e b s R' b.length d) (hall:∀ w:Nat,w<e→(w:Int)∈b) (hpen:∀ r,0≤r→regOf (wrA d.late d.regs) r=regOf d.regs r)
  (hq':q'≤mB code) (hn:(nextP (stB (blkI code q) s e) i).2=nx code q') (hda:d.at_=PL code q') (hdn:d.next=PL code q'+1) (h31:∃ q3,q3≤mB code∧regOf (nextP (stB (blkI code q) s e) i).1.regs 31=nx code q3∧R'=PL code q3) :
  RelB code q' { (nextP (stB (blkI code q) s e) i).1 with at_:=(nextP (stB (blkI code q) s e) i).2 } d:=by
 have hok:=stB_ok (blkI code q) hsl hw e
 have hnr:=fun r r0 r1=>next_regs (se:=stB (blkI code q) s e) (i:=i) hok.1 (r:=r) r0 r1
 have hin:∀ w:Nat,w<e→((w:Int)∈b.take b.length↔w<e):=fun w hw=>⟨fun _=>hw,fun _=>by rw [List.take_length]; exact hall w hw⟩
 have hwor:=h.wor e (Nat.le_refl _) fun w w1 _=>hin w w1
 obtain ⟨_,n2,n3,n4,n5⟩:=hnr 0 (by decide) (by decide)
 obtain ⟨q3,k1,k2,k3⟩:=h31
 refine ⟨hn,hda,hdn,n2,h.len,by show ∀ v∈(nextP _ _).1.mem,_; rw [n3]; exact hok.2,fun r a1 a2 a3=>?_,hpen,by rw [hwor.1]; exact n3.symm,by rw [hwor.2.1]; exact n4.symm,by rw [hwor.2.2]; exact n5.symm,⟨q3,k1,k2,by rw [h.r31]; exact k3⟩⟩
 rw [h.reg r a1 a2 a3 e (Nat.le_refl _) fun w w1 _ _=>hin w w1]
 exact (hnr r a1 a3).1.symm

theorem block_goes {code nc:List Ins} (C:Ctx code nc) {q:Nat} (hq:q<mB code) {i:Ins} (hi:cAt code (nx code (q+1)-1)=i) (hg:goesP i=true) {s:MS} {d:DS} (h:RelB code q s d) {e:Nat} (hee:e+1=(blkI code q).length) :
  StopD nc (blkI code q) s e (2*(blkI code q).length+1) d∨∃ q',q'≤mB code∧∃ m:Nat,m≤2*(blkI code q).length+1∧∃ d',(∀ x:Int,runDG nc m (d,0,x)=(d',0,x+m))∧RelB code q' { (nextP (stB (blkI code q) s e) i).1 with at_:=(nextP (stB (blkI code q) s e) i).2 } d'∧∀ w:Nat,w<e→(doP (stB (blkI code q) s w) (cAt (blkI code q) w)).2=0:=by
 have h1:=nx_in hq
 have h2:=blkI_len hq
 have hll:=layP_len (blkI code q)
 have hsl:=outU_succ_len code q
 have hPL:=PL_in (code:=code) (q:=q) (by omega)
 have hPL2:=PL_in (code:=code) (q:=q+1) (by omega)
 have hlen:=C.len
 have hb:=blk_body C hq (e:=e) (by omega) (fun h=>by omega)
 have hlast:lastI (blkI code q)=i:=by rw [last_blk hq]; exact hi
 have hse:(stB (blkI code q) s e).at_=nx code (q+1)-1:=by rw [stB_at,h.sa]; omega
 have hok:=stB_ok (blkI code q) h.sl h.w e
 have hlink:∃ q3,q3≤mB code∧regOf (stB (blkI code q) s e).regs 31=nx code q3∧regOf (wrA d.late d.regs) 31=PL code q3:=by
  obtain ⟨q3,k1,k2,k3⟩:=h.link
  refine ⟨q3,k1,?_,k3⟩
  rw [stB_reg hb h.sl h.w (by decide) (k1:=0) (k2:=e) (by omega) (Nat.le_refl _) fun w _ w2 w3=>hb.hw w w2 w3.2]
  exact k2
 have hfetch:=fun (p:Nat) hp hne=>fetch_plain C hq (p:=p) hp (.inr hne)
 have hout:PL code (q+1)=PL code q+(layP (blkI code q)).length:=by unfold PL; omega
 have hlay:layP (blkI code q)=if ordP ((blkI code q).take e)≠[]∧slotOk (blkI code q) (ordP ((blkI code q).take e)) i=true then (ordP ((blkI code q).take e)).take ((ordP ((blkI code q).take e)).length-1) ++ [((blkI code q).length:Int)-1,(ordP ((blkI code q).take e)).getD ((ordP ((blkI code q).take e)).length-1) 0] else padL (blkI code q) (ordP ((blkI code q).take e)) i ++ [((blkI code q).length:Int)-1,-1]:=by
  have e1:(blkI code q).length-1=e:=by omega
  unfold layP
  rw [if_neg (blk_ne hq),hlast,hg,if_neg (by simp),e1]
 have hone:∀ (d:DS),(stepD nc d).2=0→∀ x:Int,runDG nc 1 (d,0,x)=((stepD nc d).1,0,x+1):=fun d hs x=>by
  rw [show (1:Nat)=0+1 from rfl,runDG_one,hs]; rfl
 by_cases hslot:ordP ((blkI code q).take e)≠[]∧slotOk (blkI code q) (ordP ((blkI code q).take e)) i=true
 ·
  rw [if_pos hslot] at hlay
  have ho:=ord_I (l:=blkI code q) (e:=e) (by omega) (z:=[]) (by simp)
  have hall:=ord_all' (l:=blkI code q) (e:=e) (by omega) []
  rw [List.append_nil] at ho hall
  have hlst:=ordP_last ((blkI code q).take e) (y:=(ordP ((blkI code q).take e)).getD ((ordP ((blkI code q).take e)).length-1) 0)
  obtain ⟨hon,hsok⟩:=hslot
  generalize ordP ((blkI code q).take e)=b at *
  have hbp:0<b.length:=by
   cases b with
   | nil=>exact absurd rfl hon
   | cons=>simp
  have hlst:=hlst (last_get hbp)
  have hlenl:(layP (blkI code q)).length=b.length+1:=by rw [hlay,List.length_append,List.length_take]; simp; omega
  have hget:∀ p:Nat,p<b.length-1→(layP (blkI code q)).getD p 0=b.getD p 0:=fun p hp=>by
   rw [hlay,List.getD_eq_getElem?_getD,List.getElem?_append_left (by rw [List.length_take]; omega),List.getElem?_take,if_pos (by omega),← List.getD_eq_getElem?_getD]
  have hgetx:(layP (blkI code q)).getD b.length 0=b.getD (b.length-1) 0:=by
   rw [hlay,List.getD_eq_getElem?_getD,List.getElem?_append_right (by rw [List.length_take]; omega),List.length_take,show b.length-min (b.length-1) b.length=1 by omega]
   rfl
  unfold slotOk at hsok
  simp only [Bool.and_eq_true,Bool.not_eq_true',beq_iff_eq] at hsok
  obtain ⟨⟨so1,so2⟩,so3⟩:=hsok
  have hB0:=body_start (b:=b) hb h.sl h.w h.dl h.reg h.m h.i h.o h.pen
  have hf:∀ t:Nat,t<b.length-1→fetchL nc (PL code q+t) = { La0 with full:=true,at_:=PL code q+t,i:=pickAt (blkI code q) (b.getD t 0) }:=fun t ht=>by
   have:=hfetch t (by omega) (by omega)
   rwa [hget t ht] at this
  have hxin:=ho.hin (b.getD (b.length-1) 0) (by simp [List.getD,show b.length-1<b.length by omega])
  obtain ⟨x,hx⟩:∃ x:Nat,b.getD (b.length-1) 0=x:=⟨(b.getD (b.length-1) 0).toNat,by omega⟩
  rw [hx] at so1 so2 hxin
  have hxe:x<e:=by omega
  rcases body_run hb ho h.sl h.w (b.length-1) (by omega) (PL code q) ⟨by omega,by omega⟩ hf (b.length-1) 0 d (by omega) (by rw [h.da]; omega) (by rw [h.dn]; omega) hB0 with hs | ⟨d1,r1,r2,r3,r4⟩
  ·exact .inl (hs.more (by omega))
  ·have hgo:=go_step C hq hi hg hb ho (by omega) hse hok.1 r2 (by rw [r3]; omega) (by rw [r4]; omega)
    (fun t' ht' j hj hlj hrj=>by
     have hz:=clearP_at so3 (k:=t') (by rw [List.length_take]; omega)
     unfold czA at hz
     have e1:(b.take (b.length-1)).getD t' 0=j:=by
      rw [List.getD_eq_getElem?_getD,List.getElem?_take,if_pos (by omega),← List.getD_eq_getElem?_getD,hj]
     rw [e1,far_late hrj hlj,decide_eq_true (by omega:(j:Int)≥0),Bool.true_and] at hz
     have:=of_decide_eq_false hz
     omega)
    (fun r hr hne=>by
     have h0r:0≤r∧r<32:=by
      rcases hr with hr | hr
      ·omega
      ·unfold readsR at hr
       simp only [Bool.and_eq_true,decide_eq_true_eq] at hr
       omega
     refine r2.reg r h0r.1 h0r.2 hne e (Nat.le_refl _) fun w w1 w2 w3=>⟨fun _=>w1,fun _=>?_⟩
     obtain ⟨t',g1,g2⟩:=mem_takeN.1 (by rw [List.take_length]; exact hall w w1:(w:Int)∈b.take b.length)
     refine mem_takeN.2 ⟨t',?_,g2.1,g2.2⟩
     refine Classical.byContradiction fun hn=>?_
     have e1:t'=b.length-1:=by omega
     rw [e1,hx] at g2
     have e2:w=x:=by omega
     subst e2
     rcases hr with hr | hr
     ·omega
     ·have:=far_raw (a:=cAt (blkI code q) w) (b:=i) (by rw [w3]; exact hr)
      omega)
    (by obtain ⟨q3,a1,a2,a3⟩:=hlink; exact ⟨q3,a1,a2,a3⟩)
   obtain ⟨q',hq',g1,g2,⟨R',g3,g4⟩,g5,g6⟩:=hgo
   have hPq:=PL_in hq'
   have hd2:=hone d1 g2
   generalize (stepD nc d1).1=d2 at *
   have hfx:=hfetch b.length (by omega) (by omega)
   rw [hgetx] at hfx
   have hda2:d2.at_=PL code q+b.length:=by rw [g5]; omega
   have hrun2:∀ y:Int,runDG nc b.length (d,0,y)=(d2,0,y+b.length):=fun y=>by
    rw [show b.length=(b.length-1)+1 by omega,runDG_add,r1,hd2]
    congr 2
    omega
   rcases body_step hb ho h.sl h.w (t:=b.length-1) (by omega) (by rw [hda2]; exact hfx) (by rw [g6]; omega) g3 with hs | ⟨s1,s2,s3,s4⟩
   ·left
    have:=(one_stop hs).later hrun2
    exact this.more (by omega)
   ·right
    rw [show b.length-1+1=b.length by omega] at s2
    refine ⟨q',hq',b.length+1,by omega,(stepD nc d2).1,fun y=>?_,rel_end hb h.sl h.w s2 hall (fun r r0=>?_) hq' g1 (by rw [s3,g6]) (by rw [s4,g6]) g4,fun w hw=>s2.calm w hw (by rw [List.take_length]; exact hall w hw)⟩
    ·rw [runDG_add,hrun2,hone d2 s1]
     congr 2
     omega
    ·rcases s2.pen r r0 with h3 | ⟨t',h3,j,h4,h5,_⟩
     ·exact h3
     ·exfalso
      rw [show t'=b.length-1 by omega,hx] at h4
      have:j=x:=by omega
      rw [this,so1] at h5; cases h5
 ·
  rw [if_neg hslot] at hlay
  obtain ⟨z,hz,hpad⟩:∃ z:List Int,(∀ x∈z,x = -1)∧padL (blkI code q) (ordP ((blkI code q).take e)) i=ordP ((blkI code q).take e) ++ z:=by
   unfold padL
   split
   ·exact ⟨[],by simp,by simp⟩
   ·exact ⟨[-1],by simp,rfl⟩
  have hclr:clearP (blkI code q) (padL (blkI code q) (ordP ((blkI code q).take e)) i) i ((padL (blkI code q) (ordP ((blkI code q).take e)) i).length:Int)=true:=by
   unfold padL
   split
   ·assumption
   ·exact pad_clear _ _ _
  have ho:=ord_I (l:=blkI code q) (e:=e) (by omega) hz
  have hall:=ord_all' (l:=blkI code q) (e:=e) (by omega) z
  rw [← hpad] at ho hall
  generalize padL (blkI code q) (ordP ((blkI code q).take e)) i=b at *
  have hlenl:(layP (blkI code q)).length=b.length+2:=by rw [hlay,List.length_append]; rfl
  have hget:∀ p:Nat,p<b.length→(layP (blkI code q)).getD p 0=b.getD p 0:=fun p hp=>by
   rw [hlay,List.getD_eq_getElem?_getD,List.getElem?_append_left hp,← List.getD_eq_getElem?_getD]
  have hgetx:(layP (blkI code q)).getD (b.length+1) 0 = -1:=by
   rw [hlay,List.getD_eq_getElem?_getD,List.getElem?_append_right (by omega),show b.length+1-b.length=1 by omega]
   rfl
  have hB0:=body_start (b:=b) hb h.sl h.w h.dl h.reg h.m h.i h.o h.pen
  have hf:∀ t:Nat,t<b.length→fetchL nc (PL code q+t) = { La0 with full:=true,at_:=PL code q+t,i:=pickAt (blkI code q) (b.getD t 0) }:=fun t ht=>by
   have:=hfetch t (by omega) (by omega)
   rwa [hget t ht] at this
  rcases body_run hb ho h.sl h.w b.length (Nat.le_refl _) (PL code q) ⟨by omega,by omega⟩ hf b.length 0 d (by omega) (by rw [h.da]; omega) (by rw [h.dn]; omega) hB0 with hs | ⟨d1,r1,r2,r3,r4⟩
  ·exact .inl (hs.more (by omega))
  ·right
   have hgo:=go_step C hq hi hg hb ho (Nat.le_refl _) hse hok.1 r2 (by rw [r3]; omega) (by rw [r4]; omega)
    (fun t' ht' j hj hlj hrj=>by
     have hz:=clearP_at hclr (k:=t') (by omega)
     unfold czA at hz
     rw [hj,far_late hrj hlj,decide_eq_true (by omega:(j:Int)≥0),Bool.true_and] at hz
     have:=of_decide_eq_false hz
     omega)
    (fun r hr hne=>by
     have h0r:0≤r∧r<32:=by
      rcases hr with hr | hr
      ·omega
      ·unfold readsR at hr
       simp only [Bool.and_eq_true,decide_eq_true_eq] at hr
       omega
     exact r2.reg r h0r.1 h0r.2 hne e (Nat.le_refl _) fun w w1 w2 w3=>⟨fun _=>w1,fun _=>by rw [List.take_length]; exact hall w w1⟩)
    (by obtain ⟨q3,a1,a2,a3⟩:=hlink; exact ⟨q3,a1,a2,a3⟩)
   obtain ⟨q',hq',g1,g2,⟨R',g3,g4⟩,g5,g6⟩:=hgo
   have hPq:=PL_in hq'
   have hd2:=hone d1 g2
   generalize (stepD nc d1).1=d2 at *
   have hfx:=hfetch (b.length+1) (by omega) (by omega)
   rw [hgetx] at hfx
   have hp:pickAt (blkI code q) (-1)=nopI:=by unfold pickAt; rw [if_neg (by omega)]; rfl
   rw [hp] at hfx
   have hda2:d2.at_=PL code q+((b.length+1:Nat):Int):=by rw [g5]; omega
   have hn:=stepD_nop nc d2 (by rw [hda2]; exact hfx)
   have ww:IntKind.wrap .i64 (d2.next+1)=d2.next+1:=wrap_s (by rw [g6]; omega) (by rw [g6]; omega)
   have hrun3:=hone d2 (by rw [hn])
   rw [hn] at hrun3
   have hBC:BC (blkI code q) e b s R' b.length ⟨wrA d2.late d2.regs,d2.mem,d2.next,IntKind.wrap .i64 (d2.next+1),d2.inp,d2.out,La0⟩ :=
    ⟨by show (wrA d2.late d2.regs).length=32; rw [wrA_len,g3.len],g3.w,g3.reg,g3.wor,fun r r0=>.inl rfl,g3.r31,g3.calm⟩
   refine ⟨q',hq',b.length+1+1,by omega,_,fun y=>?_,rel_end hb h.sl h.w hBC hall (fun r r0=>rfl) hq' g1 (by show d2.next=_; rw [g6]) (by show IntKind.wrap .i64 (d2.next+1)=_; rw [ww,g6]) g4,fun w hw=>r2.calm w hw (by rw [List.take_length]; exact hall w hw)⟩
   rw [runDG_add,runDG_add,r1,hd2,hrun3]
   congr 2
   omega
end Go.Proofs.YtkfemiloehkmhaaGreat.S

set_option linter.unusedSimpArgs false
set_option linter.unusedVariables false
set_option maxRecDepth 100000
namespace Go.Proofs.YtkfemiloehkmhaaGreat.S
open Go Go.RowKit Go.Alog

theorem blk_get' {code:List Ins} {q:Nat} (hq:q<mB code) {e:Nat} (he:e≤(blkI code q).length) {s:MS} (hs:s.at_=nx code q):∀ j:Nat,j<e→code.getD (s.at_+j).toNat default=cAt (blkI code q) j:=fun j hj=>by
 have h1:=nx_in hq
 have h2:=blkI_len hq
 rw [blkI_at hq (by omega) (by omega),hs]
 rfl

theorem block_any {code nc:List Ins} (C:Ctx code nc) {q:Nat} (hq:q<mB code) {s:MS} {d:DS} (h:RelB code q s d) :
  (∃ e,e≤(blkI code q).length∧BodyI (blkI code q) e∧StopD nc (blkI code q) s e (2*(blkI code q).length+1) d) ∨
  ∃ q',q'≤mB code∧∃ m:Nat,m≤2*(blkI code q).length+1∧∃ s' d',(∀ k:Int,runG code (blkI code q).length (s,0,k)=(s',0,k+(blkI code q).length))∧(∀ x:Int,runDG nc m (d,0,x)=(d',0,x+m))∧RelB code q' s' d':=by
 have h1:=nx_in hq
 have h2:=blkI_len hq
 have hlen:=C.len
 cases hg:goesP (cAt code (nx code (q+1)-1)) with
 | false =>
  have hb:=blk_body C hq (Nat.le_refl _) (fun _=>hg)
  rcases block_calm C hq hg h with hs | ⟨m,hm,d',hd,hrel,hn⟩
  ·exact .inl ⟨_,Nat.le_refl _,hb,hs⟩
  ·exact .inr ⟨q+1,by omega,m,hm,_,d',fun k=>seq_body hb (by rw [h.sa]; omega) (by rw [h.sa]; omega) (by omega) (blk_get' hq (Nat.le_refl _) h.sa) _ k (Nat.le_refl _) hn,hd,hrel⟩
 | true =>
  obtain ⟨e,he⟩:∃ e,e+1=(blkI code q).length:=⟨(blkI code q).length-1,by omega⟩
  have hb:=blk_body C hq (e:=e) (by omega) (fun h=>by omega)
  rcases block_goes C hq rfl hg h he with hs | ⟨q',hq',m,hm,d',hd,hrel,hn⟩
  ·exact .inl ⟨e,by omega,hb,hs⟩
  ·refine .inr ⟨q',hq',m,hm,_,d',fun k=>?_,hd,hrel⟩
   have hbody:=seq_body hb (by rw [h.sa]; omega) (by rw [h.sa]; omega) (by omega) (blk_get' hq (by omega) h.sa) e k (Nat.le_refl _) hn
   rw [← he,runG_add2,hbody]
   have ha:=stB_at (blkI code q) s e
   rw [h.sa] at ha
   have hr:rightR (cAt code (nx code (q+1)-1))=true:=fit_right C.fit (by omega) (by omega)
   have hop:15≤(cAt code (nx code (q+1)-1)).op∧(cAt code (nx code (q+1)-1)).op≤19:=by
    unfold goesP at hg
    rw [hr,Bool.true_and] at hg
    exact of_decide_eq_true hg
   have hst:=stepP_do code (stB (blkI code q) s e) (by omega) (by omega) (i:=cAt code (nx code (q+1)-1)) (by rw [ha,show nx code q+(e:Int)=nx code (q+1)-1 by omega]; rfl) hr
   rw [doP_go _ _ hop,if_neg (by simp)] at hst
   show runG code (0+1) (stB (blkI code q) s e,0,k+e)=_
   simp only [runG,if_true]
   rw [hst]
   congr 2
   omega

theorem main_run {code nc:List Ins} (C:Ctx code nc):∀ (n q:Nat) (s:MS) (d:DS) (k:Int),q≤mB code→RelB code q s d→(runG code n (s,0,k)).2.1≠0 →
  ∃ m:Nat,(m:Int)≤3*((runG code n (s,0,k)).2.2-k)+2*code.length+1∧∀ x:Int,(runDG nc m (d,0,x)).2.1=(runG code n (s,0,k)).2.1∧(runDG nc m (d,0,x)).1.mem=(runG code n (s,0,k)).1.mem∧(runDG nc m (d,0,x)).1.out=(runG code n (s,0,k)).1.out:=by
 intro n
 induction n using Nat.strongRecOn with
 | ind n ih =>
  intro q s d k hq h hn
  by_cases hqm:q=mB code
  ·
   cases n with
   | zero=>exact absurd rfl hn
   | succ n =>
    have hs:stepP code s=(s,2):=stepP_out2 code s (by rw [h.sa,hqm,nx_end]; omega)
    have hrun:runG code (n+1) (s,0,k)=(s,2,k+1):=by
     simp only [runG,if_true]
     rw [hs]
     exact runG_stop2 code n (by show (2:Int)≠0; decide)
    rw [hrun]
    have hlen:=posF_len C.fin
    have hd:=stepD_stop nc d (t:=2) (by decide) (fetchL_end (by rw [h.da,hqm]; unfold PL; omega))
    refine ⟨1,by show ((1:Nat):Int)≤3*(k+1-k)+_+1; omega,fun x=>?_⟩
    rw [show (1:Nat)=0+1 from rfl,runDG_one]
    exact ⟨hd.1,by show (stepD nc d).1.mem=s.mem; rw [hd.2.1,h.m],by show (stepD nc d).1.out=s.out; rw [hd.2.2,h.o]⟩
  ·have hq2:q<mB code:=by omega
   have h1:=nx_in hq2
   have h2:=blkI_len hq2
   have hlen:=C.len
   rcases block_any C hq2 h with ⟨e,he,hb,j,g1,g2,g3,m',g4,g5⟩ | ⟨q',hq',m,hm,s',d',a1,a2,a3⟩
   ·
    have hat:=blk_get' hq2 he h.sa
    have hjn:j<n:=by
     refine Classical.byContradiction fun hh=>hn ?_
     rw [seq_body hb (by rw [h.sa]; omega) (by rw [h.sa]; omega) (by omega) hat n k (by omega) fun i hi=>g3 i (by omega)]
    have hst:=seq_stop hb (by rw [h.sa]; omega) (by rw [h.sa]; omega) (by omega) hat g1 g2 g3 hjn k
    rw [hst]
    refine ⟨m',?_,fun x=>g5 x⟩
    show (m':Int)≤3*(k+j+1-k)+2*code.length+1
    omega
   ·have hL:(blkI code q).length≤n:=by
     refine Classical.byContradiction fun hh=>?_
     have e1:=runG_add2 code n ((blkI code q).length-n) (s,0,k)
     rw [show n+((blkI code q).length-n)=(blkI code q).length by omega,a1,runG_stop2 code _ hn] at e1
     exact hn (by rw [← e1])
    have e1:=runG_add2 code (blkI code q).length (n-(blkI code q).length) (s,0,k)
    rw [show (blkI code q).length+(n-(blkI code q).length)=n by omega,a1] at e1
    rw [e1] at hn ⊢
    obtain ⟨m2,b1,b2⟩:=ih (n-(blkI code q).length) (by omega) q' s' d' (k+(blkI code q).length) hq' a3 hn
    refine ⟨m+m2,by omega,fun x=>?_⟩
    rw [runDG_add,a2]
    exact b2 _

theorem runs_same {code nc:List Ins} (C:Ctx code nc) (mem:Int) (inp:List Int) (fuel:Int) (h0:0≤mem) (h1:mem≤32000) (hnc:nc.length≤4096) (ht:(runP code mem inp fuel).trap≠0) :
  runPP nc mem inp (3*(runP code mem inp fuel).steps+2*code.length+10) = { runP code mem inp fuel with steps:=(runPP nc mem inp (3*(runP code mem inp fuel).steps+2*code.length+10)).steps }:=by
 have hlen:=C.len
 unfold runP at ht ⊢
 rw [if_neg (by omega)] at ht ⊢
 simp only at ht ⊢
 have hz:regOf (List.replicate 32 0) 31=0:=rfl
 have hrel:RelB code 0 (beginS mem inp) (beginD mem inp):=by
  refine ⟨(nx_0 code).symm,rfl,rfl,by simp [beginS],by simp [beginD],fun v hv=>?_,fun r r0 r1 r2=>rfl,fun r r0=>rfl,rfl,rfl,rfl,⟨0,Nat.zero_le _,?_,?_⟩⟩
  ·simp [beginS] at hv
   rw [hv.2]; rfl
  ·rw [nx_0]; exact hz
  ·exact hz
 obtain ⟨m,hm,hrun⟩:=main_run C fuel.toNat 0 _ _ 0 (Nat.zero_le _) hrel ht
 have hst:=runG_steps code fuel.toNat (beginS mem inp,0,0)
 rw [Int.sub_zero] at hm
 generalize runG code fuel.toNat (beginS mem inp,0,0)=X at *
 have hX:0≤X.2.2:=hst.1
 rw [runPP_D nc mem inp (3*X.2.2+2*code.length+10) (3*X.2.2+2*code.length+7).toNat (by omega) hnc h0 h1]
 have e:runDG nc (3*X.2.2+2*code.length+7).toNat (beginD mem inp,0,3)=runDG nc m (beginD mem inp,0,3):=by
  rw [show (3*X.2.2+2*(code.length:Int)+7).toNat=m+((3*X.2.2+2*(code.length:Int)+7).toNat-m) by omega,runDG_add,runDG_stop nc _ (by rw [(hrun 3).1]; exact ht)]
 rw [e,(hrun 3).1,(hrun 3).2.1,(hrun 3).2.2]
end Go.Proofs.YtkfemiloehkmhaaGreat.S

