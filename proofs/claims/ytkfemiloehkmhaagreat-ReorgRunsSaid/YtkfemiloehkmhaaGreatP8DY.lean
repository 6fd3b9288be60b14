/- YtkfemiloehkmhaaGreat: a text of our own, by an AI agent: P8DY -/
import Derived.Test.YtkfemiloehkmhaaGreatP7BY
set_option linter.unusedSimpArgs false
set_option linter.unusedVariables false
set_option maxRecDepth 100000
namespace Go.Proofs.YtkfemiloehkmhaaGreat.S
open Go Go.RowKit Go.Alog Go.Proofs.YtkfemiloehkmhaaGreat.T Go.Proofs.YtkfemiloehkmhaaGreat.V

def wrL (l:La) (regs:List Int):List Int:=if l.full=true∧l.reg≠0∧lateP l.i=false then regs.set l.reg.toNat l.value else regs
def wrA (l:La) (regs:List Int):List Int:=if l.full=true∧l.reg≠0 then regs.set l.reg.toNat l.value else regs
def stL (l a:La) (regs:List Int):La:=if l.full=true∧l.trap=0 then stage3 l a regs else l
def nxtP (regs:List Int) (at_:Int) (l:La):Int :=
 let n:=IntKind.wrap .i64 (at_+1)
 if l.full=false∨l.trap≠0 then n
 else if l.i.op=15∨l.i.op=16 then (if (regOf regs l.i.a == regOf regs l.i.b) == (l.i.op == 15) then IntKind.wrap .i64 (IntKind.wrap .i64 (l.at_+1)+l.i.imm) else n)
 else if l.i.op=17∨l.i.op=18 then l.i.imm
 else if l.i.op=19 then regOf regs l.i.a
 else n
structure DS where
 regs:List Int
 mem:List Int
 at_:Int
 next:Int
 inp:List Int
 out:List Int
 late:La
def actD (mem inp out:List Int) (l:La):PS × Int:=pactP ⟨[],mem,0,inp,out,La0,La0,l,La0⟩
def stepD (code:List Ins) (d:DS):DS × Int :=
 let l:=stL (fetchL code d.at_) La0 d.regs
 let p:=actD d.mem d.inp d.out l
 let regs1:=wrA d.late d.regs
 ({ regs:=wrL l regs1,mem:=p.1.mem,at_:=d.next,next:=nxtP d.regs d.next (fetchL code d.at_),inp:=p.1.inp,out:=p.1.out,late:=if lateP p.1.a.i=true then p.1.a else La0 },p.2)

theorem pact_eq (regs mem inp out:List Int) (at_:Int) (f r l:La):pactP ⟨regs,mem,at_,inp,out,f,r,l,La0⟩=(⟨regs,(actD mem inp out l).1.mem,at_,(actD mem inp out l).1.inp,(actD mem inp out l).1.out,f,r,La0,(actD mem inp out l).1.a⟩,(actD mem inp out l).2):=by
 unfold actD pactP
 simp only []
 split
 ·rfl
 split
 ·split <;> rfl
 split
 ·split <;> rfl
 split
 ·unfold sysL
  simp only []
  split
  ·rfl
  split
  ·cases inp <;> rfl
  split
  ·split <;> rfl
  ·rfl
 ·rfl
theorem act0 {mem inp out:List Int} {l:La} (hf:l.full=true) (ht:(actD mem inp out l).2=0) (hr:l.trap=0→rightR l.i=true):(actD mem inp out l).1.a.full=true∧(actD mem inp out l).1.a.reg=l.reg∧(actD mem inp out l).1.a.i=l.i∧(lateP l.i=false→(actD mem inp out l).1.a.value=l.value)∧l.trap=0:=by
 unfold actD pactP at *
 simp only [] at *
 by_cases hg:l.full=false∨l.trap≠0
 ·rw [if_pos hg] at ht
  rcases hg with h | h
  ·rw [hf] at h; cases h
  ·exact absurd ht h
 have htr:l.trap=0:=by
  by_cases h:l.trap=0
  ·exact h
  ·exact absurd (Or.inr h) hg
 have hr:=hr htr
 rw [if_neg hg] at ht ⊢
 split
 ·rename_i h12
  rw [if_pos h12] at ht
  split
  ·exact ⟨hf,rfl,rfl,fun h=>by simp [lateP,hr,h12] at h,htr⟩
  ·rename_i hin; rw [if_neg hin] at ht; cases ht
 rename_i h12
 rw [if_neg h12] at ht
 split
 ·rename_i h13
  rw [if_pos h13] at ht
  split
  ·exact ⟨hf,rfl,rfl,fun _=>rfl,htr⟩
  ·rename_i hin; rw [if_neg hin] at ht; cases ht
 rename_i h13
 rw [if_neg h13] at ht
 split
 ·rename_i h20
  rw [if_pos h20] at ht
  unfold sysL at *
  simp only [] at *
  split
  ·exact ⟨hf,rfl,rfl,fun _=>rfl,htr⟩
  rename_i h0
  rw [if_neg h0] at ht
  split
  ·rename_i h1
   rw [if_pos h1] at ht
   cases inp with
   | nil=>exact ⟨hf,rfl,rfl,fun _=>rfl,htr⟩
   | cons x r=>exact ⟨hf,rfl,rfl,fun h=>by simp [lateP,hr,h20,h1] at h,htr⟩
  split
  ·split <;> exact ⟨hf,rfl,rfl,fun _=>rfl,htr⟩
  ·exact ⟨hf,rfl,rfl,fun _=>rfl,htr⟩
 ·exact ⟨hf,rfl,rfl,fun _=>rfl,htr⟩

theorem wrL_len (l:La) (r:List Int):(wrL l r).length=r.length:=by unfold wrL; split <;> simp
theorem wrA_len (l:La) (r:List Int):(wrA l r).length=r.length:=by unfold wrA; split <;> simp
theorem regOf_set {r:List Int} {k n v:Int} (hk:0≤k∧k<r.length) (hn:0≤n):regOf (r.set k.toNat v) n=if k=n then v else regOf r n:=by
 unfold regOf
 by_cases e:k=n
 ·subst e
  have:k.toNat<r.length:=by omega
  simp [List.getD,this]
 ·rw [if_neg e]
  have:k.toNat≠n.toNat:=by omega
  simp [List.getD,List.getElem?_set_ne this]
theorem early_wr (n:Int) (hn:0≤n∧n<32) (l:La) (hl:0≤l.reg∧l.reg<32) (r:List Int) (hr:r.length=32):earlyP n l r=regOf (wrL l r) n:=by
 unfold earlyP wrL
 by_cases h:l.full=true∧l.reg≠0∧lateP l.i=false
 ·rw [if_pos h,regOf_set (by omega) hn.1]
  by_cases e:l.reg=n
  ·rw [if_pos ⟨by omega,h.1,e,h.2.2⟩,if_pos e]
  ·rw [if_neg (fun hh=>e hh.2.2.1),if_neg e]
 ·rw [if_neg h,if_neg (fun hh=>h ⟨hh.2.1,by rw [hh.2.2.1]; exact hh.1,hh.2.2.2⟩)]
theorem early0 (n:Int) (r:List Int):earlyP n La0 r=regOf r n:=by
 unfold earlyP
 rw [if_neg]
 rintro ⟨_,h,_⟩
 cases h
theorem stage3_wr (l a:La) (hi:InR l.i) (ha:0≤a.reg∧a.reg<32) (r:List Int) (hr:r.length=32):stage3 l a r=stage3 l La0 (wrL a r):=by
 unfold stage3
 simp only [early_wr _ hi.1 a ha r hr,early_wr _ hi.2.1 a ha r hr,early_wr _ hi.2.2 a ha r hr,early_wr 4 (by decide) a ha r hr,early0]
theorem stL_wr (l a:La) (hi:l.full=true→l.trap=0→InR l.i) (ha:0≤a.reg∧a.reg<32) (r:List Int) (hr:r.length=32):stL l a r=stL l La0 (wrL a r):=by
 unfold stL
 split
 ·rename_i h; rw [stage3_wr l a (hi h.1 h.2) ha r hr]
 ·rfl
theorem wrL_congr {l:La} (hl:0≤l.reg∧l.reg<32) {r r':List Int} (hr:r.length=32) (hr':r'.length=32) {n:Int} (hn:0≤n) (h:regOf r n=regOf r' n):regOf (wrL l r) n=regOf (wrL l r') n:=by
 unfold wrL
 split
 ·rw [regOf_set (by omega) hn,regOf_set (by omega) hn]; split <;> first | rfl | exact h
 ·exact h
theorem now_wr (s:PS) (n:Int) (hn:0≤n∧n<32) (hw:WfP s) (hr:s.regs.length=32):nowP s n=regOf (wrL s.k (wrA s.a s.regs)) n:=by
 obtain ⟨_,_,hk,ha⟩:=hw
 unfold nowP
 by_cases h:n≠0∧s.a.full=true∧s.a.reg=n
 ·rw [if_pos h,early_wr n hn s.k hk.2 _ (by rw [List.length_set,hr])]
  unfold wrA
  rw [if_pos ⟨h.2.1,by rw [h.2.2]; exact h.1⟩,h.2.2]
 ·rw [if_neg h,early_wr n hn s.k hk.2 _ hr]
  refine wrL_congr hk.2 hr (by rw [wrA_len,hr]) hn.1 ?_
  unfold wrA
  split
  ·rename_i h2
   rw [regOf_set (by have:=ha.2; omega) hn.1,if_neg]
   intro e
   exact h ⟨by rw [← e]; exact h2.2,h2.1,e⟩
  ·rfl
theorem nextF_nxt (s:PS) (l:La) (hl:l.full=true→l.trap=0→InR l.i) (hw:WfP s) (hr:s.regs.length=32):nextF s l=nxtP (wrL s.k (wrA s.a s.regs)) s.at_ l:=by
 unfold nextF nxtP
 simp only []
 split
 ·rfl
 rename_i h
 have hg:l.full=true∧l.trap=0:=by
  cases e:l.full <;> simp [e] at h ⊢
  exact h
 have hi:=hl hg.1 hg.2
 rw [now_wr s _ hi.1 hw hr,now_wr s _ hi.2.1 hw hr]

structure Inv (code:List Ins) (d:DS) (s:PS):Prop where
 hr:s.regs.length=32
 hw:WfP s
 e1:d.regs=wrL s.a s.regs
 e2:wrA d.late d.regs=wrA s.a s.regs
 hk:s.k=stL (fetchL code d.at_) La0 d.regs
 hrr:s.r=fetchL code d.next
 hf:s.f=fetchL code (nxtP d.regs d.next (fetchL code d.at_))
 hat:s.at_=nxtP (wrL s.k (wrA s.a s.regs)) (nxtP d.regs d.next (fetchL code d.at_)) s.r
 hm:s.mem=d.mem
 hi:s.inp=d.inp
 ho:s.out=d.out

theorem fetchL_full (code:List Ins) (a:Int):(fetchL code a).full=true:=by
 unfold fetchL; split
 ·rfl
 split <;> rfl
theorem fetchL_right (code:List Ins) (a:Int):(fetchL code a).trap=0→rightR (fetchL code a).i=true:=by
 unfold fetchL; split
 ·intro h; cases h
 split
 ·intro _; assumption
 ·intro h; cases h
theorem stL_full (l a:La) (r:List Int):(stL l a r).full=l.full:=by
 unfold stL; split
 ·unfold stage3; simp only []
  split
  ·split <;> rfl
  split
  ·rfl
  split <;> rfl
 ·rfl
theorem stL_i (l a:La) (r:List Int):(stL l a r).i=l.i:=by
 unfold stL; split
 ·exact stage3_i l a r
 ·rfl
theorem stL_trap {l a:La} {r:List Int} (hf:l.full=true) (h:(stL l a r).trap=0):l.trap=0:=by
 unfold stL at h
 by_cases e:l.trap=0
 ·exact e
 ·rw [if_neg (fun hh=>e hh.2)] at h; exact h

theorem inv_step (code:List Ins) {d:DS} {s:PS} (h:Inv code d s):(cycleP code s).2=(stepD code d).2∧(cycleP code s).1.mem=(stepD code d).1.mem∧(cycleP code s).1.inp=(stepD code d).1.inp∧(cycleP code s).1.out=(stepD code d).1.out∧((stepD code d).2=0→Inv code (stepD code d).1 (cycleP code s).1):=by
 have hwc:=wf_cycle code h.hw
 obtain ⟨regs,mem,at_,inp,out,f,r,k,a⟩:=s
 obtain ⟨hr,hw,e1,e2,hk,hrr,hf,hat,hm,hi,ho⟩:=h
 simp only at hr e1 e2 hk hrr hf hat hm hi ho
 have hwr:writeP ⟨regs,mem,at_,inp,out,f,r,k,a⟩=⟨wrA a regs,mem,at_,inp,out,f,r,k,La0⟩:=rfl
 have hp:=pact_eq (wrA a regs) mem inp out at_ f r k
 have hkf:k.full=true:=by rw [hk,stL_full,fetchL_full]
 have hki:k.i=(fetchL code d.at_).i:=by rw [hk,stL_i]
 have hkr:k.trap=0→rightR k.i=true:=fun ht=>by
  rw [hki]
  refine fetchL_right code _ ?_
  rw [hk] at ht
  exact stL_trap (fetchL_full _ _) ht
 have ec:cycleP code ⟨regs,mem,at_,inp,out,f,r,k,a⟩=(fetchP code (decideP (reckP3 ⟨wrA a regs,(actD mem inp out k).1.mem,at_,(actD mem inp out k).1.inp,(actD mem inp out k).1.out,f,r,La0,(actD mem inp out k).1.a⟩ k)).1 (decideP (reckP3 ⟨wrA a regs,(actD mem inp out k).1.mem,at_,(actD mem inp out k).1.inp,(actD mem inp out k).1.out,f,r,La0,(actD mem inp out k).1.a⟩ k)).2,(actD mem inp out k).2):=by
  unfold cycleP
  simp only [hwr,hp]
 have ed:stepD code d=({ regs:=wrL k (wrA d.late d.regs),mem:=(actD mem inp out k).1.mem,at_:=d.next,next:=nxtP d.regs d.next (fetchL code d.at_),inp:=(actD mem inp out k).1.inp,out:=(actD mem inp out k).1.out,late:=if lateP (actD mem inp out k).1.a.i=true then (actD mem inp out k).1.a else La0 },(actD mem inp out k).2):=by
  unfold stepD
  simp only [← hm,← hi,← ho,← hk]
 rw [ec] at hwc
 rw [ec,ed]
 refine ⟨rfl,rfl,rfl,rfl,fun ht=>?_⟩
 obtain ⟨a1,a2,a3,a4,a5⟩:=act0 hkf ht hkr
 generalize (actD mem inp out k).1=p at *
 generalize (actD mem inp out k).2=t at *
 have hrA:(wrA a regs).length=32:=by rw [wrA_len,hr]
 have hkw:=hw.2.2.1
 have hfw:=hw.1
 have hrw:=hw.2.1
 simp only at hkw hfw hrw
 have eL:wrL p.a (wrA a regs)=wrL k (wrA a regs):=by
  unfold wrL
  rw [a1,a2,a3,hkf]
  split
  ·rename_i hh; rw [a4 hh.2.2]
  ·rfl
 have ek:(if r.full=true∧r.trap=0 then stage3 r k (wrA a regs) else r)=stL (fetchL code d.next) La0 (wrL k (wrA a regs)):=by
  rw [← hrr]
  exact stL_wr r k hrw.1 hkw.2 (wrA a regs) hrA
 refine ⟨hrA,hwc,?_,?_,?_,?_,?_,?_,rfl,rfl,rfl⟩
 ·show wrL k (wrA d.late d.regs)=wrL p.a (wrA a regs)
  rw [eL,e2]
 ·show wrA (if lateP p.a.i=true then p.a else La0) (wrL k (wrA d.late d.regs))=wrA p.a (wrA a regs)
  rw [e2]
  by_cases hl:lateP p.a.i=true
  ·rw [if_pos hl]
   have:wrL k (wrA a regs)=wrA a regs:=by
    unfold wrL
    rw [if_neg]
    rintro ⟨_,_,h3⟩
    rw [← a3,hl] at h3; cases h3
   rw [this]
  ·have hl':lateP k.i=false:=by rw [← a3]; simpa using hl
   rw [if_neg hl,← eL]
   have:wrA La0 (wrL p.a (wrA a regs))=wrL p.a (wrA a regs):=rfl
   rw [this]
   unfold wrL wrA
   by_cases c:p.a.full=true∧p.a.reg≠0
   ·rw [if_pos c,if_pos ⟨c.1,c.2,by rw [a3]; exact hl'⟩]
   ·rw [if_neg c,if_neg (fun hh=>c ⟨hh.1,hh.2.1⟩)]
 ·show (if r.full=true∧r.trap=0 then stage3 r k (wrA a regs) else r)=stL (fetchL code d.next) La0 (wrL k (wrA d.late d.regs))
  rw [e2]; exact ek
 ·exact hf
 ·show fetchL code at_=fetchL code (nxtP (wrL k (wrA d.late d.regs)) (nxtP d.regs d.next (fetchL code d.at_)) (fetchL code d.next))
  rw [e2,hat,← hrr]
 ·have hwD:WfP ⟨wrA a regs,p.mem,at_,p.inp,p.out,La0,f,if r.full=true∧r.trap=0 then stage3 r k (wrA a regs) else r,p.a⟩:=⟨lw0,hfw,hwc.2.2.1,hwc.2.2.2⟩
  have hN:=nextF_nxt ⟨wrA a regs,p.mem,at_,p.inp,p.out,La0,f,if r.full=true∧r.trap=0 then stage3 r k (wrA a regs) else r,p.a⟩ f hfw.1 hwD hrA
  refine Eq.trans hN ?_
  show nxtP (wrL (if r.full=true∧r.trap=0 then stage3 r k (wrA a regs) else r) (wrA p.a (wrA a regs))) at_ f=nxtP (wrL (if r.full=true∧r.trap=0 then stage3 r k (wrA a regs) else r) (wrA p.a (wrA a regs))) (nxtP (wrL k (wrA d.late d.regs)) (nxtP d.regs d.next (fetchL code d.at_)) (fetchL code d.next)) f
  rw [e2,← hrr,← hat]

def runDG (code:List Ins):Nat→DS × Int × Int→DS × Int × Int
 | 0,x=>x
 | n+1,(d,t,k)=>if t=0 then runDG code n ((stepD code d).1,(stepD code d).2,k+1) else (d,t,k)
theorem runDG_stop (code:List Ins) (n:Nat) {x:DS × Int × Int} (h:x.2.1≠0):runDG code n x=x:=by
 obtain ⟨s,t,k⟩:=x
 cases n with
 | zero=>rfl
 | succ n=>simp only [runDG]; rw [if_neg h]
theorem runDG_one (code:List Ins) (n:Nat) (s:DS) (k:Int):runDG code (n+1) (s,0,k)=runDG code n ((stepD code s).1,(stepD code s).2,k+1):=by simp [runDG]
theorem runPG_D (code:List Ins):∀ (n:Nat) (d:DS) (s:PS) (k:Int),Inv code d s→(runPG code n (s,0,k)).2=(runDG code n (d,0,k)).2∧(runPG code n (s,0,k)).1.mem=(runDG code n (d,0,k)).1.mem∧(runPG code n (s,0,k)).1.out=(runDG code n (d,0,k)).1.out
 | 0,d,s,k,h=>⟨rfl,h.hm,h.ho⟩
 | n+1,d,s,k,h=>by
  obtain ⟨h1,h2,h3,h4,h5⟩:=inv_step code h
  rw [runPG_one,runDG_one,h1]
  by_cases ht:(stepD code d).2=0
  ·rw [ht]
   exact runPG_D code n _ _ _ (h5 ht)
  ·rw [runPG_stop code n (x:=((cycleP code s).1,(stepD code d).2,k+1)) ht,runDG_stop code n (x:=((stepD code d).1,(stepD code d).2,k+1)) ht]
   exact ⟨rfl,h2,h4⟩
def beginD (mem:Int) (inp:List Int):DS:=⟨List.replicate 32 0,List.replicate mem.toNat 0,0,1,inp,[],La0⟩
theorem inv_begin (code:List Ins) (mem:Int) (inp:List Int):∃ s,runPG code 3 (beginPS mem inp,0,0)=(s,0,3)∧Inv code (beginD mem inp) s:=by
 have w0:=wf_begin mem inp
 have w1:=wf_cycle code w0
 have w2:=wf_cycle code w1
 have w3:=wf_cycle code w2
 have c1:cycleP code (beginPS mem inp)=(⟨List.replicate 32 0,List.replicate mem.toNat 0,1,inp,[],fetchL code 0,La0,La0,La0⟩,0):=rfl
 rw [c1] at w1 w2 w3
 have n2:nextF ⟨List.replicate 32 0,List.replicate mem.toNat 0,1,inp,[],La0,fetchL code 0,La0,La0⟩ (fetchL code 0)=nxtP (List.replicate 32 0) 1 (fetchL code 0):=nextF_nxt _ _ w1.1.1 ⟨lw0,w1.1,lw0,lw0⟩ (by simp)
 have c2:cycleP code ⟨List.replicate 32 0,List.replicate mem.toNat 0,1,inp,[],fetchL code 0,La0,La0,La0⟩=(⟨List.replicate 32 0,List.replicate mem.toNat 0,nxtP (List.replicate 32 0) 1 (fetchL code 0),inp,[],fetchL code 1,fetchL code 0,La0,La0⟩,0):=by
  rw [cycle_empty code _ rfl rfl]
  rw [← n2]
  rfl
 rw [c2] at w2 w3
 have hk:(if (fetchL code 0).full=true∧(fetchL code 0).trap=0 then stage3 (fetchL code 0) La0 (List.replicate 32 0) else fetchL code 0)=stL (fetchL code 0) La0 (List.replicate 32 0):=rfl
 generalize hX:nxtP (List.replicate 32 0) 1 (fetchL code 0)=x2 at *
 have e3:=cycle_empty code ⟨List.replicate 32 0,List.replicate mem.toNat 0,x2,inp,[],fetchL code 1,fetchL code 0,La0,La0⟩ rfl rfl
 rw [e3] at w3
 have n3:nextF ⟨List.replicate 32 0,List.replicate mem.toNat 0,x2,inp,[],La0,fetchL code 1,stL (fetchL code 0) La0 (List.replicate 32 0),La0⟩ (fetchL code 1)=nxtP (wrL (stL (fetchL code 0) La0 (List.replicate 32 0)) (List.replicate 32 0)) x2 (fetchL code 1):=nextF_nxt _ _ w2.1.1 ⟨lw0,w2.1,w3.2.2.1,lw0⟩ (by simp)
 refine ⟨⟨List.replicate 32 0,List.replicate mem.toNat 0,nxtP (wrL (stL (fetchL code 0) La0 (List.replicate 32 0)) (List.replicate 32 0)) x2 (fetchL code 1),inp,[],fetchL code x2,fetchL code 1,stL (fetchL code 0) La0 (List.replicate 32 0),La0⟩,?_,?_⟩
 ·rw [runPG_one,c1,runPG_one,c2,runPG_one,e3,← n3]
  rfl
 ·refine ⟨by simp,⟨fetchL_wf _ _,fetchL_wf _ _,w3.2.2.1,lw0⟩,rfl,rfl,rfl,rfl,?_,?_,rfl,rfl,rfl⟩
  ·show fetchL code x2=fetchL code (nxtP (List.replicate 32 0) 1 (fetchL code 0))
   rw [hX]
  ·show nxtP (wrL (stL (fetchL code 0) La0 (List.replicate 32 0)) (List.replicate 32 0)) x2 (fetchL code 1)=nxtP (wrL (stL (fetchL code 0) La0 (List.replicate 32 0)) (List.replicate 32 0)) (nxtP (List.replicate 32 0) 1 (fetchL code 0)) (fetchL code 1)
   rw [hX]
theorem runPP_D (code:List Ins) (mem:Int) (inp:List Int) (c:Int) (n:Nat) (hc:c=n+3) (h:code.length≤4096) (h0:0≤mem) (h1:mem≤32000):runPP code mem inp c=⟨(runDG code n (beginD mem inp,0,3)).2.1,(runDG code n (beginD mem inp,0,3)).2.2,(runDG code n (beginD mem inp,0,3)).1.out,usedP (runDG code n (beginD mem inp,0,3)).1.mem⟩:=by
 unfold runPP
 rw [if_neg (by omega)]
 obtain ⟨s,e,hI⟩:=inv_begin code mem inp
 have:c.toNat=3+n:=by omega
 simp only [this]
 rw [runPG_add,e]
 obtain ⟨q1,q2,q3⟩:=runPG_D code n _ s 3 hI
 rw [q1,q2,q3]
end Go.Proofs.YtkfemiloehkmhaaGreat.S

set_option linter.unusedSimpArgs false
set_option linter.unusedVariables false
set_option maxRecDepth 100000
namespace Go.Proofs.YtkfemiloehkmhaaGreat.S
open Go Go.RowKit Go.Alog Go.Proofs.YtkfemiloehkmhaaGreat.T Go.Proofs.YtkfemiloehkmhaaGreat.V

theorem fetchL_ok {code:List Ins} {a:Int} (h0:0≤a) (h1:a<code.length) {i:Ins} (hi:code.getD a.toNat default=i) (hr:rightR i=true):fetchL code a = { La0 with full:=true,at_:=a,i:=i }:=by
 unfold fetchL
 rw [if_neg (by omega),hi,if_pos hr]
theorem fetchL_end {code:List Ins} {a:Int} (h:a<0∨a≥code.length):fetchL code a = { La0 with full:=true,at_:=a,trap:=2 }:=by
 unfold fetchL
 rw [if_pos h]
theorem stepD_stop (code:List Ins) (d:DS) {t:Int} (ht:t≠0) (h:fetchL code d.at_ = { La0 with full:=true,at_:=d.at_,trap:=t }):(stepD code d).2=t∧(stepD code d).1.mem=d.mem∧(stepD code d).1.out=d.out:=by
 unfold stepD
 simp only []
 rw [h]
 have e:stL { La0 with full:=true,at_:=d.at_,trap:=t } La0 d.regs = { La0 with full:=true,at_:=d.at_,trap:=t }:=by
  unfold stL
  rw [if_neg (fun hh=>ht hh.2)]
 rw [e]
 have e2:∀ l:La,l.trap≠0→actD d.mem d.inp d.out l=(⟨[],d.mem,0,d.inp,d.out,La0,La0,La0,La0⟩,l.trap):=by
  intro l hl
  unfold actD pactP
  simp only []
  rw [if_pos (.inr hl)]
 rw [e2 _ ht]
 exact ⟨rfl,rfl,rfl⟩

theorem tmod_w32 (b c:Int):w32 ((w32 b).tmod (w32 c))=(w32 b).tmod (w32 c):=by
 apply w32_id
 have hb:=w32_le b
 generalize w32 b=x at *
 generalize w32 c=y at *
 have hn:(x.tmod y).natAbs≤x.natAbs:=by rw [Int.natAbs_tmod]; exact Nat.mod_le _ _
 rcases Int.le_total 0 x with h | h
 ·have h1:=Int.tmod_nonneg y h
  omega
 ·have e:x.tmod y = -((-x).tmod y):=by rw [Int.neg_tmod]; omega
  have h1:=Int.tmod_nonneg y (show 0≤-x by omega)
  omega
theorem reck_w32 (i:Ins) (b c:Int):w32 (reckonP i b c).1=(reckonP i b c).1:=by
 unfold reckonP
 split
 ·rfl
 split
 ·exact w32_w32 _
 split
 ·rfl
 split
 ·rfl
 split
 ·exact tmod_w32 b c
 ·exact w32_w32 _
theorem reck_no (i:Ins) (b c:Int) (h:¬ (1≤i.op∧i.op≤11)):reckonP i b c=(0,0,false):=by
 unfold reckonP
 split
 ·rfl
 have:reckP i (w32 b) (w32 c)=none:=by
  unfold reckP
  rw [if_neg (by omega),if_neg (by omega),if_neg (by omega),if_neg (by omega),if_neg (by omega),if_neg (by omega),if_neg (by omega),if_neg (by omega),if_neg (by omega)]
 rw [this]
 simp only
 rw [if_pos (by omega)]
theorem reck_yes (i:Ins) (b c:Int) (h:1≤i.op∧i.op≤11) (hr:rightR i=true):(reckonP i b c).2.2=true:=by
 unfold reckonP
 rw [if_neg (by rw [hr]; exact Bool.noConfusion)]
 cases hk:reckP i (w32 b) (w32 c) with
 | some v=>rfl
 | none =>
  simp only
  rw [if_neg]
  ·split
   ·rfl
   split <;> rfl
  ·intro hh
   unfold reckP at hk
   by_cases c1:i.op=1
   ·rw [if_pos c1] at hk; cases hk
   rw [if_neg c1] at hk
   by_cases c2:i.op=2
   ·rw [if_pos c2] at hk; cases hk
   rw [if_neg c2] at hk
   by_cases c3:i.op=3
   ·rw [if_pos c3] at hk; cases hk
   rw [if_neg c3] at hk
   by_cases c6:i.op=6
   ·rw [if_pos c6] at hk; cases hk
   rw [if_neg c6] at hk
   by_cases c7:i.op=7
   ·rw [if_pos c7] at hk; cases hk
   rw [if_neg c7] at hk
   by_cases c8:i.op=8
   ·rw [if_pos c8] at hk; cases hk
   rw [if_neg c8] at hk
   by_cases c9:i.op=9
   ·rw [if_pos c9] at hk; cases hk
   rw [if_neg c9] at hk
   by_cases c10:i.op=10
   ·rw [if_pos c10] at hk; cases hk
   rw [if_neg c10] at hk
   by_cases c11:i.op=11
   ·rw [if_pos c11] at hk; cases hk
   ·omega

def doP (s:MS) (i:Ins):MS × Int :=
 let s1:=(actP s i).1
 if (actP s i).2≠0 then (s1,(actP s i).2) else
  let r:=reckonP i (regOf s1.regs i.b) (regOf s1.regs i.c)
  if r.2.1≠0 then (s1,r.2.1) else (if r.2.2 then { s1 with regs:=setR s1.regs i.a r.1 } else s1,0)

structure DoD (d d':DS) (t:Int) (q:MS × Int):Prop where
 ht:t=q.2
 hm:d'.mem=q.1.mem
 ho:d'.out=q.1.out
 hi:t=0→d'.inp=q.1.inp
 hr:t=0→wrA d'.late d'.regs=q.1.regs
 ha:d'.at_=d.next

theorem stepD_do (code : List Ins) (d : DS) (i : Ins) (x : Int) (hf : fetchL code d.at_ = { La0 with full := true, at_ := d.at_, i := i }) (hr : rightR i = true) (hl : d.late = La0) (hm : ∀ v ∈ d.mem, w32 v = v) (h18 : i.op ≠ 18) (hlen : d.regs.length = 32) :
    DoD d (stepD code d).1 (stepD code d).2 (doP ⟨d.regs, d.mem, x, d.inp, d.out⟩ i) ∧ ((stepD code d).2 = 0 → lateP i = false → (stepD code d).1.late = La0) := by
  obtain ⟨regs, mem, at_, next, inp, out, late⟩ := d
  simp only at hl hm hf hlen
  subst hl
  have hI := right_regs hr
  have hst : stepD code ⟨regs, mem, at_, next, inp, out, La0⟩ = (let l := stage3 { La0 with full := true, at_ := at_, i := i } La0 regs
    let p := actD mem inp out l
    (⟨wrL l regs, p.1.mem, next, nxtP regs next (fetchL code at_), p.1.inp, p.1.out, if lateP p.1.a.i = true then p.1.a else La0⟩, p.2)) := by
    unfold stepD
    simp only []
    rw [hf]
    rfl
  rw [hst]
  simp only []
  have ew : writesP i = fieldW i := by unfold writesP; rw [if_pos hr]
  have eS : stage3 { La0 with full := true, at_ := at_, i := i } La0 regs =
    (let l1 : La := ⟨true, i, at_, fieldW i, 0, regOf regs i.a, w32 (regOf regs i.b + i.imm), 0⟩
     if i.op = 14 then (if regOf regs i.a < 0 ∨ regOf regs i.a ≥ i.imm then { l1 with trap := if i.b ≠ 0 then i.b else 5 } else l1)
     else if i.op = 18 then { l1 with value := IntKind.wrap .i64 (at_ + 2) }
     else if i.op = 20 then { l1 with stored := regOf regs 4 }
     else { l1 with value := (reckonP i (regOf regs i.b) (regOf regs i.c)).1, trap := (reckonP i (regOf regs i.b) (regOf regs i.c)).2.1 }) := by
    unfold stage3
    simp only [early0, ew]
    rfl
  rw [eS]
  simp only []
  rw [if_neg h18]
  unfold doP actP
  simp only []
  by_cases h14 : i.op = 14
  · have fw : fieldW i = 0 := by unfold fieldW; rw [if_neg (by omega), if_neg (by omega), if_neg (by omega)]
    rw [if_pos h14, if_neg (show ¬ i.op = 12 by omega), if_neg (show ¬ i.op = 13 by omega), if_pos h14, fw]
    by_cases hc : regOf regs i.a < 0 ∨ regOf regs i.a ≥ i.imm
    · rw [if_pos hc, if_pos hc]
      have hne : (if i.b ≠ 0 then i.b else 5) ≠ 0 := by
        split
        · assumption
        · decide
      have e5 : (if i.b = 0 then (5 : Int) else i.b) = (if i.b ≠ 0 then i.b else 5) := by
        by_cases e : i.b = 0 <;> simp [e]
      simp only []
      rw [e5]
      rw [if_pos hne]
      have ea : ∀ l : La, l.trap ≠ 0 → actD mem inp out l = (⟨[], mem, 0, inp, out, La0, La0, La0, La0⟩, l.trap) := by
        intro l hl
        unfold actD pactP
        simp only []
        rw [if_pos (.inr hl)]
      rw [ea _ hne]
      exact ⟨⟨rfl, rfl, rfl, fun h => absurd h hne, fun h => absurd h hne, rfl⟩, fun h => absurd h hne⟩
    · rw [if_neg hc, if_neg hc, reck_no i _ _ (by omega)]
      have ea : ∀ l : La, l.full = true → l.trap = 0 → l.i = i → actD mem inp out l = (⟨[], mem, 0, inp, out, La0, La0, La0, l⟩, l.trap) := by
        intro l h1 h2 h3
        unfold actD pactP
        simp only [h3]
        rw [if_neg (by rw [h1, h2]; simp), if_neg (by omega), if_neg (by omega), if_neg (by omega)]
      rw [ea _ rfl rfl rfl]
      have hL : lateP i = false := by unfold lateP; simp [h14]
      simp only [hL]
      refine ⟨⟨rfl, rfl, rfl, fun _ => rfl, fun _ => rfl, rfl⟩, fun _ _ => rfl⟩
  rw [if_neg h14]
  by_cases h20 : i.op = 20
  · rw [if_pos h20, if_neg (show ¬ i.op = 12 by omega), if_neg (show ¬ i.op = 13 by omega), if_neg h14, if_pos h20]
    have ea : ∀ l : La, l.full = true → l.trap = 0 → l.i = i → actD mem inp out l = ({ (sysL ⟨[], mem, 0, inp, out, La0, La0, La0, La0⟩ l).1 with a := (sysL ⟨[], mem, 0, inp, out, La0, La0, La0, La0⟩ l).2 }, (sysL ⟨[], mem, 0, inp, out, La0, La0, La0, La0⟩ l).2.trap) := by
      intro l h1 h2 h3
      unfold actD pactP
      simp only [h3]
      rw [if_neg (by rw [h1, h2]; simp), if_neg (by omega), if_neg (by omega), if_pos h20]
    rw [ea _ rfl rfl rfl]
    unfold sysL sysP
    simp only []
    rw [reck_no i _ _ (by omega)]
    by_cases c0 : i.imm = 0
    · rw [if_pos c0, if_pos c0]
      exact ⟨⟨rfl, rfl, rfl, fun h => (by cases h), fun h => (by cases h), rfl⟩, fun h => by cases h⟩
    rw [if_neg c0, if_neg c0]
    by_cases c1 : i.imm = 1
    · rw [if_pos c1, if_pos c1]
      have fw : fieldW i = 4 := by unfold fieldW; rw [if_neg (by omega), if_neg (by omega), if_pos ⟨h20, c1⟩]
      have hL : lateP i = true := by unfold lateP; simp [h20, c1, hr]
      cases inp with
      | nil => exact ⟨⟨rfl, rfl, rfl, fun h => (by cases h), fun h => (by cases h), rfl⟩, fun h => by cases h⟩
      | cons y r =>
        simp only [hL, fw]
        refine ⟨⟨rfl, rfl, rfl, fun _ => rfl, fun _ => ?_, rfl⟩, fun _ h => by cases h⟩
        have e1 : wrL ⟨true, i, at_, 4, 0, regOf regs 4, w32 (regOf regs i.b + i.imm), 0⟩ regs = regs := by
          unfold wrL; rw [if_neg]; rintro ⟨_, _, h⟩; simp only [hL] at h; cases h
        rw [e1]
        unfold wrA setR
        simp
    rw [if_neg c1, if_neg c1]
    have fw : fieldW i = 0 := by unfold fieldW; rw [if_neg (by omega), if_neg (by omega), if_neg (by omega)]
    have hL : lateP i = false := by unfold lateP; simp [h20, c1]
    by_cases c2 : i.imm = 2
    · rw [if_pos c2, if_pos c2]
      by_cases ho : out.length ≥ 10000
      · rw [if_pos ho, if_pos ho]
        exact ⟨⟨rfl, rfl, rfl, fun h => (by cases h), fun h => (by cases h), rfl⟩, fun h => by cases h⟩
      · rw [if_neg ho, if_neg ho]
        simp only [hL, fw]
        exact ⟨⟨rfl, rfl, rfl, fun _ => rfl, fun _ => rfl, rfl⟩, fun _ _ => rfl⟩
    · rw [if_neg c2, if_neg c2]
      simp only [hL, fw]
      exact ⟨⟨rfl, rfl, rfl, fun _ => rfl, fun _ => rfl, rfl⟩, fun _ _ => rfl⟩
  rw [if_neg h20, if_neg h20]
  by_cases h12 : i.op = 12
  · rw [if_pos h12, reck_no i _ _ (by omega)]
    have fw : fieldW i = i.a := by unfold fieldW; rw [if_pos (by omega)]
    have hL : lateP i = true := by unfold lateP; simp [h12, hr]
    have ea : ∀ l : La, l.full = true → l.trap = 0 → l.i = i → actD mem inp out l = (if 0 ≤ l.where_ ∧ l.where_ < mem.length then (⟨[], mem, 0, inp, out, La0, La0, La0, { l with value := mem.getD l.where_.toNat 0 }⟩, l.trap) else (⟨[], mem, 0, inp, out, La0, La0, La0, La0⟩, 3)) := by
      intro l h1 h2 h3
      unfold actD pactP
      simp only [h3]
      rw [if_neg (by rw [h1, h2]; simp), if_pos h12]
    rw [ea _ rfl rfl rfl]
    simp only []
    by_cases hin : 0 ≤ w32 (regOf regs i.b + i.imm) ∧ w32 (regOf regs i.b + i.imm) < mem.length
    · rw [if_pos hin, if_pos hin]
      simp only [reck_no i _ _ (show ¬ (1 ≤ i.op ∧ i.op ≤ 11) by omega), hL, fw]
      refine ⟨⟨rfl, rfl, rfl, fun _ => rfl, fun _ => ?_, rfl⟩, fun _ h => by cases h⟩
      have e1 : wrL ⟨true, i, at_, i.a, 0, regOf regs i.a, w32 (regOf regs i.b + i.imm), 0⟩ regs = regs := by
        unfold wrL; rw [if_neg]; rintro ⟨_, _, h⟩; simp only [hL] at h; cases h
      rw [e1]
      have hx : w32 (mem.getD (w32 (regOf regs i.b + i.imm)).toNat 0) = mem.getD (w32 (regOf regs i.b + i.imm)).toNat 0 := by
        have : (w32 (regOf regs i.b + i.imm)).toNat < mem.length := by omega
        rw [show mem.getD (w32 (regOf regs i.b + i.imm)).toNat 0 = mem[(w32 (regOf regs i.b + i.imm)).toNat] by simp [List.getD, this]]
        exact hm _ (List.getElem_mem this)
      unfold wrA setR
      simp only [if_true]
      rw [hx]
      by_cases e : i.a = 0
      · rw [if_pos e, if_neg (fun hh => hh.2 e)]; rfl
      · rw [if_neg e, if_pos ⟨trivial, e⟩]; rfl
    · rw [if_neg hin, if_neg hin]
      exact ⟨⟨rfl, rfl, rfl, fun h => (by cases h), fun h => (by cases h), rfl⟩, fun h => by cases h⟩
  rw [if_neg h12]
  have hL : lateP i = false := by unfold lateP; simp [h12, h20]
  by_cases h13 : i.op = 13
  · rw [if_pos h13, reck_no i _ _ (by omega)]
    have fw : fieldW i = 0 := by unfold fieldW; rw [if_neg (by omega), if_neg (by omega), if_neg (by omega)]
    have ea : ∀ l : La, l.full = true → l.trap = 0 → l.i = i → actD mem inp out l = (if 0 ≤ l.where_ ∧ l.where_ < mem.length then (⟨[], mem.set l.where_.toNat (w32 l.stored), 0, inp, out, La0, La0, La0, l⟩, l.trap) else (⟨[], mem, 0, inp, out, La0, La0, La0, La0⟩, 3)) := by
      intro l h1 h2 h3
      unfold actD pactP
      simp only [h3]
      rw [if_neg (by rw [h1, h2]; simp), if_neg h12, if_pos h13]
    rw [ea _ rfl rfl rfl]
    simp only []
    by_cases hin : 0 ≤ w32 (regOf regs i.b + i.imm) ∧ w32 (regOf regs i.b + i.imm) < mem.length
    · rw [if_pos hin, if_pos hin]
      simp only [reck_no i _ _ (show ¬ (1 ≤ i.op ∧ i.op ≤ 11) by omega), hL, fw]
      exact ⟨⟨rfl, rfl, rfl, fun _ => rfl, fun _ => rfl, rfl⟩, fun _ _ => rfl⟩
    · rw [if_neg hin, if_neg hin]
      exact ⟨⟨rfl, rfl, rfl, fun h => (by cases h), fun h => (by cases h), rfl⟩, fun h => by cases h⟩
  rw [if_neg h13, if_neg h14]
  have ea : ∀ l : La, l.full = true → l.i = i → actD mem inp out l = (if l.trap ≠ 0 then (⟨[], mem, 0, inp, out, La0, La0, La0, La0⟩, l.trap) else (⟨[], mem, 0, inp, out, La0, La0, La0, l⟩, 0)) := by
    intro l h1 h3
    unfold actD pactP
    simp only [h3]
    by_cases h2 : l.trap = 0
    · rw [if_neg (by rw [h1, h2]; simp), if_neg h12, if_neg h13, if_neg h20, if_neg (by simp [h2]), h2]
    · rw [if_pos (.inr h2), if_pos h2]
  rw [ea _ rfl rfl]
  have hv := reck_w32 i (regOf regs i.b) (regOf regs i.c)
  have hy := fun h => reck_yes i (regOf regs i.b) (regOf regs i.c) h hr
  have hn := reck_no i (regOf regs i.b) (regOf regs i.c)
  generalize reckonP i (regOf regs i.b) (regOf regs i.c) = R at hv hy hn ⊢
  obtain ⟨v, t, ok⟩ := R
  simp only at hv hy hn
  by_cases hT : t = 0
  · subst hT
    simp only [ne_eq, not_true_eq_false, if_false, hL, Bool.false_eq_true]
    refine ⟨⟨rfl, ?_, ?_, fun _ => ?_, fun _ => ?_, rfl⟩, fun _ _ => trivial⟩
    · split <;> rfl
    · split <;> rfl
    · split <;> rfl
    show wrL _ regs = _
    by_cases h1 : 1 ≤ i.op ∧ i.op ≤ 11
    · have fw : fieldW i = i.a := by unfold fieldW; rw [if_pos (by omega)]
      unfold wrL setR
      rw [if_pos (hy h1)]
      simp only [hL, fw, hv]
      by_cases e : i.a = 0
      · rw [if_pos e, if_neg (fun hh => hh.2.1 e)]
      · rw [if_neg e, if_pos ⟨trivial, e, trivial⟩]
    · have fw : fieldW i = 0 := by unfold fieldW; rw [if_neg (by omega), if_neg h18, if_neg (fun hh => h20 hh.1)]
      have hok : ok = false := by have := hn h1; injection this with _ h; injection h
      subst hok
      unfold wrL
      simp only [fw]
      rfl
  · simp only [ne_eq, hT, not_true_eq_false, not_false_eq_true, if_true, if_false]
    exact ⟨⟨rfl, rfl, rfl, fun h => absurd h hT, fun h => absurd h hT, rfl⟩, fun h => h.elim⟩
end Go.Proofs.YtkfemiloehkmhaaGreat.S

set_option linter.unusedSimpArgs false
set_option linter.unusedVariables false
set_option maxRecDepth 100000
namespace Go.Proofs.YtkfemiloehkmhaaGreat.S
open Go Go.RowKit Go.Alog Go.Proofs.YtkfemiloehkmhaaGreat.T Go.Proofs.YtkfemiloehkmhaaGreat.V

theorem sysP_at (s:MS) (n:Int):(sysP s n).1.at_=s.at_:=by
 unfold sysP
 split
 ·rfl
 split
 ·cases s.inp <;> rfl
 split
 ·split <;> rfl
 ·rfl
theorem actP_at (s:MS) (i:Ins):(actP s i).1.at_=s.at_:=by
 unfold actP; simp only []
 split
 ·split <;> rfl
 split
 ·split <;> rfl
 split
 ·split <;> rfl
 split
 ·exact sysP_at s _
 ·rfl
theorem doP_at (s:MS) (i:Ins):(doP s i).1.at_=s.at_:=by
 unfold doP; simp only []
 split
 ·exact actP_at s i
 split
 ·exact actP_at s i
 split
 ·exact actP_at s i
 ·exact actP_at s i
theorem setRl (r:List Int) (n v:Int):(setR r n v).length=r.length:=by unfold setR; split <;> simp
theorem sysP_keep (s:MS) (n:Int):(sysP s n).1.regs.length=s.regs.length∧(sysP s n).1.mem=s.mem:=by
 unfold sysP
 split
 ·exact ⟨rfl,rfl⟩
 split
 ·cases s.inp with
  | nil=>exact ⟨rfl,rfl⟩
  | cons x r=>exact ⟨setRl s.regs 4 x,rfl⟩
 split
 ·split <;> exact ⟨rfl,rfl⟩
 ·exact ⟨rfl,rfl⟩
theorem actP_keep (s:MS) (i:Ins) (hm:∀ v∈s.mem,w32 v=v):(actP s i).1.regs.length=s.regs.length∧∀ v∈(actP s i).1.mem,w32 v=v:=by
 unfold actP; simp only []
 split
 ·split
  ·exact ⟨setRl _ _ _,hm⟩
  ·exact ⟨rfl,hm⟩
 split
 ·split
  ·refine ⟨rfl,fun v hv=>?_⟩
   rcases List.mem_or_eq_of_mem_set hv with h | h
   ·exact hm v h
   ·rw [h]; exact w32_w32 _
  ·exact ⟨rfl,hm⟩
 split
 ·split <;> exact ⟨rfl,hm⟩
 split
 ·obtain ⟨h1,h2⟩:=sysP_keep s i.imm
  exact ⟨h1,by rw [h2]; exact hm⟩
 ·exact ⟨rfl,hm⟩
theorem doP_keep (s:MS) (i:Ins) (hm:∀ v∈s.mem,w32 v=v):(doP s i).1.regs.length=s.regs.length∧∀ v∈(doP s i).1.mem,w32 v=v:=by
 have h:=actP_keep s i hm
 unfold doP; simp only []
 split
 ·exact h
 split
 ·exact h
 split
 ·exact ⟨by rw [setRl]; exact h.1,h.2⟩
 ·exact h
theorem stepP_do (code:List Ins) (s:MS) (h0:0≤s.at_) (h1:s.at_<code.length) {i:Ins} (hi:code.getD s.at_.toNat default=i) (hr:rightR i=true) :
  stepP code s=if (doP s i).2≠0 then doP s i else ({ (nextP (doP s i).1 i).1 with at_:=(nextP (doP s i).1 i).2 },0):=by
 unfold stepP
 rw [if_neg (by omega),if_neg (by omega),hi]
 simp only [hr,Bool.true_eq_false,if_false]
 unfold doP
 simp only []
 generalize actP s i=A
 obtain ⟨s1,t1⟩:=A
 simp only
 by_cases c1:t1=0
 ·subst c1
  simp only [ne_eq,not_true_eq_false,if_false]
  generalize reckonP i (regOf s1.regs i.b) (regOf s1.regs i.c)=R
  obtain ⟨v,t2,ok⟩:=R
  simp only
  by_cases c2:t2=0
  ·subst c2
   simp only [not_true_eq_false,if_false]
  ·simp only [c2,not_false_eq_true,if_true]
 ·simp only [ne_eq,c1,not_false_eq_true,if_true]
theorem stepP_out2 (code:List Ins) (s:MS) (h:s.at_<0∨s.at_≥code.length):stepP code s=(s,2):=by
 unfold stepP
 by_cases h0:s.at_<0
 ·rw [if_pos h0]
 ·rw [if_neg h0,if_pos (by omega)]
theorem stepD_next (code:List Ins) (d:DS):(stepD code d).1.next=nxtP d.regs d.next (fetchL code d.at_):=rfl

theorem nxt_plain (regs:List Int) (a:Int) (l:La) (h:l.i.op<15∨19<l.i.op):nxtP regs a l=IntKind.wrap .i64 (a+1):=by
 unfold nxtP; simp only []
 split
 ·rfl
 rw [if_neg (by omega),if_neg (by omega),if_neg (by omega)]
theorem nextP_calm (s:MS) (i:Ins) (h:i.op<15∨19<i.op):nextP s i=(s,IntKind.wrap .i64 (s.at_+1)):=by
 unfold nextP
 simp only
 rw [if_neg (by omega),if_neg (by omega),if_neg (by omega),if_neg (by omega)]

theorem runG_stop2 (code:List Ins) (n:Nat) {x:MS × Int × Int} (h:x.2.1≠0):runG code n x=x:=by
 obtain ⟨s,t,k⟩:=x
 cases n with
 | zero=>rfl
 | succ n=>simp only [runG]; rw [if_neg h]
theorem runDG_add (code:List Ins):∀ (n k:Nat) (x:DS × Int × Int),runDG code (n+k) x=runDG code k (runDG code n x)
 | 0,k,x=>by rw [Nat.zero_add]; rfl
 | n+1,k,(s,t,j)=>by
  rw [show n+1+k=(n+k)+1 by omega]
  by_cases h:t=0
  ·simp only [runDG,if_pos h]; exact runDG_add code n k _
  ·rw [runDG_stop code _ h,runDG_stop code (n+1) h,runDG_stop code k h]
theorem runG_add2 (code:List Ins):∀ (n k:Nat) (x:MS × Int × Int),runG code (n+k) x=runG code k (runG code n x)
 | 0,k,x=>by rw [Nat.zero_add]; rfl
 | n+1,k,(s,t,j)=>by
  rw [show n+1+k=(n+k)+1 by omega]
  by_cases h:t=0
  ·simp only [runG,if_pos h]; exact runG_add2 code n k _
  ·rw [runG_stop2 code _ h,runG_stop2 code (n+1) h,runG_stop2 code k h]
end Go.Proofs.YtkfemiloehkmhaaGreat.S

set_option linter.unusedSimpArgs false
set_option linter.unusedVariables false
set_option maxRecDepth 100000
namespace Go.Proofs.YtkfemiloehkmhaaGreat.S
open Go Go.RowKit Go.Alog Go.Proofs.YtkfemiloehkmhaaGreat.T Go.Proofs.YtkfemiloehkmhaaGreat.V

theorem doP_go (s:MS) (i:Ins) (h:15≤i.op∧i.op≤19):doP s i=(s,0):=by
 have ha:actP s i=(s,0):=by
  unfold actP
  simp only []
  rw [if_neg (by omega),if_neg (by omega),if_neg (by omega),if_neg (by omega)]
 unfold doP
 simp only [ha,reck_no i _ _ (show ¬ (1≤i.op∧i.op≤11) by omega)]
 simp
end Go.Proofs.YtkfemiloehkmhaaGreat.S

set_option linter.unusedSimpArgs false
set_option linter.unusedVariables false
set_option maxRecDepth 100000
namespace Go.Proofs.YtkfemiloehkmhaaGreat.S
open Go Go.RowKit Go.Alog Go.Proofs.YtkfemiloehkmhaaGreat.T Go.Proofs.YtkfemiloehkmhaaGreat.V

def nopI:Ins:=⟨0,0,0,0,0⟩
theorem stepD_nop (code:List Ins) (d:DS) (hf:fetchL code d.at_ = { La0 with full:=true,at_:=d.at_,i:=nopI }) :
  stepD code d=(⟨wrA d.late d.regs,d.mem,d.next,IntKind.wrap .i64 (d.next+1),d.inp,d.out,La0⟩,0):=by
 have hR:rightR nopI=true:=by decide +kernel
 have hL:lateP nopI=false:=by decide +kernel
 unfold stepD
 simp only []
 rw [hf]
 have e:stL { La0 with full:=true,at_:=d.at_,i:=nopI } La0 d.regs=⟨true,nopI,d.at_,0,0,regOf d.regs 0,w32 (regOf d.regs 0+0),0⟩:=by
  unfold stL
  rw [if_pos ⟨rfl,rfl⟩]
  unfold stage3
  simp only [early0,reck_no nopI _ _ (show ¬ (1≤(0:Int)∧(0:Int)≤11) by decide)]
  rw [if_neg (show ¬ (nopI.op=14) by decide),if_neg (show ¬ (nopI.op=18) by decide),if_neg (show ¬ (nopI.op=20) by decide)]
  have:writesP nopI=0:=by decide +kernel
  rw [this]
  rfl
 rw [e]
 have ea:actD d.mem d.inp d.out ⟨true,nopI,d.at_,0,0,regOf d.regs 0,w32 (regOf d.regs 0+0),0⟩=(⟨[],d.mem,0,d.inp,d.out,La0,La0,La0,⟨true,nopI,d.at_,0,0,regOf d.regs 0,w32 (regOf d.regs 0+0),0⟩⟩,0):=rfl
 rw [ea]
 simp only [hL]
 rw [nxt_plain _ _ _ (.inl (show nopI.op<15 by decide))]
 rfl

theorem nextP_br (s:MS) (i:Ins) (h:i.op=15∨i.op=16):nextP s i=(s,if (regOf s.regs i.a == regOf s.regs i.b) == (i.op == 15) then IntKind.wrap .i64 (IntKind.wrap .i64 (s.at_+1)+i.imm) else IntKind.wrap .i64 (s.at_+1)):=by
 unfold nextP
 simp only
 rw [if_pos h]
theorem nxt_br (regs:List Int) (a:Int) (l:La) (hf:l.full=true) (ht:l.trap=0) (h:l.i.op=15∨l.i.op=16):nxtP regs a l=if (regOf regs l.i.a == regOf regs l.i.b) == (l.i.op == 15) then IntKind.wrap .i64 (IntKind.wrap .i64 (l.at_+1)+l.i.imm) else IntKind.wrap .i64 (a+1):=by
 unfold nxtP
 simp only []
 rw [if_neg (by simp [hf,ht]),if_pos h]
end Go.Proofs.YtkfemiloehkmhaaGreat.S

