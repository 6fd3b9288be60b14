/- YtkfemiloehkmhaaGreat: a text of our own, by an AI agent: P7BY -/
import Derived.Test.YtkfemiloehkmhaaGreatMaBY
import Derived.Test.YtkfemiloehkmhaaGreatVLaw7Y
import Derived.Test.YtkfemiloehkmhaaGreatP8hY
set_option linter.unusedSimpArgs false
set_option linter.unusedVariables false
set_option maxRecDepth 100000
namespace Go.Proofs.YtkfemiloehkmhaaGreat.S
open Go Go.RowKit Go.Alog Go.Proofs.YtkfemiloehkmhaaGreat.T Go.Proofs.YtkfemiloehkmhaaGreat.V

theorem nextP_out (s:MS) (i:Ins):(nextP s i).1.out=s.out:=by
 unfold nextP
 simp only
 repeat' split
 all_goals rfl
theorem runG_steps (code:List Ins):∀ (n:Nat) (x:MS × Int × Int),x.2.2≤(runG code n x).2.2∧(runG code n x).2.2≤x.2.2+n∧((runG code n x).2.1=0→(runG code n x).2.2=x.2.2+n)
 | 0,x=>⟨Int.le_refl _,by simp [runG],fun _=>by simp [runG]⟩
 | n+1,(s,t,k)=>by
  unfold runG
  split
  ·obtain ⟨h1,h2,h3⟩:=runG_steps code n ((stepP code s).1,(stepP code s).2,k+1)
   simp only at h1 h2 h3 ⊢
   exact ⟨by omega,by omega,fun h=>by rw [h3 h]; omega⟩
  ·rename_i h
   exact ⟨Int.le_refl _,by simp only; omega,fun h'=>absurd h' h⟩

end Go.Proofs.YtkfemiloehkmhaaGreat.S

set_option linter.unusedSimpArgs false
set_option linter.unusedVariables false
set_option maxRecDepth 100000
namespace Go.Proofs.YtkfemiloehkmhaaGreat.S
open Go Go.RowKit Go.Alog Go.Proofs.YtkfemiloehkmhaaGreat.T Go.Proofs.YtkfemiloehkmhaaGreat.V

theorem actP_outlen (s:MS) (i:Ins) (h:s.out.length≤10000):(actP s i).1.out.length≤10000:=by
 unfold actP
 simp only
 split
 ·split <;> exact h
 split
 ·split <;> exact h
 split
 ·split <;> exact h
 split
 ·unfold sysP
  split
  ·exact h
  split
  ·cases s.inp <;> exact h
  split
  ·split
   ·exact h
   ·simp; omega
  ·exact h
 ·exact h
theorem stepP_outlen (code:List Ins) (s:MS) (h:s.out.length≤10000):(stepP code s).1.out.length≤10000:=by
 unfold stepP
 simp only
 split
 ·exact h
 split
 ·exact h
 split
 ·exact h
 split
 ·exact actP_outlen _ _ h
 split
 ·exact actP_outlen _ _ h
 ·show ((nextP _ _).1.out).length≤_
  rw [nextP_out]
  split <;> exact actP_outlen _ _ h
theorem runG_outlen (code:List Ins):∀ (n:Nat) (x:MS × Int × Int),x.1.out.length≤10000→(runG code n x).1.out.length≤10000
 | 0,x,h=>h
 | n+1,(s,t,k),h=>by
  unfold runG
  split
  ·exact runG_outlen code n _ (stepP_outlen code s h)
  ·exact h
theorem usedP_len (l:List Int):(usedP l).length≤l.length:=by
 unfold usedP
 rw [List.length_reverse]
 have:=(List.dropWhile_sublist (l:=l.reverse) (fun x=>x == 0)).length_le
 rwa [List.length_reverse] at this
theorem runP_len (code:List Ins) (mem:Int) (inp:List Int) (fuel:Int):(runP code mem inp fuel).out.length≤1000000∧(runP code mem inp fuel).mem.length≤1000000:=by
 unfold runP
 split
 ·simp
 ·rename_i h
  have h1:=runG_outlen code fuel.toNat (beginS mem inp,0,0) (by simp [beginS])
  have h2:=runG_mem code fuel.toNat (beginS mem inp,0,0)
  have h3:=usedP_len (runG code fuel.toNat (beginS mem inp,0,0)).1.mem
  refine ⟨by show (runG code fuel.toNat (beginS mem inp,0,0)).1.out.length≤1000000; omega,?_⟩
  show (usedP _).length≤1000000
  rw [h2] at h3
  have:(beginS mem inp).mem.length≤32000:=by simp [beginS]; omega
  exact Nat.le_trans h3 (by show (beginS mem inp).mem.length≤1000000; omega)
end Go.Proofs.YtkfemiloehkmhaaGreat.S

set_option linter.unusedSimpArgs false
set_option linter.unusedVariables false
set_option maxRecDepth 100000
namespace Go.Proofs.YtkfemiloehkmhaaGreat.S
open Go Go.RowKit Go.Alog Go.Proofs.YtkfemiloehkmhaaGreat.T Go.Proofs.YtkfemiloehkmhaaGreat.V

theorem int_cell {m:AM} {a:Addr} {l:List Int} (h:Cells m a (intCells .i64 l)) {i:Int} (h0:0≤i) (h1:i<l.length):m.cell (a.add (i.toNat*1))=some (.int .i64 (l.getD i.toNat 0)):=by
 have hlt:i.toNat<l.length:=by omega
 refine h _ _ ?_
 simp [intCells,hlt,List.getD]

theorem same_of {l r:List Int} (hl:l.length=r.length) (h:∀ j,j<l.length→l.getD j 0=r.getD j 0):l=r:=by
 apply List.ext_getElem hl
 intro j h1 h2
 have:=h j h1
 simpa [List.getD,h1,h2] using this

theorem equal_spec (w0:World) (m:AM) (a b:Res) (Ao Am Bo Bm:Option Addr) (co cm do_ dm:Nat) (hao:Reads m 1 Ao a.out.length (intCells .i64 a.out)) (ham:Reads m 1 Am a.mem.length (intCells .i64 a.mem)) (hbo:Reads m 1 Bo b.out.length (intCells .i64 b.out)) (hbm:Reads m 1 Bm b.mem.length (intCells .i64 b.mem)) (hl:a.out.length≤1000000∧a.mem.length≤1000000) :
  CallsA Tryz.prog w0 9 #[.agg #[.int .i64 a.trap,.int .i64 a.steps,.slice Ao a.out.length co,.slice Am a.mem.length cm],.agg #[.int .i64 b.trap,.int .i64 b.steps,.slice Bo b.out.length do_,.slice Bm b.mem.length dm]] m (fun r m'=>r=.bool (decide (a=b))∧m.le m'):=by
 refine cf9 w0 m _ _ _ _ _ _ _ _ _ _ _ _ _ _ _ _ _ ?_
 intro b1 hb1 hm1 M1
 have l1:m.le M1:=le_new hm1 _
 have p1:M1 b1=some (.cells #[.int .i64 a.trap,.int .i64 a.steps,.slice Ao a.out.length co,.slice Am a.mem.length cm] 33):=upd_get_same
 clear_value M1
 intro b3 hb3 hm3 M
 have l3:M1.le M:=le_new hm3 _
 have p3:M b3=some (.cells #[.int .i64 b.trap,.int .i64 b.steps,.slice Bo b.out.length do_,.slice Bm b.mem.length dm] 33):=upd_get_same
 clear_value M
 replace p1:=l3 _ _ p1
 have L:=AM.le_trans l1 l3
 have no:∀ (P:Prop),(a=b→False)→RetP (fun r m'=>r=Value.bool (decide (a=b))∧m.le m') (.bool false) M:=fun _ h=>retP_of ⟨by rw [decide_eq_false (fun e=>h e)],L⟩
 simp only [cell_of p1,cell_of p3,std_all,LI_,LB_,LA_,SI_,pt_,KI_]
 by_cases ht:a.trap=b.trap
 ·by_cases hs:a.steps=b.steps
  ·by_cases ho:a.out.length=b.out.length
   ·by_cases hm:a.mem.length=b.mem.length
    ·have e1:(a.trap != b.trap)=false:=by simp [ht]
     have e2:(a.steps != b.steps)=false:=by simp [hs]
     have e3:(((a.out.length:Nat):Int) != ((b.out.length:Nat):Int))=false:=by simp [ho]
     have e4:(((a.mem.length:Nat):Int) != ((b.mem.length:Nat):Int))=false:=by simp [hm]
     simp only [e1,e2,e3,e4,std_all,sto_all,Nat.reduceAdd,Nat.reduceLT,LI_,LB_,LA_,SI_,pt_,KI_]
     have reads:∀ {A:Option Addr} {l:List Int} {i:Int},Reads m 1 A l.length (intCells .i64 l)→0≤i→i<l.length→∃ ad,A=some ad∧M.cell (ad.add (i.toNat*1))=some (.int .i64 (l.getD i.toNat 0)):=by
      intro A l i hr h0 h1
      obtain ⟨ad,hA,hc⟩:=(hr.le L).ex (by omega)
      exact ⟨ad,hA,int_cell hc h0 h1⟩
     refine vl9_11010 w0 M _ _ b1 b3 0 (fun k i m'=>m'=M∧0≤i∧i≤a.out.length∧(k:Int)=a.out.length-i∧∀ j,j<i.toNat→a.out.getD j 0=b.out.getD j 0) (fun m'=>m'=M∧a.out=b.out) a.out.length rfl rfl rfl ⟨rfl,by omega,by omega,by omega,by intro j hj; omega⟩ ?_ ?_
     ·rintro k σ i m' ⟨rfl,h0,h1,hk,hj⟩
      simp only [cell_of p1,cell_of p3,std_all,sto_all,Nat.reduceAdd,Nat.reduceLT,LI_,LB_,LA_,SI_,pt_,KI_]
      by_cases c1:i<a.out.length
      ·simp only [decide_eq_true c1,std_all,sto_all,Nat.reduceAdd,Nat.reduceLT,LI_,LB_,LA_,SI_,pt_,KI_]
       obtain ⟨x,rfl,hx⟩:=reads hao h0 c1
       obtain ⟨y,rfl,hy⟩:=reads hbo h0 (by omega:i<b.out.length)
       simp only [hx,hy,std_all,sto_all,Nat.reduceAdd,Nat.reduceLT,LI_,LB_,LA_,SI_,pt_,KI_]
       refine ⟨h0,c1,h0,by omega,?_⟩
       by_cases hxy:a.out.getD i.toNat 0=b.out.getD i.toNat 0
       ·have w:IntKind.wrap .i64 (i+1)=i+1:=by rw [IntKind.wrap_i64]; omega
        simp only [hxy,bne_self_eq_false,std_all,sto_all,Nat.reduceAdd,Nat.reduceLT,LI_,LB_,LA_,SI_,pt_,KI_,w]
        refine ⟨k-1,by omega,by omega,by omega,by omega,fun j hj2=>?_⟩
        by_cases e:j=i.toNat
        ·rw [e]; exact hxy
        ·exact hj j (by omega)
       ·have:(a.out.getD i.toNat 0 != b.out.getD i.toNat 0)=true:=by simpa using hxy
        simp only [this,std_all,sto_all,Nat.reduceAdd,Nat.reduceLT,LI_,LB_,LA_,SI_,pt_,KI_]
        exact no True fun e=>hxy (by rw [e])
      ·simp only [decide_eq_false c1,std_all,sto_all,Nat.reduceAdd,Nat.reduceLT,LI_,LB_,LA_,SI_,pt_,KI_]
       exact same_of ho fun j hj2=>hj j (by omega)
     ·rintro σ m' ⟨rfl,heq⟩
      refine vl9_111010 w0 m' _ _ b1 b3 0 (fun k i m2=>m2=m'∧0≤i∧i≤a.mem.length∧(k:Int)=a.mem.length-i∧∀ j,j<i.toNat→a.mem.getD j 0=b.mem.getD j 0) (fun m2=>m2=m'∧a.mem=b.mem) a.mem.length rfl rfl rfl ⟨rfl,by omega,by omega,by omega,by intro j hj; omega⟩ ?_ ?_
      ·rintro k σ i m2 ⟨rfl,h0,h1,hk,hj⟩
       simp only [cell_of p1,cell_of p3,std_all,sto_all,Nat.reduceAdd,Nat.reduceLT,LI_,LB_,LA_,SI_,pt_,KI_]
       by_cases c1:i<a.mem.length
       ·simp only [decide_eq_true c1,std_all,sto_all,Nat.reduceAdd,Nat.reduceLT,LI_,LB_,LA_,SI_,pt_,KI_]
        obtain ⟨x,rfl,hx⟩:=reads ham h0 c1
        obtain ⟨y,rfl,hy⟩:=reads hbm h0 (by omega:i<b.mem.length)
        simp only [hx,hy,std_all,sto_all,Nat.reduceAdd,Nat.reduceLT,LI_,LB_,LA_,SI_,pt_,KI_]
        refine ⟨h0,c1,h0,by omega,?_⟩
        by_cases hxy:a.mem.getD i.toNat 0=b.mem.getD i.toNat 0
        ·have w:IntKind.wrap .i64 (i+1)=i+1:=by rw [IntKind.wrap_i64]; omega
         simp only [hxy,bne_self_eq_false,std_all,sto_all,Nat.reduceAdd,Nat.reduceLT,LI_,LB_,LA_,SI_,pt_,KI_,w]
         refine ⟨k-1,by omega,by omega,by omega,by omega,fun j hj2=>?_⟩
         by_cases e:j=i.toNat
         ·rw [e]; exact hxy
         ·exact hj j (by omega)
        ·have:(a.mem.getD i.toNat 0 != b.mem.getD i.toNat 0)=true:=by simpa using hxy
         simp only [this,std_all,sto_all,Nat.reduceAdd,Nat.reduceLT,LI_,LB_,LA_,SI_,pt_,KI_]
         exact no True fun e=>hxy (by rw [e])
       ·simp only [decide_eq_false c1,std_all,sto_all,Nat.reduceAdd,Nat.reduceLT,LI_,LB_,LA_,SI_,pt_,KI_]
        exact same_of hm fun j hj2=>hj j (by omega)
      ·rintro σ m2 ⟨rfl,hmeq⟩
       refine retP_of ⟨?_,L⟩
       rw [decide_eq_true]
       cases a; cases b
       simp_all
    ·have e1:(a.trap != b.trap)=false:=by simp [ht]
     have e2:(a.steps != b.steps)=false:=by simp [hs]
     have e3:(((a.out.length:Nat):Int) != ((b.out.length:Nat):Int))=false:=by simp [ho]
     have e4:(((a.mem.length:Nat):Int) != ((b.mem.length:Nat):Int))=true:=by simp; omega
     simp only [e1,e2,e3,e4,std_all,sto_all,Nat.reduceAdd,Nat.reduceLT,LI_,LB_,LA_,SI_,pt_,KI_]
     exact no True fun e=>hm (by rw [e])
   ·have e1:(a.trap != b.trap)=false:=by simp [ht]
    have e2:(a.steps != b.steps)=false:=by simp [hs]
    have e3:(((a.out.length:Nat):Int) != ((b.out.length:Nat):Int))=true:=by simp; omega
    simp only [e1,e2,e3,std_all,sto_all,Nat.reduceAdd,Nat.reduceLT,LI_,LB_,LA_,SI_,pt_,KI_]
    exact no True fun e=>ho (by rw [e])
  ·have e1:(a.trap != b.trap)=false:=by simp [ht]
   have e2:(a.steps != b.steps)=true:=by simp [hs]
   simp only [e1,e2,std_all,sto_all,Nat.reduceAdd,Nat.reduceLT,LI_,LB_,LA_,SI_,pt_,KI_]
   exact no True fun e=>hs (by rw [e])
 ·have e1:(a.trap != b.trap)=true:=by simp [ht]
  simp only [e1,std_all,sto_all,Nat.reduceAdd,Nat.reduceLT,LI_,LB_,LA_,SI_,pt_,KI_]
  exact no True fun e=>ht (by rw [e])
end Go.Proofs.YtkfemiloehkmhaaGreat.S

set_option linter.unusedSimpArgs false
set_option linter.unusedVariables false
set_option maxRecDepth 100000
namespace Go.Proofs.YtkfemiloehkmhaaGreat.S
open Go Go.RowKit Go.Alog Go.Proofs.YtkfemiloehkmhaaGreat.T Go.Proofs.YtkfemiloehkmhaaGreat.V

theorem runPG_stop (code:List Ins) (n:Nat) {x:PS × Int × Int} (h:x.2.1≠0):runPG code n x=x:=by
 obtain ⟨s,t,k⟩:=x
 cases n with
 | zero=>rfl
 | succ n=>simp only [runPG]; rw [if_neg h]
theorem runPG_add (code:List Ins):∀ (n k:Nat) (x:PS × Int × Int),runPG code (n+k) x=runPG code k (runPG code n x)
 | 0,k,x=>by rw [Nat.zero_add]; rfl
 | n+1,k,(s,t,j)=>by
  rw [show n+1+k=(n+k)+1 by omega]
  by_cases h:t=0
  ·simp only [runPG,if_pos h]; exact runPG_add code n k _
  ·rw [runPG_stop code _ h,runPG_stop code (n+1) h,runPG_stop code k h]
theorem runPG_one (code:List Ins) (n:Nat) (s:PS) (k:Int):runPG code (n+1) (s,0,k)=runPG code n ((cycleP code s).1,(cycleP code s).2,k+1):=by simp [runPG]

theorem cycle_empty (code:List Ins) (s:PS) (ha:s.a=La0) (hk:s.k=La0):cycleP code s=({ s with r:=s.f,k:=if s.r.full=true∧s.r.trap=0 then stage3 s.r La0 s.regs else s.r,f:=fetchL code s.at_,at_:=nextF { s with f:=La0,r:=s.f,k:=if s.r.full=true∧s.r.trap=0 then stage3 s.r La0 s.regs else s.r } s.f },0):=by
 obtain ⟨regs,mem,at_,inp,out,f,r,k,a⟩:=s
 simp only at ha hk
 subst ha hk
 rfl
end Go.Proofs.YtkfemiloehkmhaaGreat.S

