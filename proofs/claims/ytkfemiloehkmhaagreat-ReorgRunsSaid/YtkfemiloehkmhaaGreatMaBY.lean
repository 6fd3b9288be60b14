/- YtkfemiloehkmhaaGreat: a text of our own, by an AI agent: MaBY -/
import Derived.Test.YtkfemiloehkmhaaGreatWiBY
import Derived.Test.YtkfemiloehkmhaaGreatVaBY
import Derived.Test.YtkfemiloehkmhaaGreatVSeqY
set_option linter.unusedSimpArgs false
set_option linter.unusedVariables false
namespace Go.Proofs.YtkfemiloehkmhaaGreat.S
open Go Go.RowKit Go.Alog Go.Proofs.YtkfemiloehkmhaaGreat.T Go.Proofs.YtkfemiloehkmhaaGreat.V

theorem wrapW (w0:World) (m:AM) (n:Int):CallsA Tryz.prog w0 54 #[.int .i64 n] m (fun r m'=>r=.int .i64 (w32 n)∧m'=m) :=
 cf54 w0 m n _ (retP_of ⟨by rw [← w64_w32]; rfl,rfl⟩)

theorem addW (w0:World) (m:AM) (a b:Int):CallsA Tryz.prog w0 51 #[.int .i64 a,.int .i64 b] m (fun r m'=>r=.int .i64 (w32 (a+b))∧m'=m):=by
 refine cf51 w0 m a b _ ?_
 refine ⟨rfl,CallsA.mono (wrapW w0 m _) ?_⟩
 rintro r m' ⟨rfl,rfl⟩
 exact ⟨_,rfl,retP_of ⟨by rw [w32_w64],rfl⟩⟩

theorem divW (w0:World) (m:AM) (a b:Int):CallsA Tryz.prog w0 56 #[.int .i64 a,.int .i64 b] m (fun r m'=>(if w32 b=0 then r=.tuple #[.int .i64 0,.int .i64 0,.bool false] else r=.tuple #[.int .i64 (w32 ((w32 a).tdiv (w32 b))),.int .i64 ((w32 a).tmod (w32 b)),.bool true])∧m'=m):=by
 refine cf56 w0 m a b _ ?_
 refine CallsA.mono (wrapW w0 m a) ?_
 rintro r m1 ⟨rfl,rfl⟩
 refine ⟨_,rfl,CallsA.mono (wrapW w0 _ b) ?_⟩
 rintro r m1 ⟨rfl,rfl⟩
 refine ⟨_,rfl,?_⟩
 by_cases h:w32 b=0
 ·simp only [h,beq_self_eq_true,std_all,sto_all,Nat.reduceAdd,Nat.reduceLT,LI_,LB_,LA_,SI_,pt_,KI_,if_true]
  exact retP_of ⟨rfl,rfl⟩
 ·have hb:(w32 b == 0)=false:=by simpa using h
  simp only [hb,std_all,sto_all,Nat.reduceAdd,Nat.reduceLT,LI_,LB_,LA_,SI_,pt_,KI_,if_neg h]
  refine ⟨h,CallsA.mono (wrapW w0 _ _) ?_⟩
  rintro r m1 ⟨rfl,rfl⟩
  exact ⟨_,rfl,h,retP_of ⟨by rw [w32_w64],rfl⟩⟩
end Go.Proofs.YtkfemiloehkmhaaGreat.S

set_option linter.unusedSimpArgs false
set_option linter.unusedVariables false
set_option maxRecDepth 100000
namespace Go.Proofs.YtkfemiloehkmhaaGreat.S
open Go Go.RowKit Go.Alog Go.Proofs.YtkfemiloehkmhaaGreat.T Go.Proofs.YtkfemiloehkmhaaGreat.V

def andI (a b:Int):Int:=IntKind.wrap .i64 ((BitVec.ofInt (IntKind.bits .i64) a &&& BitVec.ofInt (IntKind.bits .i64) b).toNat:Int)
def orI (a b:Int):Int:=IntKind.wrap .i64 ((BitVec.ofInt (IntKind.bits .i64) a ||| BitVec.ofInt (IntKind.bits .i64) b).toNat:Int)
def truthI (b:Bool):Int:=if b then 1 else 0
def reckP (i:Ins) (b c:Int):Option Int :=
 if i.op=1 then some (IntKind.wrap .i64 (b+c)) else if i.op=2 then some (IntKind.wrap .i64 (b-c)) else if i.op=3 then some (IntKind.wrap .i64 (b*c))
 else if i.op=6 then some (andI b c) else if i.op=7 then some (orI b c) else if i.op=8 then some (truthI (decide (b<c))) else if i.op=9 then some (truthI (b == c))
 else if i.op=10 then some (IntKind.wrap .i64 (b+i.imm)) else if i.op=11 then some (IntKind.wrap .i64 (i.imm*65536)) else none

theorem truth_spec (w0:World) (m:AM) (b:Bool):CallsA Tryz.prog w0 75 #[.bool b] m (fun r m'=>r=.int .i64 (truthI b)∧m'=m):=by
 refine cf75 w0 m b _ ?_
 cases b
 ·simp only [bcase_f]; exact retP_of ⟨rfl,rfl⟩
 ·simp only [bcase_t]; exact retP_of ⟨rfl,rfl⟩

theorem reckon_spec (w0:World) (m:AM) (i:Ins) (b c:Int):CallsA Tryz.prog w0 55 #[i.val,.int .i64 b,.int .i64 c] m (fun r m'=>r=.tuple #[.int .i64 ((reckP i b c).getD 0),.bool (reckP i b c).isSome]∧m.le m'):=by
 refine cf55 w0 m _ _ _ _ _ b c _ ?_
 intro b1 hb1 hm1 M
 have l1:m.le M:=le_new hm1 _
 have p1:M b1=some (.cells i.cells.toArray 36):=upd_get_same
 clear_value M
 have e0:∀ k:Int,(i.op == k)=decide (i.op=k):=fun k=>rfl
 simp only [cell_of p1,Ins.cells,std_all,sto_all,Nat.reduceAdd,Nat.reduceLT,LI_,LB_,LA_,SI_,pt_,KI_,e0]
 unfold reckP
 by_cases c1:i.op=1
 ·simp only [decide_eq_true c1,if_pos c1,bcase_t,Option.isSome_some,Option.getD_some]; exact retP_of ⟨rfl,l1⟩
 simp only [decide_eq_false c1,if_neg c1,bcase_f]
 by_cases c2:i.op=2
 ·simp only [decide_eq_true c2,if_pos c2,bcase_t,Option.isSome_some,Option.getD_some]; exact retP_of ⟨rfl,l1⟩
 simp only [decide_eq_false c2,if_neg c2,bcase_f]
 by_cases c3:i.op=3
 ·simp only [decide_eq_true c3,if_pos c3,bcase_t,Option.isSome_some,Option.getD_some]; exact retP_of ⟨rfl,l1⟩
 simp only [decide_eq_false c3,if_neg c3,bcase_f]
 by_cases c6:i.op=6
 ·simp only [decide_eq_true c6,if_pos c6,bcase_t,Option.isSome_some,Option.getD_some]; exact retP_of ⟨rfl,l1⟩
 simp only [decide_eq_false c6,if_neg c6,bcase_f]
 by_cases c7:i.op=7
 ·simp only [decide_eq_true c7,if_pos c7,bcase_t,Option.isSome_some,Option.getD_some]; exact retP_of ⟨rfl,l1⟩
 simp only [decide_eq_false c7,if_neg c7,bcase_f]
 by_cases c8:i.op=8
 ·simp only [decide_eq_true c8,if_pos c8,bcase_t,Option.isSome_some,Option.getD_some]
  refine CallsA.mono (truth_spec w0 M _) ?_
  rintro r m' ⟨rfl,rfl⟩
  exact ⟨_,rfl,retP_of ⟨rfl,l1⟩⟩
 simp only [decide_eq_false c8,if_neg c8,bcase_f]
 by_cases c9:i.op=9
 ·simp only [decide_eq_true c9,if_pos c9,bcase_t,Option.isSome_some,Option.getD_some]
  refine CallsA.mono (truth_spec w0 M _) ?_
  rintro r m' ⟨rfl,rfl⟩
  exact ⟨_,rfl,retP_of ⟨rfl,l1⟩⟩
 simp only [decide_eq_false c9,if_neg c9,bcase_f]
 by_cases c10:i.op=10
 ·simp only [decide_eq_true c10,if_pos c10,bcase_t,Option.isSome_some,Option.getD_some]; exact retP_of ⟨rfl,l1⟩
 simp only [decide_eq_false c10,if_neg c10,bcase_f]
 by_cases c11:i.op=11
 ·simp only [decide_eq_true c11,if_pos c11,bcase_t,Option.isSome_some,Option.getD_some]
  exact ⟨by decide,retP_of ⟨rfl,l1⟩⟩
 simp only [decide_eq_false c11,if_neg c11,bcase_f,Option.isSome_none,Option.getD_none]
 exact retP_of ⟨rfl,l1⟩

def reckonP (i:Ins) (b c:Int):Int × Int × Bool :=
 if rightR i=false then (0,0,false)
 else match reckP i (w32 b) (w32 c) with
  | some v=>(w32 v,0,true)
  | none=>if i.op≠4∧i.op≠5 then (0,0,false) else if w32 c=0 then (0,4,true) else if i.op=5 then ((w32 b).tmod (w32 c),0,true) else (w32 ((w32 b).tdiv (w32 c)),0,true)

theorem Reckon_spec (w0:World) (m:AM) (i:Ins) (b c:Int):CallsA Tryz.prog w0 33 #[i.val,.int .i64 b,.int .i64 c] m (fun r m'=>r=.tuple #[.int .i64 (reckonP i b c).1,.int .i64 (reckonP i b c).2.1,.bool (reckonP i b c).2.2]∧m.le m'):=by
 refine cf33 w0 m _ _ _ _ _ b c _ ?_
 intro b1 hb1 hm1 M
 have l1:m.le M:=le_new hm1 _
 have p1:M b1=some (.cells i.cells.toArray 36):=upd_get_same
 clear_value M
 refine CallsA.mono (wrapW w0 M b) ?_
 rintro r m1 ⟨rfl,rfl⟩
 refine ⟨_,rfl,CallsA.mono (wrapW w0 _ c) ?_⟩
 rintro r m1 ⟨rfl,rfl⟩
 refine ⟨_,rfl,?_⟩
 simp only [cell_of p1,Ins.cells,std_all,sto_all,Nat.reduceAdd,Nat.reduceLT,LI_,LB_,LA_,SI_,pt_,KI_]
 refine CallsA.mono (reckon_spec w0 _ i _ _) ?_
 rintro r m2 ⟨rfl,l2⟩
 have p2:=l2 _ _ p1
 refine ⟨_,_,rfl,?_⟩
 simp only [cell_of p2,Ins.cells,std_all,sto_all,Nat.reduceAdd,Nat.reduceLT,LI_,LB_,LA_,SI_,pt_,KI_]
 refine CallsA.mono (isaRight w0 _ i) ?_
 rintro r m3 ⟨rfl,l3⟩
 have p3:=l3 _ _ p2
 have L:=AM.le_trans (AM.le_trans l1 l2) l3
 unfold reckonP
 cases hr:rightR i
 ·simp only [std_all,sto_all,Nat.reduceAdd,Nat.reduceLT,LI_,LB_,LA_,SI_,pt_,KI_,Bool.not_false,if_true]
  exact retP_of ⟨rfl,L⟩
 simp only [std_all,sto_all,Nat.reduceAdd,Nat.reduceLT,LI_,LB_,LA_,SI_,pt_,KI_,Bool.not_true,Bool.true_eq_false,if_false]
 cases hv:reckP i (w32 b) (w32 c) with
 | some v =>
  simp only [Option.isSome_some,Option.getD_some,std_all,sto_all,Nat.reduceAdd,Nat.reduceLT,LI_,LB_,LA_,SI_,pt_,KI_]
  refine CallsA.mono (wrapW w0 m3 v) ?_
  rintro r m4 ⟨rfl,rfl⟩
  exact ⟨_,rfl,retP_of ⟨rfl,L⟩⟩
 | none =>
  have e0:∀ k:Int,(i.op != k) = !decide (i.op=k):=fun k=>rfl
  have e1:∀ k:Int,(i.op == k)=decide (i.op=k):=fun k=>rfl
  simp only [Option.isSome_none,Option.getD_none,std_all,sto_all,Nat.reduceAdd,Nat.reduceLT,LI_,LB_,LA_,SI_,pt_,KI_,cell_of p3,Ins.cells,e0,e1]
  have dv:∀ (K:Value→AM→Prop),(w32 c=0→K (.tuple #[.int .i64 0,.int .i64 0,.bool false]) m3)→(w32 c≠0→K (.tuple #[.int .i64 (w32 ((w32 b).tdiv (w32 c))),.int .i64 ((w32 b).tmod (w32 c)),.bool true]) m3)→CallsA Tryz.prog w0 56 #[.int .i64 (w32 b),.int .i64 (w32 c)] m3 K:=by
   intro K h1 h2
   refine CallsA.mono (divW w0 m3 (w32 b) (w32 c)) ?_
   rintro r m4 ⟨h,rfl⟩
   rw [w32_w32,w32_w32] at h
   by_cases h0:w32 c=0
   ·rw [if_pos h0] at h; subst h; exact h1 h0
   ·rw [if_neg h0] at h; subst h; exact h2 h0
  by_cases c4:i.op=4
  ·simp only [decide_eq_true c4,decide_eq_false (show ¬ i.op=5 by omega),if_neg (show ¬ (¬ i.op=4∧¬ i.op=5) by omega),if_neg (show ¬ i.op=5 by omega),Bool.not_true,Bool.not_false,std_all,sto_all,Nat.reduceAdd,Nat.reduceLT,LI_,LB_,LA_,SI_,pt_,KI_]
   refine dv _ (fun h0=>?_) (fun h0=>?_)
   ·refine ⟨_,_,_,rfl,?_⟩
    simp only [if_pos h0,Bool.not_false,std_all,sto_all,Nat.reduceAdd,Nat.reduceLT,LI_,LB_,LA_,SI_,pt_,KI_]
    exact retP_of ⟨rfl,L⟩
   ·refine ⟨_,_,_,rfl,?_⟩
    simp only [if_neg h0,Bool.not_true,std_all,sto_all,Nat.reduceAdd,Nat.reduceLT,LI_,LB_,LA_,SI_,pt_,KI_,cell_of p3,Ins.cells,e1,decide_eq_false (show ¬ i.op=5 by omega)]
    exact retP_of ⟨rfl,L⟩
  ·by_cases c5:i.op=5
   ·simp only [decide_eq_false c4,decide_eq_true c5,if_neg (show ¬ (¬ i.op=4∧¬ i.op=5) by omega),if_pos c5,Bool.not_true,Bool.not_false,std_all,sto_all,Nat.reduceAdd,Nat.reduceLT,LI_,LB_,LA_,SI_,pt_,KI_]
    refine dv _ (fun h0=>?_) (fun h0=>?_)
    ·refine ⟨_,_,_,rfl,?_⟩
     simp only [if_pos h0,Bool.not_false,std_all,sto_all,Nat.reduceAdd,Nat.reduceLT,LI_,LB_,LA_,SI_,pt_,KI_]
     exact retP_of ⟨rfl,L⟩
    ·refine ⟨_,_,_,rfl,?_⟩
     simp only [if_neg h0,Bool.not_true,std_all,sto_all,Nat.reduceAdd,Nat.reduceLT,LI_,LB_,LA_,SI_,pt_,KI_,cell_of p3,Ins.cells,e1,decide_eq_true c5]
     exact retP_of ⟨rfl,L⟩
   ·simp only [decide_eq_false c4,decide_eq_false c5,if_pos (show (¬ i.op=4∧¬ i.op=5) from ⟨c4,c5⟩),Bool.not_true,Bool.not_false,std_all,sto_all,Nat.reduceAdd,Nat.reduceLT,LI_,LB_,LA_,SI_,pt_,KI_]
    exact retP_of ⟨rfl,L⟩
end Go.Proofs.YtkfemiloehkmhaaGreat.S

set_option linter.unusedSimpArgs false
set_option linter.unusedVariables false
set_option maxRecDepth 100000
namespace Go.Proofs.YtkfemiloehkmhaaGreat.S
open Go Go.RowKit Go.Alog Go.Proofs.YtkfemiloehkmhaaGreat.T Go.Proofs.YtkfemiloehkmhaaGreat.V

theorem Reads_fr {m m':AM} {sz:Nat} {A:Option Addr} {n:Nat} {xs:List Value} {fp:List Nat} (h:Reads m sz A n xs) (hf:Fr m m' fp) (hd:0<n→∀ k∈obl A,k∉fp):Reads m' sz A n xs:=by
 obtain ⟨h1,h2 | ⟨ad,h2,h3⟩⟩:=h
 ·exact ⟨h1,.inl h2⟩
 ·refine ⟨h1,.inr ⟨ad,h2,fun j u hu=>?_⟩⟩
  have hc:=h3 j u hu
  have hn:0<n:=by
   have h4:=(List.getElem?_eq_some_iff.1 hu).1
   rw [h1] at h4
   rcases Nat.eq_zero_or_pos n with h5 | h5
   ·rw [h5] at h4; simp at h4
   ·exact h5
  unfold AM.cell at hc ⊢
  have hb:(ad.add j).block=ad.block:=add_block ad j
  rw [hb] at hc ⊢
  cases hm:m ad.block with
  | none=>rw [hm] at hc; cases hc
  | some o =>
   rw [hm] at hc
   rw [hf _ _ hm (hd hn _ (by rw [h2]; simp [obl]))]
   exact hc

theorem Reads_known {m:AM} {sz:Nat} {A:Option Addr} {n:Nat} {xs:List Value} (h:Reads m sz A n xs) (hn:0<n) (hs:0<sz):∀ k∈obl A,m k≠none:=by
 obtain ⟨h1,h2 | ⟨ad,h2,h3⟩⟩:=h
 ·omega
 ·intro k hk hm
  subst h2
  simp [obl] at hk; subst hk
  have hl:0<xs.length:=by rw [h1]; exact Nat.mul_pos hn hs
  have hc:=h3 0 xs[0] (List.getElem?_eq_getElem hl)
  unfold AM.cell at hc
  have hb:(ad.add 0).block=ad.block:=add_block ad 0
  rw [hb,hm] at hc; cases hc

structure MS where
  regs : List Int
  mem : List Int
  at_ : Int
  inp : List Int
  out : List Int
 deriving Inhabited

def machL (Ac:Option Addr) (nc cc gm:Nat) (regs:List Int) (at_:Int) (Ai:Option Addr) (ni ci:Nat) (Ao:Option Addr) (no co:Nat):List Value :=
 .slice Ac nc cc :: .pointer (some ⟨gm,0,none⟩) :: (intCells .i64 regs ++ [.int .i64 at_,.slice Ai ni ci,.slice Ao no co])

section
variable {Ac:Option Addr} {nc cc gm:Nat} {regs:List Int} {at_:Int} {Ai:Option Addr} {ni ci:Nat} {Ao:Option Addr} {no co:Nat}
theorem machL_len (h:regs.length=32):(machL Ac nc cc gm regs at_ Ai ni ci Ao no co).length=37:=by simp [machL,intCells,h]
theorem machL_reg {k:Nat} {v:Int} (hk:regs[k]?=some v):(machL Ac nc cc gm regs at_ Ai ni ci Ao no co)[2+k]?=some (.int .i64 v):=by
 have hl:k<regs.length:=(List.getElem?_eq_some_iff.1 hk).1
 rw [show 2+k=k+1+1 by omega]
 unfold machL
 rw [List.getElem?_cons_succ,List.getElem?_cons_succ,List.getElem?_append_left (by simp [intCells]; exact hl)]
 simp [intCells,hk]
theorem machL_hi (h:regs.length=32) (j:Nat):(machL Ac nc cc gm regs at_ Ai ni ci Ao no co)[34+j]?=([.int .i64 at_,.slice Ai ni ci,.slice Ao no co]:List Value)[j]?:=by
 rw [show 34+j=32+j+1+1 by omega]
 unfold machL
 rw [List.getElem?_cons_succ,List.getElem?_cons_succ,List.getElem?_append_right (by simp [intCells,h])]
 congr 1
 simp [intCells,h]
theorem machL_34 (h:regs.length=32):(machL Ac nc cc gm regs at_ Ai ni ci Ao no co)[34]?=some (.int .i64 at_):=machL_hi h 0
theorem machL_35 (h:regs.length=32):(machL Ac nc cc gm regs at_ Ai ni ci Ao no co)[35]?=some (.slice Ai ni ci):=machL_hi h 1
theorem machL_36 (h:regs.length=32):(machL Ac nc cc gm regs at_ Ai ni ci Ao no co)[36]?=some (.slice Ao no co):=machL_hi h 2
theorem machL_setreg {k:Nat} {v:Int} (h:regs.length=32) (hk:k<32):(machL Ac nc cc gm regs at_ Ai ni ci Ao no co).set (2+k) (.int .i64 v)=machL Ac nc cc gm (regs.set k v) at_ Ai ni ci Ao no co:=by
 rw [show 2+k=k+1+1 by omega]
 unfold machL
 rw [List.set_cons_succ,List.set_cons_succ,List.set_append_left _ _ (by simp [intCells,h]; exact hk)]
 simp [intCells,List.map_set]
theorem machL_setat {v:Int} (h:regs.length=32):(machL Ac nc cc gm regs at_ Ai ni ci Ao no co).set 34 (.int .i64 v)=machL Ac nc cc gm regs v Ai ni ci Ao no co:=by
 unfold machL
 rw [show 34=32+1+1 by omega,List.set_cons_succ,List.set_cons_succ,List.set_append_right _ _ (by simp [intCells,h])]
 simp [intCells,h]
theorem machL_setin {A:Option Addr} {n c:Nat} (h:regs.length=32):(machL Ac nc cc gm regs at_ Ai ni ci Ao no co).set 35 (.slice A n c)=machL Ac nc cc gm regs at_ A n c Ao no co:=by
 unfold machL
 rw [show 35=33+1+1 by omega,List.set_cons_succ,List.set_cons_succ,List.set_append_right _ _ (by simp [intCells,h])]
 simp [intCells,h]
theorem machL_setout {A:Option Addr} {n c:Nat} (h:regs.length=32):(machL Ac nc cc gm regs at_ Ai ni ci Ao no co).set 36 (.slice A n c)=machL Ac nc cc gm regs at_ Ai ni ci A n c:=by
 unfold machL
 rw [show 36=34+1+1 by omega,List.set_cons_succ,List.set_cons_succ,List.set_append_right _ _ (by simp [intCells,h])]
 simp [intCells,h]
end

structure SeqR (m:AM) (B g:Nat) (code:List Ins) (s:MS) (fp:List Nat) (Ac:Option Addr) (cc gm:Nat) (Ai:Option Addr) (ci:Nat) (Ao:Option Addr) (co:Nat) (Aw:Option Addr) (cw:Nat):Prop where
 hg:m g=some (.cells (machL Ac code.length cc gm s.regs s.at_ Ai s.inp.length ci Ao s.out.length co).toArray 53)
 hB:B≤g
 hr:s.regs.length=32
 hc:Reads m 5 Ac code.length (insCells code)
 hm:m gm=some (.cells #[.slice Aw s.mem.length cw] 75)
 hw:Own m B 3 1 Aw s.mem.length cw (intCells .i64 s.mem)
 hi:Reads m 1 Ai s.inp.length (intCells .i64 s.inp)
 hic:s.inp.length≤ci
 ho:Own m B 3 1 Ao s.out.length co (intCells .i64 s.out)
 hfp:fp=g :: (obl Aw ++ obl Ao)
 dwo:∀ k∈obl Aw,k∉obl Ao
 dc:0<code.length→∀ k∈obl Ac,k∉fp
 di:0<s.inp.length→∀ k∈obl Ai,k∉fp
 dm:gm∉fp
 ti:0<s.inp.length→∀ k∈obl Ai,∃ c,m k=some (.cells c 3)
def SeqM (m:AM) (B g gm:Nat) (code:List Ins) (s:MS) (fp:List Nat):Prop:=∃ Ac cc Ai ci Ao co Aw cw,SeqR m B g code s fp Ac cc gm Ai ci Ao co Aw cw
def SPost (w0:World) (m:AM) (g gm:Nat) (fp:List Nat) (code:List Ins) (s:MS) (m':AM):Prop :=
 ∃ fp',SeqM m' w0.heap.size g gm code s fp'∧Fr m m' fp∧∀ k∈fp',k∈fp∨m k=none

theorem SeqM.le {m m':AM} {B g gm:Nat} {code:List Ins} {s:MS} {fp:List Nat} (h:SeqM m B g gm code s fp) (hl:m.le m'):SeqM m' B g gm code s fp:=by
 obtain ⟨Ac,cc,Ai,ci,Ao,co,Aw,cw,h⟩:=h
 exact ⟨Ac,cc,Ai,ci,Ao,co,Aw,cw,hl _ _ h.hg,h.hB,h.hr,h.hc.le hl,hl _ _ h.hm,h.hw.le hl,h.hi.le hl,h.hic,h.ho.le hl,h.hfp,h.dwo,h.dc,h.di,h.dm,fun h0 k hk=>(h.ti h0 k hk).imp fun _ e=>hl _ _ e⟩

theorem SPost.of {w0:World} {m M m':AM} {g gm:Nat} {fp fpM:List Nat} {code:List Ins} {s:MS} (h:SPost w0 M g gm fpM code s m') (hf:Fr m M fp) (hs:∀ k∈fpM,k∈fp∨m k=none):SPost w0 m g gm fp code s m':=by
 obtain ⟨fp',hb,hr,hk⟩:=h
 refine ⟨fp',hb,hf.trans hr hs,fun k hk'=>?_⟩
 rcases hk k hk' with h | h
 ·exact hs k h
 ·by_cases hin:k∈fp
  ·exact .inl hin
  ·cases hm:m k with
   | none=>exact .inr rfl
   | some o=>rw [hf k o hm hin] at h; cases h
theorem SPost.pre {w0:World} {m M m':AM} {g gm:Nat} {fp:List Nat} {code:List Ins} {s:MS} (h:SPost w0 M g gm fp code s m') (hl:m.le M):SPost w0 m g gm fp code s m' :=
 h.of (Fr.of_le hl fp) fun _ hk=>.inl hk
theorem SPost.self {w0:World} {m m':AM} {g gm:Nat} {fp:List Nat} {code:List Ins} {s:MS} (h:SeqM m w0.heap.size g gm code s fp) (hl:m.le m'):SPost w0 m g gm fp code s m':=⟨fp,h.le hl,Fr.of_le hl fp,fun _ h=>.inl h⟩

theorem SeqR.put {m:AM} {B g:Nat} {code:List Ins} {s s':MS} {fp:List Nat} {Ac Ai Ao Aw:Option Addr} {cc gm ci co cw:Nat} (h:SeqR m B g code s fp Ac cc gm Ai ci Ao co Aw cw) (hr:s'.regs.length=32) (hm:s'.mem=s.mem) (hi:s'.inp=s.inp) (ho:s'.out=s.out) :
  SeqR (m.upd g (.cells (machL Ac code.length cc gm s'.regs s'.at_ Ai s.inp.length ci Ao s.out.length co).toArray 53)) B g code s' fp Ac cc gm Ai ci Ao co Aw cw:=by
 have hfr:Fr m (m.upd g (.cells (machL Ac code.length cc gm s'.regs s'.at_ Ai s.inp.length ci Ao s.out.length co).toArray 53)) [g]:=Fr.upd (Fr.refl _ _) (.inl (by simp)) _
 have hgf:g∈fp:=by rw [h.hfp]; simp
 refine ⟨by rw [upd_get_same,hi,ho],h.hB,hr,Reads_fr h.hc hfr fun h0 k hk hin=>h.dc h0 k hk (by simp at hin; rw [hin]; exact hgf),?_,?_,?_,by rw [hi]; exact h.hic,?_,h.hfp,h.dwo,h.dc,by rw [hi]; exact h.di,h.dm,?_⟩
 ·rw [hm]; exact hfr _ _ h.hm (by intro hin; simp at hin; exact h.dm (by rw [hin]; exact hgf))
 ·rw [hm]; exact h.hw.upd (h.hw.ne_type h.hg (by decide))
 ·rw [hi]; exact Reads_fr h.hi hfr fun h0 k hk hin=>h.di h0 k hk (by simp at hin; rw [hin]; exact hgf)
 ·rw [ho]; exact h.ho.upd (h.ho.ne_type h.hg (by decide))
 ·rw [hi]; exact fun h0 k hk=>(h.ti h0 k hk).imp fun _ e=>hfr _ _ e fun hin=>h.di h0 k hk (by simp at hin; rw [hin]; exact hgf)

def setR (regs:List Int) (n v:Int):List Int:=if n=0 then regs else regs.set n.toNat (w32 v)
def regOf (regs:List Int) (n:Int):Int:=regs.getD n.toNat 0

theorem set_spec (w0:World) (m:AM) (g gm:Nat) (code:List Ins) (s:MS) (fp:List Nat) (n v:Int) (hn:0≤n∧n<32) (h:SeqM m w0.heap.size g gm code s fp) :
  CallsA Tryz.prog w0 34 #[.pointer (some ⟨g,0,none⟩),.int .i64 n,.int .i64 v] m (fun r m'=>r=.tuple #[]∧SPost w0 m g gm fp code { s with regs:=setR s.regs n v } m'):=by
 refine cf34 w0 m g n v _ ?_
 unfold setR
 by_cases h0:n=0
 ·subst h0
  simp only [bne_self_eq_false,bcase_f,if_true,true_and]
  exact retP_of ⟨rfl,SPost.self h (AM.le_refl m)⟩
 ·have hb:(n != 0)=true:=by simpa using h0
  simp only [hb,bcase_t,true_and,if_neg h0]
  refine CallsA.mono (wrapW w0 m v) ?_
  rintro r m1 ⟨rfl,rfl⟩
  refine ⟨_,rfl,⟨hn.1,hn.2⟩,?_⟩
  obtain ⟨Ac,cc,Ai,ci,Ao,co,Aw,cw,h⟩:=h
  rw [addn,Nat.mul_one]
  have hk:n.toNat<32:=by omega
  refine StC_own h.hg h.hB (by rw [List.size_toArray,machL_len h.hr]; omega) ?_
  rw [List.setIfInBounds_toArray,machL_setreg h.hr hk]
  have hp:=h.put (s':={ s with regs:=s.regs.set n.toNat (w32 v) }) (by simp [h.hr]) rfl rfl rfl
  refine retP_of ⟨rfl,fp,⟨Ac,cc,Ai,ci,Ao,co,Aw,cw,hp⟩,Fr.upd (Fr.refl _ _) (.inl (by rw [h.hfp]; simp)) _,fun _ h=>.inl h⟩
end Go.Proofs.YtkfemiloehkmhaaGreat.S

set_option linter.unusedSimpArgs false
set_option linter.unusedVariables false
set_option maxRecDepth 100000
namespace Go.Proofs.YtkfemiloehkmhaaGreat.S
open Go Go.RowKit Go.Alog Go.Proofs.YtkfemiloehkmhaaGreat.T Go.Proofs.YtkfemiloehkmhaaGreat.V

def nextP (s:MS) (i:Ins):MS × Int :=
 let here:=IntKind.wrap .i64 (s.at_+1)
 let a:=regOf s.regs i.a
 let b:=regOf s.regs i.b
 if i.op=15∨i.op=16 then (s,if (a == b) == (i.op == 15) then IntKind.wrap .i64 (here+i.imm) else here)
 else if i.op=18 then ({ s with regs:=setR s.regs 31 here },i.imm)
 else if i.op=17 then (s,i.imm)
 else if i.op=19 then (s,a)
 else (s,here)

theorem SeqR.cells {m:AM} {B g:Nat} {code:List Ins} {s:MS} {fp:List Nat} {Ac Ai Ao Aw:Option Addr} {cc gm ci co cw:Nat} (h:SeqR m B g code s fp Ac cc gm Ai ci Ao co Aw cw) :
  m.cell ⟨g,0,none⟩=some (.slice Ac code.length cc)∧m.cell ⟨g,1,none⟩=some (.pointer (some ⟨gm,0,none⟩))∧m.cell ⟨g,34,none⟩=some (.int .i64 s.at_)∧m.cell ⟨g,35,none⟩=some (.slice Ai s.inp.length ci)∧m.cell ⟨g,36,none⟩=some (.slice Ao s.out.length co):=by
 have:=cell_of (k:=0) h.hg
 refine ⟨?_,?_,?_,?_,?_⟩ <;> rw [cell_of h.hg,List.getElem?_toArray]
 ·rfl
 ·rfl
 ·exact machL_34 h.hr
 ·exact machL_35 h.hr
 ·exact machL_36 h.hr
theorem SeqR.reg {m:AM} {B g:Nat} {code:List Ins} {s:MS} {fp:List Nat} {Ac Ai Ao Aw:Option Addr} {cc gm ci co cw:Nat} (h:SeqR m B g code s fp Ac cc gm Ai ci Ao co Aw cw) {n:Int} (hn:0≤n∧n<32) :
  m.cell ((⟨g,2,none⟩:Addr).add (n.toNat*1))=some (.int .i64 (regOf s.regs n)):=by
 rw [addn,Nat.mul_one,cell_of h.hg,List.getElem?_toArray]
 refine machL_reg ?_
 unfold regOf
 have:n.toNat<s.regs.length:=by rw [h.hr]; omega
 simp [List.getD,this]

def InR (i:Ins):Prop:=(0≤i.a∧i.a<32)∧(0≤i.b∧i.b<32)∧(0≤i.c∧i.c<32)
theorem right_regs {i:Ins} (h:rightR i=true):InR i:=by
 have hp:∀ s x:Int,partR s x=true→0≤x∧x<32:=by
  intro s x h
  unfold partR at h
  by_cases h1:x<0
  ·simp [h1] at h
  ·by_cases h2:x>31
   ·simp [h2] at h
   ·omega
 unfold rightR at h
 simp only [Bool.and_eq_true] at h
 obtain ⟨⟨⟨⟨⟨_,ha⟩,hb⟩,hc⟩,_⟩,_⟩:=h
 exact ⟨hp _ _ ha,hp _ _ hb,hp _ _ hc⟩

theorem next_spec (w0:World) (m:AM) (g gm:Nat) (code:List Ins) (s:MS) (fp:List Nat) (i:Ins) (hi:InR i) (h:SeqM m w0.heap.size g gm code s fp) :
  CallsA Tryz.prog w0 35 #[.pointer (some ⟨g,0,none⟩),i.val] m (fun r m'=>r=.int .i64 (nextP s i).2∧SPost w0 m g gm fp code (nextP s i).1 m'):=by
 refine cf35 w0 m g _ _ _ _ _ _ ?_
 intro b1 hb1 hm1 M
 have l1:m.le M:=le_new hm1 _
 have p1:M b1=some (.cells i.cells.toArray 36):=upd_get_same
 clear_value M
 have hM:=h.le l1
 obtain ⟨Ac,cc,Ai,ci,Ao,co,Aw,cw,hS⟩:=h.le l1
 obtain ⟨r0,r1,r34,r35,r36⟩:=hS.cells
 have e0:∀ k:Int,(i.op == k)=decide (i.op=k):=fun k=>rfl
 simp only [cell_of p1,Ins.cells,std_all,sto_all,Nat.reduceAdd,Nat.reduceLT,LI_,LB_,LA_,SI_,pt_,KI_,r34,hS.reg hi.1,hS.reg hi.2.1]
 simp only [e0]
 refine ⟨hi.1.1,by have:=hi.1.2; omega,hi.2.1.1,by have:=hi.2.1.2; omega,?_⟩
 have self:∀ s',s'=s→SPost w0 m g gm fp code s' M:=fun s' e=>by rw [e]; exact (SPost.self hM (AM.le_refl _)).pre l1
 unfold nextP
 by_cases c15:i.op=15
 ·simp only [decide_eq_true c15,bcase_t,if_pos (Or.inl c15:i.op=15∨i.op=16)]
  cases hab:(regOf s.regs i.a == regOf s.regs i.b)
  ·simp only [show (false == true)=false from rfl,bcase_f]; exact retP_of ⟨by rw [beq_iff_eq.2 c15]; rfl,self _ rfl⟩
  ·simp only [show (true == true)=true from rfl,bcase_t]; exact retP_of ⟨by rw [beq_iff_eq.2 c15]; rfl,self _ rfl⟩
 simp only [decide_eq_false c15,bcase_f]
 by_cases c16:i.op=16
 ·simp only [decide_eq_true c16,bcase_t,if_pos (Or.inr c16:i.op=15∨i.op=16)]
  cases hab:(regOf s.regs i.a == regOf s.regs i.b)
  ·simp only [show (false == false)=true from rfl,bcase_t]; exact retP_of ⟨by rw [beq_eq_false_iff_ne.2 c15]; rfl,self _ rfl⟩
  ·simp only [show (true == false)=false from rfl,bcase_f]; exact retP_of ⟨by rw [beq_eq_false_iff_ne.2 c15]; rfl,self _ rfl⟩
 simp only [decide_eq_false c16,bcase_f,if_neg (show ¬ (i.op=15∨i.op=16) by omega)]
 by_cases c18:i.op=18
 ·simp only [decide_eq_true c18,bcase_t,if_pos c18]
  refine CallsA.mono (set_spec w0 M g gm code s fp 31 _ (by decide) hM) ?_
  rintro r m2 ⟨rfl,hp⟩
  refine ⟨rfl,?_⟩
  have hb1':b1∉fp:=by
   rw [hS.hfp]
   intro hin
   simp only [List.mem_cons,List.mem_append] at hin
   rcases hin with rfl | hin | hin
   ·have:=hS.hg; rw [p1] at this; injection this with this; injection this with _ h2; exact absurd h2 (by decide)
   ·exact hS.hw.obl_ne p1 (by decide) hin
   ·exact hS.ho.obl_ne p1 (by decide) hin
  have p2:m2 b1=some (.cells i.cells.toArray 36):=by
   obtain ⟨_,_,hf,_⟩:=hp
   exact hf _ _ p1 hb1'
  simp only [cell_of p2,Ins.cells,std_all,sto_all,Nat.reduceAdd,Nat.reduceLT,LI_,LB_,LA_,SI_,pt_,KI_]
  exact retP_of ⟨rfl,hp.pre l1⟩
 simp only [decide_eq_false c18,bcase_f,if_neg c18]
 by_cases c17:i.op=17
 ·simp only [decide_eq_true c17,bcase_t,if_pos c17]; exact retP_of ⟨rfl,self _ rfl⟩
 simp only [decide_eq_false c17,bcase_f,if_neg c17]
 by_cases c19:i.op=19
 ·simp only [decide_eq_true c19,bcase_t,if_pos c19]; exact retP_of ⟨rfl,self _ rfl⟩
 simp only [decide_eq_false c19,bcase_f,if_neg c19]
 exact retP_of ⟨rfl,self _ rfl⟩

theorem there_spec (w0:World) (m:AM) (gm:Nat) (A:Option Addr) (n c:Nat) (hm:m gm=some (.cells #[.slice A n c] 75)) (a:Int) :
  CallsA Tryz.prog w0 74 #[.pointer (some ⟨gm,0,none⟩),.int .i64 a] m (fun r m'=>r=.bool (decide (0≤a∧a<n))∧m'=m):=by
 refine cf74 w0 m gm a _ ?_
 simp only [Option.isNone_some,Bool.not_false,std_all,sto_all,Nat.reduceAdd,Nat.reduceLT,LI_,LB_,LA_,SI_,pt_,KI_,cell_of hm]
 by_cases h:a≥0
 ·simp only [decide_eq_true h,std_all,sto_all,Nat.reduceAdd,Nat.reduceLT,LI_,LB_,LA_,SI_,pt_,KI_]
  refine retP_of ⟨?_,rfl⟩
  by_cases h2:a<n <;> simp [h2] <;> omega
 ·simp only [decide_eq_false h,std_all,sto_all,Nat.reduceAdd,Nat.reduceLT,LI_,LB_,LA_,SI_,pt_,KI_]
  refine retP_of ⟨?_,rfl⟩
  simp
  omega

theorem load_mem (w0:World) (m:AM) (B gm:Nat) (A:Option Addr) (l:List Int) (c:Nat) (hm:m gm=some (.cells #[.slice A l.length c] 75)) (hw:Own m B 3 1 A l.length c (intCells .i64 l)) (a:Int) :
  CallsA Tryz.prog w0 50 #[.pointer (some ⟨gm,0,none⟩),.int .i64 a] m (fun r m'=>r=.tuple #[.int .i64 (if 0≤a∧a<l.length then l.getD a.toNat 0 else 0),.bool (decide (0≤a∧a<l.length))]∧m'=m):=by
 refine cf50 w0 m gm a _ ?_
 refine CallsA.mono (there_spec w0 m gm A _ c hm a) ?_
 rintro r m1 ⟨rfl,rfl⟩
 refine ⟨_,rfl,?_⟩
 by_cases h:0≤a∧a<l.length
 ·simp only [decide_eq_true h,if_pos h,Bool.not_true,std_all,sto_all,Nat.reduceAdd,Nat.reduceLT,LI_,LB_,LA_,SI_,pt_,KI_,cell_of hm]
  obtain ⟨ad,rfl,hc⟩:=hw.ex (by omega)
  have hlt:a.toNat<l.length:=by omega
  have hcell:m1.cell (ad.add (a.toNat*1))=some (.int .i64 (l.getD a.toNat 0)):=by
   refine hc _ _ ?_
   simp [intCells,hlt,List.getD]
  simp only [std_all,sto_all,Nat.reduceAdd,Nat.reduceLT,LI_,LB_,LA_,SI_,pt_,KI_,hcell]
  exact ⟨h.1,h.2,retP_of ⟨rfl,rfl⟩⟩
 ·simp only [decide_eq_false h,if_neg h,Bool.not_false,std_all,sto_all,Nat.reduceAdd,Nat.reduceLT,LI_,LB_,LA_,SI_,pt_,KI_]
  exact retP_of ⟨rfl,rfl⟩
end Go.Proofs.YtkfemiloehkmhaaGreat.S

set_option linter.unusedSimpArgs false
set_option linter.unusedVariables false
set_option maxRecDepth 100000
namespace Go.Proofs.YtkfemiloehkmhaaGreat.S
open Go Go.RowKit Go.Alog Go.Proofs.YtkfemiloehkmhaaGreat.T Go.Proofs.YtkfemiloehkmhaaGreat.V

theorem intCells_flat (l:List Int):intCells .i64 l=l.flatMap (fun x=>[Value.int .i64 x]):=by
 induction l with
 | nil=>rfl
 | cons x l ih=>simp only [intCells,List.map_cons,List.flatMap_cons] at ih ⊢; rw [ih]; rfl

theorem SeqR.gfp {m:AM} {B g:Nat} {code:List Ins} {s:MS} {fp:List Nat} {Ac Ai Ao Aw:Option Addr} {cc gm ci co cw:Nat} (h:SeqR m B g code s fp Ac cc gm Ai ci Ao co Aw cw):g∈fp:=by rw [h.hfp]; simp

theorem SeqR.setMem {m:AM} {B g:Nat} {code:List Ins} {s:MS} {fp:List Nat} {Ac Ai Ao:Option Addr} {cc gm ci co cw:Nat} {ad:Addr} (h:SeqR m B g code s fp Ac cc gm Ai ci Ao co (some ad) cw) {k:Nat} (hk:k<s.mem.length) (v:Int) {K:AM→Prop}
  (hK:∀ m',SeqR m' B g code { s with mem:=s.mem.set k v } fp Ac cc gm Ai ci Ao co (some ad) cw→Fr m m' fp→K m'):StC B m (ad.add (k*1)) (.int .i64 v) K:=by
 have hw:=h.hw
 rw [intCells_flat] at hw
 have:=Own.storeRow (f:=fun x=>[Value.int .i64 x]) (sz:=1) (fun _=>rfl) hw hk v (K:=K) (fun gA cur hA ho=>?_)
 ·exact this
 ·subst hA
  have hgin:gA∈fp:=by rw [h.hfp]; simp [obl]
  have hgne:g≠gA:=fun e=>by subst e; exact h.hw.ne_type h.hg (by decide) 0 rfl
  have hfr:Fr m (m.upd gA (.cells cur 3)) fp:=Fr.upd (Fr.refl _ _) (.inl hgin) _
  refine hK _ ⟨by rw [upd_get_ne hgne]; exact h.hg,h.hB,h.hr,Reads_fr h.hc hfr h.dc,?_,?_,Reads_fr h.hi hfr h.di,h.hic,?_,h.hfp,h.dwo,h.dc,h.di,h.dm,fun h0 k hk=>(h.ti h0 k hk).imp fun _ e=>hfr _ _ e (h.di h0 k hk)⟩ hfr
  ·rw [List.length_set]; exact hfr _ _ h.hm h.dm
  ·rw [intCells_flat]; exact ho
  ·refine h.ho.upd fun off hA=>?_
   refine h.dwo gA (by simp [obl]) ?_
   rw [hA]; simp [obl]

theorem store_mem (w0:World) (m:AM) (g gm:Nat) (code:List Ins) (s:MS) (fp:List Nat) {Ac Ai Ao Aw:Option Addr} {cc ci co cw:Nat} (h:SeqR m w0.heap.size g code s fp Ac cc gm Ai ci Ao co Aw cw) (a v:Int) :
  CallsA Tryz.prog w0 52 #[.pointer (some ⟨gm,0,none⟩),.int .i64 a,.int .i64 v] m (fun r m'=>r=.bool (decide (0≤a∧a<s.mem.length))∧SPost w0 m g gm fp code (if 0≤a∧a<s.mem.length then { s with mem:=s.mem.set a.toNat (w32 v) } else s) m'):=by
 refine cf52 w0 m gm a v _ ?_
 refine CallsA.mono (there_spec w0 m gm Aw _ cw h.hm a) ?_
 rintro r m1 ⟨rfl,rfl⟩
 refine ⟨_,rfl,?_⟩
 by_cases hin:0≤a∧a<s.mem.length
 ·simp only [decide_eq_true hin,Bool.not_true,bcase_f,if_pos hin]
  obtain ⟨ad,rfl,_⟩:=h.hw.ex (by omega)
  have hlt:a.toNat<s.mem.length:=by omega
  refine vr52_110 w0 m1 _ _ gm a v (fun m'=>SPost w0 m1 g gm fp code { s with mem:=s.mem.set a.toNat (w32 v) } m') rfl rfl rfl ?_ ?_
  ·have st:StC w0.heap.size m1 (ad.add (a.toNat*1)) (.int .i64 (w32 v)) (fun m'=>SPost w0 m1 g gm fp code { s with mem:=s.mem.set a.toNat (w32 v) } m') :=
    h.setMem hlt (w32 v) fun m' h' hf=>⟨fp,⟨_,_,_,_,_,_,_,_,h'⟩,hf,fun _ h=>.inl h⟩
   refine ⟨?_,?_⟩
   ·simp only [cell_of h.hm,std_all,sto_all,Nat.reduceAdd,Nat.reduceLT,LI_,LB_,LA_,SI_,pt_,KI_]
    refine CallsA.mono (wrapW w0 m1 v) ?_
    rintro r m2 ⟨rfl,rfl⟩
    exact ⟨_,rfl,hin.1,hin.2,st⟩
   ·refine CallsA.mono (wrapW w0 m1 v) ?_
    rintro r m2 ⟨rfl,rfl⟩
    simp only [cell_of h.hm,std_all,sto_all,Nat.reduceAdd,Nat.reduceLT,LI_,LB_,LA_,SI_,pt_,KI_]
    exact ⟨hin.1,hin.2,st⟩
  ·intro σ m2 hp
   exact retP_of ⟨rfl,hp⟩
 ·simp only [decide_eq_false hin,Bool.not_false,bcase_t,if_neg hin]
  exact retP_of ⟨rfl,SPost.self ⟨_,_,_,_,_,_,_,_,h⟩ (AM.le_refl _)⟩

theorem SeqR.putIn {m:AM} {B g:Nat} {code:List Ins} {s:MS} {fp:List Nat} {Ac Ai Ao Aw:Option Addr} {cc gm ci co cw:Nat} (h:SeqR m B g code s fp Ac cc gm Ai ci Ao co Aw cw) {x:Int} {r:List Int} (hin:s.inp=x :: r) {K:AM→Prop}
  (hK:∀ m',SeqM m' B g gm code { s with inp:=r } fp→Fr m m' fp→K m') :
  StC B m ⟨g,35,none⟩ (.slice (if ci=(1:Int).toNat then Ai else Option.map (fun x=>Addr.add x ((1:Int).toNat*1)) Ai) (s.inp.length-(1:Int).toNat) (ci-(1:Int).toNat)) K:=by
 refine StC_own h.hg h.hB (by rw [List.size_toArray,machL_len h.hr]; omega) ?_
 rw [List.setIfInBounds_toArray,machL_setin h.hr]
 have hl:s.inp.length=r.length+1:=by rw [hin]; rfl
 have e1:(1:Int).toNat=1:=rfl
 rw [e1,hl,Nat.add_sub_cancel]
 obtain ⟨ai,rfl,hc⟩:=h.hi.ex (by omega)
 have hfr:Fr m (m.upd g (.cells (machL Ac code.length cc gm s.regs s.at_ (if ci=1 then some ai else Option.map (fun x=>Addr.add x (1*1)) (some ai)) r.length (ci-1) Ao s.out.length co).toArray 53)) fp:=Fr.upd (Fr.refl _ _) (.inl h.gfp) _
 have hob:obl (if ci=1 then some ai else Option.map (fun x=>Addr.add x (1*1)) (some ai))=obl (some ai):=by
  split
  ·rfl
  ·simp [obl,add_block]
 refine hK _ ⟨Ac,cc,(if ci=1 then some ai else Option.map (fun x=>Addr.add x (1*1)) (some ai)),ci-1,Ao,co,Aw,cw,by rw [upd_get_same],h.hB,h.hr,Reads_fr h.hc hfr h.dc,hfr _ _ h.hm h.dm,h.hw.upd (h.hw.ne_type h.hg (by decide)),?_,?_,h.ho.upd (h.ho.ne_type h.hg (by decide)),h.hfp,h.dwo,h.dc,?_,h.dm,fun h0 k hk=>(h.ti (by omega) k (by rw [← hob]; exact hk)).imp fun _ e=>hfr _ _ e (h.di (by omega) k (by rw [← hob]; exact hk))⟩ hfr
 ·refine Reads_fr (m:=m) ?_ hfr (fun _=>by rw [hob]; exact h.di (by omega))
  refine ⟨by simp [intCells],?_⟩
  by_cases h1:ci=1
  ·have:r = []:=List.eq_nil_of_length_eq_zero (by have:=h.hic; omega)
   subst this
   exact .inr ⟨ai,by simp [h1],fun j u hu=>by simp [intCells] at hu⟩
  ·refine .inr ⟨ai.add 1,by simp [h1],fun j u hu=>?_⟩
   rw [add_add]
   refine hc (1+j) u ?_
   rw [hin,Nat.add_comm]
   simpa [intCells] using hu
 ·have:=h.hic; show r.length≤ci-1; omega
 ·intro _; rw [hob]; exact h.di (by omega)

def sysP (s:MS) (n:Int):MS × Int :=
 if n=0 then (s,1)
 else if n=1 then match s.inp with
  | []=>(s,6)
  | x :: r=>({ s with regs:=setR s.regs 4 x,inp:=r },0)
 else if n=2 then (if s.out.length≥10000 then (s,9) else ({ s with out:=s.out ++ [regOf s.regs 4] },0))
 else (s,0)

theorem sys_spec (w0:World) (m:AM) (g gm:Nat) (code:List Ins) (s:MS) (fp:List Nat) (n:Int) (h:SeqM m w0.heap.size g gm code s fp) :
  CallsA Tryz.prog w0 53 #[.pointer (some ⟨g,0,none⟩),.int .i64 n] m (fun r m'=>r=.int .i64 (sysP s n).2∧SPost w0 m g gm fp code (sysP s n).1 m'):=by
 refine cf53 w0 m g n _ ?_
 have hM:=h
 obtain ⟨Ac,cc,Ai,ci,Ao,co,Aw,cw,h⟩:=h
 obtain ⟨r0,r1,r34,r35,r36⟩:=h.cells
 have e0:∀ k:Int,(n == k)=decide (n=k):=fun k=>rfl
 simp only [e0,r35,r36,std_all,sto_all,Nat.reduceAdd,Nat.reduceLT,LI_,LB_,LA_,SI_,pt_,KI_]
 have self:SPost w0 m g gm fp code s m:=SPost.self hM (AM.le_refl _)
 unfold sysP
 by_cases c0:n=0
 ·simp only [decide_eq_true c0,if_pos c0,std_all,sto_all,Nat.reduceAdd,Nat.reduceLT,LI_,LB_,LA_,SI_,pt_,KI_]; exact retP_of ⟨rfl,self⟩
 simp only [decide_eq_false c0,if_neg c0,std_all,sto_all,Nat.reduceAdd,Nat.reduceLT,LI_,LB_,LA_,SI_,pt_,KI_]
 by_cases c1:n=1
 ·simp only [decide_eq_true c1,if_pos c1,std_all,sto_all,Nat.reduceAdd,Nat.reduceLT,LI_,LB_,LA_,SI_,pt_,KI_]
  cases hin:s.inp with
  | nil =>
   simp only [List.length_nil,show (((0:Nat):Int) == 0)=true from rfl,std_all,sto_all,Nat.reduceAdd,Nat.reduceLT,LI_,LB_,LA_,SI_,pt_,KI_]
   exact retP_of ⟨rfl,self⟩
  | cons x r =>
   have hl:s.inp.length=r.length+1:=by rw [hin]; rfl
   have hne:((((r.length+1:Nat)):Int) == 0)=false:=by simp; omega
   simp only [List.length_cons,hne,std_all,sto_all,Nat.reduceAdd,Nat.reduceLT,LI_,LB_,LA_,SI_,pt_,KI_]
   obtain ⟨ai,rfl,hci⟩:=h.hi.ex (by omega)
   have hx:m.cell (ai.add 0)=some (.int .i64 x):=hci 0 _ (by rw [hin]; rfl)
   simp only [std_all,sto_all,Nat.reduceAdd,Nat.reduceLT,LI_,LB_,LA_,SI_,pt_,KI_,hx]
   refine ⟨by decide,by omega,?_⟩
   refine CallsA.mono (set_spec w0 m g gm code s fp 4 x (by decide) hM) ?_
   rintro r' m2 ⟨rfl,fp2,h2,hf2,hk2⟩
   refine ⟨rfl,?_⟩
   obtain ⟨Ac',cc',Ai',ci',Ao',co',Aw',cw',h2⟩:=h2
   obtain ⟨_,_,_,q35,_⟩:=h2.cells
   simp only [q35,std_all,sto_all,Nat.reduceAdd,Nat.reduceLT,LI_,LB_,LA_,SI_,pt_,KI_]
   refine ⟨by decide,h2.hic,by show 1≤s.inp.length; omega,?_⟩
   refine h2.putIn (x:=x) (r:=r) hin fun m3 h3 hf3=>?_
   exact retP_of ⟨rfl,SPost.of (fpM:=fp2) ⟨fp2,h3,hf3,fun _ h=>.inl h⟩ hf2 hk2⟩
 simp only [decide_eq_false c1,if_neg c1,std_all,sto_all,Nat.reduceAdd,Nat.reduceLT,LI_,LB_,LA_,SI_,pt_,KI_]
 by_cases c2:n=2
 ·simp only [decide_eq_true c2,if_pos c2,std_all,sto_all,Nat.reduceAdd,Nat.reduceLT,LI_,LB_,LA_,SI_,pt_,KI_]
  by_cases hl:s.out.length≥10000
  ·simp only [decide_eq_true (show ((s.out.length:Nat):Int)≥10000 by omega),if_pos hl,std_all,sto_all,Nat.reduceAdd,Nat.reduceLT,LI_,LB_,LA_,SI_,pt_,KI_]
   exact retP_of ⟨rfl,self⟩
  ·simp only [decide_eq_false (show ¬ ((s.out.length:Nat):Int)≥10000 by omega),if_neg hl,std_all,sto_all,Nat.reduceAdd,Nat.reduceLT,LI_,LB_,LA_,SI_,pt_,KI_]
   have h4:m.cell ((⟨g,2,none⟩:Addr).add 4)=some (.int .i64 (regOf s.regs 4)):=h.reg (n:=4) (by decide)
   simp only [h4,std_all,sto_all,Nat.reduceAdd,Nat.reduceLT,LI_,LB_,LA_,SI_,pt_,KI_]
   refine ⟨by decide,by decide,?_⟩
   intro b hb hmb
   have lb:=le_new hmb (.cells [Value.int .i64 (regOf s.regs 4)].toArray 3)
   have pb:(m.upd b (.cells [Value.int .i64 (regOf s.regs 4)].toArray 3)) b=some (.cells [Value.int .i64 (regOf s.regs 4)].toArray 3):=upd_get_same
   have hbM:SeqR (m.upd b (.cells [Value.int .i64 (regOf s.regs 4)].toArray 3)) w0.heap.size g code s fp Ac cc gm Ai ci Ao co Aw cw :=
    ⟨lb _ _ h.hg,h.hB,h.hr,h.hc.le lb,lb _ _ h.hm,h.hw.le lb,h.hi.le lb,h.hic,h.ho.le lb,h.hfp,h.dwo,h.dc,h.di,h.dm,fun h0 k hk=>(h.ti h0 k hk).imp fun _ e=>lb _ _ e⟩
   have hrd:Reads (m.upd b (.cells [Value.int .i64 (regOf s.regs 4)].toArray 3)) 1 (some ⟨b,0,none⟩) 1 [Value.int .i64 (regOf s.regs 4)]:=Reads.lit rfl
   refine awp_append_own el23 hbM.ho hrd (by intro u hu; simp at hu; subst hu; rfl) (by omega) (by omega) (fun g2 cp' cur hor hB2 ho2=>?_) (fun h0=>by omega)
   simp only [std_all,sto_all,Nat.reduceAdd,Nat.reduceLT,LI_,LB_,LA_,SI_,pt_,KI_]
   have hgg:g≠g2:=fun e=>by
    subst e
    rcases hor with h' | h'
    ·exact hbM.ho.ne_type hbM.hg (by decide) 0 h'
    ·rw [hbM.hg] at h'; cases h'
   have kn:∀ k,(∀ k'∈obl Ao,k≠k')→(m.upd b (.cells [Value.int .i64 (regOf s.regs 4)].toArray 3)) k≠none→k≠g2:=fun k h1 h2 e=>by
    subst e
    rcases hor with h' | h'
    ·exact h1 k (by rw [h']; simp [obl]) rfl
    ·exact h2 h'
   have hfr:Fr (m.upd b (.cells [Value.int .i64 (regOf s.regs 4)].toArray 3)) ((m.upd b (.cells [Value.int .i64 (regOf s.regs 4)].toArray 3)).upd g2 (.cells cur 3)) (obl Ao):=by
    refine Fr.upd (Fr.refl _ _) ?_ _
    rcases hor with h' | h'
    ·left; rw [h']; simp [obl]
    ·right; exact h'
   have hAoFp:∀ k∈obl Ao,k∈fp:=fun k hk=>by rw [h.hfp]; simp [hk]
   refine StC_own (c:=(machL Ac code.length cc gm s.regs s.at_ Ai s.inp.length ci Ao s.out.length co).toArray) (t:=53) (by rw [upd_get_ne hgg]; exact hbM.hg) h.hB (by rw [List.size_toArray,machL_len h.hr]; omega) ?_
   rw [List.setIfInBounds_toArray,machL_setout h.hr]
   generalize hm1:(m.upd b (.cells [Value.int .i64 (regOf s.regs 4)].toArray 3)).upd g2 (.cells cur 3)=m1 at hfr ho2
   have hfr2:Fr m1 (m1.upd g (.cells (machL Ac code.length cc gm s.regs s.at_ Ai s.inp.length ci (some ⟨g2,0,none⟩) (s.out.length+1) cp').toArray 53)) [g]:=Fr.upd (Fr.refl _ _) (.inl (by simp)) _
   have hg1:m1 g=some (.cells (machL Ac code.length cc gm s.regs s.at_ Ai s.inp.length ci Ao s.out.length co).toArray 53):=by rw [← hm1,upd_get_ne hgg]; exact hbM.hg
   have gno:∀ k,k∈[g]→k∈fp:=fun k hk=>by simp at hk; rw [hk]; exact h.gfp
   refine retP_of ⟨rfl,g :: (obl Aw ++ [g2]),⟨Ac,cc,Ai,ci,some ⟨g2,0,none⟩,cp',Aw,cw,?_,h.hB,h.hr,?_,?_,?_,?_,h.hic,?_,rfl,?_,?_,?_,?_,fun h0 k hk=>(hbM.ti h0 k hk).imp fun _ e=>hfr2 _ _ (hfr _ _ e fun hin=>h.di h0 k hk (hAoFp k hin)) fun hin=>h.di h0 k hk (gno k hin)⟩,?_,?_⟩
   ·rw [upd_get_same]; simp
   ·exact Reads_fr (Reads_fr hbM.hc hfr fun h0 k hk hin=>h.dc h0 k hk (hAoFp k hin)) hfr2 fun h0 k hk hin=>h.dc h0 k hk (gno k hin)
   ·exact hfr2 _ _ (hfr _ _ hbM.hm fun hin=>h.dm (hAoFp _ hin)) fun hin=>h.dm (gno _ hin)
   ·exact (hbM.hw.fr hfr h.dwo).upd ((hbM.hw.fr hfr h.dwo).ne_type hg1 (by decide))
   ·exact Reads_fr (Reads_fr hbM.hi hfr fun h0 k hk hin=>h.di h0 k hk (hAoFp k hin)) hfr2 fun h0 k hk hin=>h.di h0 k hk (gno k hin)
   ·have:=ho2.upd (ho2.ne_type hg1 (by decide)) (o:=.cells (machL Ac code.length cc gm s.regs s.at_ Ai s.inp.length ci (some ⟨g2,0,none⟩) (s.out.length+1) cp').toArray 53)
    simpa [intCells] using this
   ·intro k hk hin
    simp [obl] at hin
    obtain ⟨_,cur',hk'⟩:=hbM.hw.obl_some hk
    exact kn k (fun k' hk2 e=>h.dwo k hk (e ▸ hk2)) (by rw [hk']; simp) hin
   ·intro h0 k hk hin
    simp only [List.mem_cons,List.mem_append,List.not_mem_nil,or_false] at hin
    rcases hin with rfl | hin | hin
    ·exact h.dc h0 _ hk h.gfp
    ·exact h.dc h0 k hk (by rw [h.hfp]; simp [hin])
    ·exact kn k (fun k' hk2 e=>h.dc h0 k hk (hAoFp k (e ▸ hk2))) (Reads_known hbM.hc h0 (by decide) k hk) hin
   ·intro h0 k hk hin
    simp only [List.mem_cons,List.mem_append,List.not_mem_nil,or_false] at hin
    rcases hin with rfl | hin | hin
    ·exact h.di h0 _ hk h.gfp
    ·exact h.di h0 k hk (by rw [h.hfp]; simp [hin])
    ·exact kn k (fun k' hk2 e=>h.di h0 k hk (hAoFp k (e ▸ hk2))) (Reads_known hbM.hi h0 (by decide) k hk) hin
   ·intro hin
    simp only [List.mem_cons,List.mem_append,List.not_mem_nil,or_false] at hin
    rcases hin with hin | hin | hin
    ·exact h.dm (by rw [hin]; exact h.gfp)
    ·exact h.dm (by rw [h.hfp]; simp [hin])
    ·exact kn gm (fun k' hk2 e=>h.dm (hAoFp gm (e ▸ hk2))) (by rw [hbM.hm]; simp) hin
   ·refine Fr.trans (Fr.of_le lb fp) (Fr.trans (hfr.mono hAoFp) (hfr2.mono gno) (fun k hk=>.inl hk)) (fun k hk=>.inl hk)
   ·intro k hk
    simp only [List.mem_cons,List.mem_append,List.not_mem_nil,or_false] at hk
    rcases hk with rfl | hk | rfl
    ·exact .inl h.gfp
    ·exact .inl (by rw [h.hfp]; simp [hk])
    ·rcases hor with h' | h'
     ·exact .inl (hAoFp _ (by rw [h']; simp [obl]))
     ·exact .inr (AM.le_none lb h')
 ·simp only [decide_eq_false c2,if_neg c2,std_all,sto_all,Nat.reduceAdd,Nat.reduceLT,LI_,LB_,LA_,SI_,pt_,KI_]
  exact retP_of ⟨rfl,self⟩
end Go.Proofs.YtkfemiloehkmhaaGreat.S

set_option linter.unusedSimpArgs false
set_option linter.unusedVariables false
set_option maxRecDepth 100000
namespace Go.Proofs.YtkfemiloehkmhaaGreat.S
open Go Go.RowKit Go.Alog Go.Proofs.YtkfemiloehkmhaaGreat.T Go.Proofs.YtkfemiloehkmhaaGreat.V

def actP (s:MS) (i:Ins):MS × Int :=
 let a:=regOf s.regs i.a
 let ad:=w32 (regOf s.regs i.b+i.imm)
 if i.op=12 then (if 0≤ad∧ad<s.mem.length then ({ s with regs:=setR s.regs i.a (s.mem.getD ad.toNat 0) },0) else (s,3))
 else if i.op=13 then (if 0≤ad∧ad<s.mem.length then ({ s with mem:=s.mem.set ad.toNat (w32 a) },0) else (s,3))
 else if i.op=14 then (if a<0∨a≥i.imm then (s,if i.b=0 then 5 else i.b) else (s,0))
 else if i.op=20 then sysP s i.imm
 else (s,0)

theorem SeqR.notin {m:AM} {B g:Nat} {code:List Ins} {s:MS} {fp:List Nat} {Ac Ai Ao Aw:Option Addr} {cc gm ci co cw:Nat} (h:SeqR m B g code s fp Ac cc gm Ai ci Ao co Aw cw) {b:Nat} {c:Array Value} (hb:m b=some (.cells c 36)):b∉fp:=by
 rw [h.hfp]
 intro hin
 simp only [List.mem_cons,List.mem_append] at hin
 rcases hin with rfl | hin | hin
 ·have:=h.hg; rw [hb] at this; injection this with this; injection this with _ h2; exact absurd h2 (by decide)
 ·exact h.hw.obl_ne hb (by decide) hin
 ·exact h.ho.obl_ne hb (by decide) hin
theorem SPost.keep {w0:World} {m m':AM} {g gm:Nat} {fp:List Nat} {code:List Ins} {s:MS} (h:SPost w0 m g gm fp code s m') {b:Nat} {o:Obj} (hb:m b=some o) (hn:b∉fp):m' b=some o:=by
 obtain ⟨_,_,hf,_⟩:=h
 exact hf _ _ hb hn

theorem act_spec (w0:World) (m:AM) (g gm:Nat) (code:List Ins) (s:MS) (fp:List Nat) (i:Ins) (hi:InR i) (h:SeqM m w0.heap.size g gm code s fp) :
  CallsA Tryz.prog w0 32 #[.pointer (some ⟨g,0,none⟩),i.val] m (fun r m'=>r=.int .i64 (actP s i).2∧SPost w0 m g gm fp code (actP s i).1 m'):=by
 refine cf32 w0 m g _ _ _ _ _ _ ?_
 intro b1 hb1 hm1 M
 have l1:m.le M:=le_new hm1 _
 have p1:M b1=some (.cells i.cells.toArray 36):=upd_get_same
 clear_value M
 have hM:=h.le l1
 obtain ⟨Ac,cc,Ai,ci,Ao,co,Aw,cw,hS⟩:=h.le l1
 obtain ⟨r0,r1,r34,r35,r36⟩:=hS.cells
 have e0:∀ k:Int,(i.op == k)=decide (i.op=k):=fun k=>rfl
 simp only [cell_of p1,Ins.cells,std_all,sto_all,Nat.reduceAdd,Nat.reduceLT,LI_,LB_,LA_,SI_,pt_,KI_,hS.reg hi.1,hS.reg hi.2.1]
 simp only [e0]
 refine ⟨hi.1.1,by have:=hi.1.2; omega,hi.2.1.1,by have:=hi.2.1.2; omega,?_⟩
 have self:∀ s',s'=s→SPost w0 m g gm fp code s' M:=fun s' e=>by rw [e]; exact (SPost.self hM (AM.le_refl _)).pre l1
 have hb1':=hS.notin p1
 unfold actP
 by_cases c12:i.op=12
 ·simp only [decide_eq_true c12,bcase_t,if_pos c12]
  refine vr32_11010100 w0 M _ _ g b1 (regOf s.regs i.b) (fun v ok m'=>m'=M∧v=(if 0≤w32 (regOf s.regs i.b+i.imm)∧w32 (regOf s.regs i.b+i.imm)<s.mem.length then s.mem.getD (w32 (regOf s.regs i.b+i.imm)).toNat 0 else 0)∧ok=decide (0≤w32 (regOf s.regs i.b+i.imm)∧w32 (regOf s.regs i.b+i.imm)<s.mem.length)) rfl rfl rfl ?_ ?_
  ·simp only [cell_of p1,Ins.cells,std_all,sto_all,Nat.reduceAdd,Nat.reduceLT,LI_,LB_,LA_,SI_,pt_,KI_,r1]
   refine ⟨?_,?_⟩
   ·refine CallsA.mono (addW w0 M _ _) ?_
    rintro r m2 ⟨rfl,rfl⟩
    refine ⟨_,rfl,CallsA.mono (load_mem w0 m2 w0.heap.size gm Aw s.mem cw hS.hm hS.hw _) ?_⟩
    rintro r m3 ⟨rfl,rfl⟩
    simp only [std_all,sto_all,Nat.reduceAdd,Nat.reduceLT,LI_,LB_,LA_,SI_,pt_,KI_]
   ·refine CallsA.mono (addW w0 M _ _) ?_
    rintro r m2 ⟨rfl,rfl⟩
    refine ⟨_,rfl,?_⟩
    simp only [r1,std_all,sto_all,Nat.reduceAdd,Nat.reduceLT,LI_,LB_,LA_,SI_,pt_,KI_]
    refine CallsA.mono (load_mem w0 m2 w0.heap.size gm Aw s.mem cw hS.hm hS.hw _) ?_
    rintro r m3 ⟨rfl,rfl⟩
    simp only [std_all,sto_all,Nat.reduceAdd,Nat.reduceLT,LI_,LB_,LA_,SI_,pt_,KI_]
  ·rintro σ v ok m2 ⟨rfl,rfl,rfl⟩
   by_cases hin:0≤w32 (regOf s.regs i.b+i.imm)∧w32 (regOf s.regs i.b+i.imm)<s.mem.length
   ·simp only [decide_eq_true hin,if_pos hin,Bool.not_true,std_all,sto_all,Nat.reduceAdd,Nat.reduceLT,LI_,LB_,LA_,SI_,pt_,KI_,cell_of p1,Ins.cells]
    refine CallsA.mono (set_spec w0 m2 g gm code s fp i.a _ hi.1 hM) ?_
    rintro r m3 ⟨rfl,hp⟩
    exact ⟨rfl,retP_of ⟨rfl,hp.pre l1⟩⟩
   ·simp only [decide_eq_false hin,if_neg hin,Bool.not_false,std_all,sto_all,Nat.reduceAdd,Nat.reduceLT,LI_,LB_,LA_,SI_,pt_,KI_]
    exact retP_of ⟨rfl,self _ rfl⟩
 simp only [decide_eq_false c12,bcase_f,if_neg c12]
 by_cases c13:i.op=13
 ·simp only [decide_eq_true c13,bcase_t,if_pos c13]
  refine vr32_1101011100 w0 M _ _ g b1 (regOf s.regs i.a) (regOf s.regs i.b) (fun nok m'=>nok = !decide (0≤w32 (regOf s.regs i.b+i.imm)∧w32 (regOf s.regs i.b+i.imm)<s.mem.length)∧SPost w0 M g gm fp code (if 0≤w32 (regOf s.regs i.b+i.imm)∧w32 (regOf s.regs i.b+i.imm)<s.mem.length then { s with mem:=s.mem.set (w32 (regOf s.regs i.b+i.imm)).toNat (w32 (regOf s.regs i.a)) } else s) m') rfl rfl rfl rfl ?_ ?_
  ·simp only [cell_of p1,Ins.cells,std_all,sto_all,Nat.reduceAdd,Nat.reduceLT,LI_,LB_,LA_,SI_,pt_,KI_,r1]
   refine ⟨?_,?_⟩
   ·refine CallsA.mono (addW w0 M _ _) ?_
    rintro r m2 ⟨rfl,rfl⟩
    refine ⟨_,rfl,CallsA.mono (store_mem w0 m2 g gm code s fp hS _ _) ?_⟩
    rintro r m3 ⟨rfl,hp⟩
    simp only [std_all,sto_all,Nat.reduceAdd,Nat.reduceLT,LI_,LB_,LA_,SI_,pt_,KI_]
    exact hp
   ·refine CallsA.mono (addW w0 M _ _) ?_
    rintro r m2 ⟨rfl,rfl⟩
    refine ⟨_,rfl,?_⟩
    simp only [r1,std_all,sto_all,Nat.reduceAdd,Nat.reduceLT,LI_,LB_,LA_,SI_,pt_,KI_]
    refine CallsA.mono (store_mem w0 m2 g gm code s fp hS _ _) ?_
    rintro r m3 ⟨rfl,hp⟩
    simp only [std_all,sto_all,Nat.reduceAdd,Nat.reduceLT,LI_,LB_,LA_,SI_,pt_,KI_]
    exact hp
  ·rintro σ nok m2 ⟨rfl,hp⟩
   by_cases hin:0≤w32 (regOf s.regs i.b+i.imm)∧w32 (regOf s.regs i.b+i.imm)<s.mem.length
   ·simp only [decide_eq_true hin,if_pos hin,Bool.not_true,std_all,sto_all,Nat.reduceAdd,Nat.reduceLT,LI_,LB_,LA_,SI_,pt_,KI_] at hp ⊢
    exact retP_of ⟨rfl,hp.pre l1⟩
   ·simp only [decide_eq_false hin,if_neg hin,Bool.not_false,std_all,sto_all,Nat.reduceAdd,Nat.reduceLT,LI_,LB_,LA_,SI_,pt_,KI_] at hp ⊢
    exact retP_of ⟨rfl,hp.pre l1⟩
 simp only [decide_eq_false c13,bcase_f,if_neg c13]
 by_cases c14:i.op=14
 ·simp only [decide_eq_true c14,bcase_t,if_pos c14]
  have e1:∀ k:Int,(i.b == k)=decide (i.b=k):=fun k=>rfl
  by_cases ha:regOf s.regs i.a<0
  ·simp only [decide_eq_true ha,std_all,sto_all,Nat.reduceAdd,Nat.reduceLT,LI_,LB_,LA_,SI_,pt_,KI_,if_pos (Or.inl ha:regOf s.regs i.a<0∨regOf s.regs i.a≥i.imm),e1]
   by_cases hb:i.b=0
   ·simp only [decide_eq_true hb,std_all,sto_all,Nat.reduceAdd,Nat.reduceLT,LI_,LB_,LA_,SI_,pt_,KI_,if_pos hb]; exact retP_of ⟨rfl,self _ rfl⟩
   ·simp only [decide_eq_false hb,std_all,sto_all,Nat.reduceAdd,Nat.reduceLT,LI_,LB_,LA_,SI_,pt_,KI_,if_neg hb]; exact retP_of ⟨rfl,self _ rfl⟩
  ·simp only [decide_eq_false ha,std_all,sto_all,Nat.reduceAdd,Nat.reduceLT,LI_,LB_,LA_,SI_,pt_,KI_]
   by_cases ha2:regOf s.regs i.a≥i.imm
   ·simp only [decide_eq_true ha2,std_all,sto_all,Nat.reduceAdd,Nat.reduceLT,LI_,LB_,LA_,SI_,pt_,KI_,if_pos (Or.inr ha2:regOf s.regs i.a<0∨regOf s.regs i.a≥i.imm),e1]
    by_cases hb:i.b=0
    ·simp only [decide_eq_true hb,std_all,sto_all,Nat.reduceAdd,Nat.reduceLT,LI_,LB_,LA_,SI_,pt_,KI_,if_pos hb]; exact retP_of ⟨rfl,self _ rfl⟩
    ·simp only [decide_eq_false hb,std_all,sto_all,Nat.reduceAdd,Nat.reduceLT,LI_,LB_,LA_,SI_,pt_,KI_,if_neg hb]; exact retP_of ⟨rfl,self _ rfl⟩
   ·simp only [decide_eq_false ha2,std_all,sto_all,Nat.reduceAdd,Nat.reduceLT,LI_,LB_,LA_,SI_,pt_,KI_,if_neg (show ¬ (regOf s.regs i.a<0∨regOf s.regs i.a≥i.imm) from fun h=>h.elim ha ha2)]
    exact retP_of ⟨rfl,self _ rfl⟩
 simp only [decide_eq_false c14,bcase_f,if_neg c14]
 by_cases c20:i.op=20
 ·simp only [decide_eq_true c20,bcase_t,if_pos c20]
  refine CallsA.mono (sys_spec w0 M g gm code s fp _ hM) ?_
  rintro r m2 ⟨rfl,hp⟩
  exact ⟨_,rfl,retP_of ⟨rfl,hp.pre l1⟩⟩
 simp only [decide_eq_false c20,bcase_f,if_neg c20]
 exact retP_of ⟨rfl,self _ rfl⟩

def stepP (code:List Ins) (s:MS):MS × Int :=
 if s.at_<0 then (s,2) else if s.at_≥code.length then (s,2) else
  let i:=code.getD s.at_.toNat default
  if rightR i=false then (s,8) else
   let s1:=(actP s i).1
   if (actP s i).2≠0 then (s1,(actP s i).2) else
    let r:=reckonP i (regOf s1.regs i.b) (regOf s1.regs i.c)
    if r.2.1≠0 then (s1,r.2.1) else
     let s2:=if r.2.2 then { s1 with regs:=setR s1.regs i.a r.1 } else s1
     ({ (nextP s2 i).1 with at_:=(nextP s2 i).2 },0)
end Go.Proofs.YtkfemiloehkmhaaGreat.S

set_option linter.unusedSimpArgs false
set_option linter.unusedVariables false
set_option maxRecDepth 100000
namespace Go.Proofs.YtkfemiloehkmhaaGreat.S
open Go Go.RowKit Go.Alog Go.Proofs.YtkfemiloehkmhaaGreat.T Go.Proofs.YtkfemiloehkmhaaGreat.V

theorem SPost.put_at {w0:World} {m:AM} {g gm:Nat} {code:List Ins} {s:MS} {fp:List Nat} (h:SeqM m w0.heap.size g gm code s fp) (v:Int) {K:AM→Prop} (hK:∀ m',SPost w0 m g gm fp code { s with at_:=v } m'→K m') :
  StC w0.heap.size m ⟨g,34,none⟩ (.int .i64 v) K:=by
 obtain ⟨Ac,cc,Ai,ci,Ao,co,Aw,cw,h⟩:=h
 refine StC_own h.hg h.hB (by rw [List.size_toArray,machL_len h.hr]; omega) ?_
 rw [List.setIfInBounds_toArray,machL_setat h.hr]
 have hp:=h.put (s':={ s with at_:=v }) h.hr rfl rfl rfl
 exact hK _ ⟨fp,⟨Ac,cc,Ai,ci,Ao,co,Aw,cw,hp⟩,Fr.upd (Fr.refl _ _) (.inl h.gfp) _,fun _ h=>.inl h⟩

theorem step_spec (w0:World) (m:AM) (g gm:Nat) (code:List Ins) (s:MS) (fp:List Nat) (h:SeqM m w0.heap.size g gm code s fp) :
  CallsA Tryz.prog w0 20 #[.pointer (some ⟨g,0,none⟩)] m (fun r m'=>r=.int .i64 (stepP code s).2∧SPost w0 m g gm fp code (stepP code s).1 m'):=by
 refine cf20 w0 m g _ ?_
 have hM:=h
 obtain ⟨Ac,cc,Ai,ci,Ao,co,Aw,cw,hS⟩:=h
 obtain ⟨r0,r1,r34,r35,r36⟩:=hS.cells
 simp only [r0,r34,std_all,sto_all,Nat.reduceAdd,Nat.reduceLT,LI_,LB_,LA_,SI_,pt_,KI_]
 have self:SPost w0 m g gm fp code s m:=SPost.self hM (AM.le_refl _)
 unfold stepP
 by_cases h1:s.at_<0
 ·simp only [decide_eq_true h1,if_pos h1,std_all,sto_all,Nat.reduceAdd,Nat.reduceLT,LI_,LB_,LA_,SI_,pt_,KI_]; exact retP_of ⟨rfl,self⟩
 simp only [decide_eq_false h1,if_neg h1,std_all,sto_all,Nat.reduceAdd,Nat.reduceLT,LI_,LB_,LA_,SI_,pt_,KI_]
 by_cases h2:s.at_≥code.length
 ·simp only [decide_eq_true h2,if_pos h2,std_all,sto_all,Nat.reduceAdd,Nat.reduceLT,LI_,LB_,LA_,SI_,pt_,KI_]; exact retP_of ⟨rfl,self⟩
 simp only [decide_eq_false h2,if_neg h2,std_all,sto_all,Nat.reduceAdd,Nat.reduceLT,LI_,LB_,LA_,SI_,pt_,KI_]
 have hlt:s.at_.toNat<code.length:=by omega
 obtain ⟨ad,rfl,hc⟩:=hS.hc.ex (by omega)
 have hi:=hc.ins (List.getElem?_eq_getElem hlt)
 have hd:code.getD s.at_.toNat default=code[s.at_.toNat]:=by simp [List.getD,hlt]
 rw [hd]
 revert hi
 generalize code[s.at_.toNat]=i
 intro hi
 simp only [std_all,sto_all,Nat.reduceAdd,Nat.reduceLT,LI_,LB_,LA_,SI_,pt_,KI_,hi]
 refine ⟨by omega,by omega,?_⟩
 intro b hb hmb
 have lb:=le_new hmb (.cells i.cells.toArray 36)
 simp only [std_all,sto_all,Nat.reduceAdd,Nat.reduceLT,LI_,LB_,LA_,SI_,pt_,KI_,hb]
 have pb:(m.upd b (.cells i.cells.toArray 36)) b=some (.cells i.cells.toArray 36):=upd_get_same
 refine CallsA.mono (isaRight w0 _ i) ?_
 rintro r m2 ⟨rfl,l2⟩
 have L:=AM.le_trans lb l2
 have p2:=l2 _ _ pb
 cases hr:rightR i
 ·simp only [Bool.not_false,std_all,sto_all,Nat.reduceAdd,Nat.reduceLT,LI_,LB_,LA_,SI_,pt_,KI_,if_true]
  exact retP_of ⟨rfl,(SPost.self (hM.le L) (AM.le_refl _)).pre L⟩
 simp only [Bool.not_true,std_all,sto_all,Nat.reduceAdd,Nat.reduceLT,LI_,LB_,LA_,SI_,pt_,KI_,Bool.true_eq_false,if_false,cell_of p2,Ins.cells]
 have hR:=right_regs hr
 refine CallsA.mono (act_spec w0 m2 g gm code s fp i hR (hM.le L)) ?_
 rintro r m3 ⟨rfl,hp3⟩
 have p3:=hp3.keep p2 (by
  obtain ⟨_,_,_,_,_,_,_,_,hS2⟩:=hM.le L
  exact hS2.notin p2)
 have nb:b∉fp:=by
  obtain ⟨_,_,_,_,_,_,_,_,hS2⟩:=hM.le L
  exact hS2.notin p2
 generalize hA:actP s i=A at hp3
 obtain ⟨s1,t1⟩:=A
 simp only at hp3 ⊢
 by_cases ht:t1=0
 ·subst ht
  simp only [bne_self_eq_false,std_all,sto_all,Nat.reduceAdd,Nat.reduceLT,LI_,LB_,LA_,SI_,pt_,KI_,ne_eq,not_true_eq_false,if_false,cell_of p3,Ins.cells]
  obtain ⟨fp3,hM3,hf3,hk3⟩:=hp3
  obtain ⟨Ac3,cc3,Ai3,ci3,Ao3,co3,Aw3,cw3,hS3⟩:=hM3
  have hM3:SeqM m3 w0.heap.size g gm code s1 fp3:=⟨Ac3,cc3,Ai3,ci3,Ao3,co3,Aw3,cw3,hS3⟩
  simp only [hS3.reg hR.2.1,hS3.reg hR.2.2,std_all,sto_all,Nat.reduceAdd,Nat.reduceLT,LI_,LB_,LA_,SI_,pt_,KI_]
  refine ⟨hR.2.1.1,by have:=hR.2.1.2; omega,hR.2.2.1,by have:=hR.2.2.2; omega,?_⟩
  refine CallsA.mono (Reckon_spec w0 m3 i _ _) ?_
  rintro r m4 ⟨rfl,l4⟩
  have p4:=l4 _ _ p3
  have hM4:=hM3.le l4
  refine ⟨_,_,_,rfl,?_⟩
  have hf4:Fr m2 m4 fp:=hf3.trans (Fr.of_le l4 fp) (fun _ h=>.inl h)
  have out:∀ {s' m'},SPost w0 m4 g gm fp3 code s' m'→SPost w0 m g gm fp code s' m':=fun h=>(h.of hf4 hk3).pre L
  generalize reckonP i (regOf s1.regs i.b) (regOf s1.regs i.c)=rk
  obtain ⟨v,t2,ok⟩:=rk
  by_cases ht2:t2=0
  ·subst ht2
   simp only [bne_self_eq_false,std_all,sto_all,Nat.reduceAdd,Nat.reduceLT,LI_,LB_,LA_,SI_,pt_,KI_,ne_eq,not_true_eq_false,if_false,cell_of p4,Ins.cells]
   have tail:∀ (m5:AM) (s2:MS) (fp5:List Nat) (F:AM→Prop),SeqM m5 w0.heap.size g gm code s2 fp5→(∀ m7,SPost w0 m5 g gm fp5 code { (nextP s2 i).1 with at_:=(nextP s2 i).2 } m7→F m7)→CallsA Tryz.prog w0 35 #[.pointer (some ⟨g,0,none⟩),i.val] m5 (fun r m6=>∃ n,r=.int .i64 n∧StC w0.heap.size m6 ⟨g,34,none⟩ (.int .i64 n) F):=by
    intro m5 s2 fp5 F h5 hF
    refine CallsA.mono (next_spec w0 m5 g gm code s2 fp5 i hR h5) ?_
    rintro r m6 ⟨rfl,fp6,h6,hf6,hk6⟩
    exact ⟨_,rfl,SPost.put_at h6 _ fun m7 h7=>hF _ (h7.of hf6 hk6)⟩
   cases ok
   ·simp only [std_all,sto_all,Nat.reduceAdd,Nat.reduceLT,LI_,LB_,LA_,SI_,pt_,KI_,Bool.false_eq_true,if_false]
    exact tail m4 s1 fp3 _ hM4 fun m7 h7=>retP_of ⟨rfl,out h7⟩
   ·simp only [std_all,sto_all,Nat.reduceAdd,Nat.reduceLT,LI_,LB_,LA_,SI_,pt_,KI_,if_true]
    refine CallsA.mono (set_spec w0 m4 g gm code s1 fp3 i.a v hR.1 hM4) ?_
    rintro r m5 ⟨rfl,hp5⟩
    have p5:=hp5.keep p4 (by
     obtain ⟨_,_,_,_,_,_,_,_,hS4⟩:=hM4
     exact hS4.notin p4)
    obtain ⟨fp5,h5,hf5,hk5⟩:=hp5
    refine ⟨rfl,?_⟩
    simp only [cell_of p5,Ins.cells,std_all,sto_all,Nat.reduceAdd,Nat.reduceLT,LI_,LB_,LA_,SI_,pt_,KI_]
    exact tail m5 _ fp5 _ h5 fun m7 h7=>retP_of ⟨rfl,out (h7.of hf5 hk5)⟩
  ·have hb2:(t2 != 0)=true:=by simpa using ht2
   simp only [hb2,std_all,sto_all,Nat.reduceAdd,Nat.reduceLT,LI_,LB_,LA_,SI_,pt_,KI_,ne_eq,ht2,not_false_eq_true,if_true]
   exact retP_of ⟨rfl,out (SPost.self hM4 (AM.le_refl _))⟩
 ·have hb2:(t1 != 0)=true:=by simpa using ht
  simp only [hb2,std_all,sto_all,Nat.reduceAdd,Nat.reduceLT,LI_,LB_,LA_,SI_,pt_,KI_,ne_eq,ht,not_false_eq_true,if_true]
  exact retP_of ⟨rfl,hp3.pre L⟩
end Go.Proofs.YtkfemiloehkmhaaGreat.S

set_option linter.unusedSimpArgs false
set_option linter.unusedVariables false
set_option maxRecDepth 100000
namespace Go.Proofs.YtkfemiloehkmhaaGreat.S
open Go Go.RowKit Go.Alog Go.Proofs.YtkfemiloehkmhaaGreat.T Go.Proofs.YtkfemiloehkmhaaGreat.V

theorem int_one (l:List Int):∀ u∈intCells .i64 l,u.oneCell'=true:=fun u hu=>by
 obtain ⟨x,_,rfl⟩:=List.mem_map.1 hu
 rfl

theorem clone_int (w0:World) (m:AM) (A:Option Addr) (n c:Nat) (l:List Int) (hr:Reads m 1 A n (intCells .i64 l)) (hn:n≤1000000) :
  CallsA Tryz.prog w0 19 #[.slice A n c] m (fun r m'=>m.le m'∧∃ A' c',r=.slice A' n c'∧Own m' w0.heap.size 3 1 A' n c' (intCells .i64 l)∧∀ k∈obl A',m k=none):=by
 refine cf19 w0 m A n c _ ?_
 cases A with
 | none =>
  obtain ⟨h1,⟨_,rfl⟩ | ⟨ad,h,_⟩⟩:=hr
  ·simp only [Option.isNone_none,std_all,sto_all,Nat.reduceAdd,Nat.reduceLT,LI_,LB_,LA_,SI_,pt_,KI_]
   have:intCells .i64 l = []:=List.eq_nil_of_length_eq_zero (by simpa using h1)
   rw [this]
   exact retP_of ⟨AM.le_refl m,none,0,rfl,Own.nil _ _ _ _,by simp [obl]⟩
  ·cases h
 | some ad =>
  simp only [Option.isNone_some,std_all,sto_all,Nat.reduceAdd,Nat.reduceLT,LI_,LB_,LA_,SI_,pt_,KI_]
  intro b1 hb1 hm1
  have l1:=le_new hm1 (.cells [].toArray 3)
  have hn0:Own (m.upd b1 (.cells [].toArray 3)) w0.heap.size 3 1 (some ⟨b1,0,none⟩) 0 0 []:=Own.new m hb1 3 1 0 [] rfl
  refine awp_append_loc (m0:=m) el23 l1 hn0 (fun k hk=>by simp [obl] at hk; subst hk; exact hm1) (hr.le l1) (int_one l) (by omega) (by omega) (fun A4 c4 m4 l4 f4 o4 n4 _=>?_)
  simp only [std_all,sto_all,Nat.reduceAdd,Nat.reduceLT,LI_,LB_,LA_,SI_,pt_,KI_]
  rw [Nat.zero_add] at o4 ⊢
  exact retP_of ⟨l4,_,_,rfl,o4,n4⟩

def usedP (l:List Int):List Int:=(l.reverse.dropWhile (· == 0)).reverse

theorem usedP_snoc0 (l:List Int):usedP (l ++ [0])=usedP l:=by simp [usedP]
theorem usedP_snoc (l:List Int) (x:Int) (h:x≠0):usedP (l ++ [x])=l ++ [x]:=by
 have:(x == 0)=false:=by simpa using h
 simp [usedP,this]

theorem Own.shrink {m:AM} {B:Nat} {e:TypeId} {A:Option Addr} {n c:Nat} {xs:List Value} (h:Own m B e 1 A n c xs) {k:Nat} (hk:k≤n):Own m B e 1 A k c (xs.take k):=by
 obtain ⟨h1,h2,h3 | ⟨g,cur,h3,h4,h5,h6,h7⟩⟩:=h
 ·have:k=0:=by omega
  subst this
  exact ⟨by simp,by omega,.inl h3⟩
 ·refine ⟨by simp [h1]; omega,by omega,.inr ⟨g,cur,h3,h4,h5,h6,?_⟩⟩
  rw [← h7,List.take_take]
  congr 1
  omega

theorem words_spec (w0:World) (m:AM) (B gm:Nat) (A:Option Addr) (l:List Int) (c:Nat) (hm:m gm=some (.cells #[.slice A l.length c] 75)) (hw:Own m B 3 1 A l.length c (intCells .i64 l)) (hl:l.length≤1000000) :
  CallsA Tryz.prog w0 36 #[.pointer (some ⟨gm,0,none⟩)] m (fun r m'=>m.le m'∧∃ A' c',r=.slice A' l.length c'∧Own m' w0.heap.size 3 1 A' l.length c' (intCells .i64 l)∧∀ k∈obl A',m k=none):=by
 refine cf36 w0 m gm _ ?_
 simp only [Option.isNone_some,std_all,sto_all,Nat.reduceAdd,Nat.reduceLT,LI_,LB_,LA_,SI_,pt_,KI_,cell_of hm]
 refine CallsA.mono (clone_int w0 m A _ c l hw.reads hl) ?_
 rintro r m2 ⟨l2,A',c',rfl,ho,hn⟩
 exact ⟨_,_,_,rfl,retP_of ⟨l2,_,_,rfl,ho,hn⟩⟩

theorem used_spec (w0:World) (m:AM) (B gm:Nat) (A:Option Addr) (l:List Int) (c:Nat) (hm:m gm=some (.cells #[.slice A l.length c] 75)) (hw:Own m B 3 1 A l.length c (intCells .i64 l)) (hl:l.length≤1000000) :
  CallsA Tryz.prog w0 21 #[.pointer (some ⟨gm,0,none⟩)] m (fun r m'=>m.le m'∧∃ A' c',r=.slice A' (usedP l).length c'∧Own m' w0.heap.size 3 1 A' (usedP l).length c' (intCells .i64 (usedP l))∧∀ k∈obl A',m k=none):=by
 refine cf21 w0 m gm _ ?_
 refine CallsA.mono (words_spec w0 m B gm A l c hm hw hl) ?_
 rintro r m2 ⟨l2,A',c',rfl,ho,hn⟩
 refine ⟨_,_,_,rfl,?_⟩
 refine vl21_1100 w0 m2 _ _ A' l.length c' (fun k x n c2 m3=>k=n∧m3=m2∧x=A'∧c2=c'∧n≤l.length∧usedP (l.take n)=usedP l) (fun x n c2 m3=>m3=m2∧x=A'∧c2=c'∧n≤l.length∧usedP l=l.take n) l.length rfl ⟨rfl,rfl,rfl,rfl,Nat.le_refl _,by simp⟩ ?_ ?_
 ·rintro k σ x n c2 m3 ⟨hkn,rfl,rfl,rfl,hnl,hu⟩
  by_cases h0:n=0
  ·subst h0
   simp only [show decide (((0:Nat):Int)>0)=false from rfl,std_all,sto_all,Nat.reduceAdd,Nat.reduceLT,LI_,LB_,LA_,SI_,pt_,KI_]
   refine ⟨by omega,?_⟩
   rw [← hu]; rfl
  ·have hpos:((n:Nat):Int)>0:=by omega
   obtain ⟨ad,rfl,hc⟩:=ho.ex (by omega)
   have w1:IntKind.wrap .i64 ((n:Int)-1)=n-1:=by rw [IntKind.wrap_i64]; omega
   have hlt:n-1<l.length:=by omega
   have e1:((n:Int)-1).toNat=n-1:=by omega
   have hcell:m3.cell (ad.add ((n-1)*1))=some (.int .i64 l[n-1]):=by
    refine hc _ _ ?_
    simp [intCells,hlt]
   have htake:l.take n=l.take (n-1) ++ [l[n-1]]:=by
    have:=List.take_succ_eq_append_getElem hlt
    rwa [show n-1+1=n by omega] at this
   simp only [decide_eq_true hpos,std_all,sto_all,Nat.reduceAdd,Nat.reduceLT,LI_,LB_,LA_,SI_,pt_,KI_,w1,e1,hcell]
   have hcap:=ho.2.1
   by_cases hz:l[n-1]=0
   ·simp only [hz,beq_self_eq_true,std_all,sto_all,Nat.reduceAdd,Nat.reduceLT,LI_,LB_,LA_,SI_,pt_,KI_]
    refine ⟨by omega,by omega,by omega,by omega,by omega,n-1,by omega,?_⟩
    have hc0:¬ c2=0:=by omega
    simp only [if_neg hc0,Nat.sub_zero,Nat.zero_mul,Option.map_some,std_all,sto_all,Nat.reduceAdd,Nat.reduceLT,LI_,LB_,LA_,SI_,pt_,KI_]
    refine ⟨by cases ad; rfl,by omega,?_⟩
    rw [← hu,htake,hz,usedP_snoc0]
   ·have hz2:(l[n-1] == 0)=false:=by simpa using hz
    simp only [hz2,std_all,sto_all,Nat.reduceAdd,Nat.reduceLT,LI_,LB_,LA_,SI_,pt_,KI_]
    refine ⟨by omega,by omega,by omega,?_⟩
    rw [← hu,htake,usedP_snoc _ _ hz]
 ·rintro σ x n c2 m3 ⟨rfl,rfl,rfl,hnl,hu⟩
  refine retP_of ⟨l2,x,c2,?_,?_,hn⟩
  ·rw [hu,List.length_take,Nat.min_eq_left hnl]
  ·have:=Own.shrink ho hnl
   rw [hu,List.length_take,Nat.min_eq_left hnl]
   simpa [intCells] using this
end Go.Proofs.YtkfemiloehkmhaaGreat.S

set_option linter.unusedSimpArgs false
set_option linter.unusedVariables false
set_option maxRecDepth 100000
namespace Go.Proofs.YtkfemiloehkmhaaGreat.S
open Go Go.RowKit Go.Alog Go.Proofs.YtkfemiloehkmhaaGreat.T Go.Proofs.YtkfemiloehkmhaaGreat.V

theorem zeros_intM (n:Nat):zeros [Value.int .i64 0] n=intCells .i64 (List.replicate n 0):=by
 unfold zeros intCells
 induction n with
 | zero=>rfl
 | succ n ih=>simp only [List.replicate_succ,List.flatten_cons,List.map_cons] at ih ⊢; rw [ih]; rfl

theorem new_spec (w0:World) (m:AM) (n:Int):CallsA Tryz.prog w0 18 #[.int .i64 n] m (fun r m'=>m.le m' ∧
  (if n<0∨n>32000 then r=.pointer none else ∃ gm A,r=.pointer (some ⟨gm,0,none⟩)∧m' gm=some (.cells #[.slice A (List.replicate n.toNat (0:Int)).length n.toNat] 75)∧Own m' w0.heap.size 3 1 A (List.replicate n.toNat (0:Int)).length n.toNat (intCells .i64 (List.replicate n.toNat 0))∧(∀ k∈obl A,m k=none)∧m gm=none)):=by
 refine cf18 w0 m n _ ?_
 by_cases h0:n<0
 ·simp only [decide_eq_true h0,std_all,sto_all,Nat.reduceAdd,Nat.reduceLT,LI_,LB_,LA_,SI_,pt_,KI_,if_pos (Or.inl h0:n<0∨n>32000)]; exact retP_of ⟨AM.le_refl m,rfl⟩
 by_cases h1:n>32000
 ·simp only [decide_eq_false h0,decide_eq_true h1,std_all,sto_all,Nat.reduceAdd,Nat.reduceLT,LI_,LB_,LA_,SI_,pt_,KI_,if_pos (Or.inr h1:n<0∨n>32000)]; exact retP_of ⟨AM.le_refl m,rfl⟩
 simp only [decide_eq_false h0,decide_eq_false h1,std_all,sto_all,Nat.reduceAdd,Nat.reduceLT,LI_,LB_,LA_,SI_,pt_,KI_,if_neg (show ¬ (n<0∨n>32000) by omega)]
 refine ⟨by omega,by omega,by omega,by omega,?_⟩
 intro b1 hb1 hm1
 rw [zeros_intM]
 have l1:=le_new hm1 (.cells (intCells .i64 (List.replicate n.toNat 0)).toArray 3)
 have o1:Own (m.upd b1 (.cells (intCells .i64 (List.replicate n.toNat 0)).toArray 3)) w0.heap.size 3 1 (some ⟨b1,0,none⟩) n.toNat n.toNat (intCells .i64 (List.replicate n.toNat 0)):=Own.new m hb1 3 1 n.toNat _ (by simp [intCells])
 generalize m.upd b1 (.cells (intCells .i64 (List.replicate n.toNat 0)).toArray 3)=m2 at l1 o1
 intro b3 hb3 hm3
 have l3:=le_new hm3 (.cells #[.slice (some ⟨b1,0,none⟩) n.toNat n.toNat] 75)
 refine retP_of ⟨AM.le_trans l1 l3,b3,rfl,some ⟨b1,0,none⟩,?_,?_,?_,AM.le_none l1 hm3⟩
 ·rw [upd_get_same,List.length_replicate]
 ·rw [List.length_replicate]; exact o1.le l3
 ·intro k hk; simp [obl] at hk; subst hk; exact hm1

def runG (code:List Ins):Nat→MS × Int × Int→MS × Int × Int
 | 0,x=>x
 | n+1,(s,t,k)=>if t=0 then runG code n ((stepP code s).1,(stepP code s).2,k+1) else (s,t,k)
def beginS (mem:Int) (inp:List Int):MS:=⟨List.replicate 32 0,List.replicate mem.toNat 0,0,inp,[]⟩
structure Res where
  trap : Int
  steps : Int
  out : List Int
  mem : List Int
 deriving DecidableEq
def runP (code:List Ins) (mem:Int) (inp:List Int) (fuel:Int):Res :=
 if code.length>4096∨mem<0∨mem>32000 then ⟨0,0,[],[]⟩
 else let x:=runG code fuel.toNat (beginS mem inp,0,0); ⟨x.2.1,x.2.2,x.1.out,usedP x.1.mem⟩

def RRes (m:AM) (B:Nat) (v:Value) (r:Res):Prop :=
 ∃ Ao co Am cm,v=.agg #[.int .i64 r.trap,.int .i64 r.steps,.slice Ao r.out.length co,.slice Am r.mem.length cm]∧Own m B 3 1 Ao r.out.length co (intCells .i64 r.out)∧Own m B 3 1 Am r.mem.length cm (intCells .i64 r.mem)

theorem sysP_mem (s:MS) (n:Int):(sysP s n).1.mem=s.mem:=by
 unfold sysP
 split
 ·rfl
 split
 ·cases s.inp <;> rfl
 split
 ·split <;> rfl
 ·rfl
theorem actP_mem (s:MS) (i:Ins):(actP s i).1.mem.length=s.mem.length:=by
 unfold actP
 simp only
 split
 ·split <;> rfl
 split
 ·split
  ·simp
  ·rfl
 split
 ·split <;> rfl
 split
 ·rw [sysP_mem]
 ·rfl
theorem nextP_mem (s:MS) (i:Ins):(nextP s i).1.mem=s.mem:=by
 unfold nextP
 simp only
 split
 ·rfl
 split
 ·rfl
 split
 ·rfl
 split
 ·rfl
 ·rfl
theorem stepP_mem (code:List Ins) (s:MS):(stepP code s).1.mem.length=s.mem.length:=by
 unfold stepP
 simp only
 split
 ·rfl
 split
 ·rfl
 split
 ·rfl
 split
 ·exact actP_mem _ _
 split
 ·exact actP_mem _ _
 ·show ((nextP _ _).1.mem).length=_
  rw [nextP_mem]
  split <;> exact actP_mem _ _
theorem runG_mem (code:List Ins):∀ (n:Nat) (x:MS × Int × Int),(runG code n x).1.mem.length=x.1.mem.length
 | 0,x=>rfl
 | n+1,(s,t,k)=>by
  unfold runG
  split
  ·rw [runG_mem code n]; exact stepP_mem code s
  ·rfl

theorem cell_small {m:AM} {b:Nat} {c:Array Value} {t:TypeId} (hb:m b=some (.cells c t)) {a:Addr} (ha:a.block=b) (h4:c.size≤a.off):m.cell a=none:=by
 unfold AM.cell
 rw [ha,hb]
 simp
 intros
 omega

theorem SeqM.foreign {m:AM} {B g gm:Nat} {code:List Ins} {s:MS} {fp:List Nat} (h:SeqM m B g gm code s fp) {b:Nat} {c:Array Value} (hb:m b=some (.cells c 30)) (hc:c.size=4) (hf:b∉fp) (o:Obj):SeqM (m.upd b o) B g gm code s fp:=by
 obtain ⟨Ac,cc,Ai,ci,Ao,co,Aw,cw,h⟩:=h
 have hfr:Fr m (m.upd b o) [b]:=Fr.upd (Fr.refl _ _) (.inl (by simp)) _
 have hne:∀ {k:Nat} {c':Array Value} {t:TypeId},m k=some (.cells c' t)→t≠30→k∉[b]:=fun {k c' t} hk ht hin=>by
  simp at hin; subst hin; rw [hb] at hk; injection hk with hk; injection hk with _ h2; exact ht h2.symm
 have hAc:0<code.length→∀ k∈obl Ac,k∉[b]:=by
  intro h0 k hk hin
  simp at hin; subst hin
  obtain ⟨ad,rfl,hcl⟩:=h.hc.ex h0
  simp [obl] at hk
  have hl:4<(insCells code).length:=by rw [insCells_len]; omega
  have hx:=hcl 4 _ (List.getElem?_eq_getElem hl)
  rw [cell_small hb (by rw [add_block,hk]) (by rw [hc]; unfold Addr.add; simp)] at hx
  cases hx
 have hAi:0<s.inp.length→∀ k∈obl Ai,k∉[b]:=by
  intro h0 k hk
  obtain ⟨c',h'⟩:=h.ti h0 k hk
  exact hne h' (by decide)
 exact ⟨Ac,cc,Ai,ci,Ao,co,Aw,cw,hfr _ _ h.hg (hne h.hg (by decide)),h.hB,h.hr,Reads_fr h.hc hfr hAc,hfr _ _ h.hm (hne h.hm (by decide)),
  h.hw.fr hfr (fun k hk hin=>by simp at hin; exact hf (by rw [h.hfp,← hin]; simp [hk])),Reads_fr h.hi hfr hAi,h.hic,h.ho.fr hfr (fun k hk hin=>by simp at hin; exact hf (by rw [h.hfp,← hin]; simp [hk])),h.hfp,h.dwo,h.dc,h.di,h.dm,
  fun h0 k hk=>(h.ti h0 k hk).imp fun _ e=>hfr _ _ e (hAi h0 k hk)⟩

structure RunC (w0:World) (m:AM) (b1 b35 b37 gm:Nat) (code:List Ins) (m6:AM) (s:MS) (t k:Int) (fp:List Nat):Prop where
 hS:SeqM m6 w0.heap.size b35 gm code s fp
 hl:m.le m6
 h1:m6 b1=some (.cells #[.int .i64 0,.int .i64 0,.slice none 0 0,.slice none 0 0] 30)
 h37:m6 b37=some (.cells #[.int .i64 t,.int .i64 k,.slice none 0 0,.slice none 0 0] 30)
 hf:∀ x∈fp,m x=none
 n1:b1∉fp
 n37:b37∉fp
def RunI (w0:World) (m:AM) (b1 b35 b37 gm:Nat) (code:List Ins) (fuel:Int) (F:MS × Int × Int) (n:Nat) (m6:AM):Prop :=
 ∃ s t k fp,RunC w0 m b1 b35 b37 gm code m6 s t k fp∧runG code n (s,t,k)=F∧0≤k∧(t=0→n=(fuel-k).toNat)
def RunE (w0:World) (m:AM) (b1 b35 b37 gm:Nat) (code:List Ins) (F:MS × Int × Int) (m6:AM):Prop :=
 ∃ s t k fp,RunC w0 m b1 b35 b37 gm code m6 s t k fp∧(s,t,k)=F

theorem run_spec (w0:World) (m:AM) (Ac:Option Addr) (cc:Nat) (code:List Ins) (mem:Int) (Ai:Option Addr) (ci:Nat) (inp:List Int) (fuel:Int) (hf:InI fuel) (hc:Reads m 5 Ac code.length (insCells code)) (hi:Reads m 1 Ai inp.length (intCells .i64 inp)) (hin:inp.length≤1000000) :
  CallsA Tryz.prog w0 7 #[.slice Ac code.length cc,.int .i64 mem,.slice Ai inp.length ci,.int .i64 fuel] m (fun r m'=>m.le m'∧RRes m' w0.heap.size r (runP code mem inp fuel)):=by
 refine cf7 w0 m Ac code.length cc mem Ai inp.length ci fuel _ ?_
 intro b1 hb1 hm1 M
 have l1:m.le M:=le_new hm1 _
 have p1:M b1=some (.cells #[.int .i64 0,.int .i64 0,.slice none 0 0,.slice none 0 0] 30):=upd_get_same
 clear_value M
 refine CallsA.mono (new_spec w0 M mem) ?_
 rintro r m2 ⟨l2,hr⟩
 have p2:=l2 _ _ p1
 have retB:∀ (m3:AM) (A:Option Addr) (n c:Nat) (A':Option Addr) (n' c':Nat) (t k:Int) (R:Value→AM→Prop),m3 b1=some (.cells #[.int .i64 0,.int .i64 0,.slice none 0 0,.slice none 0 0] 30)→m.le m3 →
   (∀ m4,m.le m4→Fr m3 m4 [b1]→R (.agg #[.int .i64 t,.int .i64 k,.slice A n c,.slice A' n' c']) m4) →
   StC w0.heap.size m3 ⟨b1,0,none⟩ (.int .i64 t) fun m75=>StC w0.heap.size m75 ⟨b1,1,none⟩ (.int .i64 k) fun m76=>StC w0.heap.size m76 ⟨b1,2,none⟩ (.slice A n c) fun m77=>StC w0.heap.size m77 ⟨b1,3,none⟩ (.slice A' n' c') fun m78 =>
    ∃ i79:Int,m78.cell ⟨b1,0,none⟩=some (.int .i64 i79)∧∃ i80:Int,m78.cell ⟨b1,1,none⟩=some (.int .i64 i80)∧∃ (A81:Option Addr) (n82 c83:Nat),m78.cell ⟨b1,2,none⟩=some (.slice A81 n82 c83)∧∃ (A84:Option Addr) (n85 c86:Nat),m78.cell ⟨b1,3,none⟩=some (.slice A84 n85 c86)∧RetP R (.agg #[.int .i64 i79,.int .i64 i80,.slice A81 n82 c83,.slice A84 n85 c86]) m78:=by
  intro m3 A n c A' n' c' t k R q1 L hR
  refine StC_own q1 hb1 (by simp) ?_
  simp only [std_all,sto_all,Nat.reduceAdd,Nat.reduceLT,LI_,LB_,LA_,SI_,pt_,KI_,hb1]
  refine retP_of (hR _ ?_ (Fr.upd (Fr.refl _ _) (.inl (by simp)) _))
  intro x o hx
  rw [upd_get]
  by_cases e:x=b1
  ·subst e; rw [hm1] at hx; cases hx
  ·rw [if_neg e]; exact L _ _ hx
 have L2:=AM.le_trans l1 l2
 have nil:∀ m4,RRes m4 w0.heap.size (.agg #[.int .i64 0,.int .i64 0,.slice none 0 0,.slice none 0 0]) ⟨0,0,[],[]⟩:=fun m4=>⟨none,0,none,0,rfl,Own.nil _ _ _ _,Own.nil _ _ _ _⟩
 unfold runP
 by_cases hbad:mem<0∨mem>32000
 ·rw [if_pos hbad] at hr
  subst hr
  rw [if_pos (Or.inr hbad)]
  refine ⟨none,rfl,rfl,?_⟩
  by_cases hl:((code.length:Nat):Int)>4096
  ·rw [decide_eq_true hl,bcase_t]
   exact ⟨rfl,rfl,retB m2 none 0 0 none 0 0 0 0 _ p2 L2 fun m4 l4 _=>⟨l4,nil m4⟩⟩
  ·rw [decide_eq_false hl,bcase_f]
   simp only [cond_false,Option.isNone_none,bcase_t]
   exact ⟨trivial,retB m2 none 0 0 none 0 0 0 0 _ p2 L2 fun m4 l4 _=>⟨l4,nil m4⟩⟩
 rw [if_neg hbad] at hr
 obtain ⟨gm,Aw,rfl,hgm,hw,hnw,hng⟩:=hr
 refine ⟨_,rfl,rfl,?_⟩
 by_cases hl:((code.length:Nat):Int)>4096
 ·rw [decide_eq_true hl,bcase_t,if_pos (Or.inl (by omega))]
  exact ⟨rfl,rfl,retB m2 none 0 0 none 0 0 0 0 _ p2 L2 fun m4 l4 _=>⟨l4,nil m4⟩⟩
 rw [decide_eq_false hl,bcase_f,if_neg (show ¬ (code.length>4096∨mem<0∨mem>32000) from fun h=>h.elim (fun h=>hl (by omega)) hbad)]
 refine (show bcase false _ _ from ?_)
 rw [bcase_f]
 refine CallsA.mono (clone_int w0 m2 Ai _ ci inp (hi.le L2) hin) ?_
 rintro r m3 ⟨l3,Ai',ci',rfl,hoi,hni⟩
 refine ⟨_,_,_,rfl,rfl,?_⟩
 intro b35 hb35 hm35 m4
 have l4:m3.le m4:=le_new hm35 _
 have p4:m4 b35=some (.cells (machL Ac code.length cc gm (List.replicate 32 0) 0 Ai' inp.length ci' none 0 0).toArray 53):=upd_get_same
 clear_value m4
 intro b37 hb37 hm37 m5
 have l5:m4.le m5:=le_new hm37 _
 have p5:m5 b37=some (.cells #[.int .i64 0,.int .i64 0,.slice none 0 0,.slice none 0 0] 30):=upd_get_same
 clear_value m5
 have L5:=AM.le_trans (AM.le_trans (AM.le_trans L2 l3) l4) l5
 have n35:m b35=none:=AM.le_none (AM.le_trans L2 l3) hm35
 have n37:m b37=none:=AM.le_none (AM.le_trans (AM.le_trans L2 l3) l4) hm37
 have hS:SeqM m5 w0.heap.size b35 gm code (beginS mem inp) (b35 :: (obl Aw ++ obl none)):=by
  have hoi5:=(hoi.le l4).le l5
  have hw5:=((hw.le l3).le l4).le l5
  refine ⟨Ac,cc,Ai',ci',none,0,Aw,mem.toNat,l5 _ _ p4,hb35,by simp [beginS],hc.le L5,l5 _ _ (l4 _ _ (l3 _ _ hgm)),hw5,hoi5.reads,hoi.2.1,Own.nil _ _ _ _,rfl,by simp [obl],?_,?_,?_,?_⟩
  ·intro h0 k hk hin
   have hk0:=Reads_known hc h0 (by decide) k hk
   simp only [List.mem_cons,List.mem_append,obl,List.not_mem_nil,or_false] at hin
   rcases hin with rfl | hin
   ·exact hk0 n35
   ·exact hk0 (AM.le_none l1 (hnw k hin))
  ·intro h0 k hk hin
   simp only [List.mem_cons,List.mem_append,obl,List.not_mem_nil,or_false] at hin
   obtain ⟨_,cur,hk3⟩:=hoi.obl_some hk
   rcases hin with rfl | hin
   ·rw [hm35] at hk3; cases hk3
   ·obtain ⟨_,cur2,hk2⟩:=hw.obl_some hin
    rw [hni k hk] at hk2; cases hk2
  ·intro hin
   simp only [List.mem_cons,List.mem_append,obl,List.not_mem_nil,or_false] at hin
   rcases hin with e | hin
   ·rw [← e] at hm35; rw [l3 _ _ hgm] at hm35; cases hm35
   ·exact hw.obl_ne hgm (by decide) hin
  ·intro h0 k hk
   obtain ⟨_,cur,hk3⟩:=hoi5.obl_some hk
   exact ⟨cur,hk3⟩
 have hfp0:∀ k∈b35 :: (obl Aw ++ obl none),m k=none:=by
  intro k hin
  simp only [List.mem_cons,List.mem_append,obl,List.not_mem_nil,or_false] at hin
  rcases hin with rfl | hin
  ·exact n35
  ·exact AM.le_none l1 (hnw k hin)
 have q1:=l5 _ _ (l4 _ _ (l3 _ _ p2))
 generalize hfp:b35 :: (obl Aw ++ obl none)=fp0 at hS hfp0
 have hb1f:b1∉fp0:=by
  rw [← hfp]
  intro hin
  simp only [List.mem_cons,List.mem_append,obl,List.not_mem_nil,or_false] at hin
  rcases hin with e | hin
  ·rw [← e,l3 _ _ p2] at hm35; cases hm35
  ·exact hw.obl_ne p2 (by decide) hin
 have hb37f:b37∉fp0:=by
  rw [← hfp]
  intro hin
  simp only [List.mem_cons,List.mem_append,obl,List.not_mem_nil,or_false] at hin
  rcases hin with e | hin
  ·rw [e,p4] at hm37; cases hm37
  ·exact (hw.le l3 |>.le l4 |>.le l5).obl_ne p5 (by decide) hin
 have h137:b1≠b37:=fun e=>by rw [← e,l4 _ _ (l3 _ _ p2)] at hm37; cases hm37
 generalize hF:runG code fuel.toNat (beginS mem inp,0,0)=F
 refine vl7_1111100 w0 m5 _ _ fuel b1 (some ⟨gm,0,none⟩) b35 b37 (RunI w0 m b1 b35 b37 gm code fuel F) (RunE w0 m b1 b35 b37 gm code F) fuel.toNat rfl rfl rfl rfl rfl ⟨beginS mem inp,0,0,fp0,⟨hS,L5,q1,p5,hfp0,hb1f,hb37f⟩,hF,by omega,fun _=>by simp⟩ ?_ ?_
 ·rintro n σ m6 ⟨s,t,k,fp,hC,hG,hk,hn⟩
  simp only [cell_of hC.h37,std_all,sto_all,Nat.reduceAdd,Nat.reduceLT,LI_,LB_,LA_,SI_,pt_,KI_]
  by_cases ht:t=0
  ·subst ht
   simp only [beq_self_eq_true,std_all,sto_all,Nat.reduceAdd,Nat.reduceLT,LI_,LB_,LA_,SI_,pt_,KI_]
   by_cases hkf:k<fuel
   ·simp only [decide_eq_true hkf,std_all,sto_all,Nat.reduceAdd,Nat.reduceLT,LI_,LB_,LA_,SI_,pt_,KI_]
    refine CallsA.mono (step_spec w0 m6 b35 gm code s fp hC.hS) ?_
    rintro r m7 ⟨rfl,hp⟩
    have k37:=hp.keep hC.h37 hC.n37
    have k1:=hp.keep hC.h1 hC.n1
    obtain ⟨fp7,h7,hf7,hk7⟩:=hp
    refine ⟨_,rfl,?_⟩
    refine StC_own k37 hb37 (by simp) ?_
    have wk:IntKind.wrap .i64 (k+1)=k+1:=by rw [IntKind.wrap_i64]; unfold InI at hf; omega
    simp only [std_all,sto_all,Nat.reduceAdd,Nat.reduceLT,LI_,LB_,LA_,SI_,pt_,KI_,hb37,wk]
    have hn1:n=(fuel-k).toNat:=hn rfl
    obtain ⟨n',rfl⟩:∃ n',n=n'+1:=⟨n-1,by omega⟩
    refine ⟨n',by omega,(stepP code s).1,(stepP code s).2,k+1,fp7,⟨?_,?_,?_,upd_get_same,?_,?_,?_⟩,?_,by omega,fun _=>by omega⟩
    ·exact h7.foreign k37 (by simp) (fun hx=>by
      rcases hk7 _ hx with h | h
      ·exact hC.n37 h
      ·rw [hC.h37] at h; cases h) _
    ·intro x o hx
     rw [upd_get]
     by_cases e:x=b37
     ·subst e; rw [n37] at hx; cases hx
     ·rw [if_neg e]; exact hf7 _ _ (hC.hl _ _ hx) fun hin=>by rw [hC.hf x hin] at hx; cases hx
    ·rw [upd_get_ne h137]; exact k1
    ·intro x hx
     rcases hk7 x hx with h | h
     ·exact hC.hf x h
     ·exact AM.le_none hC.hl h
    ·intro hx
     rcases hk7 _ hx with h | h
     ·exact hC.n1 h
     ·rw [hC.h1] at h; cases h
    ·intro hx
     rcases hk7 _ hx with h | h
     ·exact hC.n37 h
     ·rw [hC.h37] at h; cases h
    ·rw [← hG]; simp [runG]
   ·simp only [decide_eq_false hkf,std_all,sto_all,Nat.reduceAdd,Nat.reduceLT,LI_,LB_,LA_,SI_,pt_,KI_]
    refine ⟨s,0,k,fp,hC,?_⟩
    have hn1:n=(fuel-k).toNat:=hn rfl
    have:n=0:=by omega
    subst this
    exact hG
  ·have hb:(t == 0)=false:=by simpa using ht
   simp only [hb,std_all,sto_all,Nat.reduceAdd,Nat.reduceLT,LI_,LB_,LA_,SI_,pt_,KI_]
   refine ⟨s,t,k,fp,hC,?_⟩
   rw [← hG]
   cases n with
   | zero=>rfl
   | succ n=>simp [runG,ht]
 ·rintro σ m6 ⟨s,t,k,fp,hC,rfl⟩
  have hml:s.mem.length≤1000000:=by
   have:=runG_mem code fuel.toNat (beginS mem inp,0,0)
   rw [hF] at this
   have h2:s.mem.length=(beginS mem inp).mem.length:=this
   rw [h2]; simp [beginS]; omega
  have hSm:=hC.hS
  obtain ⟨Ac6,cc6,Ai6,ci6,Ao6,co6,Aw6,cw6,h6⟩:=hC.hS
  obtain ⟨_,_,_,_,r36⟩:=h6.cells
  have fin:∀ (m7:AM) (A:Option Addr) (c:Nat),m6.le m7→Own m7 w0.heap.size 3 1 A (usedP s.mem).length c (intCells .i64 (usedP s.mem))→∀ (K:AM→Prop),
    (∀ m8,m.le m8→m8 b1=some (.cells #[.int .i64 0,.int .i64 0,.slice none 0 0,.slice none 0 0] 30)→m8 b37=some (.cells #[.int .i64 t,.int .i64 k,.slice Ao6 s.out.length co6,.slice A (usedP s.mem).length c] 30)→Own m8 w0.heap.size 3 1 Ao6 s.out.length co6 (intCells .i64 s.out)→Own m8 w0.heap.size 3 1 A (usedP s.mem).length c (intCells .i64 (usedP s.mem))→K m8) →
    StC w0.heap.size m7 ⟨b37,2,none⟩ (.slice Ao6 s.out.length co6) fun m55=>StC w0.heap.size m55 ⟨b37,3,none⟩ (.slice A (usedP s.mem).length c) K:=by
   intro m7 A c l7 o7 K hK
   have k37:=l7 _ _ hC.h37
   refine StC_own k37 hb37 (by simp) ?_
   simp only [std_all,sto_all,Nat.reduceAdd,Nat.reduceLT,LI_,LB_,LA_,SI_,pt_,KI_,hb37]
   refine hK _ ?_ (by rw [upd_get_ne h137]; exact l7 _ _ hC.h1) upd_get_same ((h6.ho.le l7).upd ((h6.ho.le l7).ne_type k37 (by decide))) (o7.upd (o7.ne_type k37 (by decide)))
   intro x o hx
   rw [upd_get]
   by_cases e:x=b37
   ·subst e; rw [n37] at hx; cases hx
   ·rw [if_neg e]; exact l7 _ _ (hC.hl _ _ hx)
  refine vr7_1111110 w0 m6 _ _ b1 (some ⟨gm,0,none⟩) b35 b37 (fun m8=>∃ A c,m.le m8∧m8 b1=some (.cells #[.int .i64 0,.int .i64 0,.slice none 0 0,.slice none 0 0] 30)∧m8 b37=some (.cells #[.int .i64 t,.int .i64 k,.slice Ao6 s.out.length co6,.slice A (usedP s.mem).length c] 30)∧Own m8 w0.heap.size 3 1 Ao6 s.out.length co6 (intCells .i64 s.out)∧Own m8 w0.heap.size 3 1 A (usedP s.mem).length c (intCells .i64 (usedP s.mem))) rfl rfl rfl rfl ?_ ?_
  ·refine ⟨⟨_,_,_,r36,?_⟩,?_⟩
   ·refine CallsA.mono (used_spec w0 m6 w0.heap.size gm Aw6 s.mem cw6 h6.hm h6.hw hml) ?_
    rintro r m7 ⟨l7,A,c,rfl,o7,_⟩
    refine ⟨_,_,_,rfl,fin m7 A c l7 o7 _ fun m8 a1 a2 a3 a4 a5=>?_⟩
    exact ⟨rfl,rfl,rfl,A,c,a1,a2,a3,a4,a5⟩
   ·refine CallsA.mono (used_spec w0 m6 w0.heap.size gm Aw6 s.mem cw6 h6.hm h6.hw hml) ?_
    rintro r m7 ⟨l7,A,c,rfl,o7,_⟩
    refine ⟨_,_,_,rfl,_,_,_,AM.le_cell l7 r36,fin m7 A c l7 o7 _ fun m8 a1 a2 a3 a4 a5=>?_⟩
    exact ⟨rfl,rfl,rfl,A,c,a1,a2,a3,a4,a5⟩
  ·rintro σ m8 ⟨A,c,a1,a2,a3,a4,a5⟩
   simp only [cell_of a3,std_all,sto_all,Nat.reduceAdd,Nat.reduceLT,LI_,LB_,LA_,SI_,pt_,KI_]
   refine StC_own a2 hb1 (by simp) ?_
   simp only [std_all,sto_all,Nat.reduceAdd,Nat.reduceLT,LI_,LB_,LA_,SI_,pt_,KI_,hb1]
   refine retP_of ⟨?_,Ao6,co6,A,c,rfl,a4.upd (a4.ne_type a2 (by decide)),a5.upd (a5.ne_type a2 (by decide))⟩
   intro x o hx
   rw [upd_get]
   by_cases e:x=b1
   ·subst e; rw [hm1] at hx; cases hx
   ·rw [if_neg e]; exact a1 _ _ hx
end Go.Proofs.YtkfemiloehkmhaaGreat.S

