/- YtkfemiloehkmhaaGreat: a text of our own, by an AI agent: WiBY -/
import Derived.Test.YtkfemiloehkmhaaGreatCoreC
import Derived.Test.YtkfemiloehkmhaaGreatCoreA
import Derived.Test.YtkfemiloehkmhaaGreatTabY
import Derived.Test.YtkfemiloehkmhaaGreatVaBY
set_option linter.unusedSimpArgs false
set_option linter.unusedVariables false
namespace Go.Proofs.YtkfemiloehkmhaaGreat.S
open Go Go.RowKit Go.Alog Go.Proofs.YtkfemiloehkmhaaGreat.T Go.Proofs.YtkfemiloehkmhaaGreat.V

def w32 (n:Int):Int:=IntKind.wrap .i32 n
theorem w32_eq (n:Int):w32 n=(n+2147483648) % 4294967296-2147483648:=IntKind.wrap_i32 n
theorem w32_le (n:Int) : -2147483648≤w32 n∧w32 n≤2147483647:=by rw [w32_eq]; omega
theorem w64_w32 (n:Int):IntKind.wrap .i64 (w32 n)=w32 n:=by have:=w32_le n; rw [IntKind.wrap_i64]; omega
theorem w32_w64 (n:Int):w32 (IntKind.wrap .i64 n)=w32 n:=by rw [w32_eq,w32_eq,IntKind.wrap_i64]; omega
theorem w32_w32 (n:Int):w32 (w32 n)=w32 n:=by have:=w32_le n; rw [w32_eq (w32 n)]; omega
theorem w32_id {n:Int} (h : -2147483648≤n∧n≤2147483647):w32 n=n:=by rw [w32_eq]; omega
theorem fitsW (w0:World) (m:AM) (n:Int):CallsA Tryz.prog w0 49 #[.int .i64 n,.int .i64 16] m (fun r m'=>r=.bool (decide (-32768≤n∧n≤32767))∧m'=m):=by
 refine cf49 w0 m n 16 _ ?_
 have e1:(IntKind.wrap .i64 (1*2 ^ (min ((IntKind.wrap .i64 (16-1)):Int).toNat (IntKind.bits .i64))))=32768:=by decide
 have e2:(IntKind.wrap .i64 (0-32768)) = -32768:=by decide
 simp only [e1,e2,show decide ((16:Int)<1)=false from rfl,show decide ((16:Int)>62)=false from rfl,show ((0:Int)≤(IntKind.wrap .i64 (16-1)))=True from by simp [IntKind.wrap_i64],std_all,sto_all,Nat.reduceAdd,Nat.reduceLT,LI_,LB_,LA_,SI_,pt_,KI_]
 by_cases h:n≥-32768
 ·simp only [h,decide_true,std_all,sto_all,Nat.reduceAdd,Nat.reduceLT,LI_,LB_,LA_,SI_,pt_,KI_]
  refine retP_of ⟨?_,rfl⟩
  by_cases h2:n<32768 <;> simp [h2] <;> omega
 ·simp only [h,decide_false,std_all,sto_all,Nat.reduceAdd,Nat.reduceLT,LI_,LB_,LA_,SI_,pt_,KI_]
  refine retP_of ⟨?_,rfl⟩
  simp

end Go.Proofs.YtkfemiloehkmhaaGreat.S

set_option linter.unusedSimpArgs false
set_option linter.unusedVariables false
namespace Go.Proofs.YtkfemiloehkmhaaGreat.S
open Go Go.RowKit Go.Alog Go.Proofs.YtkfemiloehkmhaaGreat.T Go.Proofs.YtkfemiloehkmhaaGreat.V

def shapeT:List Int:=[0,7,7,7,7,7,7,7,7,7,11,9,11,11,11,11,11,8,8,1,8]
def shapeR (op:Int):Int:=if op<0 then -1 else if op>20 then -1 else shapeT.getD op.toNat 0

theorem shape_spec (w0:World) (m:AM) (op:Int):CallsA Tryz.prog w0 42 #[.int .i64 op] m (fun r m'=>r=.int .i64 (shapeR op)∧m.le m'):=by
 refine cf42 w0 m op _ ?_
 unfold shapeR
 by_cases h0:op<0
 ·simp only [h0,decide_true,if_true,std_all,sto_all,Nat.reduceAdd,Nat.reduceLT,LI_,LB_,LA_,SI_,pt_,KI_]
  exact retP_of ⟨rfl,AM.le_refl m⟩
 by_cases h1:op>20
 ·simp only [h0,h1,decide_true,decide_false,if_true,if_false,std_all,sto_all,Nat.reduceAdd,Nat.reduceLT,LI_,LB_,LA_,SI_,pt_,KI_]
  exact retP_of ⟨rfl,AM.le_refl m⟩
 simp only [h0,h1,decide_true,decide_false,if_true,if_false,std_all,sto_all,Nat.reduceAdd,Nat.reduceLT,LI_,LB_,LA_,SI_,pt_,KI_]
 intro b1 hb hm
 have hl:op.toNat<shapeT.length:=by simp [shapeT]; omega
 have hc:(m.upd b1 (.cells #[.int .i64 0,.int .i64 7,.int .i64 7,.int .i64 7,.int .i64 7,.int .i64 7,.int .i64 7,.int .i64 7,.int .i64 7,.int .i64 7,.int .i64 11,.int .i64 9,.int .i64 11,.int .i64 11,.int .i64 11,.int .i64 11,.int .i64 11,.int .i64 8,.int .i64 8,.int .i64 1,.int .i64 8] 3)).cell ((⟨b1,0,none⟩:Addr).add (op.toNat*1))=some (.int .i64 (shapeT.getD op.toNat 0)):=by
  rw [addn,Nat.zero_add,Nat.mul_one,cell_upd_same]
  have:∀ k,k<21→(#[Value.int .i64 0,.int .i64 7,.int .i64 7,.int .i64 7,.int .i64 7,.int .i64 7,.int .i64 7,.int .i64 7,.int .i64 7,.int .i64 7,.int .i64 11,.int .i64 9,.int .i64 11,.int .i64 11,.int .i64 11,.int .i64 11,.int .i64 11,.int .i64 8,.int .i64 8,.int .i64 1,.int .i64 8]:Array Value)[k]?=some (.int .i64 (shapeT.getD k 0)):=by
   intro k hk
   have:k=0∨k=1∨k=2∨k=3∨k=4∨k=5∨k=6∨k=7∨k=8∨k=9∨k=10∨k=11∨k=12∨k=13∨k=14∨k=15∨k=16∨k=17∨k=18∨k=19∨k=20:=by omega
   rcases this with rfl | rfl | rfl | rfl | rfl | rfl | rfl | rfl | rfl | rfl | rfl | rfl | rfl | rfl | rfl | rfl | rfl | rfl | rfl | rfl | rfl <;> rfl
  exact this _ (by omega)
 simp only [std_all,sto_all,Nat.reduceAdd,Nat.reduceLT,LI_,LB_,LA_,SI_,pt_,KI_,hc]
 exact ⟨by omega,by omega,retP_of ⟨rfl,AM.le_upd (AM.le_refl m) hm⟩⟩

def partR (s x:Int):Bool:=!((s.tmod 2 == 0 && x != 0) || decide (x<0) || decide (x>31))
def rangeR (op imm:Int):Bool :=
 if op=14 then decide (imm≥0) && decide (imm≤32767)
 else if op=17∨op=18 then decide (imm≥0) && decide (imm≤4096)
 else if op=20 then decide (imm≥0) && decide (imm≤2)
 else decide (imm≥-32768) && decide (imm≤32767)
def rightR (i:Ins):Bool :=
 let s:=shapeR i.op
 !decide (s<0) && partR s i.a && partR (s.tdiv 2) i.b && partR ((s.tdiv 2).tdiv 2) i.c && rangeR i.op i.imm && (((s.tdiv 2).tdiv 2).tdiv 2 == 1 || i.imm == 0)

theorem shapeR_le (op:Int) : -1≤shapeR op∧shapeR op≤11:=by
 unfold shapeR
 split
 ·omega
 split
 ·omega
 have:∀ k,k<21→-1≤shapeT.getD k 0∧shapeT.getD k 0≤11:=by decide
 exact this _ (by omega)

theorem right_spec (w0:World) (m:AM) (i:Ins):CallsA Tryz.prog w0 24 #[i.val] m (fun r m'=>r=.bool (rightR i)∧m.le m'):=by
 refine cf24 w0 m _ _ _ _ _ _ ?_
 intro b1 hb1 hm1
 have hle1:=AM.le_upd (AM.le_refl m) hm1 (o:=.cells i.cells.toArray 36)
 simp only [std_all,sto_all,Nat.reduceAdd,Nat.reduceLT,LI_,LB_,LA_,SI_,pt_,KI_]
 refine CallsA.mono (shape_spec w0 _ i.op) ?_
 rintro r m2 ⟨rfl,hle2⟩
 have hp:m2 b1=some (.cells i.cells.toArray 36):=hle2 _ _ upd_get_same
 have hle:=AM.le_trans hle1 hle2
 simp only [std_all,sto_all,Nat.reduceAdd,Nat.reduceLT,LI_,LB_,LA_,SI_,pt_,KI_]
 unfold rightR
 have hs:=shapeR_le i.op
 generalize shapeR i.op=s at hs
 by_cases hs0:s<0
 ·simp only [hs0,decide_true,std_all,sto_all,Nat.reduceAdd,Nat.reduceLT,LI_,LB_,LA_,SI_,pt_,KI_,Bool.not_true,Bool.false_and]
  exact retP_of ⟨rfl,hle⟩
 simp only [hs0,decide_false,Ins.cells,std_all,sto_all,Nat.reduceAdd,Nat.reduceLT,LI_,LB_,LA_,SI_,pt_,KI_,cell_of hp,Bool.not_false,Bool.true_and]
 intro b2 hb2 hm2
 have hle3:=AM.le_upd hle hm2 (o:=.cells #[.int .i64 i.a,.int .i64 i.b,.int .i64 i.c] 3)
 have hp2:(m2.upd b2 (.cells #[.int .i64 i.a,.int .i64 i.b,.int .i64 i.c] 3)) b1=some (.cells i.cells.toArray 36):=by
  rw [upd_get_ne]
  ·exact hp
  ·rintro rfl; rw [hm2] at hp; cases hp
 have hq2:(m2.upd b2 (.cells #[.int .i64 i.a,.int .i64 i.b,.int .i64 i.c] 3)) b2=some (.cells #[.int .i64 i.a,.int .i64 i.b,.int .i64 i.c] 3):=upd_get_same
 generalize m2.upd b2 (.cells #[.int .i64 i.a,.int .i64 i.b,.int .i64 i.c] 3)=m3 at hle3 hp2 hq2
 refine vl24_1111010 w0 m3 _ _ b1 (some ⟨b2,0,none⟩) 3 3 s 0
  (fun k x3 x5 m'=>m'=m3∧((k=3∧x5=0∧x3=s)∨(k=2∧x5=1∧x3=s.tdiv 2∧partR s i.a=true)∨(k=1∧x5=2∧x3=(s.tdiv 2).tdiv 2∧partR s i.a=true∧partR (s.tdiv 2) i.b=true)∨(k=0∧x5=3∧x3=((s.tdiv 2).tdiv 2).tdiv 2∧partR s i.a=true∧partR (s.tdiv 2) i.b=true∧partR ((s.tdiv 2).tdiv 2) i.c=true)))
  (fun x3 m'=>m'=m3∧x3=((s.tdiv 2).tdiv 2).tdiv 2∧partR s i.a=true∧partR (s.tdiv 2) i.b=true∧partR ((s.tdiv 2).tdiv 2) i.c=true) 3 rfl rfl rfl rfl ⟨rfl,.inl ⟨rfl,rfl,rfl⟩⟩ ?_ ?_
 ·rintro n σ x3 x5 m' ⟨rfl,h⟩
  have w2:∀ t:Int,0≤t→t≤11→0≤t.tdiv 2∧t.tdiv 2≤11∧IntKind.wrap .i64 (t.tdiv 2)=t.tdiv 2:=by
   intro t h1 h2
   rw [Int.tdiv_eq_ediv_of_nonneg h1]
   exact ⟨by omega,by omega,by rw [IntKind.wrap_i64]; omega⟩
  have q0:=w2 s (by omega) hs.2
  have q1:=w2 _ q0.1 q0.2.1
  have q2:=w2 _ q1.1 q1.2.1
  have u1:IntKind.wrap .i64 (0+1)=1:=by decide
  have u2:IntKind.wrap .i64 (1+1)=2:=by decide
  have u3:IntKind.wrap .i64 (2+1)=3:=by decide
  have fin:∀ b,b=false→RetP (fun r m''=>r=Value.bool b∧m.le m'') (.bool false) m':=fun b hb=>retP_of ⟨by rw [hb],hle3⟩
  rcases h with ⟨rfl,rfl,rfl⟩ | ⟨rfl,rfl,rfl,ha⟩ | ⟨rfl,rfl,rfl,ha,hb⟩ | ⟨rfl,rfl,rfl,ha,hb,hc⟩
  ·simp only [addn,Nat.zero_add,Nat.mul_one,show (0:Int).toNat=0 from rfl,cell_of hq2,show decide ((0:Int)<3)=true from rfl,std_all,sto_all,Nat.reduceAdd,Nat.reduceLT,LI_,LB_,LA_,SI_,pt_,KI_,u1,q0.2.2]
   cases h1:(x3.tmod 2 == 0) <;> cases h2:(i.a != 0) <;> cases h3:decide (i.a<0) <;> cases h4:decide (i.a>31) <;> simp only [std_all,sto_all,Nat.reduceAdd,Nat.reduceLT,LI_,LB_,LA_,SI_,pt_,KI_] <;> (repeat' apply And.intro) <;>
    first
    | decide
    | exact fin _ (by simp [partR,h1,h2,h3,h4])
    | exact ⟨2,by decide,.inr (.inl ⟨rfl,by simp [partR,h1,h2,h3,h4]⟩)⟩
  ·simp only [addn,Nat.zero_add,Nat.mul_one,show (1:Int).toNat=1 from rfl,cell_of hq2,show decide ((1:Int)<3)=true from rfl,std_all,sto_all,Nat.reduceAdd,Nat.reduceLT,LI_,LB_,LA_,SI_,pt_,KI_,u2,q1.2.2,ha,Bool.true_and]
   cases h1:((s.tdiv 2).tmod 2 == 0) <;> cases h2:(i.b != 0) <;> cases h3:decide (i.b<0) <;> cases h4:decide (i.b>31) <;> simp only [std_all,sto_all,Nat.reduceAdd,Nat.reduceLT,LI_,LB_,LA_,SI_,pt_,KI_] <;> (repeat' apply And.intro) <;>
    first
    | decide
    | exact fin _ (by simp [partR,h1,h2,h3,h4])
    | exact ⟨1,by decide,.inr (.inr (.inl ⟨rfl,by simp [partR,h1,h2,h3,h4]⟩))⟩
  ·simp only [addn,Nat.zero_add,Nat.mul_one,show (2:Int).toNat=2 from rfl,cell_of hq2,show decide ((2:Int)<3)=true from rfl,std_all,sto_all,Nat.reduceAdd,Nat.reduceLT,LI_,LB_,LA_,SI_,pt_,KI_,u3,q2.2.2,ha,hb,Bool.true_and]
   cases h1:(((s.tdiv 2).tdiv 2).tmod 2 == 0) <;> cases h2:(i.c != 0) <;> cases h3:decide (i.c<0) <;> cases h4:decide (i.c>31) <;> simp only [std_all,sto_all,Nat.reduceAdd,Nat.reduceLT,LI_,LB_,LA_,SI_,pt_,KI_] <;> (repeat' apply And.intro) <;>
    first
    | decide
    | exact fin _ (by simp [partR,h1,h2,h3,h4])
    | exact ⟨0,by decide,.inr (.inr (.inr ⟨rfl,by simp [partR,h1,h2,h3,h4]⟩))⟩
  ·simp only [show decide ((3:Int)<3)=false from rfl,std_all,sto_all,Nat.reduceAdd,Nat.reduceLT,LI_,LB_,LA_,SI_,pt_,KI_]
   exact ⟨ha,hb,hc⟩
 ·rintro σ x3 m' ⟨rfl,rfl,ha,hb,hc⟩
  simp only [ha,hb,hc,Bool.true_and,cell_of hp2,Ins.cells,std_all,sto_all,Nat.reduceAdd,Nat.reduceLT,LI_,LB_,LA_,SI_,pt_,KI_]
  generalize ((s.tdiv 2).tdiv 2).tdiv 2=t
  have fin:∀ b c,b=c→RetP (fun r m''=>r=Value.bool c∧m.le m'') (.bool b) m':=fun b c hb=>retP_of ⟨by rw [hb],hle3⟩
  have e0:∀ k:Int,(i.op == k)=decide (i.op=k):=fun k=>rfl
  simp only [e0]
  have key:∀ a b:Int,bcase (decide (i.imm≥a)) (bcase (bif decide (i.imm≥a) then decide (i.imm≤b) else false) (bcase (t == 1) ((t == 1)=true∧RetP (fun r m''=>r=Value.bool ((decide (i.imm≥a) && decide (i.imm≤b)) && (t == 1 || i.imm == 0))∧m.le m'') (.bool (bif bif decide (i.imm≥a) then decide (i.imm≤b) else false then true else false)) m') (RetP (fun r m''=>r=Value.bool ((decide (i.imm≥a) && decide (i.imm≤b)) && (t == 1 || i.imm == 0))∧m.le m'') (.bool (bif bif decide (i.imm≥a) then decide (i.imm≤b) else false then bif t == 1 then true else i.imm == 0 else false)) m')) ((bif decide (i.imm≥a) then decide (i.imm≤b) else false)=false∧RetP (fun r m''=>r=Value.bool ((decide (i.imm≥a) && decide (i.imm≤b)) && (t == 1 || i.imm == 0))∧m.le m'') (.bool false) m')) ((decide (i.imm≥a))=false∧RetP (fun r m''=>r=Value.bool ((decide (i.imm≥a) && decide (i.imm≤b)) && (t == 1 || i.imm == 0))∧m.le m'') (.bool false) m'):=by
   intro a b
   cases decide (i.imm≥a) <;> cases decide (i.imm≤b) <;> cases h1:(t == 1) <;> cases h2:(i.imm == 0) <;> simp only [std_all,sto_all,Nat.reduceAdd,Nat.reduceLT,LI_,LB_,LA_,SI_,pt_,KI_] <;> exact fin _ _ rfl
  unfold rangeR
  by_cases o14:i.op=14
  ·simp only [o14,if_true,if_false,decide_true,decide_false,Int.reduceEq,std_all,sto_all,Nat.reduceAdd,Nat.reduceLT,LI_,LB_,LA_,SI_,pt_,KI_]
   exact key 0 32767
  by_cases o17:i.op=17
  ·simp only [o17,if_true,if_false,decide_true,decide_false,Int.reduceEq,true_or,std_all,sto_all,Nat.reduceAdd,Nat.reduceLT,LI_,LB_,LA_,SI_,pt_,KI_]
   exact key 0 4096
  by_cases o18:i.op=18
  ·simp only [o18,if_true,if_false,decide_true,decide_false,Int.reduceEq,or_true,std_all,sto_all,Nat.reduceAdd,Nat.reduceLT,LI_,LB_,LA_,SI_,pt_,KI_]
   exact key 0 4096
  by_cases o20:i.op=20
  ·simp only [o20,if_true,if_false,decide_true,decide_false,Int.reduceEq,or_false,std_all,sto_all,Nat.reduceAdd,Nat.reduceLT,LI_,LB_,LA_,SI_,pt_,KI_]
   exact key 0 2
  simp only [o14,o17,o18,o20,if_true,if_false,decide_true,decide_false,Int.reduceEq,or_false,std_all,sto_all,Nat.reduceAdd,Nat.reduceLT,LI_,LB_,LA_,SI_,pt_,KI_]
  exact key (-32768) 32767
end Go.Proofs.YtkfemiloehkmhaaGreat.S

set_option linter.unusedSimpArgs false
set_option linter.unusedVariables false
set_option maxRecDepth 100000
namespace Go.Proofs.YtkfemiloehkmhaaGreat.S
open Go Go.RowKit Go.Alog Go.Proofs.YtkfemiloehkmhaaGreat.T Go.Proofs.YtkfemiloehkmhaaGreat.V

def pA (op:Int):Bool:=decide (1≤op∧op≤16) || decide (op=19)
def pB (op:Int):Bool:=decide (1≤op∧op≤10) || decide (12≤op∧op≤16)
def pC (op:Int):Bool:=decide (1≤op∧op≤9)
def pI (op:Int):Bool:=decide (10≤op∧op≤18) || decide (op=20)
def pOk (op:Int):Bool:=decide (0≤op∧op≤20)

abbrev ofR (m:AM) (op:Int) (r:Value) (m':AM):Prop:=r=.tuple #[.agg #[.bool (pA op),.bool (pB op),.bool (pC op),.bool (pI op)],.bool (pOk op)]∧m.le m'

theorem of_fin (w0:World) {m m2:AM} {b:Nat} {c:Array Value} {t:TypeId} (hb:w0.heap.size≤b) (n:m b=none) (h:m2 b=some (.cells c t)) (hc:c.size=4) (l:m.le m2) (op:Int) (x y z u o:Bool) (hx:x=pA op) (hy:y=pB op) (hz:z=pC op) (hu:u=pI op) (ho:o=pOk op) :
  StC w0.heap.size m2 ⟨b,0,none⟩ (.bool x) fun m3=>StC w0.heap.size m3 ⟨b,1,none⟩ (.bool y) fun m4=>StC w0.heap.size m4 ⟨b,2,none⟩ (.bool z) fun m5=>StC w0.heap.size m5 ⟨b,3,none⟩ (.bool u) fun m6 =>
   ∃ t7:Bool,m6.cell ⟨b,0,none⟩=some (.bool t7)∧∃ t8:Bool,m6.cell ⟨b,1,none⟩=some (.bool t8)∧∃ t9:Bool,m6.cell ⟨b,2,none⟩=some (.bool t9)∧∃ t10:Bool,m6.cell ⟨b,3,none⟩=some (.bool t10)∧RetP (ofR m op) (.tuple #[.agg #[.bool t7,.bool t8,.bool t9,.bool t10],.bool o]) m6:=by
 obtain ⟨c0,c1,c2,c3,rfl⟩:∃ c0 c1 c2 c3,c = #[c0,c1,c2,c3]:=by
  match c,hc with
  | ⟨[c0,c1,c2,c3]⟩,_=>exact ⟨c0,c1,c2,c3,rfl⟩
 refine StC_own h hb (by simp) ?_
 simp only [std_all,sto_all,Nat.reduceAdd,Nat.reduceLT,LI_,LB_,LA_,SI_,pt_,KI_,hb]
 refine retP_of ⟨by rw [hx,hy,hz,hu,ho],fun k o hk=>?_⟩
 rw [upd_get]
 by_cases e:k=b
 ·subst e; rw [n] at hk; cases hk
 ·rw [if_neg e]; exact l _ _ hk

theorem of_spec (w0:World) (m:AM) (op:Int):CallsA Tryz.prog w0 29 #[.int .i64 op] m (ofR m op):=by
 refine cf29 w0 m op _ ?_
 intro b hb hm M
 have l0:m.le M:=le_new hm _
 have p0:M b=some (.cells #[.bool false,.bool false,.bool false,.bool false] 69):=upd_get_same
 clear_value M
 have e0:∀ k:Int,(op == k)=decide (op=k):=fun k=>rfl
 have fin:=fun x y z u o hx hy hz hu ho=>of_fin w0 (m:=m) (m2:=M) hb hm p0 rfl l0 op x y z u o hx hy hz hu ho
 have k11:∀ (σ:Sg),σ 2=.pointer (some ⟨b,0,none⟩)→pOk op=false→pA op=false→pB op=false→pC op=false→pI op=false →
   vcS Tryz.prog w0 qs29 (sub c29 [1,1]) σ M (retQ Tryz.prog Tryz.f29 (ofR m op)):=by
  intro σ h2 ho ha hb' hc hi
  refine vk29_11 w0 M σ _ b h2 ?_
  exact ⟨rfl,fin _ _ _ _ _ ha.symm hb'.symm hc.symm hi.symm ho.symm⟩
 have k3:∀ (σ:Sg) (x:Bool),σ 2=.pointer (some ⟨b,0,none⟩)→σ 4=.int .i64 op→σ 30=.bool x→x=decide (op=17∨op=18∨op=20)→¬ (0≤op∧op≤16) →
   vcS Tryz.prog w0 qs29 (sub c29 [1,0,1,0,1,1,1,1,1,1,1,1,1]) σ M (blockS 0 (thenS (fun σ' m'=>vcS Tryz.prog w0 qs29 (sub c29 [1,1]) σ' m' (retQ Tryz.prog Tryz.f29 (ofR m op))) (retQ Tryz.prog Tryz.f29 (ofR m op)))):=by
  intro σ x h2 h4 h30 hx hn
  refine vk29_1010111111111 w0 M σ _ b op x h2 h4 h30 ?_
  by_cases hc:op=17∨op=18∨op=20
  ·rw [hx,decide_eq_true hc,bcase_t]
   refine ⟨rfl,fin _ _ _ _ _ ?_ ?_ ?_ ?_ ?_⟩ <;> simp only [pA,pB,pC,pI,pOk] <;> (rcases hc with rfl | rfl | rfl <;> rfl)
  ·rw [hx,decide_eq_false hc,bcase_f]
   simp only [e0]
   by_cases c19:op=19
   ·subst c19
    simp only [decide_true,bcase_t]
    exact ⟨trivial,trivial,fin _ _ _ _ _ rfl rfl rfl rfl rfl⟩
   ·simp only [decide_eq_false c19,bcase_f]
    refine ⟨trivial,k11 _ rfl ?_ ?_ ?_ ?_ ?_⟩ <;> simp [pA,pB,pC,pI,pOk] <;> omega
 have k2:∀ (σ:Sg) (x:Bool),σ 2=.pointer (some ⟨b,0,none⟩)→σ 4=.int .i64 op→σ 19=.bool x→x=decide (op=10∨(12≤op∧op≤16))→¬ (0≤op∧op≤9) →
   vcS Tryz.prog w0 qs29 (sub c29 [1,0,1,0,1,1,1,1,1]) σ M (blockS 0 (thenS (fun σ' m'=>vcS Tryz.prog w0 qs29 (sub c29 [1,1]) σ' m' (retQ Tryz.prog Tryz.f29 (ofR m op))) (retQ Tryz.prog Tryz.f29 (ofR m op)))):=by
  intro σ x h2 h4 h19 hx hn
  refine vk29_101011111 w0 M σ _ b op x h2 h4 h19 ?_
  by_cases hc:op=10∨(12≤op∧op≤16)
  ·rw [hx,decide_eq_true hc,bcase_t]
   have h1:pA op=true:=by simp [pA]; omega
   have h2:pB op=true:=by simp [pB]; omega
   have h3:pC op=false:=by simp [pC]; omega
   have h4:pI op=true:=by simp [pI]; omega
   have h5:pOk op=true:=by simp [pOk]; omega
   exact ⟨rfl,fin _ _ _ _ _ h1.symm h2.symm h3.symm h4.symm h5.symm⟩
  ·rw [hx,decide_eq_false hc,bcase_f]
   simp only [e0]
   by_cases c11:op=11
   ·subst c11
    simp only [decide_true,bcase_t]
    exact ⟨trivial,trivial,fin _ _ _ _ _ rfl rfl rfl rfl rfl⟩
   ·simp only [decide_eq_false c11,bcase_f]
    by_cases c17:op=17
    ·simp only [decide_eq_true c17,bcase_t]
     exact ⟨trivial,trivial,k3 _ _ rfl rfl rfl (by subst c17; rfl) (by omega)⟩
    simp only [decide_eq_false c17,bcase_f]
    by_cases c18:op=18
    ·simp only [decide_eq_true c18,bcase_t]
     exact ⟨trivial,trivial,trivial,k3 _ _ rfl rfl rfl (by subst c18; rfl) (by omega)⟩
    simp only [decide_eq_false c18,bcase_f]
    exact ⟨trivial,trivial,trivial,trivial,k3 _ _ rfl rfl rfl (by simp [c17,c18]) (by omega)⟩
 have k1:∀ (σ:Sg) (x:Bool),σ 2=.pointer (some ⟨b,0,none⟩)→σ 4=.int .i64 op→σ 8=.bool x→x=decide (1≤op∧op≤9)→op≠0 →
   vcS Tryz.prog w0 qs29 (sub c29 [1,0,1,0,1,1,1]) σ M (blockS 0 (thenS (fun σ' m'=>vcS Tryz.prog w0 qs29 (sub c29 [1,1]) σ' m' (retQ Tryz.prog Tryz.f29 (ofR m op))) (retQ Tryz.prog Tryz.f29 (ofR m op)))):=by
  intro σ x h2 h4 h8 hx hn
  refine vk29_1010111 w0 M σ _ b op x h2 h4 h8 ?_
  by_cases hc:1≤op∧op≤9
  ·rw [hx,decide_eq_true hc,bcase_t]
   have h1:pA op=true:=by simp [pA]; omega
   have h2:pB op=true:=by simp [pB]; omega
   have h3:pC op=true:=by simp [pC]; omega
   have h4:pI op=false:=by simp [pI]; omega
   have h5:pOk op=true:=by simp [pOk]; omega
   exact ⟨rfl,fin _ _ _ _ _ h1.symm h2.symm h3.symm h4.symm h5.symm⟩
  ·rw [hx,decide_eq_false hc,bcase_f]
   simp only [e0]
   refine ⟨trivial,?_⟩
   by_cases c10:op=10
   ·simp only [decide_eq_true c10,bcase_t]
    exact k2 _ _ rfl rfl rfl (by subst c10; rfl) (by omega)
   simp only [decide_eq_false c10,bcase_f]
   refine ⟨trivial,?_⟩
   by_cases c12:op=12
   ·simp only [decide_eq_true c12,bcase_t]
    exact k2 _ _ rfl rfl rfl (by subst c12; rfl) (by omega)
   simp only [decide_eq_false c12,bcase_f]
   refine ⟨trivial,?_⟩
   by_cases c13:op=13
   ·simp only [decide_eq_true c13,bcase_t]
    exact k2 _ _ rfl rfl rfl (by subst c13; rfl) (by omega)
   simp only [decide_eq_false c13,bcase_f]
   refine ⟨trivial,?_⟩
   by_cases c15:op=15
   ·simp only [decide_eq_true c15,bcase_t]
    exact k2 _ _ rfl rfl rfl (by subst c15; rfl) (by omega)
   simp only [decide_eq_false c15,bcase_f]
   refine ⟨trivial,?_⟩
   by_cases c16:op=16
   ·simp only [decide_eq_true c16,bcase_t]
    exact k2 _ _ rfl rfl rfl (by subst c16; rfl) (by omega)
   simp only [decide_eq_false c16,bcase_f]
   refine ⟨trivial,k2 _ _ rfl rfl rfl ?_ (by omega)⟩
   show decide (op=14)=_
   congr 1
   apply propext
   omega
 simp only [e0]
 refine ⟨trivial,?_⟩
 by_cases c0:op=0
 ·simp only [decide_eq_true c0,bcase_t]
  subst c0
  exact ⟨trivial,fin _ _ _ _ _ rfl rfl rfl rfl rfl⟩
 simp only [decide_eq_false c0,bcase_f]
 refine ⟨trivial,?_⟩
 by_cases c1:op=1
 ·simp only [decide_eq_true c1,bcase_t]
  exact k1 _ _ rfl rfl rfl (by subst c1; rfl) (by omega)
 simp only [decide_eq_false c1,bcase_f]
 refine ⟨trivial,?_⟩
 by_cases c2:op=2
 ·simp only [decide_eq_true c2,bcase_t]
  exact k1 _ _ rfl rfl rfl (by subst c2; rfl) (by omega)
 simp only [decide_eq_false c2,bcase_f]
 refine ⟨trivial,?_⟩
 by_cases c3:op=3
 ·simp only [decide_eq_true c3,bcase_t]
  exact k1 _ _ rfl rfl rfl (by subst c3; rfl) (by omega)
 simp only [decide_eq_false c3,bcase_f]
 refine ⟨trivial,?_⟩
 by_cases c4:op=4
 ·simp only [decide_eq_true c4,bcase_t]
  exact k1 _ _ rfl rfl rfl (by subst c4; rfl) (by omega)
 simp only [decide_eq_false c4,bcase_f]
 refine ⟨trivial,?_⟩
 by_cases c5:op=5
 ·simp only [decide_eq_true c5,bcase_t]
  exact k1 _ _ rfl rfl rfl (by subst c5; rfl) (by omega)
 simp only [decide_eq_false c5,bcase_f]
 refine ⟨trivial,?_⟩
 by_cases c6:op=6
 ·simp only [decide_eq_true c6,bcase_t]
  exact k1 _ _ rfl rfl rfl (by subst c6; rfl) (by omega)
 simp only [decide_eq_false c6,bcase_f]
 refine ⟨trivial,?_⟩
 by_cases c7:op=7
 ·simp only [decide_eq_true c7,bcase_t]
  exact k1 _ _ rfl rfl rfl (by subst c7; rfl) (by omega)
 simp only [decide_eq_false c7,bcase_f]
 refine ⟨trivial,?_⟩
 by_cases c8:op=8
 ·simp only [decide_eq_true c8,bcase_t]
  exact k1 _ _ rfl rfl rfl (by subst c8; rfl) (by omega)
 simp only [decide_eq_false c8,bcase_f]
 refine ⟨trivial,k1 _ _ rfl rfl rfl ?_ (by omega)⟩
 show decide (op=9)=_
 congr 1
 apply propext
 omega

def regI (n:Int) (had:Bool):Bool:=decide (n=0∨(had=true∧0<n∧n<32))
theorem reg_spec (w0:World) (m:AM) (n:Int) (had:Bool):CallsA Tryz.prog w0 30 #[.int .i64 n,.bool had] m (fun r m'=>r=.bool (regI n had)∧m'=m):=by
 refine cf30 w0 m n had _ ?_
 have e0:(n == 0)=decide (n=0):=rfl
 unfold regI
 by_cases h0:n=0
 ·subst h0; simp only [decide_true,beq_self_eq_true,bcase_t,std_all,sto_all,Nat.reduceAdd,Nat.reduceLT,LI_,LB_,LA_,SI_,pt_,KI_]
  exact retP_of ⟨by simp,rfl⟩
 simp only [e0,decide_eq_false h0,std_all,sto_all,Nat.reduceAdd,Nat.reduceLT,LI_,LB_,LA_,SI_,pt_,KI_]
 cases had
 ·simp only [std_all,sto_all,Nat.reduceAdd,Nat.reduceLT,LI_,LB_,LA_,SI_,pt_,KI_]; exact retP_of ⟨by simp [h0],rfl⟩
 ·by_cases h1:n>0
  ·simp only [decide_eq_true h1,std_all,sto_all,Nat.reduceAdd,Nat.reduceLT,LI_,LB_,LA_,SI_,pt_,KI_]
   refine retP_of ⟨?_,rfl⟩
   simp [h0,h1]
  ·simp only [decide_eq_false h1,std_all,sto_all,Nat.reduceAdd,Nat.reduceLT,LI_,LB_,LA_,SI_,pt_,KI_]
   exact retP_of ⟨by simp [h0]; omega,rfl⟩

theorem number_spec (w0:World) (m:AM) (op n:Int):CallsA Tryz.prog w0 31 #[.int .i64 op,.int .i64 n] m (fun r m'=>r=.bool (rangeR op n)∧m'=m):=by
 refine cf31 w0 m op n _ ?_
 have e0:∀ k:Int,(op == k)=decide (op=k):=fun k=>rfl
 simp only [e0]
 unfold rangeR
 have hf:decide (-32768≤n∧n≤32767)=(decide (n≥-32768) && decide (n≤32767)):=by simp
 by_cases c17:op=17
 ·subst c17
  simp only [decide_true,Int.reduceEq,if_true,if_false,true_or,std_all,sto_all,Nat.reduceAdd,Nat.reduceLT,LI_,LB_,LA_,SI_,pt_,KI_]
  by_cases h:n≥0
  ·simp only [decide_eq_true h,std_all,sto_all,Nat.reduceAdd,Nat.reduceLT,LI_,LB_,LA_,SI_,pt_,KI_,Bool.true_and]; exact retP_of ⟨rfl,rfl⟩
  ·simp only [decide_eq_false h,std_all,sto_all,Nat.reduceAdd,Nat.reduceLT,LI_,LB_,LA_,SI_,pt_,KI_,Bool.false_and]; exact retP_of ⟨rfl,rfl⟩
 by_cases c18:op=18
 ·subst c18
  simp only [decide_true,decide_false,Int.reduceEq,if_true,if_false,or_true,std_all,sto_all,Nat.reduceAdd,Nat.reduceLT,LI_,LB_,LA_,SI_,pt_,KI_]
  by_cases h:n≥0
  ·simp only [decide_eq_true h,std_all,sto_all,Nat.reduceAdd,Nat.reduceLT,LI_,LB_,LA_,SI_,pt_,KI_,Bool.true_and]; exact retP_of ⟨rfl,rfl⟩
  ·simp only [decide_eq_false h,std_all,sto_all,Nat.reduceAdd,Nat.reduceLT,LI_,LB_,LA_,SI_,pt_,KI_,Bool.false_and]; exact retP_of ⟨rfl,rfl⟩
 by_cases c20:op=20
 ·subst c20
  simp only [decide_true,decide_false,Int.reduceEq,if_true,if_false,or_false,std_all,sto_all,Nat.reduceAdd,Nat.reduceLT,LI_,LB_,LA_,SI_,pt_,KI_]
  by_cases h:n≥0
  ·simp only [decide_eq_true h,std_all,sto_all,Nat.reduceAdd,Nat.reduceLT,LI_,LB_,LA_,SI_,pt_,KI_,Bool.true_and]; exact retP_of ⟨rfl,rfl⟩
  ·simp only [decide_eq_false h,std_all,sto_all,Nat.reduceAdd,Nat.reduceLT,LI_,LB_,LA_,SI_,pt_,KI_,Bool.false_and]; exact retP_of ⟨rfl,rfl⟩
 by_cases c14:op=14
 ·subst c14
  simp only [decide_true,decide_false,Int.reduceEq,if_true,if_false,or_false,std_all,sto_all,Nat.reduceAdd,Nat.reduceLT,LI_,LB_,LA_,SI_,pt_,KI_]
  by_cases h:n≥0
  ·simp only [decide_eq_true h,std_all,sto_all,Nat.reduceAdd,Nat.reduceLT,LI_,LB_,LA_,SI_,pt_,KI_,Bool.true_and]
   refine CallsA.mono (fitsW w0 m n) ?_
   rintro r m' ⟨rfl,rfl⟩
   refine ⟨_,rfl,retP_of ⟨?_,rfl⟩⟩
   rw [hf,decide_eq_true (show n≥-32768 by omega),Bool.true_and]
  ·simp only [decide_eq_false h,std_all,sto_all,Nat.reduceAdd,Nat.reduceLT,LI_,LB_,LA_,SI_,pt_,KI_,Bool.false_and]; exact retP_of ⟨rfl,rfl⟩
 simp only [decide_eq_false c14,decide_eq_false c17,decide_eq_false c18,decide_eq_false c20,if_neg c14,if_neg c20,if_neg (show ¬ (op=17∨op=18) by omega),std_all,sto_all,Nat.reduceAdd,Nat.reduceLT,LI_,LB_,LA_,SI_,pt_,KI_]
 refine CallsA.mono (fitsW w0 m n) ?_
 rintro r m' ⟨rfl,rfl⟩
 exact ⟨_,rfl,retP_of ⟨by rw [hf],rfl⟩⟩

theorem part_reg (s x:Int) (had:Bool) (h:(s.tmod 2 == 0) = !had):regI x had=partR s x:=by
 unfold regI partR
 rw [h]
 cases had
 ·by_cases h0:x=0
  ·subst h0; rfl
  ·simp [h0]
 ·by_cases h0:x=0
  ·subst h0; rfl
  ·simp [h0]; by_cases h1:x<0 <;> by_cases h2:x>31 <;> simp [h1,h2] <;> omega

def rightI (i:Ins):Bool:=pOk i.op && regI i.a (pA i.op) && regI i.b (pB i.op) && regI i.c (pC i.op) && (i.imm == 0 || (pI i.op && rangeR i.op i.imm))

theorem rightI_eq (i:Ins):rightI i=rightR i:=by
 unfold rightI rightR
 by_cases hok:0≤i.op∧i.op≤20
 ·have key:∀ k,k<21→((shapeT.getD k 0).tmod 2 == 0)=(!pA (k:Int))∧(((shapeT.getD k 0).tdiv 2).tmod 2 == 0)=(!pB (k:Int))∧((((shapeT.getD k 0).tdiv 2).tdiv 2).tmod 2 == 0)=(!pC (k:Int))∧((((shapeT.getD k 0).tdiv 2).tdiv 2).tdiv 2 == 1)=pI (k:Int)∧decide (shapeT.getD k 0<0)=false:=by decide
  have hs:shapeR i.op=shapeT.getD i.op.toNat 0:=by unfold shapeR; rw [if_neg (by omega),if_neg (by omega)]
  obtain ⟨h1,h2,h3,h4,h5⟩:=key i.op.toNat (by omega)
  rw [Int.toNat_of_nonneg hok.1] at h1 h2 h3 h4
  simp only [hs]
  rw [part_reg _ _ _ h1,part_reg _ _ _ h2,part_reg _ _ _ h3,h4,h5]
  have:pOk i.op=true:=by simp [pOk]; exact hok
  rw [this,Bool.true_and,Bool.not_false,Bool.true_and]
  have hz:rangeR i.op 0=true:=by
   unfold rangeR
   by_cases a:i.op=14
   ·rw [if_pos a]; rfl
   by_cases b:i.op=17∨i.op=18
   ·rw [if_neg a,if_pos b]; rfl
   by_cases c:i.op=20
   ·rw [if_neg a,if_neg b,if_pos c]; rfl
   ·rw [if_neg a,if_neg b,if_neg c]; rfl
  by_cases hi:i.imm=0
  ·rw [hi,hz]; simp
  ·have:(i.imm == 0)=false:=by simpa using hi
   rw [this,Bool.false_or,Bool.or_false]
   cases pI i.op <;> simp
 ·have h1:pOk i.op=false:=by simp [pOk]; omega
  have hs:shapeR i.op = -1:=by
   unfold shapeR
   by_cases h:i.op<0
   ·rw [if_pos h]
   ·rw [if_neg h,if_pos (by omega)]
  rw [h1,hs]; rfl

theorem isaRight (w0:World) (m:AM) (i:Ins):CallsA Tryz.prog w0 17 #[i.val] m (fun r m'=>r=.bool (rightR i)∧m.le m'):=by
 rw [← rightI_eq]
 refine cf17 w0 m _ _ _ _ _ _ ?_
 intro b1 hb1 hm1 M
 have l1:m.le M:=le_new hm1 _
 have p1:M b1=some (.cells i.cells.toArray 36):=upd_get_same
 clear_value M
 simp only [cell_of p1,Ins.cells,std_all,sto_all,Nat.reduceAdd,Nat.reduceLT,LI_,LB_,LA_,SI_,pt_,KI_]
 refine CallsA.mono (of_spec w0 M i.op) ?_
 rintro r m2 ⟨rfl,l2⟩
 refine ⟨_,_,_,_,_,rfl,?_⟩
 intro b2 hb2 hm2
 have p2:=l2 _ _ p1
 have l3:=le_new hm2 (.cells #[.bool (pA i.op),.bool (pB i.op),.bool (pC i.op),.bool (pI i.op)] 69)
 have h12:b1≠b2:=ne_new p2 hm2
 simp only [std_all,sto_all,Nat.reduceAdd,Nat.reduceLT,LI_,LB_,LA_,SI_,pt_,KI_,hb2]
 have L:=AM.le_trans (AM.le_trans l1 l2) l3
 have p3:=l3 _ _ p2
 have q3:(m2.upd b2 (.cells #[.bool (pA i.op),.bool (pB i.op),.bool (pC i.op),.bool (pI i.op)] 69)) b2=some (.cells #[.bool (pA i.op),.bool (pB i.op),.bool (pC i.op),.bool (pI i.op)] 69):=upd_get_same
 generalize m2.upd b2 (.cells #[.bool (pA i.op),.bool (pB i.op),.bool (pC i.op),.bool (pI i.op)] 69)=m3 at l3 L p3 q3
 have fin:∀ b c,b=c→RetP (fun r m'=>r=.bool c∧m.le m') (.bool b) m3:=fun b c h=>retP_of ⟨by rw [h],L⟩
 unfold rightI
 cases pOk i.op
 ·simp only [std_all,sto_all,Nat.reduceAdd,Nat.reduceLT,LI_,LB_,LA_,SI_,pt_,KI_,Bool.false_and]; exact fin _ _ rfl
 simp only [std_all,sto_all,Nat.reduceAdd,Nat.reduceLT,LI_,LB_,LA_,SI_,pt_,KI_,Bool.true_and,cell_of p3,cell_of q3,Ins.cells]
 refine CallsA.mono (reg_spec w0 m3 _ _) ?_
 rintro r m4 ⟨rfl,rfl⟩
 cases regI i.a (pA i.op)
 ·simp only [std_all,sto_all,Nat.reduceAdd,Nat.reduceLT,LI_,LB_,LA_,SI_,pt_,KI_,Bool.false_and]; exact fin _ _ rfl
 simp only [std_all,sto_all,Nat.reduceAdd,Nat.reduceLT,LI_,LB_,LA_,SI_,pt_,KI_,Bool.true_and,cell_of p3,cell_of q3,Ins.cells]
 refine CallsA.mono (reg_spec w0 m4 _ _) ?_
 rintro r m5 ⟨rfl,rfl⟩
 cases regI i.b (pB i.op)
 ·simp only [std_all,sto_all,Nat.reduceAdd,Nat.reduceLT,LI_,LB_,LA_,SI_,pt_,KI_,Bool.false_and]; exact fin _ _ rfl
 simp only [std_all,sto_all,Nat.reduceAdd,Nat.reduceLT,LI_,LB_,LA_,SI_,pt_,KI_,Bool.true_and,cell_of p3,cell_of q3,Ins.cells]
 refine CallsA.mono (reg_spec w0 m5 _ _) ?_
 rintro r m6 ⟨rfl,rfl⟩
 cases regI i.c (pC i.op)
 ·simp only [std_all,sto_all,Nat.reduceAdd,Nat.reduceLT,LI_,LB_,LA_,SI_,pt_,KI_,Bool.false_and]; exact fin _ _ rfl
 simp only [std_all,sto_all,Nat.reduceAdd,Nat.reduceLT,LI_,LB_,LA_,SI_,pt_,KI_,Bool.true_and,cell_of p3,cell_of q3,Ins.cells]
 cases hz:(i.imm == 0)
 ·simp only [std_all,sto_all,Nat.reduceAdd,Nat.reduceLT,LI_,LB_,LA_,SI_,pt_,KI_,Bool.false_or]
  cases pI i.op
  ·simp only [std_all,sto_all,Nat.reduceAdd,Nat.reduceLT,LI_,LB_,LA_,SI_,pt_,KI_,Bool.false_and]; exact fin _ _ rfl
  ·simp only [std_all,sto_all,Nat.reduceAdd,Nat.reduceLT,LI_,LB_,LA_,SI_,pt_,KI_,Bool.true_and,cell_of p3,Ins.cells]
   refine CallsA.mono (number_spec w0 m6 _ _) ?_
   rintro r m7 ⟨rfl,rfl⟩
   exact ⟨_,rfl,fin _ _ rfl⟩
 ·simp only [std_all,sto_all,Nat.reduceAdd,Nat.reduceLT,LI_,LB_,LA_,SI_,pt_,KI_,Bool.true_or]; exact fin _ _ rfl
end Go.Proofs.YtkfemiloehkmhaaGreat.S

