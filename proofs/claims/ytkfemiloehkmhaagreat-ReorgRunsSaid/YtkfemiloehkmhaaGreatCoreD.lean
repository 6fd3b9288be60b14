/- YtkfemiloehkmhaaGreat: a text of our own, by an AI agent: CoreD -/
import Derived.Test.YtkfemiloehkmhaaGreatCoreC
set_option linter.unusedVariables false
namespace Go.Alog
open Go Go.RowKit

theorem CallsA.down {P:Program} {w0:World} {f:FuncId} {a:Array Value} {m:AM} {R:Value→AM→Prop} {Q:Value→Prop} (h:CallsA P w0 f a m R) (hq:∀ r m',R r m'→Q r∧m.le m'):CallsA P w0 f a m (fun r m'=>Q r∧m'=m) :=
 fun w hw=>(h w hw).mono fun _ _ ⟨r,m',he,hh,hR⟩=>⟨r,m,he,hh.mono (hq r m' hR).2,(hq r m' hR).1,rfl⟩
theorem callB {P:Program} {w0:World} {f:FuncId} {a:Array Value} {m:AM} {v:Bool} {K:Bool→AM→Prop} (h:CallsA P w0 f a m (fun r m'=>r=.bool v∧m'=m)) (k:K v m):CallsA P w0 f a m (fun r m'=>∃ t:Bool,r=.bool t∧K t m') :=
 CallsA.mono h (by rintro r m' ⟨rfl,rfl⟩; exact ⟨v,rfl,k⟩)
theorem callI {P:Program} {w0:World} {f:FuncId} {a:Array Value} {m:AM} {v:Int} {K:Int→AM→Prop} (h:CallsA P w0 f a m (fun r m'=>r=.int .i64 v∧m'=m)) (k:K v m):CallsA P w0 f a m (fun r m'=>∃ t:Int,r=.int .i64 t∧K t m') :=
 CallsA.mono h (by rintro r m' ⟨rfl,rfl⟩; exact ⟨v,rfl,k⟩)
theorem ldIns {m:AM} {b:Nat} {i:Ins} {T:TypeId} (p:m b=some (.cells i.cells.toArray T)) {K:Int→Int→Int→Int→Int→Prop} (h:K i.op i.a i.b i.c i.imm) :
  ∃ a:Int,m.cell ⟨b,0,none⟩=some (.int .i64 a)∧∃ a1:Int,m.cell ⟨b,1,none⟩=some (.int .i64 a1)∧∃ a2:Int,m.cell ⟨b,2,none⟩=some (.int .i64 a2)∧∃ a3:Int,m.cell ⟨b,3,none⟩=some (.int .i64 a3)∧∃ a4:Int,m.cell ⟨b,4,none⟩=some (.int .i64 a4)∧K a a1 a2 a3 a4 :=
 ⟨_,cel p rfl,_,cel p rfl,_,cel p rfl,_,cel p rfl,_,cel p rfl,h⟩
end Go.Alog

set_option linter.unusedVariables false
namespace Go.Alog
open Go Go.RowKit

def cAt (code:List Ins) (i:Int):Ins:=code.getD i.toNat default
theorem cAt_some {code:List Ins} {i:Int} (h0:0≤i) (h1:i<code.length):code[i.toNat]?=some (cAt code i):=by
 have h:i.toNat<code.length:=by omega
 simp [cAt,List.getD,h]
theorem ldAt {m:AM} {A:Option Addr} {n:Nat} {code:List Ins} (r:Reads m 5 A n (insCells code)) (hn:code.length=n) {i:Int} (h0:0≤i) (h1:i<n) {K:Addr→Int→Int→Int→Int→Int→Prop}
  (h:∀ a,K a (cAt code i).op (cAt code i).a (cAt code i).b (cAt code i).c (cAt code i).imm) :
  ((0:Int)≤i∧i<(n:Int))∧nilO A fun a=>∃ x:Int,m.cell (a.add (i.toNat*5))=some (.int .i64 x)∧∃ x1:Int,m.cell ((a.add (i.toNat*5)).add 1)=some (.int .i64 x1)∧∃ x2:Int,m.cell ((a.add (i.toNat*5)).add 2)=some (.int .i64 x2)∧∃ x3:Int,m.cell ((a.add (i.toNat*5)).add 3)=some (.int .i64 x3)∧∃ x4:Int,m.cell ((a.add (i.toNat*5)).add 4)=some (.int .i64 x4)∧K a x x1 x2 x3 x4:=by
 subst hn
 refine ⟨⟨h0,h1⟩,?_⟩
 obtain ⟨ad,rfl,hc⟩:=r.ex (by omega)
 obtain ⟨c0,c1,c2,c3,c4⟩:=hc.ins (cAt_some h0 h1)
 exact ⟨_,c0,_,c1,_,c2,_,c3,_,c4,h ad⟩
theorem wrap_s {i:Int} (h0 : -9000000000000000000≤i) (h1:i≤9000000000000000000):IntKind.wrap .i64 i=i:=by rw [IntKind.wrap_i64]; omega
end Go.Alog

set_option linter.unusedVariables false
namespace Go.Alog
open Go Go.RowKit

theorem Reads.slice {m:AM} {sz:Nat} {A:Option Addr} {n c:Nat} {xs:List Value} (r:Reads m sz A n xs) (lo hi:Nat) (h:lo≤hi) (hn:hi≤n) (hc:n≤c) :
  Reads m sz (if c=lo then A else Option.map (fun x=>Addr.add x (lo*sz)) A) (hi-lo) ((xs.drop (lo*sz)).take ((hi-lo)*sz)):=by
 obtain ⟨hl,r⟩:=r
 have hlen:((xs.drop (lo*sz)).take ((hi-lo)*sz)).length=(hi-lo)*sz:=by
  have h1:hi*sz≤n*sz:=Nat.mul_le_mul_right _ hn
  have h2:(hi-lo)*sz+lo*sz=hi*sz:=by rw [← Nat.add_mul]; congr 1; omega
  rw [List.length_take,List.length_drop,hl]; omega
 refine ⟨hlen,?_⟩
 by_cases e:hi-lo=0
 ·rw [e]
  rw [Nat.zero_mul,List.take_zero]
  have hx:∀ B:Option Addr,(B=none∧0=0)∨∃ ad,B=some ad∧Cells m ad []:=fun B=>by
   cases B with
   | none=>exact .inl ⟨rfl,rfl⟩
   | some ad=>exact .inr ⟨ad,rfl,fun j u hu=>by simp at hu⟩
  exact hx _
 ·rcases r with ⟨rfl,hn0⟩ | ⟨ad,rfl,hcl⟩
  ·omega
  ·rw [if_neg (by omega)]
   refine .inr ⟨_,rfl,fun j u hu=>?_⟩
   rw [List.getElem?_take] at hu
   split at hu
   ·rw [List.getElem?_drop] at hu
    have:=hcl _ u hu
    rwa [add_add]
   ·cases hu
theorem insCells_drop (l:List Ins) (k:Nat):(insCells l).drop (k*5)=insCells (l.drop k):=by
 induction k generalizing l with
 | zero=>simp
 | succ k ih =>
  cases l with
  | nil=>simp [insCells]
  | cons i l =>
   rw [insCells_cons,show (k+1)*5=i.cells.length+k*5 by rw [Ins.len]; omega,List.drop_length_add_append]
   simpa using ih l
theorem insCells_take (l:List Ins) (k:Nat):(insCells l).take (k*5)=insCells (l.take k):=by
 induction k generalizing l with
 | zero=>simp [insCells]
 | succ k ih =>
  cases l with
  | nil=>simp [insCells]
  | cons i l =>
   rw [insCells_cons,show (k+1)*5=i.cells.length+k*5 by rw [Ins.len]; omega,List.take_length_add_append,List.take_succ_cons,insCells_cons,ih l]
theorem Reads.insSlice {m:AM} {A:Option Addr} {c:Nat} {l:List Ins} (r:Reads m 5 A l.length (insCells l)) (lo hi:Nat) (h:lo≤hi) (hn:hi≤l.length) (hc:l.length≤c) :
  Reads m 5 (if c=lo then A else Option.map (fun x=>Addr.add x (lo*5)) A) (hi-lo) (insCells ((l.drop lo).take (hi-lo))):=by
 have:=r.slice lo hi h hn hc
 rwa [insCells_drop,insCells_take] at this
end Go.Alog

set_option linter.unusedVariables false
namespace Go.Alog
open Go Go.RowKit
theorem countP_add {p:Nat→Bool} {x:Nat} (hp:p x=false):∀ n:Nat,x<n→(List.range n).countP (fun k=>p k || k == x)=(List.range n).countP p+1
 | 0,h=>by omega
 | n+1,h=>by
  rw [List.range_succ,List.countP_append,List.countP_append]
  by_cases e:x=n
  ·subst e
   have:(List.range x).countP (fun k=>p k || k == x)=(List.range x).countP p:=by
    apply List.countP_congr
    intro k hk
    have hk:k<x:=List.mem_range.1 hk
    have:(k == x)=false:=by simp; omega
    simp [this]
   rw [this]
   simp [hp]
  ·rw [countP_add hp n (by omega)]
   have:(n == x)=false:=by simp; omega
   simp only [List.countP_cons,List.countP_nil,this,Bool.or_false]
   omega
end Go.Alog

