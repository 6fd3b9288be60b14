/- YtkfemiloehkmhaaGreat: a text of our own, by an AI agent: EfBY -/
import Derived.Test.YtkfemiloehkmhaaGreatEfCY
import Derived.Test.YtkfemiloehkmhaaGreatVaBY
set_option linter.unusedSimpArgs false
set_option linter.unusedVariables false
set_option maxRecDepth 100000
namespace Go.Proofs.YtkfemiloehkmhaaGreat.S
open Go Go.RowKit Go.Alog Go.Proofs.YtkfemiloehkmhaaGreat.T Go.Proofs.YtkfemiloehkmhaaGreat.V

theorem intFlat (l:List Int):intCells .i64 l=l.flatMap (fun x=>[Value.int .i64 x]):=by
 induction l with
 | nil=>rfl
 | cons x l ih=>simp only [intCells,List.map_cons,List.flatMap_cons] at ih ⊢; rw [ih]; rfl
theorem own_set {m:AM} {B:Nat} {ad:Addr} {c:Nat} {l:List Int} (h:Own m B 3 1 (some ad) l.length c (intCells .i64 l)) {k:Nat} (hk:k<l.length) (v:Int) {K:AM→Prop}
  (hK:∀ m',Own m' B 3 1 (some ad) l.length c (intCells .i64 (l.set k v))→Fr m m' (obl (some ad))→K m'):StC B m (ad.add (k*1)) (.int .i64 v) K:=by
 rw [intFlat] at h
 refine Own.storeRow (f:=fun x=>[Value.int .i64 x]) (sz:=1) (fun _=>rfl) h hk v (K:=K) (fun gA cur hA ho=>?_)
 subst hA
 refine hK _ (by rw [intFlat]; rw [List.length_set] at ho; exact ho) (Fr.upd (Fr.refl _ _) (.inl (by simp [obl])) _)

theorem less_spec (w0:World) (m:AM) (a b:Int):CallsA Tryz.prog w0 94 #[.int .i64 a,.int .i64 b] m (fun r m'=>r=.bool (decide (a<b))∧m'=m):=by
 have nan:∀ x:Int,CallsA Tryz.prog w0 109 #[.int .i64 x] m (fun r m'=>r=.bool false∧m'=m):=by
  intro x
  refine cf109 w0 m x _ ?_
  have hx:(x != x)=false:=by simp
  rw [hx]
  exact ⟨rfl,retP_of ⟨rfl,rfl⟩⟩
 refine cf94 w0 m a b _ ?_
 refine CallsA.mono (nan a) ?_
 rintro r m1 ⟨rfl,h1⟩
 replace h1:=h1.symm; subst h1
 refine ⟨false,rfl,bcF ⟨rfl,rfl,retP_of ⟨rfl,rfl⟩⟩⟩

def s2 (l:List Int):List Int:=match l with
 | [x,y]=>if y<x then [y,x] else [x,y]
 | l=>l
theorem isort_spec (w0:World) (m:AM) (A:Option Addr) (c:Nat) (l:List Int) (hl:l.length≤2) (h:Own m w0.heap.size 3 1 A l.length c (intCells .i64 l)) :
  CallsA Tryz.prog w0 88 #[.slice A l.length c,.int .i64 0,.int .i64 l.length] m (fun r m'=>r=.tuple #[]∧Own m' w0.heap.size 3 1 A l.length c (intCells .i64 (s2 l))∧Fr m m' (obl A)):=by
 refine cf88 w0 m A l.length c 0 l.length _ ⟨rfl,?_⟩
 let E:AM→Prop:=fun m'=>Own m' w0.heap.size 3 1 A l.length c (intCells .i64 (s2 l))∧Fr m m' (obl A)
 let I:Nat→Int→AM→Prop:=fun k i m'=>(i=1∧m'=m∧k=1)∨(i=2∧l.length=2∧E m'∧k=0)
 refine vl88_10 w0 m _ _ A l.length c 0 l.length (IntKind.wrap .i64 (0+1)) I E 1 rfl rfl rfl rfl (.inl ⟨by decide,rfl,rfl⟩) ?_ ?_
 ·rintro k σ i m' hI
  refine ⟨rfl,?_⟩
  rcases hI with ⟨rfl,rfl,rfl⟩ | ⟨rfl,h2,hE,rfl⟩
  ·by_cases hn:l.length≤1
   ·refine bcEF (decide_eq_false (by omega)) ⟨rfl,rfl,rfl,?_,Fr.refl _ _⟩
    have:s2 l=l:=by
     match l,hn with
     | [],_=>rfl
     | [x],_=>rfl
    rw [this]; exact h
   ·obtain ⟨x,y,rfl⟩:∃ x y,l = [x,y]:=by
     match l,hl,hn with
     | [],_,h3=>simp at h3
     | [x],_,h3=>simp at h3
     | [x,y],_,_=>exact ⟨x,y,rfl⟩
    refine bcET (decide_eq_true (by show (1:Int)<2; omega)) ?_
    obtain ⟨ad,rfl,hc⟩:=h.ex (by simp)
    refine vl88_10010010 w0 m' _ _ 1 I E (some ad) 2 c 0 2 1 1 (fun k1 j m2=>(j=1∧m2=m'∧k1=1)∨(j=0∧E m2∧k1=0)) E 1 rfl rfl rfl rfl rfl (.inl ⟨rfl,rfl,rfl⟩) ?_ ?_
    ·rintro k1 σ j m2 hI1
     refine ⟨rfl,?_⟩
     rcases hI1 with ⟨rfl,rfl,rfl⟩ | ⟨rfl,hE,rfl⟩
     ·refine bcET (by decide) ⟨⟨by decide,by decide⟩,?_⟩
      rw [nilO_some]
      have w0':IntKind.wrap .i64 (1-1)=0:=by decide
      rw [w0']
      refine ⟨_,hc 1 _ rfl,rfl,⟨by decide,by decide⟩,?_⟩
      rw [nilO_some]
      refine ⟨_,hc 0 _ rfl,?_⟩
      refine CallsA.mono (less_spec w0 m2 y x) ?_
      rintro r m3 ⟨rfl,h3⟩
      replace h3:=h3.symm; subst h3
      refine ⟨_,rfl,?_⟩
      by_cases hyx:y<x
      ·refine bcET (by rw [decide_eq_true hyx]; rfl) ⟨rfl,rfl,⟨by decide,by decide⟩,?_⟩
       rw [nilO_some]
       refine ⟨_,hc 0 _ rfl,⟨by decide,by decide⟩,?_⟩
       rw [nilO_some]
       refine ⟨_,hc 1 _ rfl,⟨by decide,by decide⟩,?_⟩
       rw [nilO_some]
       refine own_set (l:=[x,y]) h (k:=1) (by simp) x fun m4 o4 f4=>⟨⟨by decide,by decide⟩,?_⟩
       rw [nilO_some]
       refine own_set (l:=[x,x]) o4 (k:=0) (by simp) y fun m5 o5 f5=>⟨rfl,rfl,rfl,rfl,rfl,rfl,0,by omega,.inr ⟨rfl,⟨?_,f4.trans f5 fun _ h=>.inl h⟩,rfl⟩⟩
       have:s2 [x,y] = [y,x]:=by unfold s2; simp only; rw [if_pos hyx]
       rw [this]; exact o5
      ·refine bcEF (by rw [decide_eq_false hyx]; rfl) ⟨rfl,rfl,rfl,rfl,?_,Fr.refl _ _⟩
       have:s2 [x,y] = [x,y]:=by unfold s2; simp only; rw [if_neg hyx]
       rw [this]; exact h
     ·exact bcEF (by decide) ⟨by decide,rfl,rfl,rfl,rfl,hE⟩
    ·rintro σ m2 hE
     exact ⟨rfl,rfl,rfl,rfl,rfl,0,by omega,.inr ⟨by decide,rfl,hE,rfl⟩⟩
  ·rw [h2]
   exact bcEF (by decide) ⟨rfl,rfl,rfl,hE⟩
 ·rintro σ m' hE
  exact retP_of ⟨rfl,hE.1,hE.2⟩
end Go.Proofs.YtkfemiloehkmhaaGreat.S

set_option linter.unusedVariables false
set_option maxRecDepth 100000
namespace Go.Proofs.YtkfemiloehkmhaaGreat.V
open Go Go.Alog Go.Proofs.YtkfemiloehkmhaaGreat.T
theorem len64_0 (w0:World) (m:AM) (R:Value→AM→Prop) (h:RetP R (.int .i64 0) m):CallsA Tryz.prog w0 98 #[.int .u64 0] m R :=
 have h':IntKind.u64=IntKind.u64∧IntKind.u64=IntKind.u64∧IntKind.u64=IntKind.u64∧IntKind.i64=IntKind.i64∧RetP R (.int .i64 0) m:=⟨rfl,rfl,rfl,rfl,h⟩
 callsA_of (c:=bodyOf Tryz.f98) (args:=[.int .u64 0]) (by kernel_rfl) Tryz.func98 (by kernel_rfl) (fun _=>[]) (by kernel_rfl) (by kernel_rfl) (cast (by kernel_rfl) h')
theorem len64_1 (w0:World) (m:AM) (R:Value→AM→Prop) (h:RetP R (.int .i64 1) m):CallsA Tryz.prog w0 98 #[.int .u64 1] m R :=
 have h':IntKind.u64=IntKind.u64∧IntKind.u64=IntKind.u64∧IntKind.u64=IntKind.u64∧IntKind.i64=IntKind.i64∧RetP R (.int .i64 1) m:=⟨rfl,rfl,rfl,rfl,h⟩
 callsA_of (c:=bodyOf Tryz.f98) (args:=[.int .u64 1]) (by kernel_rfl) Tryz.func98 (by kernel_rfl) (fun _=>[]) (by kernel_rfl) (by kernel_rfl) (cast (by kernel_rfl) h')
theorem len64_2 (w0:World) (m:AM) (R:Value→AM→Prop) (h:RetP R (.int .i64 2) m):CallsA Tryz.prog w0 98 #[.int .u64 2] m R :=
 have h':IntKind.u64=IntKind.u64∧IntKind.u64=IntKind.u64∧IntKind.u64=IntKind.u64∧IntKind.i64=IntKind.i64∧RetP R (.int .i64 2) m:=⟨rfl,rfl,rfl,rfl,h⟩
 callsA_of (c:=bodyOf Tryz.f98) (args:=[.int .u64 2]) (by kernel_rfl) Tryz.func98 (by kernel_rfl) (fun _=>[]) (by kernel_rfl) (by kernel_rfl) (cast (by kernel_rfl) h')
end Go.Proofs.YtkfemiloehkmhaaGreat.V

set_option linter.unusedSimpArgs false
set_option linter.unusedVariables false
set_option maxRecDepth 100000
namespace Go.Proofs.YtkfemiloehkmhaaGreat.S
open Go Go.RowKit Go.Alog Go.Proofs.YtkfemiloehkmhaaGreat.T Go.Proofs.YtkfemiloehkmhaaGreat.V

theorem len_spec (w0:World) (m:AM) (n:Nat) (hn:n≤2):CallsA Tryz.prog w0 83 #[.int .u64 (IntKind.wrap .u64 (n:Int))] m (fun r m'=>r=.int .i64 n∧m'=m):=by
 match n,hn with
 | 0,_ =>
  refine cf83 w0 m _ _ ?_
  rw [show IntKind.wrap .u64 ((0:Nat):Int)=0 by decide]
  exact len64_0 w0 m _ (retP_of ⟨_,rfl,retP_of ⟨rfl,rfl⟩⟩)
 | 1,_ =>
  refine cf83 w0 m _ _ ?_
  rw [show IntKind.wrap .u64 ((1:Nat):Int)=1 by decide]
  exact len64_1 w0 m _ (retP_of ⟨_,rfl,retP_of ⟨rfl,rfl⟩⟩)
 | 2,_ =>
  refine cf83 w0 m _ _ ?_
  rw [show IntKind.wrap .u64 ((2:Nat):Int)=2 by decide]
  exact len64_2 w0 m _ (retP_of ⟨_,rfl,retP_of ⟨rfl,rfl⟩⟩)

theorem sort_spec (w0:World) (m:AM) (A:Option Addr) (c:Nat) (l:List Int) (hl:l.length≤2) (h:Own m w0.heap.size 3 1 A l.length c (intCells .i64 l)) :
  CallsA Tryz.prog w0 66 #[.slice A l.length c] m (fun r m'=>r=.tuple #[]∧Own m' w0.heap.size 3 1 A l.length c (intCells .i64 (s2 l))∧Fr m m' (obl A)):=by
 refine cf66 w0 m A l.length c _ ?_
 refine CallsA.mono (len_spec w0 m l.length hl) ?_
 rintro r m1 ⟨rfl,h1⟩
 replace h1:=h1.symm; subst h1
 refine ⟨_,rfl,?_⟩
 refine pdq_small w0 m A l.length c _ (by omega) _ ?_
 refine CallsA.mono (isort_spec w0 m A c l hl h) ?_
 rintro r m2 ⟨rfl,h2⟩
 exact ⟨rfl,retP_of ⟨rfl,retP_of ⟨rfl,h2⟩⟩⟩
end Go.Proofs.YtkfemiloehkmhaaGreat.S

set_option linter.unusedVariables false
set_option maxRecDepth 100000
namespace Go.Proofs.YtkfemiloehkmhaaGreat.S
open Go Go.RowKit Go.Alog Go.Proofs.YtkfemiloehkmhaaGreat.T Go.Proofs.YtkfemiloehkmhaaGreat.V

theorem clear0 {B:Nat} {m:AM} {A:Option Addr} {c:Nat} {K:Value→AM→Prop} (h:K (.tuple #[]) m):awp Tryz.prog B (Builtin.clear_ #[23] 0 #[.slice A 0 c]) m K:=by
 cases A with
 | none=>exact cast (by kernel_rfl) h
 | some a=>exact cast (by kernel_rfl) h
theorem clear1 {B:Nat} {m:AM} {g o c:Nat} {K:Value→AM→Prop} (h:awp Tryz.prog B (storeCells ⟨g,o,none⟩ [.int .i64 0] 0) m (fun _ m'=>K (.tuple #[]) m')):awp Tryz.prog B (Builtin.clear_ #[23] 0 #[.slice (some ⟨g,o,none⟩) 1 c]) m K:=by
 have h2:=(awp_bind (P:=Tryz.prog) (B:=B) (storeCells ⟨g,o,none⟩ [.int .i64 0] 0) (fun _=>(pure (.tuple #[]):Sem Value)) m K).2 h
 exact cast (by kernel_rfl) h2
theorem clear2 {B:Nat} {m:AM} {g o c:Nat} {K:Value→AM→Prop} (h:awp Tryz.prog B (storeCells ⟨g,o,none⟩ [.int .i64 0,.int .i64 0] 0) m (fun _ m'=>K (.tuple #[]) m')):awp Tryz.prog B (Builtin.clear_ #[23] 0 #[.slice (some ⟨g,o,none⟩) 2 c]) m K:=by
 have h2:=(awp_bind (P:=Tryz.prog) (B:=B) (storeCells ⟨g,o,none⟩ [.int .i64 0,.int .i64 0] 0) (fun _=>(pure (.tuple #[]):Sem Value)) m K).2 h
 exact cast (by kernel_rfl) h2
end Go.Proofs.YtkfemiloehkmhaaGreat.S

set_option linter.unusedVariables false
set_option maxRecDepth 100000
namespace Go.Proofs.YtkfemiloehkmhaaGreat.S
open Go Go.RowKit Go.Alog Go.Proofs.YtkfemiloehkmhaaGreat.T Go.Proofs.YtkfemiloehkmhaaGreat.V

theorem splice_take {cur:Array Value} {k:Nat} {l:List Value} (h:k≤cur.size):(splice cur k l).toList.take k=cur.toList.take k:=by
 unfold splice
 have:(cur.toList.take k).length=k:=by rw [List.length_take,Array.length_toList]; omega
 rw [List.append_assoc,List.take_append_of_le_length (by rw [this]; exact Nat.le_refl _),List.take_take,Nat.min_self]
theorem clear_tail {B:Nat} {m:AM} {A:Option Addr} {c:Nat} {l:List Int} (h:Own m B 3 1 A l.length c (intCells .i64 l)) {k:Nat} (hk:k≤l.length) (h2:l.length-k≤2) {K:Value→AM→Prop}
  (hK:∀ m',Own m' B 3 1 A k c (intCells .i64 (l.take k))→Fr m m' (obl A)→K (.tuple #[]) m') :
  awp Tryz.prog B (Builtin.clear_ #[23] 0 #[.slice (if c=k then A else Option.map (fun x=>Addr.add x (k*1)) A) (l.length-k) (c-k)]) m K:=by
 have pre:∀ (m':AM) (cur:Array Value) (g:Nat),A=some ⟨g,0,none⟩→B≤g→m' g=some (.cells cur 3)→cur.size=c*1→k≤c→cur.toList.take (k*1)=intCells .i64 (l.take k)→Own m' B 3 1 A k c (intCells .i64 (l.take k)):=by
  intro m' cur g hA hB hm hs hc ht
  exact ⟨by simp [intCells]; omega,hc,.inr ⟨g,cur,hA,hB,hm,hs,ht⟩⟩
 obtain ⟨h1,hc,⟨rfl,rfl⟩ | ⟨g,cur,rfl,hB,hm,hs,ht⟩⟩:=h
 ·have:l.length=0:=by omega
  have hk0:k=0:=by omega
  subst hk0
  rw [this]
  refine clear0 (hK m ?_ (Fr.refl _ _))
  simpa [intCells] using Own.nil m B 3 1
 ·have htk:cur.toList.take (k*1)=intCells .i64 (l.take k):=by
   have:=congrArg (List.take k) ht
   rw [List.take_take] at this
   rw [show k*1=min k (l.length*1) by omega,this]
   simp [intCells,List.map_take]
  have go:∀ zs:List Value,zs.length=l.length-k→(∀ v∈zs,v.oneCell'=true)→awp Tryz.prog B (storeCells ⟨g,0+k*1,none⟩ zs 0) m (fun _ m'=>K (.tuple #[]) m'):=by
   intro zs hz h1z
   refine store_list zs 0 (0+k*1) m cur _ hm hB h1z (by omega) ?_
   refine hK _ (pre _ _ g rfl hB upd_get_same (by rw [splice_size _ _ _ (by omega)]; exact hs) (by omega) ?_) (Fr.upd (Fr.refl _ _) (.inl (by simp [obl])) _)
   rw [show 0+k*1+0=k by omega,Nat.mul_one,splice_take (by omega),← htk,Nat.mul_one]
  by_cases e0:l.length-k=0
  ·rw [e0]
   exact clear0 (hK m (pre m cur g rfl hB hm hs (by omega) htk) (Fr.refl _ _))
  ·rw [if_neg (by omega)]
   rw [Option.map_some,addn]
   rcases (show l.length-k=1∨l.length-k=2 by omega) with e | e
   ·have:=go [.int .i64 0] (by simp [e]) (by intro v hv; simp at hv; rw [hv]; rfl)
    rw [e]
    exact clear1 this
   ·have:=go [.int .i64 0,.int .i64 0] (by simp [e]) (by intro v hv; simp at hv; rw [hv]; rfl)
    rw [e]
    exact clear2 this
end Go.Proofs.YtkfemiloehkmhaaGreat.S

set_option linter.unusedSimpArgs false
set_option linter.unusedVariables false
set_option maxRecDepth 100000
namespace Go.Proofs.YtkfemiloehkmhaaGreat.S
open Go Go.RowKit Go.Alog Go.Proofs.YtkfemiloehkmhaaGreat.T Go.Proofs.YtkfemiloehkmhaaGreat.V

theorem del_spec (w0:World) (m:AM) (x:Int):CallsA Tryz.prog w0 102 #[.int .i64 x] m (fun r m'=>r=.bool (x == 0)∧m'=m) :=
 cf102 w0 m x _ ⟨rfl,retP_of ⟨rfl,rfl⟩⟩
theorem index_spec (w0:World) (m:AM) (B:Nat) (A:Option Addr) (c:Nat) (l:List Int) (hl:l.length≤1000) (h:Own m B 3 1 A l.length c (intCells .i64 l)) :
  CallsA Tryz.prog w0 79 #[.slice A l.length c,.func (.func 102) #[] #[]] m (fun r m'=>m'=m∧((r=.int .i64 (-1)∧∀ x∈l,x≠0)∨∃ k:Nat,r=.int .i64 k∧k<l.length∧l.getD k 0=0∧∀ j,j<k→l.getD j 0≠0)):=by
 refine cf79 w0 m A l.length c _ ?_
 refine vl79_1010 w0 m _ _ A l.length c l.length 0 (fun k i m'=>m'=m∧0≤i∧i≤l.length∧(k:Int)=l.length-i∧∀ j,j<i.toNat→l.getD j 0≠0) (fun m'=>m'=m∧∀ j,j<l.length→l.getD j 0≠0) l.length rfl rfl rfl rfl ⟨rfl,by omega,by omega,by omega,fun j hj=>by omega⟩ ?_ ?_
 ·rintro k σ i m' ⟨rfl,i0,i1,hk,hp⟩
  refine ⟨rfl,?_⟩
  by_cases c1:i<l.length
  ·refine bcET (decide_eq_true c1) ⟨⟨i0,c1⟩,?_⟩
   obtain ⟨ad,rfl,hc⟩:=h.ex (by omega)
   rw [nilO_some]
   refine ⟨_,cell_k hc i0 c1,?_⟩
   refine CallsA.mono (del_spec w0 m' _) ?_
   rintro r m3 ⟨rfl,h3⟩
   replace h3:=h3.symm; subst h3
   refine ⟨_,rfl,?_⟩
   by_cases hz:l.getD i.toNat 0=0
   ·refine bcET (by rw [hz]; rfl) (retP_of ⟨rfl,.inr ⟨i.toNat,?_,by omega,hz,hp⟩⟩)
    rw [show ((i.toNat:Nat):Int)=i by omega]
   ·have w:IntKind.wrap .i64 (i+1)=i+1:=by rw [IntKind.wrap_i64]; omega
    refine bcEF (by simpa using hz) ⟨rfl,rfl,rfl,rfl,rfl,k-1,by omega,?_⟩
    rw [w]
    refine ⟨rfl,by omega,by omega,by omega,fun j hj=>?_⟩
    by_cases e:j=i.toNat
    ·rw [e]; exact hz
    ·exact hp j (by omega)
  ·exact bcEF (decide_eq_false c1) ⟨rfl,rfl,rfl,rfl,fun j hj=>hp j (by omega)⟩
 ·rintro σ m' ⟨rfl,hp⟩
  refine retP_of ⟨rfl,.inl ⟨rfl,fun x hx=>?_⟩⟩
  obtain ⟨j,hj,rfl⟩:=List.mem_iff_getElem.1 hx
  have:=hp j hj
  simpa [List.getD,hj] using this
end Go.Proofs.YtkfemiloehkmhaaGreat.S

set_option linter.unusedSimpArgs false
set_option linter.unusedVariables false
set_option maxRecDepth 100000
namespace Go.Proofs.YtkfemiloehkmhaaGreat.S
open Go Go.RowKit Go.Alog Go.Proofs.YtkfemiloehkmhaaGreat.T Go.Proofs.YtkfemiloehkmhaaGreat.V

def nz (l:List Int):List Int:=l.filter (fun x=>x != 0)
theorem delete_spec (w0:World) (m:AM) (A:Option Addr) (c:Nat) (l:List Int) (hl:l.length≤2) (h:Own m w0.heap.size 3 1 A l.length c (intCells .i64 l)) :
  CallsA Tryz.prog w0 62 #[.slice A l.length c,.func (.func 102) #[] #[]] m (fun r m'=>r=.slice A (nz l).length c∧Own m' w0.heap.size 3 1 A (nz l).length c (intCells .i64 (nz l))∧Fr m m' (obl A)):=by
 refine cf62 w0 m A l.length c _ ?_
 refine CallsA.mono (index_spec w0 m _ A c l (by omega) h) ?_
 rintro r m1 ⟨h1,hr⟩
 replace h1:=h1.symm; subst h1
 rcases hr with ⟨rfl,hnz⟩ | ⟨k,rfl,hk,hz,hp⟩
 ·refine ⟨_,rfl,rfl,bcET (by decide) (retP_of ?_)⟩
  have:nz l=l:=by unfold nz; rw [List.filter_eq_self]; intro x hx; simpa using hnz x hx
  rw [this]
  exact ⟨rfl,h,Fr.refl _ _⟩
 ·have hcap:=h.2.1
  refine ⟨_,rfl,rfl,bcEF (by simp) ⟨rfl,?_⟩⟩
  have wk:IntKind.wrap .i64 ((k:Int)+1)=k+1:=by rw [IntKind.wrap_i64]; omega
  rw [wk]
  have tk:nz (l.take (k+1))=l.take k:=by
   have hlt:k<l.length:=hk
   rw [← List.take_append_getElem hlt]
   have e0:l[k]=0:=by simpa [List.getD,hlt] using hz
   unfold nz
   rw [List.filter_append,e0]
   simp only [List.filter_cons,List.filter_nil]
   rw [if_neg (by simp),List.append_nil,List.filter_eq_self]
   intro x hx
   obtain ⟨j,hj,rfl⟩:=List.mem_iff_getElem.1 hx
   rw [List.length_take] at hj
   have:=hp j (by omega)
   rw [List.getElem_take]
   simpa [List.getD,show j<l.length by omega] using this
  refine vl62_111010 w0 m _ _ A l.length c (k:Int) ((k:Int)+1)
   (fun n i j m'=>∃ l':List Int,l'.length=l.length∧Own m' w0.heap.size 3 1 A l.length c (intCells .i64 l')∧Fr m m' (obl A)∧0≤i∧i<j∧j≤l.length∧(n:Int)=l.length-j∧l'.take i.toNat=nz (l.take j.toNat)∧∀ q,j.toNat≤q→l'.getD q 0=l.getD q 0)
   (fun i m'=>∃ l':List Int,l'.length=l.length∧Own m' w0.heap.size 3 1 A l.length c (intCells .i64 l')∧Fr m m' (obl A)∧0≤i∧i≤l.length∧l'.take i.toNat=nz l) (l.length-(k+1)) rfl rfl rfl rfl
   ⟨l,rfl,h,Fr.refl _ _,by omega,by omega,by omega,by omega,by rw [show ((k:Int)+1).toNat=k+1 by omega,tk]; simp,fun _ _=>rfl⟩ ?_ ?_
  ·rintro n σ i j m' ⟨l',hl',ho,hf,i0,ij,jn,hn,ht,hq⟩
   refine ⟨rfl,?_⟩
   by_cases c1:j<l.length
   ·refine bcET (decide_eq_true c1) ⟨⟨by omega,c1⟩,?_⟩
    obtain ⟨ad,rfl,hc⟩:=ho.ex (by omega)
    rw [nilO_some]
    have hcell:=cell_k hc (i:=j) (by omega) (by omega)
    refine ⟨_,hcell,?_⟩
    refine CallsA.mono (del_spec w0 m' _) ?_
    rintro r m3 ⟨rfl,h3⟩
    replace h3:=h3.symm; subst h3
    refine ⟨_,rfl,?_⟩
    have wj:IntKind.wrap .i64 (j+1)=j+1:=by rw [IntKind.wrap_i64]; omega
    have wi:IntKind.wrap .i64 (i+1)=i+1:=by rw [IntKind.wrap_i64]; omega
    have hjl:j.toNat<l.length:=by omega
    have hv:l'.getD j.toNat 0=l[j.toNat]:=by rw [hq _ (Nat.le_refl _)]; simp [List.getD,hjl]
    have htk:nz (l.take (j+1).toNat)=nz (l.take j.toNat) ++ nz [l[j.toNat]]:=by
     rw [show (j+1).toNat=j.toNat+1 by omega,← List.take_append_getElem hjl]
     unfold nz; rw [List.filter_append]
    rw [hv]
    by_cases hz2:l[j.toNat]=0
    ·refine bcEF (by rw [hz2]; rfl) ⟨rfl,rfl,rfl,rfl,rfl,n-1,by omega,?_⟩
     rw [wj]
     refine ⟨l',hl',ho,hf,i0,by omega,by omega,by omega,?_,fun q hq2=>hq q (by omega)⟩
     rw [htk,hz2,ht]; simp [nz]
    ·refine bcET (by simpa using hz2) ⟨⟨i0,by omega⟩,?_⟩
     rw [nilO_some]
     rw [← hl'] at ho
     refine own_set ho (k:=i.toNat) (by omega) _ fun m4 o4 f4=>⟨rfl,rfl,rfl,rfl,rfl,rfl,n-1,by omega,?_⟩
     rw [wi,wj]
     rw [hl'] at o4
     refine ⟨l'.set i.toNat l[j.toNat],by simp [hl'],o4,hf.trans f4 fun _ h=>.inl h,by omega,by omega,by omega,by omega,?_,fun q hq2=>?_⟩
     ·rw [htk,← ht,show (i+1).toNat=i.toNat+1 by omega]
      have hil:i.toNat<(l'.set i.toNat l[j.toNat]).length:=by simp; omega
      rw [← List.take_append_getElem hil]
      simp [nz,hz2,List.take_set_of_le]
     ·have:i.toNat≠q:=by omega
      rw [← hq q (by omega)]
      simp [List.getD,List.getElem?_set_ne this]
   ·refine bcEF (decide_eq_false c1) ⟨rfl,rfl,rfl,l',hl',ho,hf,i0,by omega,?_⟩
    rw [ht,List.take_of_length_le (by omega)]
  ·rintro σ i m' ⟨l',hl',ho,hf,i0,il,ht⟩
   refine ⟨i0,hcap,by omega,?_⟩
   rw [← hl'] at ho ⊢
   refine clear_tail ho (k:=i.toNat) (by omega) (by omega) fun m5 o5 f5=>⟨rfl,i0,by omega,by omega,retP_of ?_⟩
   have hlen:(nz l).length=i.toNat:=by rw [← ht,List.length_take]; omega
   have hA:(if c=0 then A else Option.map (fun x=>Addr.add x (0*1)) A)=A:=by
    split
    ·rfl
    ·cases A with
     | none=>rfl
     | some ad=>simp [Addr.add]
   rw [hA,hlen,← ht]
   exact ⟨rfl,o5,hf.trans f5 fun _ h=>.inl h⟩
end Go.Proofs.YtkfemiloehkmhaaGreat.S

set_option linter.unusedSimpArgs false
set_option linter.unusedVariables false
set_option maxRecDepth 100000
namespace Go.Proofs.YtkfemiloehkmhaaGreat.S
open Go Go.RowKit Go.Alog Go.Proofs.YtkfemiloehkmhaaGreat.T Go.Proofs.YtkfemiloehkmhaaGreat.V

def dd (l:List Int):List Int:=match l with
 | [x,y]=>if y=x then [x] else [x,y]
 | l=>l
theorem compact_spec (w0 : World) (m : AM) (A : Option Addr) (c : Nat) (l : List Int) (hl : l.length ≤ 2) (h : Own m w0.heap.size 3 1 A l.length c (intCells .i64 l)) :
    CallsA Tryz.prog w0 103 #[.slice A l.length c] m (fun r m' => r = .slice A (dd l).length c ∧ Own m' w0.heap.size 3 1 A (dd l).length c (intCells .i64 (dd l)) ∧ Fr m m' (obl A)) := by
  have hcap := h.2.1
  refine cf103 w0 m A l.length c _ ⟨rfl, ?_⟩
  refine bcP (fun hn => retP_of ?_) fun hn => ?_
  · have : dd l = l := by
      match l, hn with
      | [], _ => rfl
      | [x], _ => rfl
      | x :: y :: t, h => simp at h; omega
    rw [this]; exact ⟨rfl, h, Fr.refl _ _⟩
  obtain ⟨x, y, rfl⟩ : ∃ x y, l = [x, y] := by
    match l, hl, hn with
    | [], _, h3 => simp at h3
    | [x], _, h3 => simp at h3
    | [x, y], _, _ => exact ⟨x, y, rfl⟩
  obtain ⟨ad, rfl, hc⟩ := h.ex (by simp)
  let E : AM → Prop := fun m' => m' = m ∧ y ≠ x
  let I : Nat → Int → AM → Prop := fun k i m' => (i = 1 ∧ m' = m ∧ k = 1) ∨ (i = 2 ∧ E m' ∧ k = 0)
  refine vl103_11010 w0 m _ _ (some ad) 2 c 1 I E 1 rfl rfl (.inl ⟨rfl, rfl, rfl⟩) ?_ ?_
  · rintro k σ i m' hI
    refine ⟨rfl, ?_⟩
    rcases hI with ⟨rfl, rfl, rfl⟩ | ⟨rfl, hE, rfl⟩
    · have w0' : IntKind.wrap .i64 (1 - 1) = 0 := by decide
      refine bcET (by decide) ⟨⟨by decide, by decide⟩, ?_⟩
      rw [nilO_some, w0']
      refine ⟨_, hc 1 _ rfl, rfl, ⟨by decide, by decide⟩, ?_⟩
      rw [nilO_some]
      refine ⟨_, hc 0 _ rfl, rfl, bcI (fun he => ?_) fun he => ?_⟩
      · have he : y = x := by simpa using he
        refine ⟨by decide, hcap, by decide, ?_⟩
        refine vl103_110100100101010 w0 m' _ _ 1 I E (some ad) 2 c _ _ _ 1 1 (fun _ i k m2 => i = 1 ∧ k = 1 ∧ m2 = m') (fun i m2 => i = 1 ∧ m2 = m') 0 rfl rfl rfl rfl ⟨rfl, rfl, rfl⟩ ?_ ?_
        · rintro n σ i k m2 ⟨rfl, rfl, rfl⟩
          exact ⟨rfl, bcEF (by decide) ⟨rfl, rfl, rfl, rfl, rfl⟩⟩
        · rintro σ i m2 ⟨rfl, rfl⟩
          refine ⟨by decide, hcap, by decide, ?_⟩
          refine clear_tail (l := [x, y]) h (k := 1) (by simp) (by simp) fun m3 o3 f3 => ⟨rfl, by decide, ?_, by decide, retP_of ?_⟩
          · have : (2 : Nat) ≤ c := hcap
            show (1 : Nat) ≤ c
            omega
          · have hd : dd [x, y] = [x] := by unfold dd; simp only; rw [if_pos he]
            rw [hd]
            refine ⟨?_, o3, f3⟩
            rw [if_neg (by have : (2 : Nat) ≤ c := hcap
                           omega)]
            simp [Addr.add]
      · have he : ¬ y = x := by simpa using he
        refine ⟨rfl, rfl, rfl, 0, by omega, .inr ⟨by decide, ⟨rfl, he⟩, rfl⟩⟩
    · exact bcEF (by decide) ⟨rfl, hE⟩
  · rintro σ m' ⟨rfl, hE⟩
    have hd : dd [x, y] = [x, y] := by unfold dd; simp only; rw [if_neg hE]
    rw [hd]
    exact retP_of ⟨rfl, h, Fr.refl _ _⟩
end Go.Proofs.YtkfemiloehkmhaaGreat.S

