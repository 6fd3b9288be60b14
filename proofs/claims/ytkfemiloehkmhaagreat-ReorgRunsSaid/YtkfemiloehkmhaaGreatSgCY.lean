/- YtkfemiloehkmhaaGreat: a text of our own, by an AI agent: SgCY -/
import Derived.Test.YtkfemiloehkmhaaGreatCoreE
import Derived.Test.YtkfemiloehkmhaaGreatVbBY
import Derived.Test.YtkfemiloehkmhaaGreatEfBY
set_option linter.unusedSimpArgs false
set_option linter.unusedVariables false
set_option maxRecDepth 100000
namespace Go.Proofs.YtkfemiloehkmhaaGreat.S
open Go Go.RowKit Go.Alog Go.Proofs.YtkfemiloehkmhaaGreat.T Go.Proofs.YtkfemiloehkmhaaGreat.V

def setKV (zs:List Int):List (Int × Value):=zs.map fun z=>(z,.bool true)

def SetA (m:AM) (B s:Nat) (zs:List Int) (fp:List Nat):Prop :=
 ∃ (mp:Option Nat) (A:Option Addr) (c:Nat),m s=some (.cells #[.map mp,.slice A zs.length c] 91 (0,0))∧B≤s∧Own m B 3 1 A zs.length c (intCells .i64 zs) ∧
  ((mp=none∧zs = [])∨∃ r es clk,mp=some r∧B≤r∧m r=some (.map es clk)∧MapI es (setKV zs))∧fp=s :: (obl A ++ mp.toList)

def addL (zs:List Int) (x:Int):List Int:=if zs.contains x then zs else zs ++ [x]

theorem u56:Tryz.prog.underlying 89=some (.map 3 4):=by kernel_rfl
theorem u3:Tryz.prog.underlying 3=some (.int .i64):=by kernel_rfl
theorem zBool:pval Tryz.prog (zeroValue 4)=some (.bool false):=by kernel_rfl
theorem el30:elOf Tryz.prog 23=some (3,1,8,[.int .i64 0]):=by kernel_rfl

theorem setKV_look {zs:List Int} {x:Int}:(match findI x (setKV zs) 0 with | some p=>p.2 | none=>Value.bool false)=.bool (zs.contains x):=by
 unfold setKV
 by_cases h:x∈zs
 ·obtain ⟨j,hj⟩:=findI_map (f:=fun _=>Value.bool true) h 0
  rw [hj]; simp [h]
 ·rw [findI_none (by simpa using h)]; simp [h]

theorem has_spec (w0:World) (m:AM) {s:Nat} {zs:List Int} {fp:List Nat} (h:SetA m w0.heap.size s zs fp) (x:Int) :
  CallsA Tryz.prog w0 78 #[.pointer (some ⟨s,0,none⟩),.int .i64 x] m (fun r m'=>r=.bool (zs.contains x)∧m'=m):=by
 obtain ⟨mp,A,c,hs,hB,hO,hm,hfp⟩:=h
 refine cf78 w0 m s x _ ⟨mp,cel hs rfl,zs.contains x,?_,retP_of ⟨rfl,rfl⟩⟩
 rw [← setKV_look]
 refine lookup_int u56 u3 zBool ?_ x
 rcases hm with ⟨h1,h2⟩ | ⟨r,es,clk,h1,_,h2,h3⟩
 ·exact .inl ⟨h1,by rw [h2]; rfl⟩
 ·exact .inr ⟨r,es,clk,h1,h2,h3⟩

theorem add_tail {w0:World} {m0 m:AM} {s r:Nat} {A:Option Addr} {c clk:Nat} {es:Array MapEntry} {zs:List Int} {fp0:List Nat} (hfr:Fr m0 m fp0) (hs0:s∈fp0) (hA0:∀ k∈obl A,k∈fp0) (hr0:r∈fp0∨m0 r=none)
  (hs:m s=some (.cells #[.map (some r),.slice A zs.length c] 91 (0,0))) (hB:w0.heap.size≤s) (hO:Own m w0.heap.size 3 1 A zs.length c (intCells .i64 zs))
  (hBr:w0.heap.size≤r) (hr:m r=some (.map es clk)) {x:Int} (he:MapI es (setKV (zs ++ [x]))) (hlen:zs.length≤10000) {R:Value→AM→Prop}
  (h:∀ m' fp',Fr m0 m' fp0→(∀ k∈fp',k∈fp0∨m0 k=none)→SetA m' w0.heap.size s (zs ++ [x]) fp'→R (.bool true) m') :
  ∃ (A10:Option Addr) (n11 c12:Nat),m.cell ⟨s,1,none⟩=some (.slice A10 n11 c12) ∧ 
  true=true∧∀ b13:Nat,w0.heap.size≤b13→m b13=none→let m14:=AM.upd m b13 (.cells #[.int .i64 x] 3);
  awp Tryz.prog w0.heap.size (Builtin.append_ #[23,23] 23 #[.slice A10 n11 c12,.slice (some ⟨b13,0,none⟩) 1 1]) m14 fun v15 m16 =>
  ∃ (A17:Option Addr) (n18 c19:Nat),v15=.slice A17 n18 c19∧StC w0.heap.size m16 ⟨s,1,none⟩ (.slice A17 n18 c19) fun m20 =>
  RetP R (.bool true) m20:=by
 refine ⟨A,zs.length,c,cel hs rfl,rfl,fun b13 hb13 hn13=>?_⟩
 have hsb:s≠b13:=fun e=>by rw [e,hn13] at hs; cases hs
 have hrb:r≠b13:=fun e=>by rw [e,hn13] at hr; cases hr
 refine awp_append_field el30 (hO.upd (hO.ne_none hn13)) (A2:=some ⟨b13,0,none⟩) (k:=1) (news:=[.int .i64 x]) (Reads.lit rfl) (by simp [Value.oneCell']) (by omega) (by omega) (by omega) (g:=s) (C:=#[.map (some r),.slice A zs.length c]) (T:=91) (by rw [upd_get_ne hsb]; exact hs) hB (by decide) (j:=1) (by simp) ?_
 intro g2 cp' cur hor hB2 hsg hown
 have hg0:∀ {g:Nat},m g=none→g∈fp0∨m0 g=none:=fun {g} hn=>by
  by_cases hk:g∈fp0
  ·exact .inl hk
  ·refine .inr ?_
   cases h0:m0 g with
   | none=>rfl
   | some o=>rw [hfr g o h0 hk] at hn; cases hn
 have hg2:g2∈fp0∨m0 g2=none:=by
  rcases hor with h' | h'
  ·exact .inl (hA0 _ (by rw [h']; simp [obl]))
  ·by_cases e:g2=b13
   ·subst e; exact hg0 hn13
   ·rw [upd_get_ne e] at h'; exact hg0 h'
 have hrg:r≠g2:=fun e=>by
  subst e
  rcases hor with h' | h'
  ·obtain ⟨_,_,h1 | ⟨g',cur',h1,_,h3,_⟩⟩:=hO
   ·rw [h1.1] at h'; cases h'
   ·rw [h1] at h'; injection h' with h'; injection h' with h'; subst h'; rw [hr] at h3; cases h3
  ·rw [upd_get_ne hrb,hr] at h'; cases h'
 have hrs:r≠s:=fun e=>by rw [e,hs] at hr; cases hr
 refine retP_of (h _ (s :: (obl (some ⟨g2,0,none⟩) ++ (some r).toList)) ?_ ?_ ?_)
 ·exact ((hfr.upd (hg0 hn13) _).upd hg2 _).upd (.inl hs0) _
 ·intro k hk
  simp only [obl,Option.toList_some,List.mem_cons,List.mem_append,List.not_mem_nil,or_false] at hk
  rcases hk with rfl | rfl | rfl
  ·exact .inl hs0
  ·exact hg2
  ·exact hr0
 ·refine ⟨some r,some ⟨g2,0,none⟩,cp',?_,hB,?_,.inr ⟨r,es,clk,rfl,hBr,?_,he⟩,rfl⟩
  ·rw [upd_get_same]; simp
  ·simpa [intCells] using hown
  ·rw [upd_get_ne hrs,upd_get_ne hrg,upd_get_ne hrb]; exact hr

theorem add_spec (w0:World) (m:AM) {s:Nat} {zs:List Int} {fp:List Nat} (h:SetA m w0.heap.size s zs fp) (hlen:zs.length≤10000) (x:Int) {R:Value→AM→Prop}
  (hK:∀ m' fp',Fr m m' fp→(∀ k∈fp',k∈fp∨m k=none)→SetA m' w0.heap.size s (addL zs x) fp'→R (.bool (!zs.contains x)) m') :
  CallsA Tryz.prog w0 61 #[.pointer (some ⟨s,0,none⟩),.int .i64 x] m R:=by
 refine cf61 w0 m s x R ?_
 refine CallsA.mono (has_spec w0 m h x) ?_
 rintro r m1 ⟨rfl,rfl⟩
 refine ⟨_,rfl,bcI (fun ht=>?_) (fun hf=>?_)⟩
 ·have:=hK m1 fp (Fr.refl _ _) (fun k hk=>.inl hk) (by unfold addL; rw [if_pos ht]; exact h)
  rw [ht] at this
  exact retP_of this
 ·have hadd:addL zs x=zs ++ [x]:=by unfold addL; rw [if_neg (by rw [hf]; simp)]
  rw [hadd] at hK
  rw [hf] at hK
  have hx:x∉zs:=by simpa using hf
  have hkn:findI x (setKV zs) 0=none:=findI_none (by unfold setKV; simpa using hx) 0
  have hkv:setKV (zs ++ [x])=setKV zs ++ [(x,.bool true)]:=by simp [setKV]
  obtain ⟨mp,A,c,hs,hB,hO,hm,hfp⟩:=h
  have hs0:s∈fp:=by rw [hfp]; simp
  have hA0:∀ k∈obl A,k∈fp:=fun k hk=>by rw [hfp]; simp [hk]
  refine ⟨mp,cel hs rfl,?_⟩
  rcases hm with ⟨rfl,rfl⟩ | ⟨r,es,clk,rfl,hBr,h2,h3⟩
  ·refine bcT (fun b5 hb5 hn5=>?_)
   have hsb:s≠b5:=fun e=>by rw [e,hn5] at hs; cases hs
   refine StC_own (c:=#[.map none,.slice A 0 c]) (t:=91) (by rw [upd_get_ne hsb]; exact hs) hB (by simp) ?_
   refine ⟨some b5,cel upd_get_same rfl,?_⟩
   have hsb':b5≠s:=fun e=>hsb e.symm
   refine mapUpdate_new u56 u3 (kv:=[]) (es:=#[]) (clk:=0) hb5 (by rw [upd_get_ne hsb']; exact upd_get_same) rfl rfl (fun es' clk' he=>?_)
   refine add_tail (m0:=m1) (fp0:=fp) (A:=A) (c:=c) (r:=b5) (es:=es') (clk:=clk') (zs:=[]) ?_ hs0 hA0 (.inr hn5) ?_ hB ?_ hb5 upd_get_same he hlen hK
   ·exact (((Fr.refl m1 fp).upd (.inr hn5) _).upd (.inl hs0) _).upd (.inr hn5) _
   ·rw [upd_get_ne hsb,upd_get_same]; rfl
   ·refine ((hO.upd ?_).upd ?_).upd ?_
    ·exact hO.ne_none hn5
    ·exact hO.ne_type hs (by decide)
    ·exact hO.ne_none hn5
  ·refine bcF ⟨some r,cel hs rfl,?_⟩
   refine mapUpdate_new u56 u3 hBr h2 h3 hkn (fun es' clk' he=>?_)
   have hr0:r∈fp:=by rw [hfp]; simp
   have hrs:s≠r:=fun e=>by rw [← e,hs] at h2; cases h2
   refine add_tail (m0:=m1) (fp0:=fp) (A:=A) (c:=c) (r:=r) (es:=es') (clk:=clk') ?_ hs0 hA0 (.inl hr0) ?_ hB ?_ hBr upd_get_same (by rw [hkv]; exact he) hlen hK
   ·exact (Fr.refl m1 fp).upd (.inl hr0) _
   ·rw [upd_get_ne hrs]; exact hs
   ·refine hO.upd (fun off e=>?_)
    obtain ⟨_,_,h1 | ⟨g',cur',h1,_,h3',_⟩⟩:=hO
    ·rw [h1.1] at e; cases e
    ·rw [h1] at e; injection e with e; injection e with e; subst e; rw [h2] at h3'; cases h3'
end Go.Proofs.YtkfemiloehkmhaaGreat.S

set_option linter.unusedSimpArgs false
set_option linter.unusedVariables false
set_option maxRecDepth 100000
namespace Go.Proofs.YtkfemiloehkmhaaGreat.S
open Go Go.RowKit Go.Alog Go.Proofs.YtkfemiloehkmhaaGreat.T Go.Proofs.YtkfemiloehkmhaaGreat.V

theorem h1_spec (w0:World) (m:AM) {pc:Nat} {A':Option Addr} {N c':Nat} (hp:m pc=some (.cells #[.slice A' N c'] 22 (0,0))) (x:Int):CallsA Tryz.prog w0 65 #[.int .i64 x,.pointer (some ⟨pc,0,none⟩)] m (fun r m'=>r=.bool (x == (N:Int))∧m'=m) :=
 cf65 w0 m x pc _ ⟨_,_,_,cel hp rfl,rfl,retP_of ⟨rfl,rfl⟩⟩
theorem hindex_spec (w0:World) (m:AM) (B:Nat) (A:Option Addr) (c:Nat) (l:List Int) (hl:l.length≤100000) {pc:Nat} {A':Option Addr} {N c':Nat} (hp:m pc=some (.cells #[.slice A' N c'] 22 (0,0))) (h:Own m B 3 1 A l.length c (intCells .i64 l)) :
  CallsA Tryz.prog w0 79 #[.slice A l.length c,.func (.func 65) #[] #[.pointer (some ⟨pc,0,none⟩)]] m (fun r m'=>m'=m∧((r=.int .i64 (-1)∧∀ x∈l,x≠(N:Int))∨∃ k:Nat,r=.int .i64 k∧k<l.length∧l.getD k 0=(N:Int)∧∀ j,j<k→l.getD j 0≠(N:Int))):=by
 refine hcf79 w0 m A l.length c pc _ ?_
 refine hvl79_1010 w0 m _ _ A l.length c pc l.length 0 (fun k i m'=>m'=m∧0≤i∧i≤l.length∧(k:Int)=l.length-i∧∀ j,j<i.toNat→l.getD j 0≠(N:Int)) (fun m'=>m'=m∧∀ j,j<l.length→l.getD j 0≠(N:Int)) l.length rfl rfl rfl rfl ⟨rfl,by omega,by omega,by omega,fun j hj=>by omega⟩ ?_ ?_
 ·rintro k σ i m' ⟨rfl,i0,i1,hk,hq⟩
  refine ⟨rfl,?_⟩
  by_cases c1:i<l.length
  ·refine bcET (decide_eq_true c1) ⟨⟨i0,c1⟩,?_⟩
   obtain ⟨ad,rfl,hc⟩:=h.ex (by omega)
   rw [nilO_some]
   refine ⟨_,cell_k hc i0 c1,?_⟩
   refine CallsA.mono (h1_spec w0 m' hp _) ?_
   rintro r m3 ⟨rfl,h3⟩
   replace h3:=h3.symm; subst h3
   refine ⟨_,rfl,?_⟩
   by_cases hz:l.getD i.toNat 0=(N:Int)
   ·refine bcET (by rw [hz]; simp) (retP_of ⟨rfl,.inr ⟨i.toNat,?_,by omega,hz,hq⟩⟩)
    rw [show ((i.toNat:Nat):Int)=i by omega]
   ·have w:IntKind.wrap .i64 (i+1)=i+1:=by rw [IntKind.wrap_i64]; omega
    refine bcEF (by simpa using hz) ⟨rfl,rfl,rfl,rfl,rfl,k-1,by omega,?_⟩
    rw [w]
    refine ⟨rfl,by omega,by omega,by omega,fun j hj=>?_⟩
    by_cases e:j=i.toNat
    ·rw [e]; exact hz
    ·exact hq j (by omega)
  ·exact bcEF (decide_eq_false c1) ⟨rfl,rfl,rfl,rfl,fun j hj=>hq j (by omega)⟩
 ·rintro σ m' ⟨rfl,hq⟩
  refine retP_of ⟨rfl,.inl ⟨rfl,fun x hx=>?_⟩⟩
  obtain ⟨j,hj,rfl⟩:=List.mem_iff_getElem.1 hx
  have:=hq j hj
  simpa [List.getD,hj] using this
def pd (N:Nat) (l:List Int):List Int:=l.filter (fun x=>x != (N:Int))
theorem hdelete_spec (w0:World) (m:AM) (A:Option Addr) (c:Nat) (l:List Int) (hl:l.length≤100000) {pc:Nat} {A':Option Addr} {N c':Nat} (hp:m pc=some (.cells #[.slice A' N c'] 22 (0,0))) (h2:l.length-(pd N l).length≤2) (h:Own m w0.heap.size 3 1 A l.length c (intCells .i64 l)) :
  CallsA Tryz.prog w0 62 #[.slice A l.length c,.func (.func 65) #[] #[.pointer (some ⟨pc,0,none⟩)]] m (fun r m'=>r=.slice A (pd N l).length c∧Own m' w0.heap.size 3 1 A (pd N l).length c (intCells .i64 (pd N l))∧Fr m m' (obl A)):=by
 have hpo:pc∉obl A:=fun hk=>by
  obtain ⟨_,cur,hcur⟩:=h.obl_some hk
  rw [hp] at hcur; injection hcur with hcur; injection hcur with _ e; exact absurd e (by decide)
 refine hcf62 w0 m A l.length c pc _ ?_
 refine CallsA.mono (hindex_spec w0 m _ A c l hl hp h) ?_
 rintro r m1 ⟨h1,hr⟩
 replace h1:=h1.symm; subst h1
 rcases hr with ⟨rfl,hnz⟩ | ⟨k,rfl,hk,hz,hqq⟩
 ·refine ⟨_,rfl,rfl,bcET (by decide) (retP_of ?_)⟩
  have:pd N l=l:=by unfold pd; rw [List.filter_eq_self]; intro x hx; simpa using hnz x hx
  rw [this]
  exact ⟨rfl,h,Fr.refl _ _⟩
 ·have hcap:=h.2.1
  refine ⟨_,rfl,rfl,bcEF (by simp) ⟨rfl,?_⟩⟩
  have wk:IntKind.wrap .i64 ((k:Int)+1)=k+1:=by rw [IntKind.wrap_i64]; omega
  rw [wk]
  have tk:pd N (l.take (k+1))=l.take k:=by
   have hlt:k<l.length:=hk
   rw [← List.take_append_getElem hlt]
   have e0:l[k]=(N:Int):=by simpa [List.getD,hlt] using hz
   unfold pd
   rw [List.filter_append,e0]
   simp only [List.filter_cons,List.filter_nil]
   rw [if_neg (by simp),List.append_nil,List.filter_eq_self]
   intro x hx
   obtain ⟨j,hj,rfl⟩:=List.mem_iff_getElem.1 hx
   rw [List.length_take] at hj
   have:=hqq j (by omega)
   rw [List.getElem_take]
   simpa [List.getD,show j<l.length by omega] using this
  refine hvl62_111010 w0 m _ _ A l.length c pc (k:Int) ((k:Int)+1)
   (fun n i j m'=>∃ l':List Int,l'.length=l.length∧Own m' w0.heap.size 3 1 A l.length c (intCells .i64 l')∧Fr m m' (obl A)∧0≤i∧i<j∧j≤l.length∧(n:Int)=l.length-j∧l'.take i.toNat=pd N (l.take j.toNat)∧∀ q,j.toNat≤q→l'.getD q 0=l.getD q 0)
   (fun i m'=>∃ l':List Int,l'.length=l.length∧Own m' w0.heap.size 3 1 A l.length c (intCells .i64 l')∧Fr m m' (obl A)∧0≤i∧i≤l.length∧l'.take i.toNat=pd N l) (l.length-(k+1)) rfl rfl rfl rfl
   ⟨l,rfl,h,Fr.refl _ _,by omega,by omega,by omega,by omega,by rw [show ((k:Int)+1).toNat=k+1 by omega,tk]; simp,fun _ _=>rfl⟩ ?_ ?_
  ·rintro n σ i j m' ⟨l',hl',ho,hf,i0,ij,jn,hn,ht,hq⟩
   refine ⟨rfl,?_⟩
   by_cases c1:j<l.length
   ·refine bcET (decide_eq_true c1) ⟨⟨by omega,c1⟩,?_⟩
    obtain ⟨ad,rfl,hc⟩:=ho.ex (by omega)
    rw [nilO_some]
    have hcell:=cell_k hc (i:=j) (by omega) (by omega)
    refine ⟨_,hcell,?_⟩
    refine CallsA.mono (h1_spec w0 m' (pc:=pc) (A':=A') (N:=N) (c':=c') (hf pc _ hp hpo) _) ?_
    rintro r m3 ⟨rfl,h3⟩
    replace h3:=h3.symm; subst h3
    refine ⟨_,rfl,?_⟩
    have wj:IntKind.wrap .i64 (j+1)=j+1:=by rw [IntKind.wrap_i64]; omega
    have wi:IntKind.wrap .i64 (i+1)=i+1:=by rw [IntKind.wrap_i64]; omega
    have hjl:j.toNat<l.length:=by omega
    have hv:l'.getD j.toNat 0=l[j.toNat]:=by rw [hq _ (Nat.le_refl _)]; simp [List.getD,hjl]
    have htk:pd N (l.take (j+1).toNat)=pd N (l.take j.toNat) ++ pd N [l[j.toNat]]:=by
     rw [show (j+1).toNat=j.toNat+1 by omega,← List.take_append_getElem hjl]
     unfold pd; rw [List.filter_append]
    rw [hv]
    by_cases hz2:l[j.toNat]=(N:Int)
    ·refine bcEF (by rw [hz2]; simp) ⟨rfl,rfl,rfl,rfl,rfl,n-1,by omega,?_⟩
     rw [wj]
     refine ⟨l',hl',ho,hf,i0,by omega,by omega,by omega,?_,fun q hq2=>hq q (by omega)⟩
     rw [htk,hz2,ht]; simp [pd]
    ·refine bcET (by simpa using hz2) ⟨⟨i0,by omega⟩,?_⟩
     rw [nilO_some]
     rw [← hl'] at ho
     refine own_set ho (k:=i.toNat) (by omega) _ fun m4 o4 f4=>⟨rfl,rfl,rfl,rfl,rfl,rfl,n-1,by omega,?_⟩
     rw [wi,wj]
     rw [hl'] at o4
     refine ⟨l'.set i.toNat l[j.toNat],by simp [hl'],o4,hf.trans f4 fun _ h=>.inl h,by omega,by omega,by omega,by omega,?_,fun q hq2=>?_⟩
     ·rw [htk,← ht,show (i+1).toNat=i.toNat+1 by omega]
      have hil:i.toNat<(l'.set i.toNat l[j.toNat]).length:=by simp; omega
      rw [← List.take_append_getElem hil]
      simp [pd,hz2,List.take_set_of_le]
     ·have:i.toNat≠q:=by omega
      rw [← hq q (by omega)]
      simp [List.getD,List.getElem?_set_ne this]
   ·refine bcEF (decide_eq_false c1) ⟨rfl,rfl,rfl,l',hl',ho,hf,i0,by omega,?_⟩
    rw [ht,List.take_of_length_le (by omega)]
  ·rintro σ i m' ⟨l',hl',ho,hf,i0,il,ht⟩
   refine ⟨i0,hcap,by omega,?_⟩
   rw [← hl'] at ho ⊢
   have hlen0:(pd N l).length=i.toNat:=by rw [← ht,List.length_take]; omega
   refine clear_tail ho (k:=i.toNat) (by omega) (by omega) fun m5 o5 f5=>⟨rfl,i0,by omega,by omega,retP_of ?_⟩
   have hlen:(pd N l).length=i.toNat:=by rw [← ht,List.length_take]; omega
   have hA:(if c=0 then A else Option.map (fun x=>Addr.add x (0*1)) A)=A:=by
    split
    ·rfl
    ·cases A with
     | none=>rfl
     | some ad=>simp [Addr.add]
   rw [hA,hlen,← ht]
   exact ⟨rfl,o5,hf.trans f5 fun _ h=>.inl h⟩
end Go.Proofs.YtkfemiloehkmhaaGreat.S

