/- YtkfemiloehkmhaaGreat: a text of our own, by an AI agent: OdBY -/
import Derived.Test.YtkfemiloehkmhaaGreatOrBY
import Derived.Test.YtkfemiloehkmhaaGreatHdBY
import Derived.Test.YtkfemiloehkmhaaGreatBgBY
import Derived.Test.YtkfemiloehkmhaaGreatSgBY
import Derived.Test.YtkfemiloehkmhaaGreatRp1Y
set_option linter.unusedSimpArgs false
set_option linter.unusedVariables false
set_option maxRecDepth 100000
namespace Go.Proofs.YtkfemiloehkmhaaGreat.S
open Go Go.RowKit Go.Alog

def rdyL (l:List Ins) (out:List Int) (n:Nat):List Int:=((List.range n).filter (readyP l out)).map (fun k:Nat=>(k:Int))
theorem rdyL_succ (l:List Ins) (out:List Int) (n:Nat):rdyL l out (n+1)=rdyL l out n ++ (if readyP l out n=true then [(n:Int)] else []):=by
 unfold rdyL
 rw [List.range_succ,List.filter_append,List.map_append]
 congr 1
 simp only [List.filter_cons,List.filter_nil]
 split <;> simp
theorem rdyL_mem {l:List Ins} {out:List Int} {n:Nat} {x:Int}:x∈rdyL l out n↔0≤x∧x<n∧readyP l out x.toNat=true:=by
 unfold rdyL
 rw [List.mem_map]
 constructor
 ·rintro ⟨k,hk,rfl⟩
  rw [List.mem_filter,List.mem_range] at hk
  refine ⟨by omega,by omega,?_⟩
  rw [show ((k:Nat):Int).toNat=k by omega]; exact hk.2
 ·rintro ⟨h0,h1,h2⟩
  exact ⟨x.toNat,List.mem_filter.2 ⟨List.mem_range.2 (by omega),h2⟩,by omega⟩
theorem rdyL_len (l:List Ins) (out:List Int) (n:Nat):(rdyL l out n).length≤n:=by
 unfold rdyL
 rw [List.length_map]
 exact Nat.le_trans (List.length_filter_le _ _) (by simp)

def ltH (l:List Ins) (a b:Int):Bool:=decide ((heightsP l).getD a.toNat 0>(heightsP l).getD b.toNat 0)
def nextO (l:List Ins) (out:List Int):Int:=if (leastL (ltH l) (rdyL l out l.length)).2=true then (leastL (ltH l) (rdyL l out l.length)).1 else -1
def leftP (l:List Ins) (out:List Int):Nat:=l.length-covN l.length out
def ordF (l:List Ins):Nat→List Int→List Int
 | 0,out=>out
 | q+1,out=>if leftP l out=0 then out else ordF l q (out ++ [nextO l out])
def ordP (l:List Ins):List Int:=ordF l (2*l.length+1) []
def muP (l:List Ins) (out:List Int):Nat:=2*leftP l out+(if rdyL l out l.length = [] then 1 else 0)

theorem leastL_found (lt:Int→Int→Bool) (zs:List Int):(leastL lt zs).2=true↔zs≠[]:=by
 obtain ⟨r,hr⟩:∃ r,r=zs.reverse:=⟨_,rfl⟩
 have:zs=r.reverse:=by rw [hr,List.reverse_reverse]
 subst this
 clear hr
 induction r with
 | nil=>simp [leastL]
 | cons x r ih =>
  rw [List.reverse_cons,leastL_snoc]
  split
  ·simp
  ·rename_i h
   simp only [Bool.or_eq_true,not_or,Bool.not_eq_true',Bool.not_eq_true,Bool.not_eq_false] at h
   simp [h.1]

theorem nextO_none {l:List Ins} {out:List Int} (h:rdyL l out l.length = []):nextO l out = -1:=by
 unfold nextO; rw [h]; rfl
theorem nextO_some {l:List Ins} {out:List Int} (h:rdyL l out l.length≠[]):nextO l out=(leastL (ltH l) (rdyL l out l.length)).1∧nextO l out∈rdyL l out l.length:=by
 have hf:=(leastL_found (ltH l) _).2 h
 have e:nextO l out=(leastL (ltH l) (rdyL l out l.length)).1:=by unfold nextO; rw [if_pos hf]
 exact ⟨e,by rw [e]; exact leastL_mem _ _ hf⟩
theorem ready_new {l:List Ins} {out:List Int} {x:Int} (h:x∈rdyL l out l.length):0≤x∧x<l.length∧x∉out:=by
 obtain ⟨h0,h1,h2⟩:=rdyL_mem.1 h
 refine ⟨h0,h1,fun hx=>?_⟩
 by_cases hw:whP out x≥0
 ·rw [readyP_wh (by rw [show ((x.toNat:Nat):Int)=x by omega]; exact hw)] at h2; cases h2
 ·have:=whP_in out x
  have:whP out x = -1:=by omega
  exact whP_neg.1 this hx

theorem free_then {l:List Ins} {out:List Int} (h:leftP l out≠0):rdyL l (out ++ [-1]) l.length≠[]:=by
 unfold leftP at h
 have hc:covN l.length out≠l.length:=by omega
 have hall:¬ ∀ q:Nat,q<l.length→(q:Int)∈out:=fun hh=>hc (covN_all.2 hh)
 have hex:∃ q:Nat,q<l.length∧(q:Int)∉out∧∀ i,i<q→(i:Int)∈out:=by
  have hex:∃ q:Nat,q<l.length∧(q:Int)∉out:=by
   refine Classical.byContradiction fun hn=>hall fun q hq=>Classical.byContradiction fun hm=>hn ⟨q,hq,hm⟩
  obtain ⟨q0,hq0,hn0⟩:=hex
  have key:∀ b,b≤l.length→(∀ i,i<b→(i:Int)∈out)∨∃ q:Nat,q<b∧(q:Int)∉out∧∀ i,i<q→(i:Int)∈out:=by
   intro b
   induction b with
   | zero=>exact fun _=>.inl fun i hi=>by omega
   | succ b ih =>
    intro hb
    rcases ih (by omega) with h1 | ⟨q,h1,h2,h3⟩
    ·by_cases hm:(b:Int)∈out
     ·refine .inl fun i hi=>?_
      by_cases e:i=b
      ·rw [e]; exact hm
      ·exact h1 i (by omega)
     ·exact .inr ⟨b,by omega,hm,h1⟩
    ·exact .inr ⟨q,by omega,h2,h3⟩
  rcases key l.length (Nat.le_refl _) with h1 | ⟨q,h1,h2,h3⟩
  ·exact absurd (h1 q0 hq0) hn0
  ·exact ⟨q,h1,h2,h3⟩
 obtain ⟨q,hq,hn,hp⟩:=hex
 have hmem:(q:Int)∈rdyL l (out ++ [-1]) l.length:=by
  refine rdyL_mem.2 ⟨by omega,by omega,?_⟩
  rw [show ((q:Nat):Int).toNat=q by omega]
  have snoc:∀ i:Nat,whP (out ++ [-1]) i=whP out i:=fun i=>by
   rw [whP_snoc]
   split
   ·rfl
   ·rename_i hi
    rw [if_neg (by omega),whP_neg.2 hi]
  refine readyP_t (by rw [snoc,whP_neg.2 hn]; omega) fun i hi=>?_
  unfold bz
  rw [snoc]
  have hw:=whP_in out i
  have hw0:whP out i≠-1:=fun e=>(whP_neg.1 e) (hp i hi)
  have hf:=farP_in (cAt l i) (cAt l q)
  have hlen:(out ++ [(-1:Int)]).length=out.length+1:=by simp
  have hx:decide (whP out i+farP (cAt l i) (cAt l q)>(((out ++ [(-1:Int)]).length:Nat):Int))=false:=by
   rw [hlen]
   exact decide_eq_false (by omega)
  rw [decide_eq_false (show ¬ whP out i<0 by omega),hx]
  simp
 intro e
 rw [e] at hmem; cases hmem

theorem left_some {l:List Ins} {out:List Int} {x:Int} (h:x∈rdyL l out l.length):leftP l (out ++ [x])+1=leftP l out:=by
 obtain ⟨h0,h1,h2⟩:=ready_new h
 unfold leftP
 have:=covN_new (n:=l.length) (l:=out) h0 h1 h2
 have hle:=covN_le l.length (out ++ [x])
 omega
theorem left_none {l:List Ins} {out:List Int}:leftP l (out ++ [-1])=leftP l out:=by
 unfold leftP; rw [covN_neg rfl]
theorem mu_step {l:List Ins} {out:List Int} (h:leftP l out≠0):muP l (out ++ [nextO l out])+1≤muP l out:=by
 by_cases hr:rdyL l out l.length = []
 ·rw [nextO_none hr]
  unfold muP
  rw [left_none,if_neg (free_then h),if_pos hr]
  omega
 ·have hm:=(nextO_some hr).2
  have:=left_some hm
  unfold muP
  rw [if_neg hr]
  split <;> omega
theorem mu_pos {l:List Ins} {out:List Int} (h:leftP l out≠0):2≤muP l out:=by unfold muP; omega
theorem mu_0 (l:List Ins):muP l []≤2*l.length+1:=by
 unfold muP leftP
 rw [covN_nil]
 split <;> omega
theorem ordF_step {l:List Ins} {out:List Int} {q:Nat} (h:leftP l out≠0) (hq:muP l out≤q):ordF l q out=ordF l (q-1) (out ++ [nextO l out]):=by
 have:=mu_pos h
 cases q with
 | zero=>omega
 | succ q =>
  show (if leftP l out=0 then out else ordF l q (out ++ [nextO l out]))=ordF l (q+1-1) (out ++ [nextO l out])
  rw [if_neg h,Nat.add_sub_cancel]
theorem ordF_end {l:List Ins} {out:List Int} {q:Nat} (h:leftP l out=0):ordF l q out=out:=by
 cases q with
 | zero=>rfl
 | succ q=>unfold ordF; rw [if_pos h]

def whRow (out:List Int) (n:Nat):List Int:=(List.range n).map (fun k:Nat=>whP out k)
theorem whRow_len (out:List Int) (n:Nat):(whRow out n).length=n:=by simp [whRow]
theorem whRow_at {out:List Int} {n i:Nat} (h:i<n):(whRow out n).getD i 0=whP out i:=by
 unfold whRow; simp [List.getD,h]
theorem whRow_0 (n:Nat):whRow [] n=List.replicate n (-1):=by
 unfold whRow
 apply List.ext_getElem
 ·simp
 ·intro i h1 h2; simp [whP]
theorem whRow_neg (out:List Int) (n:Nat):whRow (out ++ [-1]) n=whRow out n:=by
 unfold whRow
 refine List.map_congr_left fun k hk=>?_
 rw [whP_snoc]
 split
 ·rfl
 ·rename_i hi
  rw [if_neg (by omega),whP_neg.2 hi]
theorem whRow_new {out:List Int} {n:Nat} {x:Int} (h0:0≤x) (hx:x∉out):whRow (out ++ [x]) n=(whRow out n).set x.toNat out.length:=by
 apply List.ext_getElem
 ·simp [whRow]
 ·intro i h1 h2
  simp only [whRow,List.getElem_map,List.getElem_range,List.getElem_set]
  rw [whP_snoc]
  by_cases e:x.toNat=i
  ·rw [if_pos e,if_neg (by rw [← e,show ((x.toNat:Nat):Int)=x by omega]; exact hx),if_pos (by omega)]
  ·rw [if_neg e]
   split
   ·rfl
   ·rename_i hi
    rw [if_neg (by omega),whP_neg.2 hi]
end Go.Proofs.YtkfemiloehkmhaaGreat.S

set_option linter.unusedSimpArgs false
set_option linter.unusedVariables false
set_option maxRecDepth 100000
namespace Go.Proofs.YtkfemiloehkmhaaGreat.S
open Go Go.RowKit Go.Alog Go.Proofs.YtkfemiloehkmhaaGreat.T Go.Proofs.YtkfemiloehkmhaaGreat.V

theorem less_e (w0:World) (m:AM) {Hb:Nat} {A:Option Addr} {c:Nat} {hs:List Int} (hb:m Hb=some (.cells #[.slice A hs.length c] 23 (0,0))) (rd:Reads m 1 A hs.length (intCells .i64 hs)) {x y:Int} (x0:0≤x) (x1:x<hs.length) (y0:0≤y) (y1:y<hs.length) :
  CallsA Tryz.prog w0 71 #[.int .i64 x,.int .i64 y,.pointer (some ⟨Hb,0,none⟩)] m (fun r m'=>r=.bool (decide (hs.getD x.toNat 0>hs.getD y.toNat 0))∧m'=m):=by
 obtain ⟨a,rfl,hc⟩:=rd.ex (by omega)
 refine cf71 w0 m x y Hb _ ⟨_,_,_,cel hb rfl,⟨x0,x1⟩,?_⟩
 rw [nilO_some]
 refine ⟨_,cell_k hc x0 x1,_,_,_,cel hb rfl,⟨y0,y1⟩,?_⟩
 rw [nilO_some]
 exact ⟨_,cell_k hc y0 y1,rfl,retP_of ⟨rfl,rfl⟩⟩

theorem least_e (w0:World) (m:AM) {s Bs Hb:Nat} {zs:List Int} {fp:List Nat} (h:SetA m w0.heap.size s zs fp) {T:TypeId} (hbs:m Bs=some (.cells #[.pointer (some ⟨s,0,none⟩)] T (0,0))) (hlen:zs.length≤10000)
  {A:Option Addr} {c:Nat} {hs:List Int} (hb:m Hb=some (.cells #[.slice A hs.length c] 23 (0,0))) (rd:Reads m 1 A hs.length (intCells .i64 hs)) (hz:∀ x∈zs,0≤x∧x<hs.length) :
  CallsA Tryz.prog w0 70 #[.func (.func 81) #[] #[.pointer (some ⟨Bs,0,none⟩)],.func (.func 71) #[] #[.pointer (some ⟨Hb,0,none⟩)]] m
   (fun r m'=>r=.tuple #[.int .i64 (leastL (fun a b=>decide (hs.getD a.toNat 0>hs.getD b.toNat 0)) zs).1,.bool (leastL (fun a b=>decide (hs.getD a.toNat 0>hs.getD b.toNat 0)) zs).2]∧m'=m):=by
 intro W hW
 obtain ⟨sl,hS⟩:=setAt_of hW h hbs
 refine (callsIn_wide (n:=10)).1 ?_
 have hseq:=all1_stops (Subtype.val:{x // x∈zs}→Int) 9 Bs s sl zs.attach W (by rw [List.attach_map_subtype_val]; exact hS) (by simp; omega)
 rw [List.length_attach] at hseq
 refine (least_in _ _ enters86 Hb (fun a b=>decide (hs.getD a.toNat 0>hs.getD b.toNat 0)) zs W ?_ hseq).mono ?_
 ·intro x y W2 hx hy hB
  have h2:Holds W2 W2 m:=by
   have:=holds_below hW hB
   exact ⟨Below.refl _ _,this.has⟩
  refine (callsIn_wide (n:=7)).2 ((less_e W2 m hb rd (hz x hx).1 (hz x hx).2 (hz y hy).1 (hz y hy).2 W2 h2).mono ?_)
  rintro e W3 ⟨r,m3,rfl,hH,rfl,_⟩
  exact ⟨rfl,hH.below⟩
 ·rintro e W2 ⟨rfl,hB⟩
  exact ⟨_,m,rfl,holds_below hW hB,rfl,rfl⟩
end Go.Proofs.YtkfemiloehkmhaaGreat.S

set_option linter.unusedSimpArgs false
set_option linter.unusedVariables false
set_option maxRecDepth 100000
namespace Go.Proofs.YtkfemiloehkmhaaGreat.S
open Go Go.RowKit Go.Alog Go.Proofs.YtkfemiloehkmhaaGreat.T Go.Proofs.YtkfemiloehkmhaaGreat.V

structure OI (w0:World) (m:AM) (l:List Ins) (b6:Nat) (A1:Option Addr) (c3:Nat) (A11:Option Addr) (c13:Nat) (B:Option Addr) (c5:Nat) (out:List Int) (m':AM):Prop where
 le:m.le m'
 box:m' b6=some (.cells #[.slice A1 (heightsP l).length c3] 23 (0,0))
 hs:Alog.Own m' w0.heap.size 3 1 A1 (heightsP l).length c3 (intCells .i64 (heightsP l))
 at_:Alog.Own m' w0.heap.size 3 1 A11 l.length c13 (intCells .i64 (whRow out l.length))
 out:Alog.Own m' w0.heap.size 3 1 B out.length c5 (intCells .i64 out)
 nAt:∀ x∈obl A11,m x=none
 nB:∀ x∈obl B,m x=none
 d1:∀ x∈obl A11,x∉obl A1
 d2:∀ x∈obl B,x∉obl A1
 d3:∀ x∈obl B,x∉obl A11

theorem OI.mono {w0:World} {m:AM} {l:List Ins} {b6:Nat} {A1:Option Addr} {c3:Nat} {A11:Option Addr} {c13:Nat} {B:Option Addr} {c5:Nat} {out:List Int} {m' m'':AM} (h:OI w0 m l b6 A1 c3 A11 c13 B c5 out m') (L:m'.le m''):OI w0 m l b6 A1 c3 A11 c13 B c5 out m'' :=
 ⟨AM.le_trans h.le L,L _ _ h.box,h.hs.le L,h.at_.le L,h.out.le L,h.nAt,h.nB,h.d1,h.d2,h.d3⟩

theorem OI.app {w0:World} {m:AM} {l:List Ins} {b6:Nat} {A1:Option Addr} {c3:Nat} {A11:Option Addr} {c13:Nat} {B:Option Addr} {c5:Nat} {out:List Int} {m':AM} {x:Int}
  (hle:m.le m') (hbox:m' b6=some (.cells #[.slice A1 (heightsP l).length c3] 23 (0,0))) (hhs:Alog.Own m' w0.heap.size 3 1 A1 (heightsP l).length c3 (intCells .i64 (heightsP l))) (hat:Alog.Own m' w0.heap.size 3 1 A11 l.length c13 (intCells .i64 (whRow (out ++ [x]) l.length)))
  (hout:Alog.Own m' w0.heap.size 3 1 B out.length c5 (intCells .i64 out)) (nAt:∀ x∈obl A11,m x=none) (nB:∀ x∈obl B,m x=none) (d1:∀ x∈obl A11,x∉obl A1) (d2:∀ x∈obl B,x∉obl A1) (d3:∀ x∈obl B,x∉obl A11) (hl:out.length≤100000) {K:Option Addr→Nat→Nat→AM→Prop}
  (hK:∀ B' c' M,OI w0 m l b6 A1 c3 A11 c13 B' c' (out ++ [x]) M→K B' (out ++ [x]).length c' M) :
  ∀ b9:Nat,w0.heap.size≤b9→m' b9=none→let m10:=AM.upd m' b9 (.cells #[.int .i64 x] 3);
   awp Tryz.prog w0.heap.size (Builtin.append_ #[23,23] 23 #[.slice B out.length c5,.slice (some ⟨b9,0,none⟩) 1 1]) m10 fun v m11=>∃ (A:Option Addr) (n c:Nat),v=.slice A n c∧K A n c m11:=by
 intro b9 hb9 hn9 m10
 have lb:m'.le m10:=le_new hn9 _
 refine awp_append_own el30' (hout.le lb) (A2:=some ⟨b9,0,none⟩) (k:=1) (news:=[.int .i64 x]) (Reads.lit rfl) (by simp [Value.oneCell']) (by omega) (by omega) (fun g cp' cur hor hB hO=>?_) (fun h0=>by omega)
 have hne:∀ {C:Option Addr} {n c:Nat} {xs:List Value},Alog.Own m' w0.heap.size 3 1 C n c xs→(∀ x∈obl B,x∉obl C)→g∉obl C:=by
  intro C n c xs hC hd hg
  rcases hor with h' | h'
  ·exact hd g (by rw [h']; simp [obl]) hg
  ·obtain ⟨_,cur2,hc2⟩:=hC.obl_some hg
   rw [lb _ _ hc2] at h'; cases h'
 have kp:∀ {C:Option Addr} {n c:Nat} {xs:List Value},Alog.Own m' w0.heap.size 3 1 C n c xs→g∉obl C→Alog.Own (m10.upd g (.cells cur 3)) w0.heap.size 3 1 C n c xs:=by
  intro C n c xs hC hg
  exact (hC.le lb).upd fun off e=>hg (by
   obtain ⟨_,_,⟨e1,_⟩ | ⟨g',_,e1,_⟩⟩:=hC
   ·rw [e1] at e; cases e
   ·rw [e1] at e ⊢; injection e with e; injection e with e; subst e; simp [obl])
 have hmg:m g=none:=by
  rcases hor with h' | h'
  ·exact nB g (by rw [h']; simp [obl])
  ·cases hm:m g with
   | none=>rfl
   | some o=>rw [lb _ _ (hle _ _ hm)] at h'; cases h'
 have g1:=hne hhs d2
 have g2:=hne hat d3
 have elen:(out ++ [x]).length=out.length+1:=by simp
 rw [← elen] at hO ⊢
 refine ⟨_,_,_,rfl,hK _ _ _ ⟨le_upd_fresh (AM.le_trans hle lb) hmg,?_,kp hhs g1,kp hat g2,?_,nAt,by simpa [obl] using hmg,d1,by simpa [obl] using g1,by simpa [obl] using g2⟩⟩
 ·have e:b6≠g:=fun e=>by
   subst e
   rcases hor with h' | h'
   ·obtain ⟨_,cur2,hc2⟩:=hout.obl_some (k:=b6) (by rw [h']; simp [obl])
    rw [hbox] at hc2; injection hc2 with hc2; injection hc2 with _ e2; exact absurd e2 (by decide)
   ·rw [lb _ _ hbox] at h'; cases h'
  rw [upd_get_ne e]; exact lb _ _ hbox
 ·rw [show intCells .i64 (out ++ [x])=intCells .i64 out ++ [.int .i64 x] by simp [intCells]]; exact hO
end Go.Proofs.YtkfemiloehkmhaaGreat.S

set_option linter.unusedSimpArgs false
set_option linter.unusedVariables false
set_option maxRecDepth 100000
namespace Go.Proofs.YtkfemiloehkmhaaGreat.S
open Go Go.RowKit Go.Alog Go.Proofs.YtkfemiloehkmhaaGreat.T Go.Proofs.YtkfemiloehkmhaaGreat.V

theorem obl_disj {m:AM} {A:Option Addr} (h:∀ x∈obl A,m x=none) {C:Option Addr} {B:Nat} {e:TypeId} {sz n c:Nat} {xs:List Value} (hC:Alog.Own m B e sz C n c xs):∀ x∈obl A,x∉obl C:=fun x hx hc=>by
 obtain ⟨_,cur,h2⟩:=hC.obl_some hc
 rw [h x hx] at h2; cases h2

theorem addS_new {zs:List Int} {x:Int} (h:x∉zs):addS zs x=zs ++ [x]:=by unfold addS; rw [if_neg (by simpa using h)]

theorem order_spec (w0:World) (m:AM) (A:Option Addr) (c:Nat) (l:List Ins) (hl:l.length≤5000) (rd:Reads m 5 A l.length (insCells l)) :
  CallsA Tryz.prog w0 45 #[.slice A l.length c] m (oI w0 m (ordP l)):=by
 generalize hR:oI w0 m (ordP l)=R
 have hlen:=heightsP_len l
 refine cf45 w0 m A l.length c R ?_
 refine CallsA.mono (heights_spec w0 m A c l (by omega) rd) ?_
 rintro r m5 ⟨⟨A1,c3,rfl,o1,n1⟩,l5⟩
 refine ⟨_,_,_,rfl,fun b6 hb6 hn6=>?_⟩
 have l7:=le_new hn6 (.cells #[.slice none 0 0] 23)
 refine StC_upd.2 ⟨hb6,by simp,rfl,?_⟩
 have p8:(m5.upd b6 (.cells (#[Value.slice none 0 0].setIfInBounds 0 (.slice A1 (heightsP l).length c3)) 23)) b6=some (.cells #[.slice A1 (heightsP l).length c3] 23 (0,0)):=by rw [upd_get_same]; rfl
 have l8:m5.le (m5.upd b6 (.cells (#[Value.slice none 0 0].setIfInBounds 0 (.slice A1 (heightsP l).length c3)) 23)):=le_new hn6 _
 generalize m5.upd b6 (.cells (#[Value.slice none 0 0].setIfInBounds 0 (.slice A1 (heightsP l).length c3)) 23)=m8 at p8 l8 ⊢
 intro b9 hb9 hn9
 have l10:=le_new hn9 (.cells #[.int .i64 (-1)] 3)
 refine repeat_spec w0 _ (by omega) (b:=b9) (Reads.lit rfl) (R:=fun r14 m15=>_) fun A11 c13 m15 l15 n11 o11=>⟨_,_,_,rfl,?_⟩
 have L15:m.le m15:=AM.le_trans l5 (AM.le_trans l8 (AM.le_trans l10 l15))
 have lm10:=AM.le_trans l5 (AM.le_trans l8 l10)
 have nA11:∀ x∈obl A11,m x=none:=fun x hx=>by
  cases hm:m x with
  | none=>rfl
  | some o=>have:=n11 x hx; rw [lm10 _ _ hm] at this; cases this
 have start:OI w0 m l b6 A1 c3 A11 c13 none 0 [] m15:=by
  refine ⟨L15,l15 _ _ (l10 _ _ p8),(o1.le l8).le (AM.le_trans l10 l15),?_,Alog.Own.nil _ _ _ _,nA11,by simp [obl],obl_disj n11 ((o1.le l8).le l10),by simp [obl],by simp [obl]⟩
  rw [whRow_0]; exact o11
 refine vl45_1111010 w0 m15 _ _ A l.length c b6 A11 l.length c13 none 0 0 l.length
  (fun q B n5 c5 left m'=>∃ out,OI w0 m l b6 A1 c3 A11 c13 B c5 out m'∧n5=out.length∧left=(leftP l out:Int)∧muP l out≤q∧q+out.length=2*l.length+1∧ordF l q out=ordP l)
  (fun B n5 c5 m'=>∃ out,OI w0 m l b6 A1 c3 A11 c13 B c5 out m'∧n5=out.length∧out=ordP l) (2*l.length+1) rfl rfl rfl rfl rfl
  ⟨[],start,rfl,by unfold leftP; rw [covN_nil]; omega,mu_0 l,rfl,rfl⟩ ?_ ?_
 ·rintro q σ B n5 c5 left m' ⟨out,hi,rfl,rfl,hmu,hq,hF⟩
  refine ⟨rfl,bcP (fun hpos=>?_) (fun hpos=>?_)⟩
  ·intro b16 hb16 hn16
   have hleft:leftP l out≠0:=by omega
   have hmp:=mu_pos hleft
   have hst:=mu_step hleft
   have hFs:=ordF_step hleft hmu
   have l17:=le_new hn16 (.cells #[.map none,.slice none 0 0] 91)
   have p17:(AM.upd m' b16 (.cells #[.map none,.slice none 0 0] 91)) b16=some (.cells #[.map none,.slice none 0 0] 91 (0,0)):=upd_get_same
   generalize AM.upd m' b16 (.cells #[.map none,.slice none 0 0] 91)=m17 at l17 p17 ⊢
   have h6_16:b6≠b16:=fun e=>by rw [← e,hi.box] at hn16; cases hn16
   have s0:HI m' w0.heap.size b6 (.cells #[.slice A1 (heightsP l).length c3] 23 (0,0)) b16 [] m17 :=
    ⟨[b16],l17,l17 _ _ hi.box,by simpa using h6_16,by simpa using hn16,none,none,0,p17,hb16,Alog.Own.nil _ _ _ _,.inl ⟨rfl,rfl⟩,by simp [obl]⟩
   refine vl45_11110100101010 w0 m17 _ _ q _ _ A l.length c b6 A11 l.length c13 B out.length c5 (leftP l out) b16 l.length 0
    (fun q1 k m2=>HI m' w0.heap.size b6 (.cells #[.slice A1 (heightsP l).length c3] 23 (0,0)) b16 (rdyL l out k.toNat) m2∧0≤k∧k≤l.length∧(q1:Int)=l.length-k)
    (fun m2=>HI m' w0.heap.size b6 (.cells #[.slice A1 (heightsP l).length c3] 23 (0,0)) b16 (rdyL l out l.length) m2) l.length rfl rfl rfl rfl rfl rfl rfl rfl ⟨s0,by omega,by omega,by omega⟩ ?_ ?_
   ·rintro q1 σ k m2 ⟨h2,k0,k1,hq1⟩
    refine ⟨rfl,bcP (fun hlt=>?_) (fun hlt=>by (repeat (refine And.intro (Eq.refl _) ?_)); rwa [show k.toNat=l.length by omega] at h2)⟩
    have le2:m'.le m2:=by obtain ⟨fp,h,_⟩:=h2; exact h
    have hi2:=hi.mono le2
    have wk:IntKind.wrap .i64 (k+1)=k+1:=wrap_s (by omega) (by omega)
    have hrs:=rdyL_succ l out k.toNat
    have hrl:=rdyL_len l out k.toNat
    have ek:(k+1).toNat=k.toNat+1:=by omega
    refine callB (ready_e w0 m2 A c l (by omega) (rd.le hi2.le) A11 c13 (whRow out l.length) out (whRow_len _ _) (fun i h=>whRow_at h) (by omega) hi2.at_.reads k k0 hlt) ?_
    rw [wk]
    cases hr:readyP l out k.toNat with
    | true =>
     rw [hr,if_pos rfl] at hrs
     have hnew:k∉rdyL l out k.toNat:=fun h=>by have:=(rdyL_mem.1 h).2.1; omega
     refine bcT (CallsA.mono (h2.add (by omega) k hi2.box (fun fp hfp=>hfp.ne_ins hi2.box (by decide) (by decide))) ?_)
     rintro r m3 ⟨t,rfl,h3,_⟩
     rw [addL_eq,addS_new hnew] at h3
     refine ⟨_,rfl,?_⟩
     (repeat (refine And.intro (Eq.refl _) ?_))
     refine ⟨q1-1,by omega,?_,by omega,by omega,by omega⟩
     rw [ek,hrs,show ((k.toNat:Nat):Int)=k by omega]; exact h3
    | false =>
     rw [hr,if_neg (by simp),List.append_nil] at hrs
     refine bcF ?_
     (repeat (refine And.intro (Eq.refl _) ?_))
     refine ⟨q1-1,by omega,?_,by omega,by omega,by omega⟩
     rw [ek,hrs]; exact h2
   ·rintro σ m2 h2
    obtain ⟨fp,le2,hbx,_,_,hset⟩:=h2
    have hi2:=hi.mono le2
    refine all_spec w0 m2 b16 (R:=fun r25 m26=>_) fun bs M3 l3 nbs hbs pbs=>⟨_,rfl,?_⟩
    have hi3:=hi2.mono l3
    have hll:=rdyL_len l out l.length
    refine CallsA.mono (least_e w0 M3 (hset.le l3) pbs (by omega) hi3.box hi3.hs.reads (fun x hx=>by have:=rdyL_mem.1 hx; rw [hlen]; exact ⟨this.1,this.2.1⟩)) ?_
    rintro r M4 ⟨rfl,h4⟩
    replace h4:=h4.symm; subst h4
    have hlt:(fun a b:Int=>decide ((heightsP l).getD a.toNat 0>(heightsP l).getD b.toNat 0))=ltH l:=rfl
    rw [hlt]
    refine ⟨_,_,rfl,?_⟩
    by_cases hr:rdyL l out l.length = []
    ·have hf:(leastL (ltH l) (rdyL l out l.length)).2=false:=by rw [hr]; rfl
     rw [hf]
     have hnx:=nextO_none hr
     rw [hnx] at hst hFs
     refine bcT ⟨rfl,?_⟩
     refine OI.app (K:=fun A n c m11=>_) hi3.le hi3.box hi3.hs (by rw [whRow_neg]; exact hi3.at_) hi3.out hi3.nAt hi3.nB hi3.d1 hi3.d2 hi3.d3 (by omega) ?_
     intro B' c' M5 h5
     (repeat (refine And.intro (Eq.refl _) ?_))
     exact ⟨q-1,by omega,out ++ [-1],h5,rfl,by rw [left_none],by omega,by simp; omega,by rw [← hFs]; exact hF⟩
    ·have hf:(leastL (ltH l) (rdyL l out l.length)).2=true:=(leastL_found _ _).2 hr
     obtain ⟨hnx,hnm⟩:=nextO_some hr
     rw [hf,← hnx]
     generalize nextO l out=x at hst hFs hnm
     obtain ⟨x0,x1,xo⟩:=ready_new hnm
     have hls:=left_some hnm
     refine bcF ⟨⟨x0,x1⟩,?_⟩
     obtain ⟨a11,rfl,_⟩:=hi3.at_.ex (by omega)
     rw [nilO_some]
     have hat3:Alog.Own M3 w0.heap.size 3 1 (some a11) (whRow out l.length).length c13 (intCells .i64 (whRow out l.length)):=by rw [whRow_len]; exact hi3.at_
     refine own_set hat3 (k:=x.toNat) (by rw [whRow_len]; omega) _ fun M5 o5 f5=>?_
     rw [← whRow_new x0 xo,whRow_len] at o5
     have K5:∀ {C:Option Addr} {n c:Nat} {e:TypeId} {sz:Nat} {xs:List Value},Alog.Own M3 w0.heap.size e sz C n c xs→(∀ y∈obl (some a11),y∉obl C)→Alog.Own M5 w0.heap.size e sz C n c xs:=fun hC hd=>hC.fr f5 (fun y hy h=>hd y h hy)
     have lm5:m.le M5:=fun y o hy=>f5 y o (hi3.le y o hy) fun h=>by rw [hi3.nAt y h] at hy; cases hy
     have bx5:M5 b6=some (.cells #[.slice A1 (heightsP l).length c3] 23 (0,0)):=f5 _ _ hi3.box fun h=>by
      obtain ⟨_,cur,hc⟩:=hi3.at_.obl_some h
      rw [hi3.box] at hc; injection hc with hc; injection hc with _ e; exact absurd e (by decide)
     refine ⟨rfl,?_⟩
     refine OI.app (K:=fun A n c m11=>_) lm5 bx5 (K5 hi3.hs hi3.d1) o5 (K5 hi3.out (fun y hy hb=>hi3.d3 y hb hy)) hi3.nAt hi3.nB hi3.d1 hi3.d2 hi3.d3 (by omega) ?_
     intro B' c' M6 h6
     (repeat (refine And.intro (Eq.refl _) ?_))
     refine ⟨q-1,by omega,out ++ [x],h6,rfl,?_,by omega,by simp; omega,by rw [← hFs]; exact hF⟩
     have hlb:leftP l out≤l.length:=by unfold leftP; omega
     rw [wrap_s (i:=(leftP l out:Int)-1) (by omega) (by omega)]; omega
  ·(repeat (refine And.intro (Eq.refl _) ?_))
   have h0:leftP l out=0:=by omega
   rw [ordF_end h0] at hF
   exact ⟨out,hi,rfl,hF⟩
 ·rintro σ B n5 c5 m' ⟨out,hi,rfl,rfl⟩
  rw [← hR]
  exact retP_of ⟨⟨B,c5,rfl,hi.out,hi.nB⟩,hi.le⟩
end Go.Proofs.YtkfemiloehkmhaaGreat.S

set_option linter.unusedSimpArgs false
set_option linter.unusedVariables false
set_option maxRecDepth 100000
namespace Go.Proofs.YtkfemiloehkmhaaGreat.S
open Go Go.RowKit Go.Alog

theorem ordF_ind {l:List Ins} (Q:List Int→Prop) (step:∀ out,leftP l out≠0→Q out→Q (out ++ [nextO l out])):∀ (q:Nat) (out:List Int),Q out→Q (ordF l q out)
 | 0,out,h=>h
 | q+1,out,h=>by
  show Q (if leftP l out=0 then out else ordF l q (out ++ [nextO l out]))
  split
  ·exact h
  ·rename_i hl
   exact ordF_ind Q step q _ (step out hl h)
theorem ordP_ind {l:List Ins} (Q:List Int→Prop) (h0:Q []) (step:∀ out,leftP l out≠0→Q out→Q (out ++ [nextO l out])):Q (ordP l):=ordF_ind Q step _ _ h0
theorem ordF_left {l:List Ins}:∀ (q:Nat) (out:List Int),muP l out≤q→leftP l (ordF l q out)=0
 | 0,out,h=>by
  by_cases hl:leftP l out=0
  ·exact hl
  ·have:=mu_pos hl; omega
 | q+1,out,h=>by
  show leftP l (if leftP l out=0 then out else ordF l q (out ++ [nextO l out]))=0
  split
  ·assumption
  ·rename_i hl
   have:=mu_step hl
   exact ordF_left q _ (by omega)
theorem ordP_left (l:List Ins):leftP l (ordP l)=0:=ordF_left _ _ (mu_0 l)
theorem ordP_all (l:List Ins) {q:Nat} (h:q<l.length):(q:Int)∈ordP l:=by
 have:=ordP_left l
 unfold leftP at this
 have h2:=covN_le l.length (ordP l)
 exact covN_all.1 (by omega) q h
theorem next_cases (l:List Ins) (out:List Int):(rdyL l out l.length = []∧nextO l out = -1)∨(rdyL l out l.length≠[]∧nextO l out∈rdyL l out l.length):=by
 by_cases hr:rdyL l out l.length = []
 ·exact .inl ⟨hr,nextO_none hr⟩
 ·exact .inr ⟨hr,(nextO_some hr).2⟩
theorem ordP_in (l:List Ins):∀ x∈ordP l,x = -1∨(0≤x∧x<l.length):=by
 refine ordP_ind (fun out=>∀ x∈out,x = -1∨(0≤x∧x<l.length)) (by simp) fun out hl h x hx=>?_
 rw [List.mem_append,List.mem_singleton] at hx
 rcases hx with hx | rfl
 ·exact h x hx
 ·rcases next_cases l out with ⟨_,e⟩ | ⟨_,hm⟩
  ·exact .inl e
  ·have:=rdyL_mem.1 hm; exact .inr ⟨this.1,this.2.1⟩
theorem ordP_last (l:List Ins) {y:Int} (hy:(ordP l).getLast?=some y):0≤y:=by
 have key:leftP l (ordP l)=0→∀ y,(ordP l).getLast?=some y→0≤y:=by
  refine ordP_ind (fun out=>leftP l out=0→∀ y,out.getLast?=some y→0≤y) (by simp) fun out hl h h0 y hy=>?_
  rw [List.getLast?_append] at hy
  simp at hy
  subst hy
  rcases next_cases l out with ⟨_,e⟩ | ⟨_,hm⟩
  ·rw [e,left_none] at h0; exact absurd h0 hl
  ·exact (rdyL_mem.1 hm).1
 exact key (ordP_left l) y hy
theorem rdy_nil {l:List Ins} {out:List Int} (h:leftP l out=0):rdyL l out l.length = []:=by
 cases hr:rdyL l out l.length with
 | nil=>rfl
 | cons x r =>
  have hm:x∈rdyL l out l.length:=by rw [hr]; simp
  have:=left_some hm
  omega
theorem ordP_len (l:List Ins):(ordP l).length≤2*l.length:=by
 have key:(ordP l).length+muP l (ordP l)≤2*l.length+1:=by
  refine ordP_ind (fun out=>out.length+muP l out≤2*l.length+1) (by have:=mu_0 l; simpa using this) fun out hl h=>?_
  have:=mu_step hl
  simp only [List.length_append,List.length_singleton]
  omega
 have:1≤muP l (ordP l):=by
  unfold muP
  rw [if_pos (rdy_nil (ordP_left l))]; omega
 omega
theorem ordP_ne {l:List Ins} (h:l≠[]):ordP l≠[]:=fun e=>by
 have:(0:Nat)<l.length:=by cases l with
  | nil=>exact absurd rfl h
  | cons=>simp
 have:=ordP_all l this
 rw [e] at this; cases this
end Go.Proofs.YtkfemiloehkmhaaGreat.S

set_option linter.unusedSimpArgs false
set_option linter.unusedVariables false
set_option maxRecDepth 100000
namespace Go.Proofs.YtkfemiloehkmhaaGreat.S
open Go Go.RowKit Go.Alog Go.Proofs.YtkfemiloehkmhaaGreat.T Go.Proofs.YtkfemiloehkmhaaGreat.V

theorem snocI {w0:World} {m0 m:AM} {A:Option Addr} {c:Nat} {l:List Int} (lm:m0.le m) (o:Alog.Own m w0.heap.size 3 1 A l.length c (intCells .i64 l)) (nA:∀ k∈obl A,m0 k=none) (hl:l.length≤1000000) (x:Int) {K:Option Addr→Nat→Nat→AM→Prop}
  (hK:∀ A' c' m',m0.le m'→Alog.Own m' w0.heap.size 3 1 A' (l ++ [x]).length c' (intCells .i64 (l ++ [x]))→(∀ k∈obl A',m0 k=none)→K A' (l ++ [x]).length c' m') :
  ∀ b11:Nat,w0.heap.size≤b11→m b11=none→let m12:=AM.upd m b11 (.cells #[.int .i64 x] 3);
   awp Tryz.prog w0.heap.size (Builtin.append_ #[23,23] 23 #[.slice A l.length c,.slice (some ⟨b11,0,none⟩) 1 1]) m12 fun v13 m14 =>
   ∃ (A15:Option Addr) (n16 c17:Nat),v13=.slice A15 n16 c17∧K A15 n16 c17 m14:=by
 intro b11 hb11 hn11
 refine awp_append_loc (m0:=m0) el30' (AM.le_trans lm (le_new hn11 _)) (o.upd (o.ne_none hn11)) nA (A2:=some ⟨b11,0,none⟩) (k:=1) (news:=[.int .i64 x]) (Reads.lit rfl) (by simp [Value.oneCell']) (by omega) (by omega) (fun A2' c2' m28 l28 f28 o28 n28 _=>?_)
 have e2:(l ++ [x]).length=l.length+1:=by simp
 rw [← e2] at o28 ⊢
 refine ⟨A2',_,c2',rfl,hK A2' c2' m28 l28 ?_ n28⟩
 rw [show intCells .i64 (l ++ [x])=intCells .i64 l ++ [.int .i64 x] by simp [intCells]]; exact o28

end Go.Proofs.YtkfemiloehkmhaaGreat.S

