/- YtkfemiloehkmhaaGreat: a text of our own, by an AI agent: LyBY -/
import Derived.Test.YtkfemiloehkmhaaGreatOdBY
import Derived.Test.YtkfemiloehkmhaaGreatOrBY
set_option linter.unusedSimpArgs false
set_option linter.unusedVariables false
set_option maxRecDepth 100000
namespace Go.Proofs.YtkfemiloehkmhaaGreat.S
open Go Go.RowKit Go.Alog Go.Proofs.YtkfemiloehkmhaaGreat.T Go.Proofs.YtkfemiloehkmhaaGreat.V

def lastI (l:List Ins):Ins:=cAt l ((l.length:Int)-1)
def padL (l:List Ins) (o:List Int) (last:Ins):List Int:=if clearP l o last o.length=true then o else o ++ [-1]
def slotOk (l:List Ins) (o:List Int) (last:Ins):Bool:=!lateP (cAt l (o.getD (o.length-1) 0)) && (farP (cAt l (o.getD (o.length-1) 0)) last == 0) && clearP l (o.take (o.length-1)) last ((o.length:Int)-1)
def layP (l:List Ins):List Int :=
 if l = [] then [] else
 if goesP (lastI l)=false then (if lateP (cAt l ((ordP l).getD ((ordP l).length-1) 0))=true then ordP l ++ [-1] else ordP l)
 else if ordP (l.take (l.length-1))≠[]∧slotOk l (ordP (l.take (l.length-1))) (lastI l)=true
  then (ordP (l.take (l.length-1))).take ((ordP (l.take (l.length-1))).length-1) ++ [(l.length:Int)-1,(ordP (l.take (l.length-1))).getD ((ordP (l.take (l.length-1))).length-1) 0]
  else padL l (ordP (l.take (l.length-1))) (lastI l) ++ [(l.length:Int)-1,-1]

theorem pad_clear (l:List Ins) (o:List Int) (last:Ins):clearP l (o ++ [-1]) last ((o ++ [(-1:Int)]).length:Int)=true:=by
 have hlen:(o ++ [(-1:Int)]).length=o.length+1:=by simp
 refine clearP_t fun k hk=>?_
 rw [hlen] at hk ⊢
 unfold czA
 by_cases e:k=o.length
 ·subst e
  have:(o ++ [(-1:Int)]).getD o.length 0 = -1:=by simp [List.getD_eq_getElem?_getD]
  rw [this]; rfl
 ·have hf:=farP_in (cAt l ((o ++ [(-1:Int)]).getD k 0)) last
  rw [Bool.and_eq_false_iff]
  right
  exact decide_eq_false (by omega)

theorem ord_lt {l:List Ins} {o:List Int} {n:Nat} (h:∀ x∈o,x = -1∨(0≤x∧x<n)) (hn:n≤l.length) (hl:0<l.length):∀ k:Nat,k<o.length→o.getD k 0<l.length:=fun k hk=>by
 have:=h (o.getD k 0) (by simp [List.getD,hk])
 omega

theorem snoc2I {w0:World} {m0 m:AM} {A:Option Addr} {c:Nat} {l:List Int} (lm:m0.le m) (o:Alog.Own m w0.heap.size 3 1 A l.length c (intCells .i64 l)) (nA:∀ k∈obl A,m0 k=none) (hl:l.length≤1000000) (x y:Int) {b11:Nat} {A2:Option Addr} (hr:Reads m 1 A2 2 [.int .i64 x,.int .i64 y]) {K:Value→AM→Prop} {c2:Nat}
  (hK:∀ A' c' m',m0.le m'→Alog.Own m' w0.heap.size 3 1 A' (l ++ [x,y]).length c' (intCells .i64 (l ++ [x,y]))→(∀ k∈obl A',m0 k=none)→K (.slice A' (l ++ [x,y]).length c') m') :
  awp Tryz.prog w0.heap.size (Builtin.append_ #[23,23] 23 #[.slice A l.length c,.slice A2 2 c2]) m K:=by
 refine awp_append_loc (m0:=m0) el30' lm o nA (k:=2) (news:=[.int .i64 x,.int .i64 y]) hr (by simp [Value.oneCell']) (by omega) (by omega) (fun A2' c2' m28 l28 f28 o28 n28 _=>?_)
 have e2:(l ++ [x,y]).length=l.length+2:=by simp
 rw [← e2] at o28 ⊢
 refine hK A2' c2' m28 l28 ?_ n28
 rw [show intCells .i64 (l ++ [x,y])=intCells .i64 l ++ [.int .i64 x,.int .i64 y] by simp [intCells]]; exact o28

theorem layTail (w0:World) (m0 m:AM) (σ:Sg) {R:Value→AM→Prop} {A:Option Addr} {c:Nat} {l:List Ins} (hl:l.length≤100000) (hpos:0<l.length) (rd:Reads m0 5 A l.length (insCells l)) {b7:Nat} {last:Ins} (pb:m0 b7=some (.cells last.cells.toArray 36 (0,0)))
  {A7:Option Addr} {c7:Nat} {o:List Int} (ho:∀ x∈o,x = -1∨(0≤x∧x<l.length)) (hol:o.length≤100000) (L:m0.le m) (oo:Alog.Own m w0.heap.size 3 1 A7 o.length c7 (intCells .i64 o)) (no:∀ k∈obl A7,m0 k=none)
  (hR:∀ A' c' m',m0.le m'→Alog.Own m' w0.heap.size 3 1 A' (padL l o last ++ [(l.length:Int)-1,-1]).length c' (intCells .i64 (padL l o last ++ [(l.length:Int)-1,-1]))→(∀ k∈obl A',m0 k=none)→RetP R (.slice A' (padL l o last ++ [(l.length:Int)-1,-1]).length c') m')
  (h0:σ 0=.slice A l.length c) (h3:σ 3=.int .i64 ((l.length:Int)-1)) (h4:σ 4=.pointer (some ⟨b7,0,none⟩)) (h7:σ 7=.slice A7 o.length c7):(vcS Tryz.prog w0 qs27 (sub c27 [1,1,1,1,1,1,1,0,0]) σ m (blockS 0 (thenS (fun σ m=>vcS Tryz.prog w0 qs27 (sub c27 [1,1,1,1,1,1,1,1]) σ m (retQ Tryz.prog Tryz.f27 R)) (retQ Tryz.prog Tryz.f27 R)))):=by
 refine vl27_111111100 w0 m _ _ A l.length c ((l.length:Int)-1) b7 A7 o.length c7
  (fun q B n5 c5 m'=>∃ o',(o'=o∧q=1∨(o'=o ++ [-1]∧clearP l o last o.length=false))∧m0.le m'∧Alog.Own m' w0.heap.size 3 1 B o'.length c5 (intCells .i64 o')∧(∀ k∈obl B,m0 k=none)∧n5=o'.length)
  (fun B n5 c5 m'=>m0.le m'∧Alog.Own m' w0.heap.size 3 1 B (padL l o last).length c5 (intCells .i64 (padL l o last))∧(∀ k∈obl B,m0 k=none)∧n5=(padL l o last).length) 1 h0 h3 h4 h7 ⟨o,.inl ⟨rfl,rfl⟩,L,oo,no,rfl⟩ ?_ ?_
 ·rintro q σ B n5 c5 m' ⟨o',hq,l',oo',no',rfl⟩
  have rd':=rd.le l'
  have pb':=l' _ _ pb
  have ho':∀ x∈o',x = -1∨(0≤x∧x<l.length):=by
   rcases hq with ⟨rfl,_⟩ | ⟨rfl,_⟩
   ·exact ho
   ·intro x hx
    rw [List.mem_append,List.mem_singleton] at hx
    rcases hx with hx | rfl
    ·exact ho x hx
    ·exact .inl rfl
  have hol':o'.length≤100001:=by
   rcases hq with ⟨rfl,_⟩ | ⟨rfl,_⟩
   ·omega
   ·rw [List.length_append,List.length_singleton]; omega
  refine ldIns pb' (callB (clear_e w0 m' A c l (by omega) rd' B o'.length c5 o' rfl (by omega) (ord_lt ho' (Nat.le_refl _) hpos) oo'.reads last o'.length) ?_)
  cases hc:clearP l o' last o'.length with
  | true =>
   refine bcF ?_
   (repeat (refine And.intro (Eq.refl _) ?_))
   have e:o'=padL l o last:=by
    rcases hq with ⟨rfl,_⟩ | ⟨rfl,h2⟩
    ·unfold padL; rw [if_pos hc]
    ·unfold padL; rw [if_neg (by rw [h2]; simp)]
   rw [← e]
   exact ⟨l',oo',no',rfl⟩
  | false =>
   rcases hq with ⟨rfl,rfl⟩ | ⟨rfl,h2⟩
   ·refine bcT ⟨rfl,?_⟩
    refine snocI l' oo' no' (by omega) (-1) (K:=fun A n c m11=>_) ?_
    intro B' c' M6 l6 o6 n6
    (repeat (refine And.intro (Eq.refl _) ?_))
    exact ⟨0,by omega,o' ++ [-1],.inr ⟨rfl,hc⟩,l6,o6,n6,rfl⟩
   ·rw [pad_clear] at hc; cases hc
 ·rintro σ B n5 c5 m' ⟨l',oo',no',rfl⟩
  refine ⟨rfl,fun b hb hn=>?_⟩
  have hpl:(padL l o last).length≤100001:=by
   unfold padL
   split
   ·omega
   ·rw [List.length_append,List.length_singleton]; omega
  refine snoc2I (b11:=b) (AM.le_trans l' (le_new hn _)) (oo'.upd (oo'.ne_none hn)) no' (by omega) ((l.length:Int)-1) (-1) (Reads.lit rfl) ?_
  intro A' c' M l6 o6 n6
  exact ⟨_,_,_,rfl,hR A' c' M l6 o6 n6⟩
end Go.Proofs.YtkfemiloehkmhaaGreat.S

set_option linter.unusedSimpArgs false
set_option linter.unusedVariables false
set_option maxRecDepth 100000
namespace Go.Proofs.YtkfemiloehkmhaaGreat.S
open Go Go.RowKit Go.Alog Go.Proofs.YtkfemiloehkmhaaGreat.T Go.Proofs.YtkfemiloehkmhaaGreat.V

theorem clone_spec (w0:World) (m:AM) (A:Option Addr) (c:Nat) (l:List Int) (hl:l.length≤1000000) (rd:Reads m 1 A l.length (intCells .i64 l)) :
  CallsA Tryz.prog w0 19 #[.slice A l.length c] m (oI w0 m l):=by
 refine cf19 w0 m A l.length c _ ?_
 cases A with
 | none =>
  have:l = []:=by
   obtain ⟨_,⟨_,h⟩ | ⟨ad,h,_⟩⟩:=rd
   ·exact List.eq_nil_of_length_eq_zero h
   ·cases h
  subst this
  exact bcT (retP_of ⟨⟨none,0,rfl,Alog.Own.nil _ _ _ _,by simp [obl]⟩,AM.le_refl _⟩)
 | some a =>
  refine bcF ⟨rfl,fun b hb hn=>?_⟩
  have ow1:Alog.Own (m.upd b (.cells #[] 3)) w0.heap.size 3 1 (some ⟨b,0,none⟩) 0 0 []:=Alog.Own.new m hb 3 1 0 [] (by simp)
  refine awp_append_loc (m0:=m) el30' (le_new hn _) ow1 (fun k hk=>by simp [obl] at hk; subst hk; exact hn) (rd.le (le_new hn _)) (by intro u hu; obtain ⟨x,_,rfl⟩:=List.mem_map.1 hu; rfl) (by omega) (by omega) (fun A' c' m23 l23 f23 o23 n23 _=>?_)
  rw [List.nil_append,Nat.zero_add] at o23
  rw [Nat.zero_add]
  exact ⟨_,_,_,rfl,retP_of ⟨⟨A',c',rfl,o23,n23⟩,l23⟩⟩
end Go.Proofs.YtkfemiloehkmhaaGreat.S

set_option linter.unusedSimpArgs false
set_option linter.unusedVariables false
set_option maxRecDepth 100000
namespace Go.Proofs.YtkfemiloehkmhaaGreat.S
open Go Go.RowKit Go.Alog Go.Proofs.YtkfemiloehkmhaaGreat.T Go.Proofs.YtkfemiloehkmhaaGreat.V

theorem intCells_take (l:List Int) (k:Nat):(intCells .i64 l).take k=intCells .i64 (l.take k):=by simp [intCells,List.map_take]
theorem reads_intPre {m:AM} {A:Option Addr} {c:Nat} {o:List Int} (r:Reads m 1 A o.length (intCells .i64 o)) (k:Nat) (hk:k≤o.length) (hc:o.length≤c) :
  Reads m 1 (if c=0 then A else Option.map (fun x=>Addr.add x (0*1)) A) (k-0) (intCells .i64 (o.take k)):=by
 have:=r.slice 0 k (by omega) hk hc
 rwa [Nat.zero_mul,List.drop_zero,Nat.sub_zero,Nat.mul_one,intCells_take] at this

theorem laySlot (w0:World) (m0 m:AM) (σ:Sg) {R:Value→AM→Prop} {A7:Option Addr} {c7:Nat} {o:List Int} (hpos:0<o.length) (hol:o.length≤100000) (L:m0.le m) (oo:Alog.Own m w0.heap.size 3 1 A7 o.length c7 (intCells .i64 o)) (e:Int)
  (hR:∀ A' c' m',m0.le m'→Alog.Own m' w0.heap.size 3 1 A' (o.take (o.length-1) ++ [e,o.getD (o.length-1) 0]).length c' (intCells .i64 (o.take (o.length-1) ++ [e,o.getD (o.length-1) 0]))→(∀ k∈obl A',m0 k=none)→RetP R (.slice A' (o.take (o.length-1) ++ [e,o.getD (o.length-1) 0]).length c') m')
  (h3:σ 3=.int .i64 e) (h7:σ 7=.slice A7 o.length c7) (h8:σ 8=.int .i64 ((o.length:Int)-1)):(vcS Tryz.prog w0 qs27 (sub c27 [1,1,1,1,1,1,0,1,1,0,1,1,0,0]) σ m (thenS (fun σ m=>vcS Tryz.prog w0 qs27 (sub c27 [1,1,1,1,1,1,0,1,1,0,1,1,0,1]) σ m (thenS (fun σ m=>vcS Tryz.prog w0 qs27 (sub c27 [1,1,1,1,1,1,1]) σ m (retQ Tryz.prog Tryz.f27 R)) (retQ Tryz.prog Tryz.f27 R))) (thenS (fun σ m=>vcS Tryz.prog w0 qs27 (sub c27 [1,1,1,1,1,1,1]) σ m (retQ Tryz.prog Tryz.f27 R)) (retQ Tryz.prog Tryz.f27 R)))):=by
 have ek:((o.length:Int)-1).toNat=o.length-1:=by omega
 have hcap:=oo.2.1
 refine vr27_11111101101100 w0 m σ R e A7 o.length c7 ((o.length:Int)-1) (fun A n c m'=>n=(o.take (o.length-1) ++ [e,o.getD (o.length-1) 0]).length∧m0.le m'∧Alog.Own m' w0.heap.size 3 1 A n c (intCells .i64 (o.take (o.length-1) ++ [e,o.getD (o.length-1) 0]))∧∀ k∈obl A,m0 k=none) h3 h7 h8 ?_ ?_
 ·obtain ⟨a,rfl,hc⟩:=oo.ex hpos
  rw [nilO_some]
  have hx:=cell_k hc (i:=(o.length:Int)-1) (by omega) (by omega)
  rw [ek] at hx ⊢
  have etk:(o.take (o.length-1)).length=o.length-1-0:=by rw [List.length_take]; omega
  have pre:∀ M:AM,m.le M→CallsA Tryz.prog w0 19 #[.slice (if c7=0 then some a else Option.map (fun x=>Addr.add x (0*1)) (some a)) (o.length-1-0) (c7-0)] M (oI w0 M (o.take (o.length-1))):=by
   intro M lM
   have rd:=reads_intPre (oo.le lM).reads (o.length-1) (by omega) hcap
   have:=clone_spec w0 M (if c7=0 then some a else Option.map (fun x=>Addr.add x (0*1)) (some a)) (c7-0) (o.take (o.length-1)) (by omega) (by rw [etk]; exact rd)
   rwa [etk] at this
  have fr:∀ {M:AM} {A':Option Addr},m.le M→(∀ k∈obl A',M k=none)→∀ k∈obl A',m0 k=none:=fun {M A'} lM h k hk=>by
   cases hm:m0 k with
   | none=>rfl
   | some o'=>have:=h k hk; rw [lM _ _ (L _ _ hm)] at this; cases this
  generalize hx2:o.getD (o.length-1) 0=x at hx ⊢
  refine ⟨by omega,by omega,by omega,⟨by omega,by omega⟩,?_,_,hx,?_,?_⟩
  ·refine CallsA.mono (pre m (AM.le_refl _)) ?_
   rintro r m1 ⟨⟨A',c',rfl,o',n'⟩,l'⟩
   refine ⟨_,_,_,rfl,_,AM.le_cell l' hx,rfl,fun b hb hn=>?_⟩
   refine snoc2I (b11:=b) (m0:=m0) (AM.le_trans (AM.le_trans L l') (le_new hn _)) (o'.upd (o'.ne_none hn)) (fr (AM.le_refl _) n') (by omega) e x (Reads.lit rfl) ?_
   intro A2 c2 M l6 o6 n6
   exact ⟨_,_,_,rfl,rfl,rfl,rfl,l6,o6,n6⟩
  ·refine CallsA.mono (pre m (AM.le_refl _)) ?_
   rintro r m1 ⟨⟨A',c',rfl,o',n'⟩,l'⟩
   refine ⟨_,_,_,rfl,rfl,fun b hb hn=>?_⟩
   refine snoc2I (b11:=b) (m0:=m0) (AM.le_trans (AM.le_trans L l') (le_new hn _)) (o'.upd (o'.ne_none hn)) (fr (AM.le_refl _) n') (by omega) e x (Reads.lit rfl) ?_
   intro A2 c2 M l6 o6 n6
   exact ⟨_,_,_,rfl,rfl,rfl,rfl,l6,o6,n6⟩
  ·refine ⟨rfl,fun b hb hn=>?_⟩
   have lb:=le_new hn (.cells #[.int .i64 e,.int .i64 x] 3)
   refine CallsA.mono (pre _ lb) ?_
   rintro r m1 ⟨⟨A',c',rfl,o',n'⟩,l'⟩
   refine ⟨_,_,_,rfl,?_⟩
   refine snoc2I (b11:=b) (m0:=m0) (AM.le_trans (AM.le_trans L lb) l') o' (fr lb n') (by omega) e x ((Reads.lit (cs:=[.int .i64 e,.int .i64 x]) rfl).le l') ?_
   intro A2 c2 M l6 o6 n6
   exact ⟨_,_,_,rfl,rfl,rfl,rfl,l6,o6,n6⟩
 ·rintro σ A n c M ⟨rfl,l6,o6,n6⟩
  exact hR A c M l6 o6 n6
end Go.Proofs.YtkfemiloehkmhaaGreat.S

set_option linter.unusedSimpArgs false
set_option linter.unusedVariables false
set_option maxRecDepth 100000
namespace Go.Proofs.YtkfemiloehkmhaaGreat.S
open Go Go.RowKit Go.Alog Go.Proofs.YtkfemiloehkmhaaGreat.T Go.Proofs.YtkfemiloehkmhaaGreat.V

def layG (l:List Ins) (o:List Int) (last:Ins) (t:Bool):List Int:=if t=true then o.take (o.length-1) ++ [(l.length:Int)-1,o.getD (o.length-1) 0] else padL l o last ++ [(l.length:Int)-1,-1]

theorem layDec (w0:World) (m0 m:AM) (σ:Sg) {R:Value→AM→Prop} {A:Option Addr} {c:Nat} {l:List Ins} (hl:l.length≤100000) (hpos:0<l.length) (rd:Reads m0 5 A l.length (insCells l)) {b7:Nat} {last:Ins} (pb:m0 b7=some (.cells last.cells.toArray 36 (0,0)))
  {A7:Option Addr} {c7:Nat} {o:List Int} (ho:∀ x∈o,x = -1∨(0≤x∧x<l.length)) (hol:o.length≤100000) (L:m0.le m) (oo:Alog.Own m w0.heap.size 3 1 A7 o.length c7 (intCells .i64 o)) (no:∀ k∈obl A7,m0 k=none) (t:Bool) (ht:t=true→0<o.length)
  (hR:∀ A' c' m',m0.le m'→Alog.Own m' w0.heap.size 3 1 A' (layG l o last t).length c' (intCells .i64 (layG l o last t))→(∀ k∈obl A',m0 k=none)→RetP R (.slice A' (layG l o last t).length c') m')
  (h0:σ 0=.slice A l.length c) (h3:σ 3=.int .i64 ((l.length:Int)-1)) (h4:σ 4=.pointer (some ⟨b7,0,none⟩)) (h7:σ 7=.slice A7 o.length c7) (h8:σ 8=.int .i64 ((o.length:Int)-1)) (h77:σ 77=.bool t):(vcS Tryz.prog w0 qs27 (sub c27 [1,1,1,1,1,1,0,1,1,0,1,1]) σ m (thenS (fun σ m=>vcS Tryz.prog w0 qs27 (sub c27 [1,1,1,1,1,1,1]) σ m (retQ Tryz.prog Tryz.f27 R)) (retQ Tryz.prog Tryz.f27 R))):=by
 refine vk27_111111011011 w0 m σ R A l.length c ((l.length:Int)-1) b7 A7 o.length c7 ((o.length:Int)-1) t h0 h3 h4 h7 h8 h77 ?_
 cases t with
 | true=>exact bcT (laySlot w0 m0 m _ (ht rfl) hol L oo ((l.length:Int)-1) hR rfl rfl rfl)
 | false =>
  refine bcF ?_
  refine vk27_1111111 w0 m _ R A l.length c ((l.length:Int)-1) b7 A7 o.length c7 rfl rfl rfl rfl ?_
  exact layTail w0 m0 m _ hl hpos rd pb ho hol L oo no hR rfl rfl rfl rfl
end Go.Proofs.YtkfemiloehkmhaaGreat.S

set_option linter.unusedSimpArgs false
set_option linter.unusedVariables false
set_option maxRecDepth 100000
namespace Go.Proofs.YtkfemiloehkmhaaGreat.S
open Go Go.RowKit Go.Alog Go.Proofs.YtkfemiloehkmhaaGreat.T Go.Proofs.YtkfemiloehkmhaaGreat.V

theorem last_get {o:List Int} (h:0<o.length):o.getLast?=some (o.getD (o.length-1) 0):=by
 rw [List.getLast?_eq_getElem?]
 simp [List.getD,show o.length-1<o.length by omega]

theorem lay_spec (w0:World) (m:AM) (A:Option Addr) (c:Nat) (l:List Ins) (hl:l.length≤5000) (hc:l.length≤c) (rd:Reads m 5 A l.length (insCells l)) :
  CallsA Tryz.prog w0 27 #[.slice A l.length c] m (oI w0 m (layP l)):=by
 generalize hR:oI w0 m (layP l)=R
 refine cf27 w0 m A l.length c R ⟨rfl,bcI (fun h=>?_) (fun h=>⟨rfl,?_⟩)⟩
 ·have h':(((l.length:Nat):Int) == 0)=true:=h
  have:l = []:=List.eq_nil_of_length_eq_zero (by simpa using h')
  rw [← hR]
  unfold layP
  rw [if_pos this]
  exact retP_of ⟨⟨none,0,rfl,Alog.Own.nil _ _ _ _,by simp [obl]⟩,AM.le_refl _⟩
 have hne:l≠[]:=fun e=>by
  have h':(((l.length:Nat):Int) == 0)=false:=h
  rw [e] at h'; simp at h'
 have hpos:0<l.length:=by
  cases l with
  | nil=>exact absurd rfl hne
  | cons=>simp
 have wn:IntKind.wrap .i64 ((l.length:Int)-1)=(l.length:Int)-1:=wrap_s (by omega) (by omega)
 rw [wn]
 refine ldAt rd rfl (by omega) (by omega) fun a=>blk5 fun b7 M l7 nb7 hb7 p7=>?_
 replace p7:M b7=some (.cells (Ins.cells (cAt l ((l.length:Int)-1))).toArray 36 (0,0)):=p7
 unfold layP at hR
 rw [if_neg hne] at hR
 unfold lastI at hR
 generalize cAt l ((l.length:Int)-1)=last at p7 hR ⊢
 have ret:∀ (A':Option Addr) (c':Nat) (m':AM) (r:List Int),R=oI w0 m r→M.le m'→Alog.Own m' w0.heap.size 3 1 A' r.length c' (intCells .i64 r)→(∀ k∈obl A',M k=none)→RetP R (.slice A' r.length c') m':=fun A' c' m' r e h1 h2 h3=>by
  rw [e]
  refine retP_of ⟨⟨A',c',rfl,h2,fun k hk=>?_⟩,AM.le_trans l7 h1⟩
  cases hm:m k with
  | none=>rfl
  | some o=>have:=h3 k hk; rw [l7 _ _ hm] at this; cases this
 have rdM:=rd.le l7
 refine ldIns p7 (callB (goes_e w0 M last) ?_)
 cases hg:goesP last with
 | false =>
  rw [hg,if_pos rfl] at hR
  refine bcT (CallsA.mono (order_spec w0 M A c l hl rdM) ?_)
  rintro r m1 ⟨⟨A1,c1,rfl,o1,n1⟩,l1⟩
  have hon:ordP l≠[]:=ordP_ne hne
  have hop:0<(ordP l).length:=by
   cases ho:ordP l with
   | nil=>exact absurd ho hon
   | cons=>simp
  have hol:=ordP_len l
  have hin:=ordP_in l
  have hlast:=ordP_last l (last_get hop)
  have hmem:(ordP l).getD ((ordP l).length-1) 0∈ordP l:=by simp [List.getD,show (ordP l).length-1<(ordP l).length by omega]
  have hlt:=hin _ hmem
  generalize ordP l=o at hR o1 hop hol hin hlast hlt ⊢
  have wo:IntKind.wrap .i64 ((o.length:Int)-1)=(o.length:Int)-1:=wrap_s (by omega) (by omega)
  have ek:((o.length:Int)-1).toNat=o.length-1:=by omega
  refine ⟨_,_,_,rfl,?_⟩
  rw [wo]
  refine ⟨rfl,⟨by omega,by omega⟩,?_⟩
  have o1':=o1
  obtain ⟨a1,hA1,hc1⟩:=o1.ex hop
  subst hA1
  rw [nilO_some]
  have hx:=cell_k hc1 (i:=(o.length:Int)-1) (by omega) (by omega)
  rw [ek] at hx ⊢
  generalize o.getD (o.length-1) 0=x at hx hlast hlt hR ⊢
  refine ⟨_,hx,rfl,bcET (decide_eq_true hlast) ?_⟩
  rw [decide_eq_true hlast]
  refine ldAt (rdM.le l1) rfl hlast (by omega) fun a=>callB (late_e w0 m1 (cAt l x)) ?_
  cases hlate:lateP (cAt l x) with
  | true =>
   rw [hlate,if_pos rfl] at hR
   refine bcT ⟨rfl,?_⟩
   refine snocI l1 o1 n1 (by omega) (-1) (K:=fun A n c m11=>_) ?_
   intro B' c' M6 l6 o6 n6
   exact ret B' c' M6 _ hR.symm l6 o6 n6
  | false =>
   rw [hlate,if_neg (by simp)] at hR
   exact bcF (ret _ _ m1 _ hR.symm l1 o1 n1)
 | true =>
  rw [hg,if_neg (by simp)] at hR
  have etk:(l.take (l.length-1)).length=l.length-1-0:=by rw [List.length_take]; omega
  have rs:Reads M 5 (if c=0 then A else Option.map (fun x=>Addr.add x (0*5)) A) (l.length-1-0) (insCells (l.take (l.length-1))):=by
   have:=rdM.insSlice 0 (l.length-1) (by omega) (by omega) hc
   rwa [List.drop_zero,Nat.sub_zero] at this
  refine bcF ?_
  rw [show ((l.length:Int)-1).toNat=l.length-1 by omega]
  refine ⟨by omega,by omega,by omega,?_⟩
  have hsp:=order_spec w0 M (if c=0 then A else Option.map (fun x=>Addr.add x (0*5)) A) (c-0) (l.take (l.length-1)) (by omega) (by rw [etk]; exact rs)
  rw [etk] at hsp
  refine CallsA.mono hsp ?_
  rintro r m1 ⟨⟨A1,c1,rfl,o1,n1⟩,l1⟩
  have hol:=ordP_len (l.take (l.length-1))
  have hin:∀ x∈ordP (l.take (l.length-1)),x = -1∨(0≤x∧x<l.length):=fun x hx=>by
   have:=ordP_in (l.take (l.length-1)) x hx
   rw [etk] at this; omega
  have hlast:0<(ordP (l.take (l.length-1))).length→0≤(ordP (l.take (l.length-1))).getD ((ordP (l.take (l.length-1))).length-1) 0:=fun h=>ordP_last _ (last_get h)
  rw [etk] at hol
  generalize ordP (l.take (l.length-1))=o at hR o1 hol hin hlast ⊢
  have wo:IntKind.wrap .i64 ((o.length:Int)-1)=(o.length:Int)-1:=wrap_s (by omega) (by omega)
  have ek:o.length≠0→((o.length:Int)-1).toNat=o.length-1:=fun h=>by omega
  have dec:∀ (m2:AM) (σ:Sg) (t:Bool),m1.le m2→(t=true↔(o≠[]∧slotOk l o last=true))→σ 0=.slice A l.length c→σ 3=.int .i64 ((l.length:Int)-1)→σ 4=.pointer (some ⟨b7,0,none⟩)→σ 7=.slice A1 o.length c1→σ 8=.int .i64 ((o.length:Int)-1)→σ 77=.bool t→(vcS Tryz.prog w0 qs27 (sub c27 [1,1,1,1,1,1,0,1,1,0,1,1]) σ m2 (thenS (fun σ m2=>vcS Tryz.prog w0 qs27 (sub c27 [1,1,1,1,1,1,1]) σ m2 (retQ Tryz.prog Tryz.f27 R)) (retQ Tryz.prog Tryz.f27 R))):=by
   intro m2 σ t l2 ht h0 h3 h4 h7 h8 h77
   refine layDec w0 M m2 σ (by omega) hpos rdM p7 hin (by omega) (AM.le_trans l1 l2) (o1.le l2) n1 t (fun h=>?_) (fun A' c' m' q1 q2 q3=>ret A' c' m' _ ?_ q1 q2 q3) h0 h3 h4 h7 h8 h77
   ·have:=(ht.1 h).1
    cases o with
    | nil=>exact absurd rfl this
    | cons=>simp
   ·rw [← hR]
    unfold layG
    cases t with
    | true=>rw [if_pos (ht.1 rfl),if_pos rfl]
    | false=>rw [if_neg (fun h=>by have:=ht.2 h; cases this),if_neg (by simp)]
  refine ⟨_,_,_,rfl,?_⟩
  rw [wo]
  refine ⟨rfl,rfl,bcP (fun h0=>?_) (fun h0=>?_)⟩
  ·have hop:0<o.length:=by omega
   have hon:o≠[]:=fun e=>by rw [e] at hop; simp at hop
   have hlast:=hlast hop
   have hmem:o.getD (o.length-1) 0∈o:=by simp [List.getD,show o.length-1<o.length by omega]
   have hlt:=hin _ hmem
   have ek:=ek (by omega)
   refine ⟨⟨by omega,by omega⟩,?_⟩
   obtain ⟨a1,hA1,hc1⟩:=o1.ex hop
   subst hA1
   rw [nilO_some]
   have hx:=cell_k hc1 (i:=(o.length:Int)-1) (by omega) (by omega)
   rw [ek] at hx ⊢
   have hso:slotOk l o last=(!lateP (cAt l (o.getD (o.length-1) 0)) && (farP (cAt l (o.getD (o.length-1) 0)) last == 0) && clearP l (o.take (o.length-1)) last ((o.length:Int)-1)):=rfl
   generalize o.getD (o.length-1) 0=x at hx hlast hlt hso ⊢
   refine ⟨_,hx,ldAt (rdM.le l1) rfl hlast (by omega) fun a=>blk5 fun b58 M2 l2 nb2 hb2 p2=>?_⟩
   replace p2:M2 b58=some (.cells (Ins.cells (cAt l x)).toArray 36 (0,0)):=p2
   have p72:=l2 _ _ (l1 _ _ p7)
   refine ldIns p2 (callB (late_e w0 M2 (cAt l x)) ?_)
   cases hlate:lateP (cAt l x) with
   | true =>
    rw [hlate] at hso
    exact bcF ⟨rfl,rfl,dec M2 _ false l2 ⟨(fun h=>by cases h),fun h=>by rw [hso] at h; simp at h⟩ rfl rfl rfl rfl rfl rfl⟩
   | false =>
    rw [hlate] at hso
    refine bcT (ldIns p2 (ldIns p72 (callI (far_e w0 M2 (cAt l x) last) ⟨rfl,?_⟩)))
    cases hfar:(farP (cAt l x) last == 0) with
    | false =>
     rw [hfar] at hso
     exact bcF ⟨rfl,dec M2 _ false l2 ⟨(fun h=>by cases h),fun h=>by rw [hso] at h; simp at h⟩ rfl rfl rfl rfl rfl rfl⟩
    | true =>
     rw [hfar] at hso
     have hcap:=o1.2.1
     have rp:=reads_intPre (o1.le l2).reads (o.length-1) (by omega) hcap
     refine bcT ⟨by omega,by omega,by omega,ldIns p72 (callB (clear_e w0 M2 A c l (by omega) (rdM.le (AM.le_trans l1 l2)) _ _ _ (o.take (o.length-1)) (by rw [List.length_take]; omega) (by rw [List.length_take]; omega) ?_ rp last ((o.length:Int)-1)) ?_)⟩
     ·exact ord_lt (fun y hy=>hin y (List.mem_of_mem_take hy)) (Nat.le_refl _) hpos
     ·have hcl:slotOk l o last=clearP l (o.take (o.length-1)) last ((o.length:Int)-1):=by rw [hso]; simp
      refine dec M2 _ _ l2 ⟨fun h=>⟨hon,by rw [hcl]; exact h⟩,fun h=>by rw [hcl] at h; exact h.2⟩ rfl rfl rfl rfl rfl rfl
  ·have hon:o = []:=List.eq_nil_of_length_eq_zero (by omega)
   rw [if_neg (fun h=>h.1 hon)] at hR
   refine vk27_1111111 w0 m1 _ R A l.length c ((l.length:Int)-1) b7 A1 o.length c1 rfl rfl rfl rfl ?_
   exact layTail w0 M m1 _ (by omega) hpos rdM p7 hin (by omega) l1 o1 n1 (fun A' c' m' q1 q2 q3=>ret A' c' m' _ hR.symm q1 q2 q3) rfl rfl rfl rfl
end Go.Proofs.YtkfemiloehkmhaaGreat.S

