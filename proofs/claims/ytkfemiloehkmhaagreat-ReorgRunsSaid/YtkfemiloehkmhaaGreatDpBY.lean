/- YtkfemiloehkmhaaGreat: a text of our own, by an AI agent: DpBY -/
import Derived.Test.YtkfemiloehkmhaaGreatEfDY
import Derived.Test.YtkfemiloehkmhaaGreatCoreD
import Derived.Test.YtkfemiloehkmhaaGreatVbBY
set_option linter.unusedSimpArgs false
set_option linter.unusedVariables false
set_option maxRecDepth 100000
namespace Go.Proofs.YtkfemiloehkmhaaGreat.S
open Go Go.RowKit Go.Alog Go.Proofs.YtkfemiloehkmhaaGreat.T Go.Proofs.YtkfemiloehkmhaaGreat.V

def farP (a b:Ins):Int :=
 if (readsR b (writesP a) && lateP a)=true then 2 else
 if (readsR b (writesP a) || (writesP a != 0 && writesP a == writesP b) || readsR a (writesP b) || (actsP a && actsP b))=true then 1 else 0

theorem readsR_0 (i:Ins):readsR i 0=false:=by unfold readsR; simp
theorem dreads_e (w0:World) (m:AM) (i:Ins) (n:Int):CallsA Tryz.prog w0 72 #[i.val,.int .i64 n] m (fun r m'=>r=.bool (readsR i n)∧m'=m):=by
 refine CallsA.down (R:=fun r m'=>r=.bool (readsR i n)∧m.le m') ?_ fun _ _ h=>h
 refine cf72 w0 m _ _ _ _ _ n _ ?_
 intro b hBb hNb M
 have l:AM.le _ M:=le_new hNb _
 have p:M b=some (.cells (Ins.cells i).toArray 36):=upd_get_same
 clear_value M
 refine ⟨rfl,?_⟩
 by_cases h:n=0
 ·subst h
  rw [readsR_0]
  exact bcF ⟨rfl,retP_of ⟨rfl,l⟩⟩
 ·have e:(n != 0)=true:=by simpa using h
  rw [e]
  refine bcT (ldIns p (callReads fun A c m1 l1 r1=>?_))
  refine callB (ix_spec w0 m1 A c _ n (by have:=two_len (readsL_two i); omega) r1) (retP_of ⟨?_,AM.le_trans l l1⟩)
  rw [readsL_c]; rfl

theorem far_e (w0:World) (m:AM) (i j:Ins):CallsA Tryz.prog w0 47 #[i.val,j.val] m (fun r m'=>r=.int .i64 (farP i j)∧m'=m):=by
 refine CallsA.down (R:=fun r m'=>r=.int .i64 (farP i j)∧m.le m') ?_ fun _ _ h=>h
 generalize hR:(fun (r:Value) (m':AM)=>r=.int .i64 (farP i j)∧m.le m')=R
 refine cf47 w0 m _ _ _ _ _ _ _ _ _ _ R ?_
 intro b hBb hNb M
 have l:AM.le _ M:=le_new hNb _
 have p:M b=some (.cells (Ins.cells i).toArray 36):=upd_get_same
 clear_value M
 intro b3 hBb3 hNb3 M3
 have l3:AM.le _ M3:=le_new hNb3 _
 have p3:M3 b3=some (.cells (Ins.cells j).toArray 36):=upd_get_same
 clear_value M3
 replace p:=l3 _ _ p
 have L:=AM.le_trans l l3
 have ret:∀ (v:Int),v=farP i j→RetP R (.int .i64 v) M3:=fun v e=>by rw [← hR]; exact retP_of ⟨by rw [e],L⟩
 have K1:∀ (σ:Sg) (x:Bool),σ 2=.pointer (some ⟨b,0,none⟩)→σ 3=.pointer (some ⟨b3,0,none⟩)→σ 5=.int .i64 (writesP i)→σ 6=.int .i64 (writesP j)→σ 11=.bool x→x=(readsR j (writesP i) && lateP i)→(vcS Tryz.prog w0 qs47 (sub c47 [1,1,0,0,1]) σ M3 (blockS 0 (thenS (fun σ M3=>vcS Tryz.prog w0 qs47 (sub c47 [1,1,1]) σ M3 (retQ Tryz.prog Tryz.f47 R)) (retQ Tryz.prog Tryz.f47 R)))):=by
  intro σ x h2 h3 h5 h6 h11 hx
  refine vk47_11001 w0 M3 σ R b b3 _ _ x h2 h3 h5 h6 h11 ?_
  refine bcI (fun h=>ret 2 (by unfold farP; rw [← hx,if_pos h])) fun h=>ldIns p3 (callB (dreads_e w0 M3 j (writesP i)) ?_)
  have hf:farP i j=if (readsR j (writesP i) || (writesP i != 0 && writesP i == writesP j) || readsR i (writesP j) || (actsP i && actsP j))=true then 1 else 0:=by
   unfold farP; rw [← hx,if_neg (by rw [h]; simp)]
  cases r1:readsR j (writesP i)
  ·refine bcF ⟨rfl,?_⟩
   cases ne:(writesP i != 0)
   ·refine bcF ⟨rfl,bcF (ldIns p (callB (dreads_e w0 M3 i (writesP j)) ?_))⟩
    cases r2:readsR i (writesP j)
    ·refine bcF (ldIns p (callB (acts_e w0 M3 i) ?_))
     cases aa:actsP i
     ·exact bcF ⟨rfl,bcF (ret 0 (by rw [hf]; simp [r1,ne,r2,aa]))⟩
     ·refine bcT (ldIns p3 (callB (acts_e w0 M3 j) ?_))
      cases ab:actsP j
      ·exact bcF (ret 0 (by rw [hf]; simp [r1,ne,r2,aa,ab]))
      ·exact bcT (ret 1 (by rw [hf]; simp [r1,ne,r2,aa,ab]))
    ·exact bcT ⟨rfl,ret 1 (by rw [hf]; simp [r2])⟩
   ·refine bcT ⟨rfl,?_⟩
    cases eq:(writesP i == writesP j)
    ·refine bcF (ldIns p (callB (dreads_e w0 M3 i (writesP j)) ?_))
     cases r2:readsR i (writesP j)
     ·refine bcF (ldIns p (callB (acts_e w0 M3 i) ?_))
      cases aa:actsP i
      ·exact bcF ⟨rfl,bcF (ret 0 (by rw [hf]; simp only [r1,ne,eq,r2,aa]; rfl))⟩
      ·refine bcT (ldIns p3 (callB (acts_e w0 M3 j) ?_))
       cases ab:actsP j
       ·exact bcF (ret 0 (by rw [hf]; simp only [r1,ne,eq,r2,aa,ab]; rfl))
       ·exact bcT (ret 1 (by rw [hf]; simp only [r1,ne,eq,r2,aa,ab]; rfl))
     ·exact bcT ⟨rfl,ret 1 (by rw [hf]; simp [r2])⟩
    ·exact bcT ⟨rfl,rfl,ret 1 (by rw [hf]; simp only [r1,ne,eq]; simp)⟩
  ·exact bcT ⟨rfl,rfl,rfl,ret 1 (by rw [hf]; simp [r1])⟩
 refine ldIns p ⟨_,writes_e w0 M3 i,ldIns p3 (callI (writes_e w0 M3 j) (ldIns p3 (callB (dreads_e w0 M3 j (writesP i)) ?_)))⟩
 cases r1:readsR j (writesP i)
 ·exact bcF ⟨rfl,K1 _ false rfl rfl rfl rfl rfl (by rw [r1]; rfl)⟩
 ·exact bcT (ldIns p (callB (late_e w0 M3 i) (K1 _ _ rfl rfl rfl rfl rfl (by rw [r1]; rfl))))

end Go.Proofs.YtkfemiloehkmhaaGreat.S

set_option linter.unusedSimpArgs false
set_option linter.unusedVariables false
set_option maxRecDepth 100000
namespace Go.Proofs.YtkfemiloehkmhaaGreat.S
open Go Go.RowKit Go.Alog Go.Proofs.YtkfemiloehkmhaaGreat.T Go.Proofs.YtkfemiloehkmhaaGreat.V

theorem farP_in (a b:Ins):0≤farP a b∧farP a b≤2:=by
 unfold farP
 split
 ·omega
 split <;> omega
def IsMax (f:Nat→Int) (lo hi:Nat) (v:Int):Prop:=0≤v∧(∀ k,lo≤k→k<hi→f k≤v)∧(v=0∨∃ k,lo≤k∧k<hi∧v=f k)
theorem IsMax.uniq {f:Nat→Int} {lo hi:Nat} {v w:Int} (h:IsMax f lo hi v) (h':IsMax f lo hi w):v=w:=by
 obtain ⟨a1,a2,a3⟩:=h
 obtain ⟨b1,b2,b3⟩:=h'
 rcases a3 with a3 | ⟨k,k1,k2,k3⟩ <;> rcases b3 with b3 | ⟨j,j1,j2,j3⟩
 ·omega
 ·have:=a2 j j1 j2; omega
 ·have:=b2 k k1 k2; omega
 ·have:=a2 j j1 j2; have:=b2 k k1 k2; omega
theorem IsMax.nil (f:Nat→Int) (lo:Nat):IsMax f lo lo 0:=⟨by omega,fun k h1 h2=>by omega,.inl rfl⟩
theorem IsMax.up {f:Nat→Int} {lo hi:Nat} {v:Int} (h:IsMax f lo hi v) (hl:lo≤hi) {w:Int} (hw:w=max v (f hi)):IsMax f lo (hi+1) w:=by
 obtain ⟨a1,a2,a3⟩:=h
 subst hw
 refine ⟨by omega,fun k h1 h2=>?_,?_⟩
 ·by_cases e:k=hi
  ·rw [e]; omega
  ·have:=a2 k h1 (by omega); omega
 ·by_cases e:f hi≤v
  ·rw [show max v (f hi)=v by omega]
   rcases a3 with a3 | ⟨k,k1,k2,k3⟩
   ·exact .inl a3
   ·exact .inr ⟨k,k1,by omega,k3⟩
  ·exact .inr ⟨hi,hl,by omega,by omega⟩
theorem IsMax.dn {f:Nat→Int} {lo hi:Nat} {v:Int} (h:IsMax f (lo+1) hi v) (hl:lo<hi) {w:Int} (hw:w=max v (f lo)):IsMax f lo hi w:=by
 obtain ⟨a1,a2,a3⟩:=h
 subst hw
 refine ⟨by omega,fun k h1 h2=>?_,?_⟩
 ·by_cases e:k=lo
  ·rw [e]; omega
  ·have:=a2 k (by omega) (by omega); omega
 ·by_cases e:f lo≤v
  ·rw [show max v (f lo)=v by omega]
   rcases a3 with a3 | ⟨k,k1,k2,k3⟩
   ·exact .inl a3
   ·exact .inr ⟨k,by omega,k2,k3⟩
  ·exact .inr ⟨lo,by omega,by omega,by omega⟩

def hgt (i:Ins):List Ins→List Int→Int
 | j :: r,h :: hs=>max (hgt i r hs) (if farP i j>0 then farP i j+h else 0)
 | _,_=>0
def heightsP:List Ins→List Int
 | []=>[]
 | i :: r=>hgt i r (heightsP r) :: heightsP r
theorem heightsP_len:∀ l:List Ins,(heightsP l).length=l.length
 | []=>rfl
 | i :: r=>by simp [heightsP,heightsP_len r]
def hAt (l:List Ins) (k:Nat):Int:=(heightsP l).getD k 0
def hTerm (l:List Ins) (i j:Nat):Int:=if farP (l.getD i default) (l.getD j default)>0 then farP (l.getD i default) (l.getD j default)+hAt l j else 0
theorem hgt_max (i:Ins):∀ (r:List Ins) (hs:List Int),r.length=hs.length→∀ o:Nat,IsMax (fun k=>if farP i (r.getD (k-o) default)>0 then farP i (r.getD (k-o) default)+hs.getD (k-o) 0 else 0) o (o+r.length) (hgt i r hs)
 | [],[],_,o=>by simpa [hgt] using IsMax.nil _ o
 | j :: r,h :: hs,hl,o=>by
  have ih:=hgt_max i r hs (by simpa using hl) (o+1)
  have e:o+(j :: r).length=o+1+r.length:=by simp; omega
  rw [e]
  refine IsMax.dn (v:=hgt i r hs) ?_ (by omega) (by simp [hgt])
  obtain ⟨a1,a2,a3⟩:=ih
  have key:∀ k,o+1≤k→(if farP i ((j :: r).getD (k-o) default)>0 then farP i ((j :: r).getD (k-o) default)+(h :: hs).getD (k-o) 0 else 0)=(if farP i (r.getD (k-(o+1)) default)>0 then farP i (r.getD (k-(o+1)) default)+hs.getD (k-(o+1)) 0 else 0):=by
   intro k hk
   rw [show k-o=(k-(o+1))+1 by omega,List.getD_cons_succ,List.getD_cons_succ]
  refine ⟨a1,fun k h1 h2=>Int.le_trans (Int.le_of_eq (key k h1)) (a2 k h1 h2),?_⟩
  rcases a3 with a3 | ⟨k,k1,k2,k3⟩
  ·exact .inl a3
  ·exact .inr ⟨k,k1,k2,k3.trans (key k k1).symm⟩
 | [],_ :: _,hl,_=>by simp at hl
 | _ :: _,[],hl,_=>by simp at hl
theorem hAt_max:∀ (l:List Ins) (i:Nat),i<l.length→IsMax (hTerm l i) (i+1) l.length (hAt l i)
 | [],i,h=>by simp at h
 | x :: r,0,h=>by
  have:=hgt_max x r (heightsP r) (heightsP_len r).symm 1
  have e:(x :: r).length=1+r.length:=by simp; omega
  rw [e]
  obtain ⟨a1,a2,a3⟩:=this
  have key:∀ k,1≤k→hTerm (x :: r) 0 k=(if farP x (r.getD (k-1) default)>0 then farP x (r.getD (k-1) default)+(heightsP r).getD (k-1) 0 else 0):=by
   intro k hk
   obtain ⟨k',rfl⟩:∃ k',k=k'+1:=⟨k-1,by omega⟩
   unfold hTerm hAt
   simp only [List.getD_cons_zero,List.getD_cons_succ,heightsP,Nat.add_sub_cancel]
  refine ⟨a1,fun k h1 h2=>Int.le_trans (Int.le_of_eq (key k h1)) (a2 k h1 h2),?_⟩
  rcases a3 with a3 | ⟨k,k1,k2,k3⟩
  ·exact .inl a3
  ·exact .inr ⟨k,k1,k2,k3.trans (key k k1).symm⟩
 | x :: r,i+1,h=>by
  have h':i<r.length:=by simpa using h
  obtain ⟨a1,a2,a3⟩:=hAt_max r i h'
  have ev:hAt (x :: r) (i+1)=hAt r i:=by unfold hAt; rw [heightsP,List.getD_cons_succ]
  have key:∀ k,hTerm (x :: r) (i+1) (k+1)=hTerm r i k:=by
   intro k
   unfold hTerm hAt
   simp only [List.getD_cons_succ,heightsP]
  rw [ev]
  refine ⟨a1,fun k h1 h2=>?_,?_⟩
  ·obtain ⟨k',rfl⟩:∃ k',k=k'+1:=⟨k-1,by omega⟩
   rw [key]; exact a2 k' (by omega) (by simpa using h2)
  ·rcases a3 with a3 | ⟨k,k1,k2,k3⟩
   ·exact .inl a3
   ·exact .inr ⟨k+1,by omega,by simpa using k2,by rw [key]; exact k3⟩
theorem hAt_le (l:List Ins):∀ (n i:Nat),i<l.length→l.length-i≤n→0≤hAt l i∧hAt l i≤2*((l.length:Int)-1-i)
 | 0,i,h,hn=>by omega
 | n+1,i,h,hn=>by
  obtain ⟨a1,a2,a3⟩:=hAt_max l i h
  refine ⟨a1,?_⟩
  rcases a3 with a3 | ⟨k,k1,k2,k3⟩
  ·omega
  ·have:=hAt_le l n k k2 (by omega)
   rw [k3]
   unfold hTerm
   have hf:=farP_in (l.getD i default) (l.getD k default)
   split <;> omega
theorem hAt_bd (l:List Ins) {i:Nat} (h:i<l.length):0≤hAt l i∧hAt l i≤2*((l.length:Int)-1-i):=hAt_le l _ i h (Nat.le_refl _)
theorem heights_ext {l:List Ins} {o:List Int} (hl:o.length=l.length) (h:∀ k,k<l.length→o.getD k 0=hAt l k):o=heightsP l:=by
 apply List.ext_getElem (by rw [hl,heightsP_len])
 intro k h1 h2
 have:=h k (by omega)
 unfold hAt at this
 simpa [List.getD,h1,h2] using this

theorem zeros_int (n:Nat):zeros [Value.int .i64 0] n=intCells .i64 (List.replicate n 0):=by
 unfold zeros intCells
 induction n with
 | zero=>rfl
 | succ n ih=>rw [List.replicate_succ,List.flatten_cons,ih,List.replicate_succ]; rfl
theorem getD_set {l:List Int} {k j:Nat} {v:Int} (hk:k<l.length):(l.set k v).getD j 0=if j=k then v else l.getD j 0:=by
 by_cases e:j=k
 ·subst e; simp [List.getD,hk]
 ·rw [if_neg e]; simp [List.getD,List.getElem?_set_ne (Ne.symm e)]
theorem getD_rep (n k:Nat):(List.replicate n (0:Int)).getD k 0=0:=by
 by_cases h:k<n
 ·simp [List.getD,h]
 ·simp [List.getD,List.getElem?_replicate,h]
abbrev ownInts (w0:World) (m0:AM) (l:List Int) (r:Value) (m':AM):Prop:=(∃ (A:Option Addr) (c:Nat),r=.slice A l.length c∧Own m' w0.heap.size 3 1 A l.length c (intCells .i64 l)∧∀ k∈obl A,m0 k=none)∧m0.le m'

theorem heights_spec (w0:World) (m:AM) (A:Option Addr) (c:Nat) (l:List Ins) (hl:l.length≤1000000) (rd:Reads m 5 A l.length (insCells l)) :
  CallsA Tryz.prog w0 67 #[.slice A l.length c] m (ownInts w0 m (heightsP l)):=by
 refine cf67 w0 m A l.length c _ ⟨⟨by omega,by omega,by omega,by omega⟩,?_⟩
 intro b hb hn M
 have lM:m.le M:=le_new hn _
 have o0:Own M w0.heap.size 3 1 (some ⟨b,0,none⟩) l.length l.length (intCells .i64 (List.replicate l.length 0)):=by
  rw [← zeros_int]; exact Own.new m hb 3 1 l.length _ (by rw [zeros_int]; simp [intCells])
 clear_value M
 have hfr:∀ k∈obl (some (⟨b,0,none⟩:Addr)),m k=none:=fun k hk=>by simp [obl] at hk; subst hk; exact hn
 rw [wrap_s (i:=(l.length:Int)-1) (by omega) (by omega)]
 generalize hb0:(some (⟨b,0,none⟩:Addr))=Ab at o0 hfr ⊢

 let Q:Int→Int→AM→Prop:=fun i v m'=>m.le m'∧∃ o:List Int,o.length=l.length∧Own m' w0.heap.size 3 1 Ab o.length l.length (intCells .i64 o)∧∀ k:Nat,k<l.length→o.getD k 0=if i<k then hAt l k else if (k:Int)=i then v else 0
 refine ⟨rfl,vl67_11010 w0 M _ _ A l.length c Ab l.length l.length ((l.length:Int)-1) (fun k i m'=>-1≤i∧i<l.length∧(k:Int)=i+1∧Q i 0 m') (fun m'=>Q (-1) 0 m') l.length (by rfl) (by rw [← hb0]; rfl) (by rfl) ⟨by omega,by omega,by omega,lM,List.replicate l.length 0,by simp,by simpa using o0,fun k hk=>?_⟩ ?_ ?_⟩
 ·rw [getD_rep,if_neg (by omega)]; split <;> rfl
 ·rintro k σ i m' ⟨i0,i1,hk,hq⟩
  refine ⟨rfl,bcP (fun c1=>⟨rfl,?_⟩) fun c1=>?_⟩
  ·have w1:IntKind.wrap .i64 (i+1)=i+1:=wrap_s (by omega) (by omega)
   rw [w1]
   refine vl67_11010010010 w0 m' _ _ k _ _ A l.length c Ab l.length l.length i (i+1) (fun k2 j m2=>i+1≤j∧j≤l.length∧(k2:Int)=l.length-j∧∃ v,IsMax (hTerm l i.toNat) (i.toNat+1) j.toNat v∧Q i v m2) (fun m2=>Q i (hAt l i.toNat) m2) (l.length-(i.toNat+1)) rfl rfl rfl rfl ⟨by omega,by omega,by omega,0,?_,hq⟩ ?_ ?_
   ·rw [show (i+1).toNat=i.toNat+1 by omega]; exact IsMax.nil _ _
   ·rintro k2 σ j m2 ⟨j0,j1,hk2,v,hv,L2,o,hol,ho,hop⟩
    clear hq
    have wj:IntKind.wrap .i64 (j+1)=j+1:=wrap_s (by omega) (by omega)
    refine ⟨rfl,bcP (fun c2=>ldAt (rd.le L2) rfl c1 i1 fun a=>ldAt (rd.le L2) rfl (by omega) c2 fun a2=>callI (far_e w0 m2 (cAt l i) (cAt l j)) ⟨rfl,?_⟩) fun c2=>?_⟩
    ·have hf:=farP_in (cAt l i) (cAt l j)
     have hbj:=hAt_bd l (i:=j.toNat) (by omega)
     have hbi:=hAt_bd l (i:=i.toNat) (by omega)
     have hT:hTerm l i.toNat j.toNat=if farP (cAt l i) (cAt l j)>0 then farP (cAt l i) (cAt l j)+hAt l j.toNat else 0:=rfl
     have hvle:v≤hAt l i.toNat:=by
      obtain ⟨_,m2',_⟩:=hAt_max l i.toNat (by omega)
      rcases hv.2.2 with h | ⟨q,q1,q2,q3⟩
      ·omega
      ·rw [q3]; exact m2' q q1 (by omega)
     have hv0:=hv.1
     have ej:o.getD j.toNat 0=hAt l j.toNat:=by rw [hop _ (by omega),if_pos (by omega)]
     have ei:o.getD i.toNat 0=v:=by rw [hop _ (by omega),if_neg (by omega),if_pos (by omega)]
     rw [wj]
     refine bcP (fun c3=>⟨⟨c1,i1⟩,?_⟩) fun c3=>?_
     ·obtain ⟨ad,rfl,hc⟩:=ho.ex (by omega)
      rw [nilO_some]
      refine ⟨_,cell_k hc c1 (by omega),⟨by omega,c2⟩,?_⟩
      rw [nilO_some]
      refine ⟨_,cell_k hc (by omega) (by omega),rfl,rfl,⟨c1,i1⟩,?_⟩
      rw [ej,ei,nilO_some,wrap_s (i:=farP (cAt l i) (cAt l j)+hAt l j.toNat) (by omega) (by omega)]
      have hw:(if farP (cAt l i) (cAt l j)+hAt l j.toNat>v then farP (cAt l i) (cAt l j)+hAt l j.toNat else v)=max v (hTerm l i.toNat j.toNat):=by
       rw [hT,if_pos c3]; split <;> omega
      refine own_set ho (k:=i.toNat) (by omega) _ fun m4 o4 f4=>?_
      repeat refine ⟨rfl,?_⟩
      refine ⟨k2-1,by omega,by omega,by omega,by omega,max v (hTerm l i.toNat j.toNat),?_,low_fresh L2 f4 hfr,o.set i.toNat (max v (hTerm l i.toNat j.toNat)),by rw [List.length_set]; exact hol,by rw [List.length_set,← hw]; exact o4,fun q hq2=>?_⟩
      ·rw [show (j+1).toNat=j.toNat+1 by omega]
       exact hv.up (by omega) rfl
      ·rw [getD_set (by omega),hop q hq2]
       by_cases e:q=i.toNat
       ·rw [if_pos e,if_neg (by omega),if_pos (by omega)]
       ·rw [if_neg e]
        by_cases e2:i<q
        ·rw [if_pos e2,if_pos e2]
        ·rw [if_neg e2,if_neg e2,if_neg (by omega),if_neg (by omega)]
     ·repeat refine ⟨rfl,?_⟩
      refine ⟨k2-1,by omega,by omega,by omega,by omega,v,?_,L2,o,hol,ho,hop⟩
      rw [show (j+1).toNat=j.toNat+1 by omega]
      refine hv.up (by omega) ?_
      rw [hT,if_neg c3]; omega
    ·repeat refine ⟨rfl,?_⟩
     have:v=hAt l i.toNat:=by
      rw [show j.toNat=l.length by omega] at hv
      exact hv.uniq (hAt_max l i.toNat (by omega))
     rw [← this]
     exact ⟨L2,o,hol,ho,hop⟩
   ·rintro σ m2 ⟨L2,o,hol,ho,hop⟩
    have wi:IntKind.wrap .i64 (i-1)=i-1:=wrap_s (by omega) (by omega)
    rw [wi]
    repeat refine ⟨rfl,?_⟩
    refine ⟨k-1,by omega,by omega,by omega,by omega,L2,o,hol,ho,fun q hq2=>?_⟩
    rw [hop q hq2]
    by_cases e:i<q
    ·rw [if_pos e,if_pos (by omega)]
    ·rw [if_neg e]
     by_cases e2:(q:Int)=i
     ·rw [if_pos e2,if_pos (by omega),show i.toNat=q by omega]
     ·rw [if_neg e2,if_neg (by omega)]; split <;> rfl
  ·repeat refine ⟨rfl,?_⟩
   obtain rfl:i = -1:=by omega
   exact hq
 ·rintro σ m' ⟨L2,o,hol,ho,hop⟩
  have:o=heightsP l:=heights_ext hol fun q hq2=>by rw [hop q hq2,if_pos (by omega)]
  subst this
  refine retP_of ⟨⟨Ab,l.length,by rw [hol],?_,hfr⟩,L2⟩
  exact ho

end Go.Proofs.YtkfemiloehkmhaaGreat.S

set_option linter.unusedSimpArgs false
set_option linter.unusedVariables false
set_option maxRecDepth 100000
namespace Go.Proofs.YtkfemiloehkmhaaGreat.S
open Go Go.RowKit Go.Alog Go.Proofs.YtkfemiloehkmhaaGreat.T Go.Proofs.YtkfemiloehkmhaaGreat.V

def whP:List Int→Int→Int
 | [],_=>-1
 | x :: r,n=>if x=n then 0 else if whP r n = -1 then -1 else whP r n+1
theorem whP_none:∀ {l:List Int} {n:Int},n∉l→whP l n = -1
 | [],n,_=>rfl
 | x :: r,n,h=>by
  simp only [List.mem_cons,not_or] at h
  unfold whP
  rw [if_neg (fun e=>h.1 e.symm),whP_none h.2,if_pos rfl]
theorem whP_at:∀ {l:List Int} {n:Int} {i:Nat},i<l.length→l.getD i 0=n→n∉l.take i→whP l n=i
 | [],n,i,h,_,_=>by simp at h
 | x :: r,n,0,h,h2,_=>by
  unfold whP; rw [if_pos (by simpa using h2)]; rfl
 | x :: r,n,i+1,h,h2,h3=>by
  rw [List.take_succ_cons,List.mem_cons,not_or] at h3
  have:=whP_at (l:=r) (n:=n) (i:=i) (by simpa using h) (by simpa using h2) h3.2
  unfold whP
  rw [if_neg (fun e=>h3.1 e.symm),this,if_neg (by omega)]
  omega
theorem first_place:∀ {l:List Int} {n:Int},n∈l→∃ i:Nat,i<l.length∧l.getD i 0=n∧n∉l.take i
 | [],n,h=>by simp at h
 | x :: r,n,h=>by
  by_cases e:x=n
  ·exact ⟨0,by simp,by simpa using e,by simp⟩
  ·have hm:n∈r:=by
    rcases List.mem_cons.1 h with h | h
    ·exact absurd h.symm e
    ·exact h
   obtain ⟨i,h1,h2,h3⟩:=first_place hm
   refine ⟨i+1,by simpa using h1,by simpa using h2,?_⟩
   rw [List.take_succ_cons,List.mem_cons,not_or]
   exact ⟨fun h=>e h.symm,h3⟩
theorem whP_sp (l:List Int) (n:Int):(whP l n = -1∧n∉l)∨∃ i:Nat,whP l n=i∧i<l.length∧l.getD i 0=n∧n∉l.take i:=by
 by_cases h:n∈l
 ·obtain ⟨i,h1,h2,h3⟩:=first_place h
  exact .inr ⟨i,whP_at h1 h2 h3,h1,h2,h3⟩
 ·exact .inl ⟨whP_none h,h⟩
theorem whP_in (l:List Int) (n:Int) : -1≤whP l n∧whP l n<l.length:=by
 rcases whP_sp l n with ⟨h,_⟩ | ⟨i,h1,h2,_⟩ <;> omega
theorem whP_neg {l:List Int} {n:Int}:whP l n = -1↔n∉l:=by
 rcases whP_sp l n with ⟨h,h2⟩ | ⟨i,h1,h2,h3,h4⟩
 ·exact ⟨fun _=>h2,fun _=>h⟩
 ·refine ⟨fun h=>by omega,fun h=>absurd ?_ h⟩
  rw [← h3]; exact getD_in h2
theorem whP_snoc {l:List Int} {x n:Int}:whP (l ++ [x]) n=if n∈l then whP l n else if x=n then (l.length:Int) else -1:=by
 by_cases h:n∈l
 ·rw [if_pos h]
  obtain ⟨i,h1,h2,h3⟩:=first_place h
  rw [whP_at h1 h2 h3]
  refine whP_at (by simp; omega) ?_ ?_
  ·simpa [List.getD,List.getElem?_append_left h1] using h2
  ·rwa [List.take_append_of_le_length (by omega)]
 ·rw [if_neg h]
  by_cases e:x=n
  ·rw [if_pos e]
   refine whP_at (by simp) ?_ ?_
   ·simp [e]
   ·rwa [List.take_left]
  ·rw [if_neg e]
   refine whP_none ?_
   simp only [List.mem_append,List.mem_singleton,not_or]
   exact ⟨h,fun h=>e h.symm⟩
theorem take_stepI {l:List Int} {i:Int} (h0:0≤i) (h1:i<l.length):l.take (i+1).toNat=l.take i.toNat ++ [l.getD i.toNat 0]:=by
 have hi:i.toNat<l.length:=by omega
 rw [show (i+1).toNat=i.toNat+1 by omega,← List.take_append_getElem hi]
 congr 2
 simp [List.getD,hi]

theorem same_e (w0:World) (m:AM) (A:Option Addr) (n c:Nat) (l:List Int) (A2:Option Addr) (n2 c2:Nat) (l2:List Int) (hn:l.length=n) (hn2:l2.length=n2) (hl:l.length≤1000000) (rd:Reads m 1 A n (intCells .i64 l)) (rd2:Reads m 1 A2 n2 (intCells .i64 l2)) :
  CallsA Tryz.prog w0 13 #[.slice A n c,.slice A2 n2 c2] m (fun r m'=>r=.bool (decide (l=l2))∧m'=m):=by
 subst hn; subst hn2
 refine cf13 w0 m A l.length c A2 l2.length c2 _ ⟨rfl,bcI (fun h=>retP_of ⟨?_,rfl⟩) fun h=>?_⟩
 ·have:l≠l2:=fun e=>by rw [e] at h; simp at h
  rw [decide_eq_false this]
 have hlen:l.length=l2.length:=by
  have:¬ ((l.length:Nat):Int)≠((l2.length:Nat):Int):=by simpa using h
  omega
 refine vl13_11010 w0 m _ _ A l.length c A2 l2.length c2 0 (fun k i m'=>m'=m∧0≤i∧i≤l.length∧(k:Int)=l.length-i∧l.take i.toNat=l2.take i.toNat) (fun m'=>m'=m∧l=l2) l.length rfl rfl rfl ⟨rfl,by omega,by omega,by omega,by simp⟩ ?_ ?_
 ·rintro k σ i m' ⟨rfl,i0,i1,hk,hp⟩
  refine ⟨rfl,bcP (fun c1=>⟨⟨i0,c1⟩,?_⟩) fun c1=>?_⟩
  ·obtain ⟨ad,rfl,hc⟩:=rd.ex (by omega)
   obtain ⟨ad2,rfl,hc2⟩:=rd2.ex (by omega)
   rw [nilO_some]
   have w:IntKind.wrap .i64 (i+1)=i+1:=wrap_s (by omega) (by omega)
   refine ⟨_,cell_k hc i0 c1,⟨i0,by omega⟩,?_⟩
   rw [nilO_some]
   refine ⟨_,cell_k hc2 i0 (by omega),rfl,bcI (fun hz=>retP_of ⟨?_,rfl⟩) fun hz=>?_⟩
   ·have hz:l.getD i.toNat 0≠l2.getD i.toNat 0:=by simpa using hz
    rw [decide_eq_false (fun e=>hz (by rw [e]))]
   ·have hz:l.getD i.toNat 0=l2.getD i.toNat 0:=by simpa using hz
    rw [w]
    repeat refine ⟨rfl,?_⟩
    refine ⟨k-1,by omega,rfl,by omega,by omega,by omega,?_⟩
    rw [take_stepI i0 c1,take_stepI i0 (by omega),hp,hz]
  ·repeat refine ⟨rfl,?_⟩
   rw [List.take_of_length_le (by omega),List.take_of_length_le (by omega)] at hp; exact hp
 ·rintro σ m' ⟨rfl,hp⟩
  exact retP_of ⟨by rw [decide_eq_true hp],rfl⟩

end Go.Proofs.YtkfemiloehkmhaaGreat.S

set_option linter.unusedSimpArgs false
set_option linter.unusedVariables false
set_option maxRecDepth 100000
namespace Go.Proofs.YtkfemiloehkmhaaGreat.S
open Go Go.RowKit Go.Alog Go.Proofs.YtkfemiloehkmhaaGreat.T Go.Proofs.YtkfemiloehkmhaaGreat.V

theorem whP_fst {l:List Int} {k:Nat} (hk:k<l.length):whP l (l.getD k 0)=k↔l.getD k 0∉l.take k:=by
 constructor
 ·intro h
  rcases whP_sp l (l.getD k 0) with ⟨h1,_⟩ | ⟨i,h1,h2,h3,h4⟩
  ·omega
  ·have:i=k:=by omega
   rw [this] at h4; exact h4
 ·intro h; exact whP_at hk rfl h
def covN (n:Nat) (l:List Int):Nat:=(List.range n).countP (fun q:Nat=>l.contains ((q:Nat):Int))
theorem covN_le (n:Nat) (l:List Int):covN n l≤n:=by
 have:=List.countP_le_length (p:=fun q=>l.contains ((q:Nat):Int)) (l:=List.range n)
 rwa [List.length_range] at this
theorem covN_all {n:Nat} {l:List Int}:covN n l=n↔∀ q:Nat,q<n→(q:Int)∈l:=by
 have:covN n l=n↔∀ a∈List.range n,l.contains ((a:Nat):Int)=true:=by
  have h:=List.countP_eq_length (p:=fun q=>l.contains ((q:Nat):Int)) (l:=List.range n)
  rw [List.length_range] at h
  exact h
 rw [this]
 simp
theorem covN_nil (n:Nat):covN n []=0:=by unfold covN; rw [List.countP_eq_zero]; simp
theorem covN_neg {n:Nat} {l:List Int} {x:Int} (h:x = -1):covN n (l ++ [x])=covN n l:=by
 unfold covN
 apply List.countP_congr
 intro q _
 have:((q:Nat):Int)≠x:=by omega
 simp [List.contains_append,this]
theorem covN_new {n:Nat} {l:List Int} {x:Int} (h0:0≤x) (h1:x<n) (hx:x∉l):covN n (l ++ [x])=covN n l+1:=by
 unfold covN
 have hp:l.contains ((x.toNat:Nat):Int)=false:=by
  rw [Int.toNat_of_nonneg h0]
  cases h:l.contains x with
  | false=>rfl
  | true=>exact absurd (List.contains_iff_mem.1 h) hx
 rw [← countP_add (p:=fun q=>l.contains ((q:Nat):Int)) hp n (by omega)]
 apply List.countP_congr
 intro q _
 have:(((q:Nat):Int)=x)↔q=x.toNat:=by omega
 simp [List.contains_append,this]

end Go.Proofs.YtkfemiloehkmhaaGreat.S

