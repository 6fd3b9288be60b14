/- YtkfemiloehkmhaaGreat: a text of our own, by an AI agent: OeBY -/
import Derived.Test.YtkfemiloehkmhaaGreatLyBY
import Derived.Test.YtkfemiloehkmhaaGreatCm1Y
import Derived.Test.YtkfemiloehkmhaaGreatCoreD
set_option linter.unusedSimpArgs false
set_option linter.unusedVariables false
set_option maxRecDepth 100000
namespace Go.Proofs.YtkfemiloehkmhaaGreat.S
open Go Go.RowKit Go.Alog

def nnL (o:List Int):List Int:=o.filter (fun x=>decide (0≤x))
def idL (n:Nat):List Int:=(List.range n).map (fun k:Nat=>(k:Int))
theorem nnL_app (a b:List Int):nnL (a ++ b)=nnL a ++ nnL b:=List.filter_append ..
theorem nnL_neg:nnL [-1] = []:=rfl
theorem nnL_new {x:Int} (h:0≤x):nnL [x] = [x]:=by unfold nnL; simp [h]
theorem idL_mem {n:Nat} {x:Int}:x∈idL n↔0≤x∧x<n:=by
 unfold idL
 rw [List.mem_map]
 constructor
 ·rintro ⟨k,hk,rfl⟩
  rw [List.mem_range] at hk; omega
 ·rintro ⟨h0,h1⟩
  exact ⟨x.toNat,List.mem_range.2 (by omega),by omega⟩
theorem idL_nodup (n:Nat):(idL n).Nodup:=by
 unfold idL List.Nodup
 rw [List.pairwise_map]
 exact List.Pairwise.imp (fun h e=>h (by omega)) (List.nodup_range (n:=n))
theorem ordP_nodup (l:List Ins):(nnL (ordP l)).Nodup:=by
 refine ordP_ind (fun out=>(nnL out).Nodup) (by unfold nnL; simp) fun out hl h=>?_
 rw [nnL_app]
 rcases next_cases l out with ⟨_,e⟩ | ⟨_,hm⟩
 ·rw [e,nnL_neg,List.append_nil]; exact h
 ·obtain ⟨h0,h1,h2⟩:=ready_new hm
  rw [nnL_new h0,List.nodup_append]
  refine ⟨h,by simp,fun a ha b hb=>?_⟩
  rw [List.mem_singleton] at hb
  subst hb
  rintro rfl
  exact h2 (List.mem_filter.1 ha).1
theorem ordP_perm (l:List Ins):(nnL (ordP l)).Perm (idL l.length):=by
 rw [List.perm_ext_iff_of_nodup (ordP_nodup l) (idL_nodup _)]
 intro x
 rw [idL_mem]
 unfold nnL
 rw [List.mem_filter,decide_eq_true_eq]
 constructor
 ·rintro ⟨h1,h2⟩
  have:=ordP_in l x h1; omega
 ·rintro ⟨h0,h1⟩
  have:=ordP_all l (q:=x.toNat) (by omega)
  rw [show ((x.toNat:Nat):Int)=x by omega] at this
  exact ⟨this,h0⟩

theorem nn_once {o:List Int} (h:(nnL o).Nodup):∀ i j:Nat,i<j→j<o.length→o.getD i 0=o.getD j 0→o.getD i 0<0:=by
 induction o with
 | nil=>intro i j _ hj; simp at hj
 | cons x o ih =>
  intro i j hij hj he
  have hx:nnL (x :: o)=if 0≤x then x :: nnL o else nnL o:=by
   unfold nnL; rw [List.filter_cons]; simp
  have ho:(nnL o).Nodup:=by
   rw [hx] at h
   split at h
   ·exact (List.nodup_cons.1 h).2
   ·exact h
  cases j with
  | zero=>omega
  | succ j =>
   rw [List.length_cons] at hj
   cases i with
   | zero =>
    refine Classical.byContradiction fun hn=>?_
    have he':x=o.getD j 0:=he
    have hn':¬ x<0:=hn
    rw [hx,if_pos (by omega)] at h
    refine (List.nodup_cons.1 h).1 (List.mem_filter.2 ⟨?_,decide_eq_true (by omega)⟩)
    rw [he']
    simp [List.getD,show j<o.length by omega]
   | succ i=>exact ih ho i j (by omega) (by omega) he
theorem wh_once {o:List Int} (h:(nnL o).Nodup) {k:Nat} (hk:k<o.length) (h0:0≤o.getD k 0):whP o (o.getD k 0)=k:=by
 refine (whP_fst hk).2 fun hm=>?_
 obtain ⟨i,hi,he⟩:=List.mem_iff_getElem.1 hm
 rw [List.length_take] at hi
 rw [List.getElem_take] at he
 have hi2:i<o.length:=by omega
 have e2:o.getD i 0=o.getD k 0:=by
  rw [← he]; simp [List.getD,hi2]
 have:=nn_once h i k (by omega) hk e2
 omega

theorem ready_far {l:List Ins} {out:List Int} {x:Int} (h:x∈rdyL l out l.length) {p:Nat} (hp:(p:Int)<x) (hf:farP (cAt l p) (cAt l x)>0):(p:Int)∈out∧whP out p+farP (cAt l p) (cAt l x)≤out.length:=by
 obtain ⟨h0,h1,h2⟩:=rdyL_mem.1 h
 have hx:((x.toNat:Nat):Int)=x:=by omega
 have hb:bz l out x.toNat p=false:=by
  cases hb:bz l out x.toNat p with
  | false=>rfl
  | true=>rw [readyP_f (i:=p) (by omega) hb] at h2; cases h2
 unfold bz at hb
 rw [hx,decide_eq_true hf,Bool.true_and,Bool.or_eq_false_iff] at hb
 have h3:=of_decide_eq_false hb.1
 have h4:=of_decide_eq_false hb.2
 refine ⟨Classical.byContradiction fun hn=>?_,by omega⟩
 rw [whP_neg.2 hn] at h3; omega
theorem ordP_far (l:List Ins):∀ (p:Nat) (q:Int),(p:Int)<q→q<l.length→farP (cAt l p) (cAt l q)>0→(p:Int)∈ordP l∧whP (ordP l) p+farP (cAt l p) (cAt l q)≤whP (ordP l) q:=by
 have key:∀ (p:Nat) (q:Int),(p:Int)<q→q∈ordP l→farP (cAt l p) (cAt l q)>0→(p:Int)∈ordP l∧whP (ordP l) p+farP (cAt l p) (cAt l q)≤whP (ordP l) q:=by
  refine ordP_ind (fun out=>∀ (p:Nat) (q:Int),(p:Int)<q→q∈out→farP (cAt l p) (cAt l q)>0→(p:Int)∈out∧whP out p+farP (cAt l p) (cAt l q)≤whP out q) (by simp) fun out hl h p q hpq hq hf=>?_
  have keep:∀ y:Int,y∈out→whP (out ++ [nextO l out]) y=whP out y:=fun y hy=>by
   rw [whP_snoc,if_pos]
   exact hy
  rw [List.mem_append,List.mem_singleton] at hq
  by_cases hqo:q∈out
  ·obtain ⟨h1,h2⟩:=h p q hpq hqo hf
   rw [keep _ hqo,keep _ h1]
   exact ⟨List.mem_append_left _ h1,h2⟩
  ·have hqe:q=nextO l out:=by
    rcases hq with hq | hq
    ·exact absurd hq hqo
    ·exact hq
   rcases next_cases l out with ⟨_,e⟩ | ⟨_,hm⟩
   ·omega
   ·rw [← hqe] at hm
    obtain ⟨h1,h2⟩:=ready_far hm hpq hf
    rw [keep _ h1]
    refine ⟨List.mem_append_left _ h1,?_⟩
    have:whP (out ++ [nextO l out]) q=out.length:=by
     rw [whP_snoc,if_neg hqo,if_pos hqe.symm]
    omega
 intro p q h1 h2 h3
 have:=ordP_all l (q:=q.toNat) (by omega)
 rw [show ((q.toNat:Nat):Int)=q by omega] at this
 exact key p q h1 this h3
end Go.Proofs.YtkfemiloehkmhaaGreat.S

set_option linter.unusedSimpArgs false
set_option linter.unusedVariables false
set_option maxRecDepth 100000
namespace Go.Proofs.YtkfemiloehkmhaaGreat.S
open Go Go.RowKit Go.Alog

theorem idL_succ (n:Nat):idL (n+1)=idL n ++ [(n:Int)]:=by unfold idL; rw [List.range_succ,List.map_append]; rfl
theorem idL_len (n:Nat):(idL n).length=n:=by simp [idL]
theorem padL_nn (l:List Ins) (o:List Int) (last:Ins):nnL (padL l o last)=nnL o:=by
 unfold padL
 split
 ·rfl
 ·rw [nnL_app,nnL_neg,List.append_nil]
theorem padL_len (l:List Ins) (o:List Int) (last:Ins):o.length≤(padL l o last).length∧(padL l o last).length≤o.length+1:=by
 unfold padL
 split
 ·omega
 ·rw [List.length_append,List.length_singleton]; omega
theorem idL_pred {n:Nat} (h:0<n):idL n=idL (n-1) ++ [(n:Int)-1]:=by
 have:=idL_succ (n-1)
 rw [show n-1+1=n by omega] at this
 rw [this,show ((n-1:Nat):Int)=(n:Int)-1 by omega]
theorem split_last {o:List Int} (h:o≠[]):o=o.take (o.length-1) ++ [o.getD (o.length-1) 0]:=by
 have hp:0<o.length:=by
  cases o with
  | nil=>exact absurd rfl h
  | cons=>simp
 apply List.ext_getElem
 ·rw [List.length_append,List.length_take,List.length_singleton]; omega
 ·intro i h1 h2
  by_cases e:i<o.length-1
  ·rw [List.getElem_append_left (by rw [List.length_take]; omega),List.getElem_take]
  ·have:i=o.length-1:=by omega
   subst this
   rw [List.getElem_append_right (by rw [List.length_take]; omega)]
   simp [List.getD,h1]
theorem layP_perm (l:List Ins):(nnL (layP l)).Perm (idL l.length):=by
 unfold layP
 split
 ·rename_i h; rw [h]; exact List.Perm.refl _
 ·rename_i hne
  have hpos:0<l.length:=by
   cases l with
   | nil=>exact absurd rfl hne
   | cons=>simp
  split
  ·split
   ·rw [nnL_app,nnL_neg,List.append_nil]; exact ordP_perm l
   ·exact ordP_perm l
  ·have hp:=ordP_perm (l.take (l.length-1))
   have etk:(l.take (l.length-1)).length=l.length-1:=by rw [List.length_take]; omega
   rw [etk] at hp
   rw [idL_pred hpos]
   split
   ·rename_i hs
    have hlast:=ordP_last (l.take (l.length-1)) (y:=(ordP (l.take (l.length-1))).getD ((ordP (l.take (l.length-1))).length-1) 0) (by
     have hp:0<(ordP (l.take (l.length-1))).length:=by
      cases hh:ordP (l.take (l.length-1)) with
      | nil=>exact absurd hh hs.1
      | cons=>simp
     exact last_get hp)
    have hsp:=split_last hs.1
    generalize ordP (l.take (l.length-1))=o at hp hlast hsp hs ⊢
    have e:nnL o=nnL (o.take (o.length-1)) ++ [o.getD (o.length-1) 0]:=by
     have h2:nnL o=nnL (o.take (o.length-1) ++ [o.getD (o.length-1) 0]):=by rw [← hsp]
     rw [h2,nnL_app,nnL_new hlast]
    rw [e] at hp
    have e2:nnL (o.take (o.length-1) ++ [(l.length:Int)-1,o.getD (o.length-1) 0])=nnL (o.take (o.length-1)) ++ ([(l.length:Int)-1] ++ [o.getD (o.length-1) 0]):=by
     rw [nnL_app]
     congr 1
     show nnL ([(l.length:Int)-1] ++ [o.getD (o.length-1) 0])=_
     rw [nnL_app,nnL_new hlast,nnL_new (by omega)]
    rw [e2]
    refine List.Perm.trans (List.Perm.append_left _ List.perm_append_comm) ?_
    rw [← List.append_assoc]
    exact List.Perm.append_right _ hp
   ·have e2:nnL (padL l (ordP (l.take (l.length-1))) (lastI l) ++ [(l.length:Int)-1,-1])=nnL (ordP (l.take (l.length-1))) ++ [(l.length:Int)-1]:=by
     rw [nnL_app,padL_nn]
     congr 1
     show nnL ([(l.length:Int)-1] ++ [-1])=_
     rw [nnL_app,nnL_new (by omega),nnL_neg,List.append_nil]
    rw [e2]
    exact List.Perm.append_right _ hp
theorem layP_len (l:List Ins):(layP l).length≤2*l.length+1:=by
 unfold layP
 split
 ·simp
 ·rename_i hne
  have hpos:0<l.length:=by
   cases l with
   | nil=>exact absurd rfl hne
   | cons=>simp
  have h1:=ordP_len l
  have h2:=ordP_len (l.take (l.length-1))
  have etk:(l.take (l.length-1)).length=l.length-1:=by rw [List.length_take]; omega
  rw [etk] at h2
  split
  ·split
   ·rw [List.length_append,List.length_singleton]; omega
   ·omega
  ·split
   ·rw [List.length_append,List.length_take]; simp; omega
   ·have:=(padL_len l (ordP (l.take (l.length-1))) (lastI l)).2
    rw [List.length_append]; simp; omega
theorem layP_ge (l:List Ins):l.length≤(layP l).length:=by
 have hp:=(layP_perm l).length_eq
 rw [idL_len] at hp
 have:(nnL (layP l)).length≤(layP l).length:=List.length_filter_le _ _
 omega
theorem layP_in (l:List Ins):∀ x∈layP l,x = -1∨(0≤x∧x<l.length):=by
 unfold layP
 split
 ·simp
 ·rename_i hne
  have hpos:0<l.length:=by
   cases l with
   | nil=>exact absurd rfl hne
   | cons=>simp
  have h1:=ordP_in l
  have h2:=ordP_in (l.take (l.length-1))
  have etk:(l.take (l.length-1)).length=l.length-1:=by rw [List.length_take]; omega
  rw [etk] at h2
  split
  ·split
   ·intro x hx
    rw [List.mem_append,List.mem_singleton] at hx
    rcases hx with hx | hx
    ·exact h1 x hx
    ·exact .inl hx
   ·exact h1
  ·split
   ·rename_i hs
    have hm:(ordP (l.take (l.length-1))).getD ((ordP (l.take (l.length-1))).length-1) 0∈ordP (l.take (l.length-1)):=by
     have hp:0<(ordP (l.take (l.length-1))).length:=by
      cases hh:ordP (l.take (l.length-1)) with
      | nil=>exact absurd hh hs.1
      | cons=>simp
     simp [List.getD,show (ordP (l.take (l.length-1))).length-1<(ordP (l.take (l.length-1))).length by omega]
    intro x hx
    rw [List.mem_append] at hx
    rcases hx with hx | hx
    ·have:=h2 x (List.mem_of_mem_take hx); omega
    ·simp only [List.mem_cons,List.not_mem_nil,or_false] at hx
     rcases hx with rfl | rfl
     ·omega
     ·have:=h2 _ hm; omega
   ·intro x hx
    rw [List.mem_append] at hx
    rcases hx with hx | hx
    ·unfold padL at hx
     split at hx
     ·have:=h2 x hx; omega
     ·rw [List.mem_append,List.mem_singleton] at hx
      rcases hx with hx | hx
      ·have:=h2 x hx; omega
      ·omega
    ·simp only [List.mem_cons,List.not_mem_nil,or_false] at hx
     omega
theorem layP_end (l:List Ins) (hne:l≠[]):0≤(layP l).getD ((layP l).length-1) 0→lateP (cAt l ((layP l).getD ((layP l).length-1) 0))=false:=by
 have hpos:0<l.length:=by
  cases l with
  | nil=>exact absurd rfl hne
  | cons=>simp
 have snoc:∀ (o:List Int) (x:Int),(o ++ [x]).getD ((o ++ [x]).length-1) 0=x:=fun o x=>by
  rw [List.length_append,List.length_singleton,Nat.add_sub_cancel]
  simp [List.getD_eq_getElem?_getD]
 have snoc2:∀ (o:List Int) (y x:Int),(o ++ [y,x]).getD ((o ++ [y,x]).length-1) 0=x:=fun o y x=>by
  have:=snoc (o ++ [y]) x
  rwa [List.append_assoc] at this
 unfold layP
 rw [if_neg hne]
 split
 ·split
  ·rw [snoc]; intro h; omega
  ·rename_i h; intro _; simpa using h
 ·split
  ·rename_i hs
   rw [snoc2]
   intro _
   have:=hs.2
   unfold slotOk at this
   simp only [Bool.and_eq_true,Bool.not_eq_true'] at this
   exact this.1.1
  ·rw [snoc2]; intro h; omega
theorem layP_goes (l:List Ins) (hne:l≠[]) (hg:goesP (lastI l)=true):1<(layP l).length∧(layP l).getD ((layP l).length-2) 0=(l.length:Int)-1:=by
 have snoc2:∀ (o:List Int) (y x:Int),1<(o ++ [y,x]).length∧(o ++ [y,x]).getD ((o ++ [y,x]).length-2) 0=y:=fun o y x=>by
  rw [List.length_append]
  refine ⟨by simp,?_⟩
  simp [List.getD_eq_getElem?_getD]
 unfold layP
 rw [if_neg hne,if_neg (by rw [hg]; simp)]
 split
 ·exact snoc2 _ _ _
 ·exact snoc2 _ _ _

end Go.Proofs.YtkfemiloehkmhaaGreat.S

set_option linter.unusedSimpArgs false
set_option linter.unusedVariables false
set_option maxRecDepth 100000
namespace Go.Proofs.YtkfemiloehkmhaaGreat.S
open Go Go.RowKit Go.Alog Go.Proofs.YtkfemiloehkmhaaGreat.T Go.Proofs.YtkfemiloehkmhaaGreat.V

theorem ins_eq' (i j:Ins):(i.op == j.op && (i.a == j.a && (i.b == j.b && (i.c == j.c && i.imm == j.imm))))=decide (i=j):=by
 obtain ⟨a1,a2,a3,a4,a5⟩:=i
 obtain ⟨b1,b2,b3,b4,b5⟩:=j
 rw [Bool.eq_iff_iff]
 simp [Ins.mk.injEq]
theorem eqp_h (i j:Ins):pval Tryz.prog (Op.equal 36 i.val j.val)=some (decide (i=j)):=by
 have h2:=eqIn_struct (P:=Tryz.prog) (t:=36) (k:=.i64) (xs:=i.cells.toArray) (ys:=j.cells.toArray) Tryz.underlying36 (by kernel_rfl) 9998 (fun f=>match f.offset with | 0=>i.op == j.op | 1=>i.a == j.a | 2=>i.b == j.b | 3=>i.c == j.c | _=>i.imm == j.imm) (by
  intro f hf
  simp only [List.mem_cons,List.not_mem_nil,or_false] at hf
  rcases hf with rfl | rfl | rfl | rfl | rfl <;> exact ⟨by decide,Tryz.underlying3,_,_,rfl,rfl,rfl⟩)
 simp only [List.all_cons,List.all_nil,Bool.and_true,ins_eq'] at h2
 exact h2
theorem eqp_i (i j:Ins):EqP Tryz.prog .eql 36 i.val j.val (decide (i=j)):=by
 have h1:pval Tryz.prog (eqGuard .eql 36 (.const undef) (.const undef) i.val j.val)=some ():=by kernel_rfl
 unfold EqP
 rw [pval_bind',h1,Option.bind_some]
 show pval Tryz.prog (Op.equal 36 i.val j.val >>= fun b=>pure (Value.bool b))=_
 rw [pval_bind',eqp_h]; rfl
end Go.Proofs.YtkfemiloehkmhaaGreat.S

