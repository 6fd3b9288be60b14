/- YtkfemiloehkmhaaGreat: a text of our own, by an AI agent: LsBY -/
import Derived.Test.YtkfemiloehkmhaaGreatLrBY
set_option linter.unusedSimpArgs false
set_option linter.unusedVariables false
set_option maxRecDepth 100000
namespace Go.Proofs.YtkfemiloehkmhaaGreat.S
open Go Go.RowKit Go.Alog

theorem oldU_pre (code:List Ins) (j d:Nat):∃ t,oldU code (j+d)=oldU code j ++ t:=by
 induction d with
 | zero=>exact ⟨[],by simp⟩
 | succ d ih =>
  obtain ⟨t,ht⟩:=ih
  refine ⟨t ++ oldB code (j+d),?_⟩
  show oldU code (j+d) ++ oldB code (j+d)=_
  rw [ht,List.append_assoc]
theorem outU_pre (code:List Ins) (j d:Nat):∃ t,outU code (j+d)=outU code j ++ t:=by
 induction d with
 | zero=>exact ⟨[],by simp⟩
 | succ d ih =>
  obtain ⟨t,ht⟩:=ih
  refine ⟨t ++ layB (blkI code (j+d)),?_⟩
  show outU code (j+d) ++ layB (blkI code (j+d))=_
  rw [ht,List.append_assoc]
theorem old_at {code:List Ins} {j:Nat} (hj:j<mB code) {p:Nat} (hp:p<(layP (blkI code j)).length):(oldU code (mB code)).getD ((outU code j).length+p) 0=if 0≤(layP (blkI code j)).getD p 0 then nx code j+(layP (blkI code j)).getD p 0 else -1:=by
 obtain ⟨t,ht⟩:=oldU_pre code (j+1) (mB code-(j+1))
 rw [show j+1+(mB code-(j+1))=mB code by omega] at ht
 have e:oldU code (j+1)=oldU code j ++ oldB code j:=rfl
 have e2:((oldU code j ++ oldB code j) ++ t)[(oldU code j).length+p]?=some (if 0≤(layP (blkI code j))[p] then nx code j+(layP (blkI code j))[p] else -1):=by
  rw [List.append_assoc,List.getElem?_append_right (by omega),Nat.add_sub_cancel_left,List.getElem?_append_left (by simp [oldB]; exact hp)]
  unfold oldB
  rw [List.getElem?_map,List.getElem?_eq_getElem hp]
  rfl
 have e3:(layP (blkI code j)).getD p 0=(layP (blkI code j))[p]:=by simp [List.getD,hp]
 rw [ht,e,← oldU_len,e3]
 show ((oldU code j ++ oldB code j) ++ t)[(oldU code j).length+p]?.getD 0=_
 rw [e2]; rfl
theorem out_at {code:List Ins} {j:Nat} (hj:j<mB code) {p:Nat} (hp:p<(layP (blkI code j)).length):cAt (outU code (mB code)) (((outU code j).length+p:Nat):Int)=pickAt (blkI code j) ((layP (blkI code j)).getD p 0):=by
 obtain ⟨t,ht⟩:=outU_pre code (j+1) (mB code-(j+1))
 rw [show j+1+(mB code-(j+1))=mB code by omega] at ht
 have e:outU code (j+1)=outU code j ++ layB (blkI code j):=rfl
 have hl:=layB_len (blkI code j)
 have e2:((outU code j ++ layB (blkI code j)) ++ t)[(outU code j).length+p]?=some (pickAt (blkI code j) (layP (blkI code j))[p]):=by
  rw [List.append_assoc,List.getElem?_append_right (by omega),Nat.add_sub_cancel_left,List.getElem?_append_left (by omega)]
  unfold layB pickP
  rw [List.getElem?_map,List.getElem?_eq_getElem hp]
  rfl
 have e3:(layP (blkI code j)).getD p 0=(layP (blkI code j))[p]:=by simp [List.getD,hp]
 rw [ht,e,e3]
 unfold cAt
 rw [show (((outU code j).length+p:Nat):Int).toNat=(outU code j).length+p by omega]
 show ((outU code j ++ layB (blkI code j)) ++ t)[(outU code j).length+p]?.getD default=_
 rw [e2]; rfl
theorem layP_nodup (l:List Ins):(nnL (layP l)).Nodup:=(layP_perm l).nodup_iff.2 (idL_nodup _)
theorem tok_goes {i:Ins} (h:tok i=true):goesP i=true:=by
 unfold tok at h
 unfold goesP
 simp only [Bool.and_eq_true,decide_eq_true_eq] at h ⊢
 exact ⟨h.1,by omega⟩
theorem last_blk {code:List Ins} {j:Nat} (hj:j<mB code):lastI (blkI code j)=cAt code (nx code (j+1)-1):=by
 have h1:=nx_in hj
 have h2:=blkI_len hj
 unfold lastI
 rw [blkI_at hj (by omega) (by omega)]
 congr 1
 omega
theorem blk_ne {code:List Ins} {j:Nat} (hj:j<mB code):blkI code j≠[]:=fun e=>by
 have h1:=nx_in hj
 have h2:=blkI_len hj
 rw [e] at h2; simp at h2; omega
theorem step_skip {code:List Ins} {j:Nat} (hj:j<mB code) {p:Nat} (hp:p<(layP (blkI code j)).length) (hs:tok (cAt code (nx code (j+1)-1))=false∨p≠(layP (blkI code j)).length-2) (cur:List Ins):stepAt code ((outU code j).length+p) cur=some cur:=by
 unfold stepAt
 rw [old_at hj hp]
 refine if_pos ?_
 have h1:=nx_in hj
 have h2:=blkI_len hj
 have hin:=layP_in (blkI code j) ((layP (blkI code j)).getD p 0) (by simp [List.getD,hp])
 by_cases hx:0≤(layP (blkI code j)).getD p 0
 ·rw [if_pos hx]
  right
  cases ht:tok (cAt code (nx code j+(layP (blkI code j)).getD p 0)) with
  | false=>rfl
  | true =>
   exfalso
   have hg:=tok_goes ht
   have hlast:nx code j+(layP (blkI code j)).getD p 0=nx code (j+1)-1:=by
    refine Classical.byContradiction fun hn=>?_
    have:=nogo code code.length j hj (q:=nx code j+(layP (blkI code j)).getD p 0) (show nx code j≤_ by omega) (show _<nx code (j+1) by omega)
    rw [this] at hg; cases hg
   rw [hlast] at ht hg
   rcases hs with h | h
   ·rw [h] at ht; cases ht
   ·obtain ⟨g1,g2⟩:=layP_goes (blkI code j) (blk_ne hj) (by rw [last_blk hj]; exact hg)
    have hnd:=layP_nodup (blkI code j)
    have e:(layP (blkI code j)).getD p 0=(layP (blkI code j)).getD ((layP (blkI code j)).length-2) 0:=by rw [g2]; omega
    rcases Nat.lt_or_gt_of_ne h with h3 | h3
    ·have:=nn_once hnd p _ h3 (by omega) e; omega
    ·have:=nn_once hnd _ p h3 hp e.symm; omega
 ·rw [if_neg hx]; left; omega
theorem posF_skip {code:List Ins} {a:Nat}:∀ {d:Nat},(∀ k,k<d→∀ cur,stepAt code (a+k) cur=some cur)→posF code (a+d)=posF code a
 | 0,_=>rfl
 | d+1,h=>by
  show (posF code (a+d)).bind (stepAt code (a+d))=_
  rw [posF_skip (d:=d) fun k hk=>h k (by omega)]
  cases posF code a with
  | none=>rfl
  | some cur=>exact h d (by omega) cur
theorem posF_keep {code:List Ins}:∀ {k:Nat} {cur:List Ins},posF code k=some cur→∀ p:Nat,k≤p→cAt cur p=cAt (outU code (mB code)) p:=by
 intro k
 induction k with
 | zero=>intro cur h p _; injection h with h; rw [← h]
 | succ k ih =>
  intro cur h p hp
  unfold posF at h
  obtain ⟨c1,hc,hs⟩:=Option.bind_eq_some_iff.1 h
  have:=ih hc p (by omega)
  unfold stepAt at hs
  split at hs
  ·injection hs with hs; rw [← hs]; exact this
  ·split at hs
   ·injection hs with hs
    rw [← hs,← this]
    unfold cAt
    simp only [List.getD]
    rw [List.getElem?_set_ne (by omega)]
   ·cases hs
theorem outU_succ_len (code:List Ins) (j:Nat):(outU code (j+1)).length=(outU code j).length+(layP (blkI code j)).length:=by
 show (outU code j ++ layB (blkI code j)).length=_
 rw [List.length_append,layB_len]
def atP (code:List Ins) (j:Nat):Nat:=(outU code (j+1)).length-2
theorem atP_lt {code:List Ins} {j:Nat} (hj:j<mB code) (hg:goesP (cAt code (nx code (j+1)-1))=true):(outU code j).length≤atP code j∧atP code j+2=(outU code (j+1)).length∧(oldU code (mB code)).getD (atP code j) 0=nx code (j+1)-1∧cAt (outU code (mB code)) (atP code j:Int)=cAt code (nx code (j+1)-1):=by
 obtain ⟨g1,g2⟩:=layP_goes (blkI code j) (blk_ne hj) (by rw [last_blk hj]; exact hg)
 have h0:=outU_succ_len code j
 have h1:=nx_in hj
 have h2:=blkI_len hj
 have e:atP code j=(outU code j).length+((layP (blkI code j)).length-2):=by unfold atP; omega
 refine ⟨by omega,by omega,?_,?_⟩
 ·rw [e,old_at hj (by omega),g2,if_pos (by omega)]; omega
 ·rw [e,out_at hj (by omega),g2]
  unfold pickAt
  rw [if_pos ⟨by omega,by omega⟩,← last_blk hj]
  rfl
theorem posF_to {code:List Ins} {j:Nat} (hj:j<mB code) (hg:goesP (cAt code (nx code (j+1)-1))=true):posF code (atP code j)=posF code (outU code j).length∧posF code (outU code (j+1)).length=(posF code (atP code j)).bind (stepAt code (atP code j)):=by
 obtain ⟨h1,h2,_⟩:=atP_lt hj hg
 have h0:=outU_succ_len code j
 constructor
 ·have:=posF_skip (code:=code) (a:=(outU code j).length) (d:=atP code j-(outU code j).length) fun k hk cur=>step_skip hj (by omega) (.inr (by omega)) cur
  rwa [show (outU code j).length+(atP code j-(outU code j).length)=atP code j by omega] at this
 ·have:=posF_skip (code:=code) (a:=atP code j+1) (d:=1) fun k hk cur=>by
   have e:atP code j+1+k=(outU code j).length+(atP code j+1-(outU code j).length):=by omega
   rw [e]
   exact step_skip hj (by omega) (.inr (by omega)) cur
  rw [← h2]
  exact this
theorem posF_yes {code:List Ins} {j:Nat} (hj:j<mB code) (ht:tok (cAt code (nx code (j+1)-1))=true) {cur:List Ins} (hc:posF code (outU code j).length=some cur) :
  cAt cur (atP code j)=cAt code (nx code (j+1)-1) ∧
  posF code (outU code (j+1)).length=if rightR (patI code (atP code j) (cAt code (nx code (j+1)-1)) (tgt (cAt code (nx code (j+1)-1)) (nx code (j+1)-1)))=true then some (cur.set (atP code j) (patI code (atP code j) (cAt code (nx code (j+1)-1)) (tgt (cAt code (nx code (j+1)-1)) (nx code (j+1)-1)))) else none:=by
 have hg:=tok_goes ht
 obtain ⟨h1,h2,h3,h4⟩:=atP_lt hj hg
 obtain ⟨p1,p2⟩:=posF_to hj hg
 have hci:cAt cur (atP code j)=cAt code (nx code (j+1)-1):=by
  rw [posF_keep hc _ h1,h4]
 have h5:=nx_in hj
 refine ⟨hci,?_⟩
 rw [p2,p1,hc]
 show stepAt code (atP code j) cur=_
 unfold stepAt
 rw [h3,hci,if_neg (by rw [ht]; simp; omega)]
end Go.Proofs.YtkfemiloehkmhaaGreat.S

