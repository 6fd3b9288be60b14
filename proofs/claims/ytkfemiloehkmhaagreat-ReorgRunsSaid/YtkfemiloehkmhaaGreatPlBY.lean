/- YtkfemiloehkmhaaGreat: a text of our own, by an AI agent: PlBY -/
import Derived.Test.YtkfemiloehkmhaaGreatHdBY
import Derived.Test.YtkfemiloehkmhaaGreatCm1Y
set_option linter.unusedSimpArgs false
set_option linter.unusedVariables false
set_option maxRecDepth 100000
namespace Go.Proofs.YtkfemiloehkmhaaGreat.S
open Go Go.RowKit Go.Alog Go.Proofs.YtkfemiloehkmhaaGreat.T Go.Proofs.YtkfemiloehkmhaaGreat.V

def hsUp (code:List Ins) (a:Nat):List Int:=((List.range a).map (fun k:Nat=>(k:Int))).filter (headP code)
theorem hsUp_succ (code:List Ins) (a:Nat):hsUp code (a+1)=hsUp code a ++ (if headP code a=true then [(a:Int)] else []):=by
 unfold hsUp
 rw [List.range_succ,List.map_append,List.filter_append]
 congr 1
 simp only [List.map_cons,List.map_nil,List.filter_cons,List.filter_nil]
theorem hsUp_pre (code:List Ins) (a d:Nat):∃ t,hsUp code (a+d)=hsUp code a ++ t:=by
 induction d with
 | zero=>exact ⟨[],by simp⟩
 | succ d ih =>
  obtain ⟨t,ht⟩:=ih
  rw [← Nat.add_assoc,hsUp_succ,ht,List.append_assoc]
  exact ⟨_,rfl⟩
theorem hsUp_at {code:List Ins} {a n:Nat} (h:a<n) (hh:headP code a=true):(hsUp code a).length<(hsUp code n).length∧(hsUp code n).getD (hsUp code a).length 0=a:=by
 obtain ⟨t,ht⟩:=hsUp_pre code (a+1) (n-(a+1))
 rw [show a+1+(n-(a+1))=n by omega,hsUp_succ,if_pos hh] at ht
 rw [ht]
 refine ⟨by simp,?_⟩
 simp [List.getD]
theorem headsP_up {code:List Ins} (h:fitP code=true):headsP code=hsUp code code.length:=by
 unfold headsP hsUp; rw [if_pos h]

theorem blk_get:∀ (l:List (Int × Int)) (k:Nat),k<l.length→(blkCells l)[k*2]?=some (.int .i64 (l.getD k (0,0)).1)∧(blkCells l)[k*2+1]?=some (.int .i64 (l.getD k (0,0)).2)
 | [],k,h=>by simp at h
 | p :: l,0,h=>by simp [blkCells]
 | p :: l,k+1,h=>by
  have:=blk_get l k (by simpa using h)
  have e:blkCells (p :: l) = [.int .i64 p.1,.int .i64 p.2] ++ blkCells l:=by simp [blkCells]
  rw [e]
  refine ⟨?_,?_⟩
  ·rw [List.getElem?_append_right (by simp; omega)]
   simp only [List.length_cons,List.length_nil]
   rw [show (k+1)*2-(0+1+1)=k*2 by omega,this.1]; simp
  ·rw [List.getElem?_append_right (by simp; omega)]
   simp only [List.length_cons,List.length_nil]
   rw [show (k+1)*2+1-(0+1+1)=k*2+1 by omega,this.2]; simp
theorem cell_blk {m:AM} {a:Addr} {l:List (Int × Int)} (h:Cells m a (blkCells l)) {i:Int} (h0:0≤i) (h1:i<l.length) :
  m.cell (a.add (i.toNat*2))=some (.int .i64 (l.getD i.toNat (0,0)).1)∧m.cell ((a.add (i.toNat*2)).add 1)=some (.int .i64 (l.getD i.toNat (0,0)).2):=by
 have:=blk_get l i.toNat (by omega)
 refine ⟨h _ _ this.1,?_⟩
 rw [Addr.add_add]
 exact h _ _ this.2
theorem blkP_get (h:List Int) (n:Int) {k:Nat} (hk:k<h.length):(blkP h n).getD k (0,0)=blkAt h n k:=by
 unfold blkP
 simp [List.getD,hk]

theorem blk2 {w0:World} {m:AM} {T:TypeId} {z0 z1 v0 v1:Value} {K:Nat→AM→Prop} (hK:∀ b m',m.le m'→m b=none→w0.heap.size≤b→m' b=some (.cells #[v0,v1] T)→K b m') :
  ∀ b:Nat,w0.heap.size≤b→m b=none→let m1:=AM.upd m b (.cells #[z0,z1] T);
   StC w0.heap.size m1 ⟨b,0,none⟩ v0 fun m2=>StC w0.heap.size m2 ⟨b,1,none⟩ v1 fun m3=>K b m3:=by
 intro b hb hm m1
 refine StC_upd.2 ⟨hb,by simp,StC_upd.2 ⟨hb,by simp,?_⟩⟩
 exact hK b _ (le_new hm _) hm hb (by rw [upd_get_same]; simp)

end Go.Proofs.YtkfemiloehkmhaaGreat.S

set_option linter.unusedSimpArgs false
set_option linter.unusedVariables false
set_option maxRecDepth 100000
namespace Go.Proofs.YtkfemiloehkmhaaGreat.S
open Go Go.RowKit Go.Alog Go.Proofs.YtkfemiloehkmhaaGreat.T Go.Proofs.YtkfemiloehkmhaaGreat.V

theorem hsUp_mem {code:List Ins} {n:Nat} {x:Int}:x∈hsUp code n↔0≤x∧x<n∧headP code x=true:=by
 unfold hsUp
 rw [List.mem_filter,List.mem_map]
 constructor
 ·rintro ⟨⟨j,hj,rfl⟩,h⟩
  have:=List.mem_range.1 hj
  exact ⟨by omega,by omega,h⟩
 ·rintro ⟨h0,h1,h⟩
  exact ⟨⟨x.toNat,List.mem_range.2 (by omega),by omega⟩,h⟩
theorem hsUp_mono {code:List Ins} {n q r:Nat} (h:q<r) (hr:r<(hsUp code n).length):(hsUp code n).getD q 0<(hsUp code n).getD r 0:=by
 have hp:(hsUp code n).Pairwise (· < ·):=(range_rise n).filter _
 rw [List.pairwise_iff_getElem] at hp
 have:=hp q r (by omega) hr h
 simpa [List.getD,hr,show q<(hsUp code n).length by omega] using this
theorem hsUp_get {code:List Ins} {n q:Nat} (hq:q<(hsUp code n).length):(hsUp code n).getD q 0∈hsUp code n:=by
 simp [List.getD,hq]
theorem mem_at {l:List Int} {x:Int} (h:x∈l):∃ r,r<l.length∧l.getD r 0=x:=by
 obtain ⟨r,hr,e⟩:=List.mem_iff_getElem.1 h
 exact ⟨r,hr,by simp [List.getD,hr,e]⟩

def nxt (code:List Ins) (n j:Nat):Int:=if j<(hsUp code n).length then (hsUp code n).getD j 0 else n
theorem blkAt_nxt (code:List Ins) (n j:Nat) (h:j<(hsUp code n).length):blkAt (hsUp code n) n j=(nxt code n j,nxt code n (j+1)):=by
 unfold blkAt nxt
 rw [if_pos h]
theorem nxt_0 (code:List Ins) (n:Nat):nxt code n 0=0:=by
 unfold nxt
 by_cases hn:n=0
 ·subst hn; simp [hsUp]
 ·have:=hsUp_at (code:=code) (a:=0) (n:=n) (by omega) (by simp [headP])
  have e:(hsUp code 0).length=0:=by simp [hsUp]
  rw [e] at this
  rw [if_pos this.1,this.2]; rfl
theorem nxt_lt (code:List Ins) (n j:Nat) (h:j<(hsUp code n).length):0≤nxt code n j∧nxt code n j<nxt code n (j+1)∧nxt code n (j+1)≤n:=by
 unfold nxt
 rw [if_pos h]
 have h1:=hsUp_mem.1 (hsUp_get h)
 split
 ·rename_i h2
  have h3:=hsUp_mem.1 (hsUp_get h2)
  have h4:=hsUp_mono (code:=code) (n:=n) (q:=j) (r:=j+1) (by omega) h2
  omega
 ·omega
theorem nxt_end (code:List Ins) (n j:Nat) (h:(hsUp code n).length≤j):nxt code n j=n:=by unfold nxt; rw [if_neg (by omega)]
theorem nogo (code:List Ins) (n j:Nat) (h:j<(hsUp code n).length) {q:Int} (h0:nxt code n j≤q) (h1:q+1<nxt code n (j+1)):goesP (cAt code q)=false:=by
 cases hg:goesP (cAt code q) with
 | false=>rfl
 | true =>
  have hl:=nxt_lt code n j h
  have hh:headP code (q+1)=true:=by
   unfold headP
   rw [show q+1-1=q by omega,hg]; simp
  obtain ⟨r,hr,e⟩:=mem_at (hsUp_mem.2 ⟨by omega,by omega,hh⟩:q+1∈hsUp code n)
  have hj:nxt code n j=(hsUp code n).getD j 0:=by unfold nxt; rw [if_pos h]
  have hrj:j<r:=by
   rcases Nat.lt_trichotomy j r with h2 | h2 | h2
   ·exact h2
   ·subst h2; omega
   ·have:=hsUp_mono (code:=code) (n:=n) h2 h; omega
  have hn1:nxt code n (j+1)=(hsUp code n).getD (j+1) 0:=by unfold nxt; rw [if_pos (by omega)]
  rcases Nat.lt_or_ge (j+1) r with h2 | h2
  ·have:=hsUp_mono (code:=code) (n:=n) h2 hr; omega
  ·have:r=j+1:=by omega
   subst this; omega

theorem target_head {code:List Ins} (hf:fitP code=true) {k:Nat} (hk:k<code.length) (ht:tok (cAt code k)=true):tgt (cAt code k) k=code.length∨∃ q,q<(hsUp code code.length).length∧nxt code code.length q=tgt (cAt code k) k:=by
 have hb:=(fitP_at hf hk).2 ht
 by_cases e:tgt (cAt code k) k=code.length
 ·exact .inl e
 ·right
  have hh:headP code (tgt (cAt code k) k)=true:=by
   unfold headP
   rw [Bool.or_eq_true]
   right
   exact List.any_eq_true.2 ⟨k,List.mem_range.2 hk,by unfold toAt; rw [ht]; simp⟩
  obtain ⟨q,hq,e2⟩:=mem_at (hsUp_mem.2 ⟨hb.1,by omega,hh⟩:tgt (cAt code k) k∈hsUp code code.length)
  exact ⟨q,hq,by unfold nxt; rw [if_pos hq]; exact e2⟩
end Go.Proofs.YtkfemiloehkmhaaGreat.S

