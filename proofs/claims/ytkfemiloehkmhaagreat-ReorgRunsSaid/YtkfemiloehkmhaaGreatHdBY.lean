/- YtkfemiloehkmhaaGreat: a text of our own, by an AI agent: HdBY -/
import Derived.Test.YtkfemiloehkmhaaGreatBkBY
import Derived.Test.YtkfemiloehkmhaaGreatSgBY
import Derived.Test.YtkfemiloehkmhaaGreatSgCY
set_option linter.unusedSimpArgs false
set_option linter.unusedVariables false
set_option maxRecDepth 100000
namespace Go.Proofs.YtkfemiloehkmhaaGreat.S
open Go Go.RowKit Go.Alog

def addS (zs:List Int) (x:Int):List Int:=if zs.contains x then zs else zs ++ [x]
theorem addS_mem {zs:List Int} {x y:Int}:y∈addS zs x↔y∈zs∨y=x:=by
 unfold addS
 split
 ·rename_i h
  have:x∈zs:=by simpa using h
  constructor
  ·exact .inl
  ·rintro (h | rfl)
   ·exact h
   ·exact this
 ·simp
theorem addS_nodup {zs:List Int} (h:zs.Nodup) (x:Int):(addS zs x).Nodup:=by
 unfold addS
 split
 ·exact h
 ·rename_i hx
  rw [List.nodup_append]
  refine ⟨h,by simp,?_⟩
  intro a ha b hb e
  simp only [List.mem_singleton] at hb
  subst hb; subst e
  exact hx (by simpa using ha)
theorem addS_len (zs:List Int) (x:Int):zs.length≤(addS zs x).length∧(addS zs x).length≤zs.length+1:=by
 unfold addS; split <;> simp

def hsStep (code:List Ins) (zs:List Int) (k:Nat):List Int :=
 let z:=if tok (cAt code k)=true then addS zs (tgt (cAt code k) k) else zs
 if goesP (cAt code k)=true then addS z ((k:Int)+1) else z
def hsL (code:List Ins) (n:Nat):List Int:=(List.range n).foldl (hsStep code) (addS [] 0)
theorem hsL_succ (code:List Ins) (n:Nat):hsL code (n+1)=hsStep code (hsL code n) n:=by
 unfold hsL; rw [List.range_succ,List.foldl_append]; rfl
theorem hsStep_len (code:List Ins) (zs:List Int) (k:Nat):(hsStep code zs k).length≤zs.length+2:=by
 unfold hsStep
 have h1:=addS_len zs (tgt (cAt code k) k)
 have h2:=addS_len zs ((k:Int)+1)
 have h3:=addS_len (addS zs (tgt (cAt code k) k)) ((k:Int)+1)
 dsimp only
 split <;> split <;> omega
theorem hsL_len (code:List Ins) (n:Nat):(hsL code n).length≤1+2*n:=by
 induction n with
 | zero=>simp [hsL,addS]
 | succ n ih=>rw [hsL_succ]; have:=hsStep_len code (hsL code n) n; omega
theorem hsStep_nodup (code:List Ins) {zs:List Int} (h:zs.Nodup) (k:Nat):(hsStep code zs k).Nodup:=by
 unfold hsStep
 dsimp only
 split <;> split <;> first | exact addS_nodup (addS_nodup h _) _ | exact addS_nodup h _ | exact h
theorem hsL_nodup (code:List Ins) (n:Nat):(hsL code n).Nodup:=by
 induction n with
 | zero=>simp [hsL,addS]
 | succ n ih=>rw [hsL_succ]; exact hsStep_nodup code ih n
theorem hsL_mem (code:List Ins) (n:Nat) (x:Int):x∈hsL code n↔x=0∨∃ j,j<n∧((tok (cAt code j)=true∧tgt (cAt code j) j=x)∨(goesP (cAt code j)=true∧x=(j:Int)+1)):=by
 induction n with
 | zero=>simp [hsL,addS]
 | succ n ih =>
  have key:x∈hsStep code (hsL code n) n↔x∈hsL code n∨(tok (cAt code n)=true∧tgt (cAt code n) n=x)∨(goesP (cAt code n)=true∧x=(n:Int)+1):=by
   unfold hsStep
   dsimp only
   by_cases h1:tok (cAt code n)=true <;> by_cases h2:goesP (cAt code n)=true <;> simp only [h1,h2,if_true,if_false,addS_mem,true_and,false_and,or_false,false_or,Bool.false_eq_true] <;> constructor <;> (intro h; rcases h with h | h) <;> (try rcases h with h | h) <;> simp_all
  rw [hsL_succ,key,ih]
  constructor
  ·rintro ((h | ⟨j,hj,h⟩) | h)
   ·exact .inl h
   ·exact .inr ⟨j,by omega,h⟩
   ·exact .inr ⟨n,by omega,h⟩
  ·rintro (h | ⟨j,hj,h⟩)
   ·exact .inl (.inl h)
   ·by_cases e:j=n
    ·subst e; exact .inr h
    ·exact .inl (.inr ⟨j,by omega,h⟩)

theorem rise_eq:∀ {l r:List Int},l.Pairwise (· < ·)→r.Pairwise (· < ·)→(∀ x,x∈l↔x∈r)→l=r
 | [],[],_,_,_=>rfl
 | [],b :: r,_,_,h=>absurd ((h b).2 (by simp)) (by simp)
 | a :: l,[],_,_,h=>absurd ((h a).1 (by simp)) (by simp)
 | a :: l,b :: r,hl,hr,h=>by
  rw [List.pairwise_cons] at hl hr
  have hab:a=b:=by
   have h1:=(h a).1 (by simp)
   have h2:=(h b).2 (by simp)
   simp only [List.mem_cons] at h1 h2
   rcases h1 with h1 | h1
   ·exact h1
   ·rcases h2 with h2 | h2
    ·exact h2.symm
    ·have:=hl.1 _ h2; have:=hr.1 _ h1; omega
  subst hab
  rw [rise_eq hl.2 hr.2 fun x=>?_]
  have:=h x
  simp only [List.mem_cons] at this
  constructor
  ·intro hx
   rcases this.1 (.inr hx) with e | e
   ·have:=hl.1 _ hx; omega
   ·exact e
  ·intro hx
   rcases this.2 (.inr hx) with e | e
   ·have:=hr.1 _ hx; omega
   ·exact e

def sortS (zs:List Int):List Int:=zs.mergeSort fun x y=>decide (x≤y)
theorem sortS_rise {zs:List Int} (h:zs.Nodup):(sortS zs).Pairwise (· < ·):=by
 have h1:(sortS zs).Pairwise (fun x y=>decide (x≤y)=true):=List.pairwise_mergeSort (fun a b c h1 h2=>by simp at *; omega) (fun a b=>by simp; omega) zs
 have h2:(sortS zs).Nodup:=(List.mergeSort_perm zs _).nodup_iff.2 h
 refine (h1.and h2).imp fun {a b} h=>?_
 have:=h.1; have:=h.2
 simp at *; omega

theorem range_rise (n:Nat):((List.range n).map (fun k:Nat=>(k:Int))).Pairwise (· < ·):=by
 rw [List.pairwise_map]
 exact List.pairwise_lt_range.imp fun h=>by omega

def headsP (code:List Ins):List Int:=if fitP code=true then ((List.range code.length).map (fun k:Nat=>(k:Int))).filter (headP code) else []

theorem fitP_at {code:List Ins} (h:fitP code=true) {j:Nat} (hj:j<code.length):rightR (cAt code j)=true∧(tok (cAt code j)=true→0≤tgt (cAt code j) j∧tgt (cAt code j) j≤code.length):=by
 unfold fitP at h
 rw [Bool.and_eq_true,List.all_eq_true] at h
 have:=h.2 j (List.mem_range.2 hj)
 unfold fitAt at this
 rw [Bool.and_eq_true] at this
 refine ⟨this.1,fun ht=>?_⟩
 have h2:=this.2
 rw [ht] at h2
 simp at h2
 omega

theorem heads_eq {code:List Ins} (hf:fitP code=true) (hn:code≠[]):sortS ((hsL code code.length).filter (fun x=>x != (code.length:Int)))=headsP code:=by
 have hpos:0<code.length:=by cases code with
  | nil=>exact absurd rfl hn
  | cons=>simp
 unfold headsP
 rw [if_pos hf]
 refine rise_eq (sortS_rise ((hsL_nodup code _).filter _)) ((range_rise _).filter _) fun x=>?_
 have hp:x∈sortS ((hsL code code.length).filter (fun x=>x != (code.length:Int)))↔x∈(hsL code code.length).filter (fun x=>x != (code.length:Int)):=(List.mergeSort_perm _ _).mem_iff
 rw [hp,List.mem_filter,List.mem_filter,hsL_mem]
 simp only [List.mem_map,List.mem_range]
 unfold headP
 constructor
 ·rintro ⟨h1,h2⟩
  have h2:x≠code.length:=by simpa using h2
  rcases h1 with rfl | ⟨j,hj,⟨ht,e⟩ | ⟨hg,e⟩⟩
  ·exact ⟨⟨0,hpos,rfl⟩,by simp⟩
  ·have:=(fitP_at hf hj).2 ht
   refine ⟨⟨x.toNat,by omega,by omega⟩,?_⟩
   rw [Bool.or_eq_true]
   right
   refine List.any_eq_true.2 ⟨j,List.mem_range.2 hj,?_⟩
   unfold toAt
   rw [ht,e]; simp
  ·refine ⟨⟨j+1,by omega,by omega⟩,?_⟩
   rw [e,show ((j:Int)+1-1)=j by omega,hg]; simp
 ·rintro ⟨⟨j,hj,rfl⟩,h⟩
  refine ⟨?_,by simp; omega⟩
  rw [Bool.or_eq_true,Bool.or_eq_true] at h
  rcases h with (h | h) | h
  ·exact .inl (by simpa using h)
  ·by_cases e:j=0
   ·left; omega
   ·right
    refine ⟨j-1,by omega,.inr ⟨?_,by omega⟩⟩
    rw [show ((j-1:Nat):Int)=(j:Int)-1 by omega]; exact h
  ·obtain ⟨q,hq,hq2⟩:=List.any_eq_true.1 h
   unfold toAt at hq2
   rw [Bool.and_eq_true] at hq2
   exact .inr ⟨q,List.mem_range.1 hq,.inl ⟨hq2.1,by simpa using hq2.2⟩⟩
end Go.Proofs.YtkfemiloehkmhaaGreat.S

set_option linter.unusedSimpArgs false
set_option linter.unusedVariables false
set_option maxRecDepth 100000
namespace Go.Proofs.YtkfemiloehkmhaaGreat.S
open Go Go.RowKit Go.Alog Go.Proofs.YtkfemiloehkmhaaGreat.T Go.Proofs.YtkfemiloehkmhaaGreat.V

theorem SetA.le {m m':AM} {B s:Nat} {zs:List Int} {fp:List Nat} (h:SetA m B s zs fp) (l:m.le m'):SetA m' B s zs fp:=by
 obtain ⟨mp,A,c,hs,hB,hO,hm,hfp⟩:=h
 refine ⟨mp,A,c,l _ _ hs,hB,hO.le l,?_,hfp⟩
 rcases hm with h | ⟨r,es,clk,h1,h2,h3,h4⟩
 ·exact .inl h
 ·exact .inr ⟨r,es,clk,h1,h2,l _ _ h3,h4⟩

def HI (m:AM) (B q:Nat) (o:Obj) (s:Nat) (zs:List Int) (m':AM):Prop:=∃ fp,m.le m'∧m' q=some o∧q∉fp∧(∀ k∈fp,m k=none)∧SetA m' B s zs fp

theorem HI.le {m m' m'':AM} {B q s:Nat} {o:Obj} {zs:List Int} (h:HI m B q o s zs m') (l:m'.le m''):HI m B q o s zs m'':=by
 obtain ⟨fp,h1,h2,h3,h4,h5⟩:=h
 exact ⟨fp,AM.le_trans h1 l,l _ _ h2,h3,h4,h5.le l⟩

theorem HI.add {w0:World} {m m':AM} {q s:Nat} {o:Obj} {zs:List Int} (h:HI m w0.heap.size q o s zs m') (hlen:zs.length≤10000) (x:Int) {b:Nat} {o2:Obj} (hb:m' b=some o2) (hbf:∀ fp,SetA m' w0.heap.size s zs fp→b∉fp) :
  CallsA Tryz.prog w0 61 #[.pointer (some ⟨s,0,none⟩),.int .i64 x] m' (fun r m''=>∃ t:Bool,r=.bool t∧HI m w0.heap.size q o s (addL zs x) m''∧m'' b=some o2):=by
 obtain ⟨fp,h1,h2,h3,h4,h5⟩:=h
 refine add_spec w0 m' h5 hlen x (R:=fun r m''=>∃ t:Bool,r=.bool t∧HI m w0.heap.size q o s (addL zs x) m''∧m'' b=some o2) fun m2 fp2 hf hk hs=>?_
 refine ⟨_,rfl,⟨fp2,?_,hf _ _ h2 h3,?_,?_,hs⟩,hf _ _ hb (hbf fp h5)⟩
 ·intro k o' hk'
  refine hf k o' (h1 k o' hk') fun hin=>?_
  rw [h4 k hin] at hk'; cases hk'
 ·intro hq
  rcases hk q hq with h | h
  ·exact h3 h
  ·rw [h2] at h; cases h
 ·intro k hin
  rcases hk k hin with h | h
  ·exact h4 k h
  ·cases hm:m k with
   | none=>rfl
   | some o'=>rw [h1 k o' hm] at h; cases h

theorem addL_eq (zs:List Int) (x:Int):addL zs x=addS zs x:=rfl

theorem SetA.ne_ins {m:AM} {B s:Nat} {zs:List Int} {fp:List Nat} (h:SetA m B s zs fp) {b:Nat} {c:Array Value} {T:TypeId} {f:Nat × Nat} (hb:m b=some (.cells c T f)) (h1:T≠91) (h2:T≠3):b∉fp:=by
 obtain ⟨mp,A,c',hs,hB,hO,hm,hfp⟩:=h
 rw [hfp]
 simp only [List.mem_cons,List.mem_append,not_or]
 refine ⟨fun e=>?_,fun e=>?_,fun e=>?_⟩
 ·subst e; rw [hb] at hs; injection hs with hs; injection hs with _ e; exact h1 e
 ·obtain ⟨_,cur,hc⟩:=hO.obl_some e
  rw [hb] at hc; injection hc with hc; injection hc with _ e; exact h2 e
 ·rcases hm with ⟨rfl,_⟩ | ⟨r,es,clk,rfl,_,h3,_⟩
  ·simp at e
  ·simp at e; subst e; rw [hb] at h3; cases h3

def oI (w0:World) (m0:AM) (l:List Int) (r:Value) (m':AM):Prop:=(∃ (A:Option Addr) (c:Nat),r=.slice A l.length c∧Alog.Own m' w0.heap.size 3 1 A l.length c (intCells .i64 l)∧∀ k∈obl A,m0 k=none)∧m0.le m'

theorem pd_less:∀ {l:List Int},l.Nodup→∀ N:Nat,l.length-(pd N l).length≤2
 | [],_,_=>by simp [pd]
 | x :: l,h,N=>by
  rw [List.nodup_cons] at h
  by_cases e:x=(N:Int)
  ·have:pd N (x :: l)=l:=by
    unfold pd
    rw [List.filter_cons,if_neg (by simp [e])]
    rw [List.filter_eq_self]
    intro y hy
    have:y≠(N:Int):=fun e2=>h.1 (by rw [e,← e2]; exact hy)
    simpa using this
   rw [this]; simp
  ·have:pd N (x :: l)=x :: pd N l:=by
    unfold pd
    rw [List.filter_cons,if_pos (by simpa using e)]
   rw [this]
   have:=pd_less h.2 N
   simp; omega

theorem heads_spec (w0:World) (m:AM) (A:Option Addr) (c:Nat) (code:List Ins) (hl:code.length≤1000000) (rd:Reads m 5 A code.length (insCells code)) :
  CallsA Tryz.prog w0 43 #[.slice A code.length c] m (oI w0 m (headsP code)):=by
 generalize hR:oI w0 m (headsP code)=R
 have retN:∀ m',m.le m'→headsP code = []→RetP R (.slice none 0 0) m':=fun m' l e=>by
  rw [← hR,e]; exact retP_of ⟨⟨none,0,rfl,Alog.Own.nil _ _ _ _,by simp [obl]⟩,l⟩
 refine cf43 w0 m A code.length c R ?_
 intro b1 hb1 hn1 M
 have l1:m.le M:=le_new hn1 _
 have p1:M b1=some (.cells #[.slice A code.length c] 22 (0,0)):=upd_get_same
 clear_value M
 refine ⟨_,_,_,cel p1 rfl,callB (fit_e w0 M A c code hl (rd.le l1)) ?_⟩
 cases hf:fitP code with
 | false=>exact bcT ⟨rfl,retN _ l1 (by unfold headsP; rw [hf]; rfl)⟩
 | true =>
  have hlen:code.length≤4096:=by
   by_cases h:code.length≤4096
   ·exact h
   ·rw [fitP_len (by omega)] at hf; cases hf
  refine bcF ⟨_,_,_,cel p1 rfl,rfl,bcI (fun h=>retN _ l1 ?_) (fun h=>?_)⟩
  ·have h':((code.length:Nat):Int) == 0:=h
   have:code.length=0:=by simpa using h'
   unfold headsP; rw [this]; simp
  have hpos:0<code.length:=by
   have h':(((code.length:Nat):Int) == 0)=false:=h
   have:code.length≠0:=by simpa using h'
   omega
  intro s hs hns M2
  have l2:M.le M2:=le_new hns _
  have p2:M2 s=some (.cells #[.map none,.slice none 0 0] 91 (0,0)):=upd_get_same
  clear_value M2
  have hms:m s=none:=by
   cases hm:m s with
   | none=>rfl
   | some o=>rw [l1 s o hm] at hns; cases hns
  have hsb:b1≠s:=fun e=>by rw [← e,p1] at hns; cases hns
  have s0:HI m w0.heap.size b1 (.cells #[.slice A code.length c] 22 (0,0)) s [] M2 :=
   ⟨[s],AM.le_trans l1 l2,l2 _ _ p1,by simpa using hsb,by simpa using hms,none,none,0,p2,hs,Alog.Own.nil _ _ _ _,.inl ⟨rfl,rfl⟩,by simp [obl]⟩
  refine CallsA.mono (s0.add (by simp) 0 (l2 _ _ p1) (fun fp hfp=>hfp.ne_ins (l2 _ _ p1) (by decide) (by decide))) ?_
  rintro r M3 ⟨t,rfl,s1,_⟩
  have q1:M3 b1=some (.cells #[.slice A code.length c] 22 (0,0)):=by obtain ⟨fp,_,h,_⟩:=s1; exact h
  refine ⟨_,rfl,_,_,_,cel q1 rfl,?_⟩
  refine vl43_1111010 w0 M3 _ _ b1 s A code.length c code.length 0
   (fun n k m'=>HI m w0.heap.size b1 (.cells #[.slice A code.length c] 22 (0,0)) s (hsL code k.toNat) m'∧0≤k∧k≤code.length∧(n:Int)=code.length-k)
   (fun m'=>HI m w0.heap.size b1 (.cells #[.slice A code.length c] 22 (0,0)) s (hsL code code.length) m') code.length rfl rfl rfl rfl rfl ⟨s1,by omega,by omega,by omega⟩ ?_ ?_
  ·rintro n σ k m1 ⟨hi,k0,k1,hn⟩
   refine ⟨rfl,bcP (fun hlt=>?_) (fun hlt=>by (repeat (refine And.intro (Eq.refl _) ?_)); rwa [show k.toNat=code.length by omega] at hi)⟩
   have lm1:m.le m1:=by obtain ⟨fp,h,_⟩:=hi; exact h
   refine ldAt (rd.le lm1) rfl k0 hlt fun a=>blk5 fun b M4 l4 nb hb p=>?_
   replace p:M4 b=some (.cells (Ins.cells (cAt code k)).toArray 36 (0,0)):=p
   replace hi:=hi.le l4
   have hkk:((k.toNat:Nat):Int)=k:=by omega
   have hll:=hsL_len code k.toNat
   have wk:IntKind.wrap .i64 (k+1)=k+1:=wrap_s (by omega) (by omega)
   have hst:hsL code (k+1).toNat=hsStep code (hsL code k.toNat) k.toNat:=by rw [show (k+1).toNat=k.toNat+1 by omega]; exact hsL_succ code _
   unfold hsStep at hst
   rw [hkk] at hst
   dsimp only at hst
   have fin:∀ m2,HI m w0.heap.size b1 (.cells #[.slice A code.length c] 22 (0,0)) s (hsL code (k+1).toNat) m2→∃ n':Nat,n'<n∧(HI m w0.heap.size b1 (.cells #[.slice A code.length c] 22 (0,0)) s (hsL code (k+1).toNat) m2∧0≤k+1∧k+1≤code.length∧(n':Int)=code.length-(k+1)):=fun m2 h=>⟨n-1,by omega,h,by omega,by omega,by omega⟩
   rw [wk]
   refine ldIns p ?_
   refine CallsA.mono (target_e w0 M4 (cAt code k) k) ?_
   rintro r m2 ⟨rfl,h2⟩
   replace h2:=h2.symm; subst h2
   refine ⟨_,_,rfl,?_⟩
   cases ht:tok (cAt code k) with
   | true =>
    simp only [ht,if_true] at hst
    refine bcT (CallsA.mono (hi.add (by omega) _ p (fun fp hfp=>hfp.ne_ins p (by decide) (by decide))) ?_)
    rintro r M5 ⟨t,rfl,hi2,p5⟩
    rw [addL_eq] at hi2
    refine ⟨_,rfl,ldIns p5 (callB (goes_e w0 M5 (cAt code k)) ?_)⟩
    have hl2:=addS_len (hsL code k.toNat) (tgt (cAt code k) k)
    cases hg:goesP (cAt code k) with
    | true =>
     simp only [hg,if_true] at hst
     refine bcT ⟨rfl,CallsA.mono (hi2.add (by omega) _ p5 (fun fp hfp=>hfp.ne_ins p5 (by decide) (by decide))) ?_⟩
     rintro r M6 ⟨t,rfl,hi3,p6⟩
     rw [addL_eq,← hst] at hi3
     refine ⟨_,rfl,?_⟩
     (repeat (refine And.intro (Eq.refl _) ?_))
     exact fin _ hi3
    | false =>
     simp only [hg,Bool.false_eq_true,if_false] at hst
     rw [← hst] at hi2
     refine bcF ?_
     (repeat (refine And.intro (Eq.refl _) ?_))
     exact fin _ hi2
   | false =>
    simp only [ht,Bool.false_eq_true,if_false] at hst
    refine bcF (ldIns p (callB (goes_e w0 M4 (cAt code k)) ?_))
    cases hg:goesP (cAt code k) with
    | true =>
     simp only [hg,if_true] at hst
     refine bcT ⟨rfl,CallsA.mono (hi.add (by omega) _ p (fun fp hfp=>hfp.ne_ins p (by decide) (by decide))) ?_⟩
     rintro r M6 ⟨t,rfl,hi3,p6⟩
     rw [addL_eq,← hst] at hi3
     refine ⟨_,rfl,?_⟩
     (repeat (refine And.intro (Eq.refl _) ?_))
     exact fin _ hi3
    | false =>
     simp only [hg,Bool.false_eq_true,if_false] at hst
     rw [← hst] at hi
     refine bcF ?_
     (repeat (refine And.intro (Eq.refl _) ?_))
     exact fin _ hi
  ·rintro σ m1 hi
   obtain ⟨fp,h1,h2,h3,h4,h5⟩:=hi
   have hll:=hsL_len code code.length
   refine all_spec w0 m1 s (R:=fun r70 m71=>_) fun q M7 l7 nq bq pq=>⟨_,rfl,?_⟩
   refine collect_spec w0 M7 (h5.le l7) pq (by omega) (R:=fun r75 m76=>_) fun A2 c2 M8 l8 n8 o8=>⟨_,_,_,rfl,?_⟩
   have e8:M8 b1=some (.cells #[.slice A code.length c] 22 (0,0)):=l8 _ _ (l7 _ _ h2)
   have hnd:=hsL_nodup code code.length
   refine CallsA.mono (hdelete_spec w0 M8 A2 c2 _ (by omega) e8 ?_ o8) ?_
   ·exact pd_less hnd _
   rintro r M9 ⟨rfl,o9,f9⟩
   refine ⟨_,_,_,rfl,?_⟩
   refine sortAny_spec w0 M9 o9 (by have:=List.length_filter_le (fun x=>x != (code.length:Int)) (hsL code code.length); unfold pd; omega) (R:=fun r82 m83=>_) fun M10 f10 o10=>⟨rfl,retP_of ?_⟩
   rw [← hR]
   have he:sortL (pd code.length (hsL code code.length))=headsP code:=heads_eq hf (by intro e; rw [e] at hpos; simp at hpos)
   have hlen2:(headsP code).length=(pd code.length (hsL code code.length)).length:=by rw [← he]; simp [sortL]
   have l18:m.le M8:=AM.le_trans h1 (AM.le_trans l7 l8)
   have n2:∀ k∈obl A2,m k=none:=fun k hk=>by
    cases hm:m k with
    | none=>rfl
    | some o =>
     have:=n8 k hk
     rw [l7 _ _ (h1 _ _ hm)] at this
     cases this
   refine ⟨⟨A2,c2,by rw [hlen2],by rw [hlen2,← he]; exact o10,n2⟩,?_⟩
   intro k o hk
   have hk2:k∉obl A2:=fun h=>by rw [n2 k h] at hk; cases hk
   exact f10 _ _ (f9 _ _ (l18 _ _ hk) hk2) hk2
end Go.Proofs.YtkfemiloehkmhaaGreat.S

set_option linter.unusedSimpArgs false
set_option linter.unusedVariables false
set_option maxRecDepth 100000
namespace Go.Proofs.YtkfemiloehkmhaaGreat.S
open Go Go.RowKit Go.Alog Go.Proofs.YtkfemiloehkmhaaGreat.T Go.Proofs.YtkfemiloehkmhaaGreat.V

def blkCells (l:List (Int × Int)):List Value:=l.flatMap fun p=>[.int .i64 p.1,.int .i64 p.2]
theorem blkCells_app (l r:List (Int × Int)):blkCells (l ++ r)=blkCells l ++ blkCells r:=by simp [blkCells]

def blkAt (h:List Int) (n:Int) (k:Nat):Int × Int:=(h.getD k 0,if k+1<h.length then h.getD (k+1) 0 else n)
def blkP (h:List Int) (n:Int):List (Int × Int):=(List.range h.length).map (blkAt h n)
theorem blkP_len (h:List Int) (n:Int):(blkP h n).length=h.length:=by simp [blkP]

def oB (w0:World) (m0:AM) (l:List (Int × Int)) (r:Value) (m':AM):Prop:=(∃ (A:Option Addr) (c:Nat),r=.slice A l.length c∧Alog.Own m' w0.heap.size 65 2 A l.length c (blkCells l)∧∀ k∈obl A,m0 k=none)∧m0.le m'

theorem elBlk:elOf Tryz.prog 62=some (65,2,16,[.int .i64 0,.int .i64 0]):=by kernel_rfl

theorem headsP_len (code:List Ins):(headsP code).length≤code.length:=by
 unfold headsP
 split
 ·refine Nat.le_trans (List.length_filter_le _ _) (by simp)
 ·simp

theorem blocks_spec (w0:World) (m:AM) (A:Option Addr) (c:Nat) (code:List Ins) (hl:code.length≤1000000) (rd:Reads m 5 A code.length (insCells code)) :
  CallsA Tryz.prog w0 26 #[.slice A code.length c] m (oB w0 m (blkP (headsP code) code.length)):=by
 generalize hR:oB w0 m (blkP (headsP code) code.length)=R
 have hhl:=headsP_len code
 refine cf26 w0 m A code.length c R ?_
 refine CallsA.mono (heads_spec w0 m A c code hl rd) ?_
 rintro r m1 ⟨⟨A4,c4,rfl,o4,n4⟩,l1⟩
 generalize headsP code=h at hR hhl o4 n4 ⊢
 refine ⟨_,_,_,rfl,?_⟩
 refine vl26_111010 w0 m1 _ _ A code.length c A4 h.length c4 A4 h.length c4 h.length none 0 0 0
  (fun n B3 n3 c3 k m'=>m.le m'∧0≤k∧k≤h.length∧(n:Int)=h.length-k∧n3=k.toNat∧Alog.Own m' w0.heap.size 3 1 A4 h.length c4 (intCells .i64 h)∧Alog.Own m' w0.heap.size 65 2 B3 n3 c3 (blkCells ((List.range k.toNat).map (blkAt h code.length)))∧∀ q∈obl B3,m q=none)
  (fun B3 n3 c3 m'=>m.le m'∧n3=h.length∧Alog.Own m' w0.heap.size 65 2 B3 n3 c3 (blkCells (blkP h code.length))∧∀ q∈obl B3,m q=none) h.length rfl rfl rfl rfl rfl rfl
  ⟨l1,by omega,by omega,by omega,rfl,o4,Alog.Own.nil _ _ _ _,by simp [obl]⟩ ?_ ?_
 ·rintro n σ B3 n3 c3 k m' ⟨l',k0,k1,hn,hn3,oh,ob,nb⟩
  refine ⟨rfl,bcP (fun hlt=>?_) (fun hlt=>?_)⟩
  ·obtain ⟨ad,hA4,hc⟩:=oh.ex (by omega)
   subst hA4
   have wk:IntKind.wrap .i64 (k+1)=k+1:=wrap_s (by omega) (by omega)
   refine ⟨⟨k0,hlt⟩,?_⟩
   rw [nilO_some]
   refine ⟨_,cell_k hc k0 hlt,rfl,rfl,?_⟩
   rw [wk]
   have step:∀ v:Int,blkAt h code.length k.toNat=(h.getD k.toNat 0,v)→∀ b:Nat,w0.heap.size≤b→m' b=none → 
     awp Tryz.prog w0.heap.size (Builtin.append_ #[62,62] 62 #[.slice B3 n3 c3,.slice (some ⟨b,0,none⟩) 1 1]) (AM.upd m' b (.cells #[.int .i64 (h.getD k.toNat 0),.int .i64 v] 65)) (fun v12 m13=>∃ (A14:Option Addr) (n15 c16:Nat),v12=.slice A14 n15 c16∧∃ n':Nat,n'<n∧(m.le m13∧0≤k+1∧k+1≤h.length∧(n':Int)=h.length-(k+1)∧n15=(k+1).toNat∧Alog.Own m13 w0.heap.size 3 1 (some ad) h.length c4 (intCells .i64 h)∧Alog.Own m13 w0.heap.size 65 2 A14 n15 c16 (blkCells ((List.range (k+1).toNat).map (blkAt h code.length)))∧∀ q∈obl A14,m q=none)):=by
    intro v hv b hb hnb
    have lb:=le_new hnb (.cells #[.int .i64 (h.getD k.toNat 0),.int .i64 v] 65)
    refine awp_append_own elBlk (ob.upd (ob.ne_none hnb)) (A2:=some ⟨b,0,none⟩) (k:=1) (news:=[.int .i64 (h.getD k.toNat 0),.int .i64 v]) (Reads.lit rfl) (by simp [Value.oneCell']) (by omega) (by omega) (fun g cp' cur hor hB hO=>?_) (fun h0=>by omega)
    have hmg:m g=none:=by
     rcases hor with h' | h'
     ·exact nb g (by rw [h']; simp [obl])
     ·cases hm:m g with
      | none=>rfl
      | some o =>
       have:=lb _ _ (l' _ _ hm)
       rw [h'] at this; cases this
    refine ⟨_,_,_,rfl,n-1,by omega,?_,by omega,by omega,by omega,by omega,?_,?_,by simpa [obl] using hmg⟩
    ·intro q o hq
     have e:q≠g:=fun e=>by rw [e,hmg] at hq; cases hq
     rw [upd_get_ne e]; exact lb _ _ (l' _ _ hq)
    ·refine (oh.le lb).upd fun off e=>?_
     rcases hor with h' | h'
     ·obtain ⟨_,cur',hc'⟩:=ob.obl_some (k:=g) (by rw [h']; simp [obl])
      obtain ⟨_,cur2,hc2⟩:=oh.obl_some (k:=g) (by rw [e]; simp [obl])
      rw [hc'] at hc2; injection hc2 with hc2; injection hc2 with _ e2; exact absurd e2 (by decide)
     ·exact (oh.le lb).ne_none h' off e
    ·rw [show (k+1).toNat=k.toNat+1 by omega,List.range_succ,List.map_append,blkCells_app]
     rw [show n3+1=k.toNat+1 by omega] at hO ⊢
     have:blkCells (List.map (blkAt h ↑code.length) [k.toNat]) = [.int .i64 (h.getD k.toNat 0),.int .i64 v]:=by simp [blkCells,hv]
     rw [this]; exact hO
   refine bcP (fun h2=>?_) (fun h2=>?_)
   ·refine ⟨rfl,⟨by omega,h2⟩,?_⟩
    rw [nilO_some]
    refine ⟨_,cell_k hc (i:=k+1) (by omega) h2,rfl,rfl,fun b hb hnb=>?_⟩
    refine awp_mono _ _ _ _ ?_ (step (h.getD (k+1).toNat 0) (by unfold blkAt; rw [if_pos (by omega),show (k+1).toNat=k.toNat+1 by omega]) b hb hnb)
    rintro v m13 ⟨A14,n15,c16,rfl,n',h1,h2⟩
    refine ⟨_,_,_,rfl,?_⟩
    (repeat (refine And.intro (Eq.refl _) ?_))
    exact ⟨n',h1,h2⟩
   ·refine ⟨rfl,rfl,fun b hb hnb=>?_⟩
    refine awp_mono _ _ _ _ ?_ (step code.length (by unfold blkAt; rw [if_neg (by omega)]) b hb hnb)
    rintro v m13 ⟨A14,n15,c16,rfl,n',h1,h2⟩
    refine ⟨_,_,_,rfl,?_⟩
    (repeat (refine And.intro (Eq.refl _) ?_))
    exact ⟨n',h1,h2⟩
  ·have e:k.toNat=h.length:=by omega
   (repeat (refine And.intro (Eq.refl _) ?_))
   rw [e] at ob hn3
   exact ⟨l',hn3,ob,nb⟩
 ·rintro σ B3 n3 c3 m' ⟨l',rfl,ob,nb⟩
  rw [← hR]
  exact retP_of ⟨⟨B3,c3,by rw [blkP_len],by rw [blkP_len]; exact ob,nb⟩,l'⟩
end Go.Proofs.YtkfemiloehkmhaaGreat.S

