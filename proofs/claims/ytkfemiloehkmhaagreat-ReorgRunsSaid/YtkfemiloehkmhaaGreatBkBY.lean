/- YtkfemiloehkmhaaGreat: a text of our own, by an AI agent: BkBY -/
import Derived.Test.YtkfemiloehkmhaaGreatEfDY
import Derived.Test.YtkfemiloehkmhaaGreatVbBY
import Derived.Test.YtkfemiloehkmhaaGreatCoreD
set_option linter.unusedSimpArgs false
set_option linter.unusedVariables false
set_option maxRecDepth 100000
namespace Go.Proofs.YtkfemiloehkmhaaGreat.S
open Go Go.RowKit Go.Alog Go.Proofs.YtkfemiloehkmhaaGreat.T Go.Proofs.YtkfemiloehkmhaaGreat.V

def w64 (n:Int):Int:=IntKind.wrap .i64 n
def tgt (i:Ins) (at_:Int):Int:=if rightR i=true then (if i.op=15∨i.op=16 then w64 (w64 (at_+1)+i.imm) else if i.op=17∨i.op=18 then i.imm else 0) else 0
def tok (i:Ins):Bool:=rightR i && decide (15≤i.op∧i.op≤18)

theorem target_e (w0:World) (m:AM) (i:Ins) (k:Int):CallsA Tryz.prog w0 16 #[i.val,.int .i64 k] m (fun r m'=>r=.tuple #[.int .i64 (tgt i k),.bool (tok i)]∧m'=m):=by
 refine CallsA.down (Q:=fun r=>r=.tuple #[.int .i64 (tgt i k),.bool (tok i)]) (R:=fun r m'=>r=.tuple #[.int .i64 (tgt i k),.bool (tok i)]∧m.le m') ?_ fun _ _ h=>h
 generalize hR:(fun (r:Value) (m':AM)=>r=.tuple #[.int .i64 (tgt i k),.bool (tok i)]∧m.le m')=R
 refine cf16 w0 m _ _ _ _ _ k R ?_
 intro b hb hm M
 have l:m.le M:=le_new hm _
 have p:M b=some (.cells i.cells.toArray 36):=upd_get_same
 clear_value M
 have ret:∀ (t:Int) (v:Bool),t=tgt i k→v=tok i→RetP R (.tuple #[.int .i64 t,.bool v]) M:=fun t v e1 e2=>retP_of (by rw [← hR,e1,e2]; exact ⟨rfl,l⟩)
 refine ⟨_,cel p rfl,_,cel p rfl,_,cel p rfl,_,cel p rfl,_,cel p rfl,?_⟩
 refine CallsA.mono ((isaRight w0 M i).down fun _ _ h=>h) ?_
 rintro r m2 ⟨rfl,h2⟩
 replace h2:=h2.symm; subst h2
 refine ⟨_,rfl,bcI (fun hr=>ret _ _ ?_ ?_) (fun hr=>?_)⟩
 ·unfold tgt; rw [if_neg (by simpa using hr)]
 ·unfold tok; rw [show rightR i=false by simpa using hr]; rfl
 have hr':rightR i=true:=by simpa using hr
 unfold tgt tok at ret
 rw [if_pos hr',hr',Bool.true_and] at ret
 refine ⟨_,cel p rfl,rfl,?_⟩
 refine bcI (fun h=>bcET h ?_) (fun h=>?_)
 ·have e:i.op=15:=by simpa using h
  refine ⟨rfl,_,cel p rfl,rfl,ret _ _ ?_ ?_⟩ <;> simp [e,w64]
 refine ⟨rfl,bcI (fun h2=>?_) (fun h2=>?_)⟩
 ·have e:i.op=16:=by simpa using h2
  refine ⟨rfl,_,cel p rfl,rfl,ret _ _ ?_ ?_⟩ <;> simp [e,w64]
 refine ⟨rfl,bcI (fun h3=>bcET h3 ?_) (fun h3=>?_)⟩
 ·have e:i.op=17:=by simpa using h3
  refine ⟨_,cel p rfl,ret _ _ ?_ ?_⟩ <;> simp [e]
 refine ⟨rfl,bcI (fun h4=>?_) (fun h4=>?_)⟩
 ·have e:i.op=18:=by simpa using h4
  refine ⟨_,cel p rfl,ret _ _ ?_ ?_⟩ <;> simp [e]
 simp only [beq_eq_false_iff_ne,ne_eq] at h h2 h3 h4
 refine ret _ _ ?_ ?_
 ·rw [if_neg (by omega),if_neg (by omega)]
 ·rw [decide_eq_false (by omega)]

theorem refTarget_e (w0:World) (m:AM) (i:Ins) (k:Int):CallsA Tryz.prog w0 23 #[i.val,.int .i64 k] m (fun r m'=>r=.tuple #[.int .i64 (tgt i k),.bool (tok i)]∧m'=m):=by
 refine CallsA.down (Q:=fun r=>r=.tuple #[.int .i64 (tgt i k),.bool (tok i)]) (R:=fun r m'=>r=.tuple #[.int .i64 (tgt i k),.bool (tok i)]∧m.le m') ?_ fun _ _ h=>h
 generalize hR:(fun (r:Value) (m':AM)=>r=.tuple #[.int .i64 (tgt i k),.bool (tok i)]∧m.le m')=R
 refine cf23 w0 m _ _ _ _ _ k R ?_
 intro b hb hm M
 have l:m.le M:=le_new hm _
 have p:M b=some (.cells i.cells.toArray 36):=upd_get_same
 clear_value M
 have ret:∀ (t:Int) (v:Bool),t=tgt i k→v=tok i→RetP R (.tuple #[.int .i64 t,.bool v]) M:=fun t v e1 e2=>retP_of (by rw [← hR,e1,e2]; exact ⟨rfl,l⟩)
 refine ⟨_,cel p rfl,_,cel p rfl,_,cel p rfl,_,cel p rfl,_,cel p rfl,?_⟩
 refine CallsA.mono (refRight_e w0 M i) ?_
 rintro r m2 ⟨rfl,h2⟩
 replace h2:=h2.symm; subst h2
 refine ⟨_,rfl,bcI (fun hr=>⟨hr,rfl,ret _ _ ?_ ?_⟩) (fun hr=>?_)⟩
 ·unfold tgt; rw [if_neg (by simpa using hr)]
 ·unfold tok; rw [show rightR i=false by simpa using hr]; rfl
 have hr':rightR i=true:=by simpa using hr
 unfold tgt tok at ret
 rw [if_pos hr',hr',Bool.true_and] at ret
 rw [hr']
 refine ⟨_,cel p rfl,rfl,bcP (fun h=>⟨decide_eq_true h,ret _ _ ?_ ?_⟩) (fun h=>?_)⟩
 ·rw [if_neg (by omega),if_neg (by omega)]
 ·rw [decide_eq_false (by omega)]
 rw [decide_eq_false h]
 refine ⟨_,cel p rfl,rfl,bcP (fun h2=>ret _ _ ?_ ?_) (fun h2=>?_)⟩
 ·rw [if_neg (by omega),if_neg (by omega)]
 ·rw [decide_eq_false (by omega)]
 refine ⟨_,cel p rfl,rfl,bcP (fun h3=>⟨rfl,_,cel p rfl,rfl,ret _ _ ?_ ?_⟩) (fun h3=>⟨_,cel p rfl,ret _ _ ?_ ?_⟩)⟩
 ·rw [if_pos (by omega)]; rfl
 ·rw [decide_eq_true (by omega)]
 ·rw [if_neg (by omega),if_pos (by omega)]
 ·rw [decide_eq_true (by omega)]
end Go.Proofs.YtkfemiloehkmhaaGreat.S

set_option linter.unusedSimpArgs false
set_option linter.unusedVariables false
set_option maxRecDepth 100000
namespace Go.Proofs.YtkfemiloehkmhaaGreat.S
open Go Go.RowKit Go.Alog Go.Proofs.YtkfemiloehkmhaaGreat.T Go.Proofs.YtkfemiloehkmhaaGreat.V

def fitAt (code:List Ins) (k:Int):Bool:=rightR (cAt code k) && !(tok (cAt code k) && (decide (tgt (cAt code k) k<0) || decide (tgt (cAt code k) k>(code.length:Int))))
def fitP (code:List Ins):Bool:=decide (code.length≤4096) && (List.range code.length).all (fun k=>fitAt code (k:Int))

theorem fitP_true {code:List Ins} (h1:code.length≤4096) (h:∀ j:Nat,j<code.length→fitAt code j=true):fitP code=true:=by
 unfold fitP
 rw [decide_eq_true h1,Bool.true_and,List.all_eq_true]
 intro k hk
 exact h k (List.mem_range.1 hk)
theorem fitP_false {code:List Ins} {j:Nat} (hj:j<code.length) (h:fitAt code j=false):fitP code=false:=by
 unfold fitP
 rw [Bool.and_eq_false_iff]
 right
 rw [List.all_eq_false]
 exact ⟨j,List.mem_range.2 hj,by rw [h]; simp⟩
theorem fitP_len {code:List Ins} (h:4096<code.length):fitP code=false:=by
 unfold fitP
 rw [decide_eq_false (by omega)]; rfl

theorem fit_e (w0:World) (m:AM) (A:Option Addr) (c:Nat) (code:List Ins) (hl:code.length≤1000000) (rd:Reads m 5 A code.length (insCells code)) :
  CallsA Tryz.prog w0 14 #[.slice A code.length c] m (fun r m'=>r=.bool (fitP code)∧m'=m):=by
 refine CallsA.down (Q:=fun r=>r=.bool (fitP code)) (R:=fun r m'=>r=.bool (fitP code)∧m.le m') ?_ fun _ _ h=>h
 generalize hR:(fun (r:Value) (m':AM)=>r=.bool (fitP code)∧m.le m')=R
 have ret:∀ (v:Bool) (m':AM),m.le m'→v=fitP code→RetP R (.bool v) m':=fun v m' l e=>by rw [← hR]; exact retP_of ⟨by rw [e],l⟩
 refine cf14 w0 m A code.length c R ⟨rfl,bcP (fun h=>ret _ _ (AM.le_refl _) (fitP_len (by omega)).symm) (fun h=>?_)⟩
 refine vl14_11010 w0 m _ _ A code.length c A code.length c code.length 0 (fun n k m'=>m.le m'∧0≤k∧k≤code.length∧(n:Int)=code.length-k∧∀ j:Nat,(j:Int)<k→fitAt code j=true) (fun m'=>m.le m'∧∀ j:Nat,j<code.length→fitAt code j=true) code.length rfl rfl rfl rfl
  ⟨AM.le_refl _,by omega,by omega,by omega,fun j hj=>by omega⟩ ?_ ?_
 ·rintro n σ k m1 ⟨l1,k0,k1,hn,hp⟩
  refine ⟨rfl,bcP (fun hlt=>?_) (fun hlt=>by (repeat (refine And.intro (Eq.refl _) ?_)); exact ⟨l1,fun j hj=>hp j (by omega)⟩)⟩
  refine ldAt (rd.le l1) rfl k0 hlt fun a=>blk5 fun b M l nb hb p=>?_
  replace p:M b=some (.cells (Ins.cells (cAt code k)).toArray 36):=p
  have l2:m.le M:=AM.le_trans l1 l
  refine ldIns p ?_
  refine CallsA.mono (target_e w0 M (cAt code k) k) ?_
  rintro r m2 ⟨rfl,h2⟩
  replace h2:=h2.symm; subst h2
  refine ⟨_,_,rfl,ldIns p (callB ((isaRight w0 M (cAt code k)).down fun _ _ h=>h) ?_)⟩
  have hkk:((k.toNat:Nat):Int)=k:=by omega
  have hfa:fitAt code (k.toNat:Int)=(rightR (cAt code k) && !(tok (cAt code k) && (decide (tgt (cAt code k) k<0) || decide (tgt (cAt code k) k>(code.length:Int))))):=by rw [hkk]; rfl
  have bad:fitAt code (k.toNat:Int)=false→RetP R (.bool false) M:=fun e=>ret _ _ l2 (fitP_false (j:=k.toNat) (by omega) e).symm
  have wk:IntKind.wrap .i64 (k+1)=k+1:=wrap_s (by omega) (by omega)
  cases hr:rightR (cAt code k) with
  | false=>exact bcT ⟨rfl,bad (by rw [hfa,hr]; rfl)⟩
  | true =>
   refine bcF ?_
   rw [hr,Bool.true_and] at hfa
   have good:fitAt code (k.toNat:Int)=true→∃ n':Nat,n'<n∧(m.le M∧0≤k+1∧k+1≤code.length∧(n':Int)=code.length-(k+1)∧∀ j:Nat,(j:Int)<k+1→fitAt code j=true):=fun e=>by
    refine ⟨n-1,by omega,l2,by omega,by omega,by omega,fun j hj=>?_⟩
    by_cases e2:(j:Int)=k
    ·rw [show j=k.toNat by omega]; exact e
    ·exact hp j (by omega)
   rw [wk]
   cases ht:tok (cAt code k) with
   | false =>
    rw [ht] at hfa
    exact bcF ⟨rfl,bcF (by (repeat (refine And.intro (Eq.refl _) ?_)); exact good hfa)⟩
   | true =>
    rw [ht,Bool.true_and] at hfa
    refine bcT ⟨rfl,bcP (fun h0=>⟨decide_eq_true h0,bcT (bad (by rw [hfa,decide_eq_true h0]; rfl))⟩) (fun h0=>⟨rfl,?_⟩)⟩
    rw [decide_eq_false h0] at hfa ⊢
    rw [Bool.false_or] at hfa
    refine bcI (fun h1=>bad ?_) (fun h1=>?_)
    ·have h1':decide (tgt (cAt code k) k>(code.length:Int))=true:=h1
     rw [hfa,h1']; rfl
    ·have h1':decide (tgt (cAt code k) k>(code.length:Int))=false:=h1
     (repeat (refine And.intro (Eq.refl _) ?_))
     exact good (by rw [hfa,h1']; rfl)
 ·rintro σ m1 ⟨l1,hp⟩
  exact ret _ _ l1 (fitP_true (by omega) hp).symm
end Go.Proofs.YtkfemiloehkmhaaGreat.S

set_option linter.unusedSimpArgs false
set_option linter.unusedVariables false
set_option maxRecDepth 100000
namespace Go.Proofs.YtkfemiloehkmhaaGreat.S
open Go Go.RowKit Go.Alog Go.Proofs.YtkfemiloehkmhaaGreat.T Go.Proofs.YtkfemiloehkmhaaGreat.V

theorem refFit_e (w0:World) (m:AM) (A:Option Addr) (c:Nat) (code:List Ins) (hl:code.length≤1000000) (rd:Reads m 5 A code.length (insCells code)) :
  CallsA Tryz.prog w0 10 #[.slice A code.length c] m (fun r m'=>r=.bool (fitP code)∧m'=m):=by
 generalize hR:(fun (r:Value) (m':AM)=>r=.bool (fitP code)∧m'=m)=R
 have ret:∀ (v:Bool),v=fitP code→RetP R (.bool v) m:=fun v e=>by rw [← hR]; exact retP_of ⟨by rw [e],rfl⟩
 refine cf10 w0 m A code.length c R ?_
 refine vl10_1010 w0 m _ _ A code.length c 0 (fun n k m'=>m'=m∧0≤k∧k≤code.length∧(n:Int)=code.length-k∧∀ j:Nat,(j:Int)<k→fitAt code j=true) (fun m'=>m'=m∧∀ j:Nat,j<code.length→fitAt code j=true) code.length rfl rfl
  ⟨rfl,by omega,by omega,by omega,fun j hj=>by omega⟩ ?_ ?_
 ·rintro n σ k M ⟨rfl,k0,k1,hn,hp⟩
  refine ⟨rfl,bcP (fun hlt=>?_) (fun hlt=>by (repeat (refine And.intro (Eq.refl _) ?_)); exact fun j hj=>hp j (by omega))⟩
  refine ldAt rd rfl k0 hlt fun a=>?_
  refine CallsA.mono (refTarget_e w0 M (cAt code k) k) ?_
  rintro r m2 ⟨rfl,h2⟩
  replace h2:=h2.symm; subst h2
  refine ⟨_,_,rfl,ldAt rd rfl k0 hlt fun a=>callB (refRight_e w0 M (cAt code k)) ?_⟩
  have hkk:((k.toNat:Nat):Int)=k:=by omega
  have hfa:fitAt code (k.toNat:Int)=(rightR (cAt code k) && !(tok (cAt code k) && (decide (tgt (cAt code k) k<0) || decide (tgt (cAt code k) k>(code.length:Int))))):=by rw [hkk]; rfl
  have bad:fitAt code (k.toNat:Int)=false→RetP R (.bool false) M:=fun e=>ret _ (fitP_false (j:=k.toNat) (by omega) e).symm
  have wk:IntKind.wrap .i64 (k+1)=k+1:=wrap_s (by omega) (by omega)
  cases hr:rightR (cAt code k) with
  | false=>exact bcT ⟨rfl,bad (by rw [hfa,hr]; rfl)⟩
  | true =>
   refine bcF ?_
   rw [hr,Bool.true_and] at hfa
   have good:fitAt code (k.toNat:Int)=true→∃ n':Nat,n'<n∧(M=M∧0≤k+1∧k+1≤code.length∧(n':Int)=code.length-(k+1)∧∀ j:Nat,(j:Int)<k+1→fitAt code j=true):=fun e=>by
    refine ⟨n-1,by omega,rfl,by omega,by omega,by omega,fun j hj=>?_⟩
    by_cases e2:(j:Int)=k
    ·rw [show j=k.toNat by omega]; exact e
    ·exact hp j (by omega)
   rw [wk]
   cases ht:tok (cAt code k) with
   | false =>
    rw [ht] at hfa
    exact bcF ⟨rfl,bcF (by (repeat (refine And.intro (Eq.refl _) ?_)); exact good hfa)⟩
   | true =>
    rw [ht,Bool.true_and] at hfa
    refine bcT ⟨rfl,bcP (fun h0=>⟨decide_eq_true h0,bcT (bad (by rw [hfa,decide_eq_true h0]; rfl))⟩) (fun h0=>⟨rfl,?_⟩)⟩
    rw [decide_eq_false h0] at hfa ⊢
    rw [Bool.false_or] at hfa
    refine bcI (fun h1=>bad ?_) (fun h1=>?_)
    ·have h1':decide (tgt (cAt code k) k>(code.length:Int))=true:=h1
     rw [hfa,h1']; rfl
    ·have h1':decide (tgt (cAt code k) k>(code.length:Int))=false:=h1
     (repeat (refine And.intro (Eq.refl _) ?_))
     exact good (by rw [hfa,h1']; rfl)
 ·rintro σ M ⟨rfl,hp⟩
  refine ⟨rfl,?_⟩
  by_cases hlen:code.length≤4096
  ·exact ret _ (by rw [fitP_true hlen hp]; exact decide_eq_true (by omega))
  ·exact ret _ (by rw [fitP_len (by omega)]; exact decide_eq_false (by omega))

def sbad (i:Ins):Bool:=if i.op=19 then i.a != 31 else if i.op=18 then false else touchesP i 31
def strictP (code:List Ins):Bool:=fitP code && !(code.any sbad)

theorem cAt_mem {code:List Ins} {k:Int} (h0:0≤k) (h1:k<code.length):cAt code k∈code:=List.mem_of_getElem? (cAt_some h0 h1)
theorem cAt_nat {code:List Ins} {j:Nat} (h:j<code.length):cAt code j=code[j]:=by
 have:=cAt_some (code:=code) (i:=(j:Int)) (by omega) (by omega)
 rw [show ((j:Int)).toNat=j by omega,List.getElem?_eq_getElem h] at this
 injection this with this
 exact this.symm
theorem any_false {code:List Ins} {p:Ins→Bool} (h:∀ j:Nat,j<code.length→p (cAt code j)=false):code.any p=false:=by
 rw [List.any_eq_false]
 intro x hx
 obtain ⟨j,hj,rfl⟩:=List.mem_iff_getElem.1 hx
 have:=h j hj
 rw [cAt_nat hj] at this
 rw [this]; simp
theorem any_true {code:List Ins} {p:Ins→Bool} {k:Int} (h0:0≤k) (h1:k<code.length) (h:p (cAt code k)=true):code.any p=true :=
 List.any_eq_true.2 ⟨_,cAt_mem h0 h1,h⟩

end Go.Proofs.YtkfemiloehkmhaaGreat.S

set_option linter.unusedSimpArgs false
set_option linter.unusedVariables false
set_option maxRecDepth 100000
namespace Go.Proofs.YtkfemiloehkmhaaGreat.S
open Go Go.RowKit Go.Alog Go.Proofs.YtkfemiloehkmhaaGreat.T Go.Proofs.YtkfemiloehkmhaaGreat.V

theorem refStrict_e (w0 : World) (m : AM) (A : Option Addr) (c : Nat) (code : List Ins) (hl : code.length ≤ 1000000) (rd : Reads m 5 A code.length (insCells code)) :
    CallsA Tryz.prog w0 4 #[.slice A code.length c] m (fun r m' => r = .bool (strictP code) ∧ m' = m) := by
  refine CallsA.down (Q := fun r => r = .bool (strictP code)) (R := fun r m' => r = .bool (strictP code) ∧ m.le m') ?_ fun _ _ h => h
  generalize hR : (fun (r : Value) (m' : AM) => r = .bool (strictP code) ∧ m.le m') = R
  have ret : ∀ (v : Bool) (m' : AM), m.le m' → v = strictP code → RetP R (.bool v) m' := fun v m' l e => by rw [← hR]; exact retP_of ⟨by rw [e], l⟩
  refine cf4 w0 m A code.length c R (callB (refFit_e w0 m A c code hl rd) ?_)
  unfold strictP at ret
  cases hf : fitP code with
  | false => exact bcT (ret _ _ (AM.le_refl _) (by rw [hf]; rfl))
  | true =>
    rw [hf, Bool.true_and] at ret
    refine bcF ?_
    refine vl4_11010 w0 m _ _ A code.length c 0 (fun n k m' => m.le m' ∧ 0 ≤ k ∧ k ≤ code.length ∧ (n : Int) = code.length - k ∧ ∀ j : Nat, (j : Int) < k → sbad (cAt code j) = false) (fun m' => m.le m' ∧ ∀ j : Nat, j < code.length → sbad (cAt code j) = false) code.length rfl rfl
      ⟨AM.le_refl _, by omega, by omega, by omega, fun j hj => by omega⟩ ?_ ?_
    · rintro n σ k m1 ⟨l1, k0, k1, hn, hp⟩
      refine ⟨rfl, bcP (fun hlt => ?_) (fun hlt => by (repeat (refine And.intro (Eq.refl _) ?_)); exact ⟨l1, fun j hj => hp j (by omega)⟩)⟩
      refine ldAt (rd.le l1) rfl k0 hlt fun a => blk5 fun b M l nb hb p => ?_
      replace p : M b = some (.cells (Ins.cells (cAt code k)).toArray 36) := p
      have l2 : m.le M := AM.le_trans l1 l
      have bad : sbad (cAt code k) = true → RetP R (.bool false) M := fun e => ret _ _ l2 (by rw [any_true k0 hlt e]; rfl)
      have good : sbad (cAt code k) = false → ∃ n' : Nat, n' < n ∧ (m.le M ∧ 0 ≤ IntKind.wrap .i64 (k + 1) ∧ IntKind.wrap .i64 (k + 1) ≤ code.length ∧ (n' : Int) = code.length - IntKind.wrap .i64 (k + 1) ∧ ∀ j : Nat, (j : Int) < IntKind.wrap .i64 (k + 1) → sbad (cAt code j) = false) := fun e => by
        rw [wrap_s (by omega) (by omega)]
        refine ⟨n - 1, by omega, l2, by omega, by omega, by omega, fun j hj => ?_⟩
        by_cases e2 : (j : Int) = k
        · rw [e2]; exact e
        · exact hp j (by omega)
      generalize cAt code k = i at p bad good ⊢
      have tE : touchesP i 31 = (readsR i 31 || writesP i == 31) := by rw [touchesP_eq, Bool.or_comm]; rfl
      unfold sbad at bad good
      have rest : i.op ≠ 19 → ∃ i37 : Int, M.cell ⟨b, 0, none⟩ = some (.int .i64 i37) ∧ IntKind.i64 = IntKind.i64 ∧ (bcase (i37 != 18) (
 ∃ i38 : Int, M.cell ⟨b, 0, none⟩ = some (.int .i64 i38) ∧ IntKind.i64 = IntKind.i64 ∧ True) True) := fun _ => ⟨_, cel p rfl, rfl, bcI (fun _ => ⟨_, cel p rfl, rfl, trivial⟩) (fun _ => trivial)⟩
      clear rest
      by_cases h19 : i.op = 19
      · rw [if_pos h19] at bad good
        refine ⟨_, cel p rfl, rfl, bcET (by rw [h19]; rfl) ⟨_, cel p rfl, rfl, ?_⟩⟩
        rw [show (i.op == (19 : Int)) = true by rw [h19]; rfl]
        refine bcI (fun h => bad h) (fun h => ?_)
        refine ⟨_, cel p rfl, rfl, bcET (by rw [h19]; rfl) ⟨_, cel p rfl, rfl, bcEF (by rw [h19]; rfl) ⟨by rw [h19]; rfl, ?_⟩⟩⟩
        (repeat (refine And.intro (Eq.refl _) ?_))
        exact good h
      · rw [if_neg h19] at bad good
        have e19 : (i.op == (19 : Int)) = false := by simpa using h19
        refine ⟨_, cel p rfl, rfl, bcEF e19 ⟨e19, _, cel p rfl, rfl, ?_⟩⟩
        by_cases h18 : i.op = 18
        · rw [if_pos h18] at good
          refine bcEF (by rw [h18]; rfl) ⟨by rw [h18]; rfl, rfl, ?_⟩
          (repeat (refine And.intro (Eq.refl _) ?_))
          exact good rfl
        · rw [if_neg h18, tE] at bad good
          have n18 : (i.op != (18 : Int)) = true := by simpa using h18
          have n19 : (i.op != (19 : Int)) = true := by simpa using h19
          refine bcET n18 ⟨_, cel p rfl, rfl, ?_⟩
          rw [n18, n19]
          refine bcT (ldIns p (callB (refReads_e w0 M i 31) ?_))
          cases hr : readsR i 31 with
          | true =>
            rw [hr] at bad
            exact bcT ⟨rfl, bcT (bad rfl)⟩
          | false =>
            rw [hr, Bool.false_or] at bad good
            refine bcF (ldIns p (callI (refWrites_e w0 M i) ⟨rfl, bcI (fun h => bad h) (fun h => ?_)⟩))
            (repeat (refine And.intro (Eq.refl _) ?_))
            exact good h
    · rintro σ m1 ⟨l1, hp⟩
      exact ret _ _ l1 (by rw [any_false hp]; rfl)

def toAt (code:List Ins) (k:Int) (j:Nat):Bool:=tok (cAt code j) && tgt (cAt code j) j == k
def headP (code:List Ins) (k:Int):Bool:=k == 0 || goesP (cAt code (k-1)) || (List.range code.length).any (toAt code k)

end Go.Proofs.YtkfemiloehkmhaaGreat.S

