/- YtkfemiloehkmhaaGreat: a text of our own, by an AI agent: CoreC -/
import Derived.Test.YtkfemiloehkmhaaGreatCoreA
set_option linter.unusedSimpArgs false
set_option linter.unusedVariables false
namespace Go.Alog
open Go Go.RowKit
variable {P:Program}

theorem eqIn_int {t:TypeId} {k:IntKind} (hu:P.underlying t=some (.int k)) (d:Nat) (a b:Int):pval P (Op.equalIn (d+1) t (.int k a) (.int k b))=some (a == b):=by
 rw [Op.equalIn.eq_def]
 simp only [pval_bind',pv_underlying hu]
 simp [pval_pure]

theorem part_int {t:TypeId} {k:IntKind} (hu:P.underlying t=some (.int k)) {cs:Array Value} {o:Nat} {v:Value} (hc:cs[o]?=some v):pval P (part t cs o)=some v:=by
 unfold part
 simp only [pval_bind',pv_isAgg hu]
 simp [isAggD,hc,pval_pure]

theorem eqIn_fields {k : IntKind} {xs ys : Array Value} (d : Nat) (e : Field → Bool) : ∀ (fs : List Field), (∀ f ∈ fs, f.name ≠ "_" ∧ P.underlying f.type = some (.int k) ∧ ∃ a b, xs[f.offset]? = some (.int k a) ∧ ys[f.offset]? = some (.int k b) ∧ e f = (a == b)) →
  pval P (forIn (m:=Sem) fs ((none,()):Option Bool × Unit) fun f __s =>
   if f.name ≠ "_" then do
    let x ← part f.type xs f.offset
    let y ← part f.type ys f.offset
    let b ← Op.equalIn (d+1) f.type x y
    if (!b)=true then pure (ForInStep.done (some false,()))
     else pure (ForInStep.yield (none,()))
   else pure (ForInStep.yield (none,())))=some (bif fs.all e then none else some false,())
 | [],_=>rfl
 | f :: fs,h=>by
  obtain ⟨hn,hu,a,b,ha,hb,he⟩:=h f (by simp)
  rw [List.forIn_cons]
  simp only [hn,ne_eq,not_false_eq_true,if_true,pval_bind',part_int hu ha,part_int hu hb,eqIn_int hu,Option.bind_some,List.all_cons,he]
  cases hab:(a == b)
  ·simp [pval_pure]
  ·simp only [Bool.not_true,Bool.false_eq_true,if_false,pval_pure,Option.bind_some,Bool.true_and]
   exact eqIn_fields d e fs fun f hf=>h f (by simp [hf])

theorem eqIn_struct {t:TypeId} {k:IntKind} {fs:Array Field} {xs ys:Array Value} (hu:P.underlying t=some (.struct fs)) (hs:P.stoodInHeld t=false) (d:Nat) (e:Field→Bool)
  (h : ∀ f ∈ fs.toList, f.name ≠ "_" ∧ P.underlying f.type = some (.int k) ∧ ∃ a b, xs[f.offset]? = some (.int k a) ∧ ys[f.offset]? = some (.int k b) ∧ e f = (a == b)) :
  pval P (Op.equalIn (d+2) t (.agg xs) (.agg ys))=some (fs.toList.all e):=by
 rw [Op.equalIn.eq_def]
 simp only [pval_bind',pv_underlying hu,Option.bind_some]
 have hp:pval P program=some P:=rfl
 simp only [hp,Option.bind_some,hs,Bool.false_eq_true,if_false]
 rw [← Array.forIn_toList,pval_bind',eqIn_fields d e _ h]
 cases fs.toList.all e <;> rfl

theorem Own.ex {m:AM} {B:Nat} {e:TypeId} {sz:Nat} {A:Option Addr} {n cp:Nat} {xs:List Value} (h:Own m B e sz A n cp xs) (hn:0<n):∃ ad,A=some ad∧Cells m ad xs:=by
 cases A with
 | some ad=>exact ⟨ad,rfl,h.cells rfl⟩
 | none =>
  obtain ⟨_,hn',h | ⟨g',cur',h',_⟩⟩:=h
  ·omega
  ·cases h'

theorem Reads.ex {m:AM} {sz:Nat} {A:Option Addr} {n:Nat} {xs:List Value} (h:Reads m sz A n xs) (hn:0<n):∃ ad,A=some ad∧Cells m ad xs:=by
 obtain ⟨_,⟨_,h⟩ | h⟩:=h
 ·omega
 ·exact h

end Go.Alog

set_option linter.unusedSimpArgs false
set_option linter.unusedVariables false
namespace Go.Alog
open Go Go.RowKit

theorem awp_append_loc {P : Program} {B : Nat} {t ty e : TypeId} {sz bs : Nat} {z : List Value} (hel : elOf P t = some (e, sz, bs, z)) {m0 m : AM} {A : Option Addr} {n cp : Nat} {xs : List Value} (hle : m0.le m) (hown : Own m B e sz A n cp xs) (hnew : ∀ k ∈ obl A, m0 k = none)
    {A2 : Option Addr} {k c2 : Nat} {news : List Value} (hr : Reads m sz A2 k news) (h1 : ∀ u ∈ news, u.oneCell' = true) (hfit : (n + k) * bs ≤ 140737488355328) (hfit2 : n + k ≤ 140737488355328) {K : Value → AM → Prop}
    (h : ∀ A' c' m', m0.le m' → Fr m m' (obl A) → Own m' B e sz A' (n + k) c' (xs ++ news) → (∀ x ∈ obl A', m0 x = none) → (∀ x ∈ obl A', x ∈ obl A ∨ m x = none) → K (.slice A' (n + k) c') m') :
    awp P B (Builtin.append_ #[t, t] ty #[.slice A n cp, .slice A2 k c2]) m K := by
  refine awp_append_own hel hown hr h1 hfit hfit2 (fun g cp' cur hor hB ho => ?_) (fun h0 hA => ?_)
  · have hg0 : m0 g = none := by
      rcases hor with h | h
      · exact hnew g (by rw [h]; simp [obl])
      · exact AM.le_none hle h
    refine h _ _ _ ?_ ?_ ho ?_ ?_
    · intro x o hx
      rw [upd_get]
      by_cases ex : x = g
      · subst ex; rw [hg0] at hx; cases hx
      · rw [if_neg ex]; exact hle _ _ hx
    · refine Fr.upd (Fr.refl _ _) ?_ _
      rcases hor with h | h
      · left; rw [h]; simp [obl]
      · right; exact h
    · intro x hx; simp [obl] at hx; subst hx; exact hg0
    · intro x hx
      simp [obl] at hx; subst hx
      rcases hor with h | h
      · left; rw [h]; simp [obl]
      · right; exact h
  · have hx : xs = [] := List.eq_nil_of_length_eq_zero (by rw [hown.1]; have : n = 0 := by omega
                                                           rw [this]; simp)
    have hn : news = [] := List.eq_nil_of_length_eq_zero (by rw [hr.1]; have : k = 0 := by omega
                                                             rw [this]; simp)
    have := h none 0 m hle (Fr.refl _ _) (by rw [h0, hx, hn]; exact Own.nil _ _ _ _) (by simp [obl]) (by simp [obl])
    rw [h0] at this
    exact this

theorem ne_new {m:AM} {b b':Nat} {o:Obj} (h:m b=some o) (h':m b'=none):b≠b':=fun e=>by subst e; rw [h'] at h; cases h
end Go.Alog

set_option linter.unusedSimpArgs false
set_option linter.unusedVariables false
namespace Go.Alog
open Go Go.RowKit

theorem blk4 {w0:World} {m:AM} {T:TypeId} {z0 z1 z2 z3 v0 v1 v2 v3:Value} {K:Nat→AM→Prop} (hK:∀ b m',m.le m'→m b=none→w0.heap.size≤b→m' b=some (.cells #[v0,v1,v2,v3] T)→K b m') :
  ∀ b:Nat,w0.heap.size≤b→m b=none→let m1:=AM.upd m b (.cells #[z0,z1,z2,z3] T);
   StC w0.heap.size m1 ⟨b,0,none⟩ v0 fun m2=>StC w0.heap.size m2 ⟨b,1,none⟩ v1 fun m3=>StC w0.heap.size m3 ⟨b,2,none⟩ v2 fun m4=>StC w0.heap.size m4 ⟨b,3,none⟩ v3 fun m5=>K b m5:=by
 intro b hb hm m1
 refine StC_upd.2 ⟨hb,by simp,StC_upd.2 ⟨hb,by simp,StC_upd.2 ⟨hb,by simp,StC_upd.2 ⟨hb,by simp,?_⟩⟩⟩⟩
 exact hK b _ (le_new hm _) hm hb (by rw [upd_get_same]; simp)

theorem blk5 {w0:World} {m:AM} {T:TypeId} {z0 z1 z2 z3 z4 v0 v1 v2 v3 v4:Value} {K:Nat→AM→Prop} (hK:∀ b m',m.le m'→m b=none→w0.heap.size≤b→m' b=some (.cells #[v0,v1,v2,v3,v4] T)→K b m') :
  ∀ b:Nat,w0.heap.size≤b→m b=none→let m1:=AM.upd m b (.cells #[z0,z1,z2,z3,z4] T);
   StC w0.heap.size m1 ⟨b,0,none⟩ v0 fun m2=>StC w0.heap.size m2 ⟨b,1,none⟩ v1 fun m3=>StC w0.heap.size m3 ⟨b,2,none⟩ v2 fun m4=>StC w0.heap.size m4 ⟨b,3,none⟩ v3 fun m5=>StC w0.heap.size m5 ⟨b,4,none⟩ v4 fun m6=>K b m6:=by
 intro b hb hm m1
 refine StC_upd.2 ⟨hb,by simp,StC_upd.2 ⟨hb,by simp,StC_upd.2 ⟨hb,by simp,StC_upd.2 ⟨hb,by simp,StC_upd.2 ⟨hb,by simp,?_⟩⟩⟩⟩⟩
 exact hK b _ (le_new hm _) hm hb (by rw [upd_get_same]; simp)

theorem bcT {A B:Prop} (h:A):bcase true A B:=h
theorem bcF {A B:Prop} (h:B):bcase false A B:=h
theorem bcET {b:Bool} {A B:Prop} (hb:b=true) (h:A):bcase b A B:=by subst hb; exact h
theorem bcEF {b:Bool} {A B:Prop} (hb:b=false) (h:B):bcase b A B:=by subst hb; exact h
theorem bcI {b:Bool} {A B:Prop} (h1:b=true→A) (h2:b=false→B):bcase b A B:=by cases b <;> first | exact h1 rfl | exact h2 rfl
theorem bcP {p:Prop} [Decidable p] {A B:Prop} (h1:p→A) (h2:¬ p→B):bcase (decide p) A B:=by
 by_cases h:p
 ·rw [decide_eq_true h]; exact h1 h
 ·rw [decide_eq_false h]; exact h2 h
theorem cel {m:AM} {b k:Nat} {c:Array Value} {t:TypeId} {f:Nat × Nat} {v:Value} (h:m b=some (.cells c t f)) (hk:c[k]?=some v):m.cell ⟨b,k,none⟩=some v:=by rw [cell_of h]; exact hk
theorem cell_k {k:IntKind} {m:AM} {a:Addr} {l:List Int} (h:Cells m a (intCells k l)) {i:Int} (h0:0≤i) (h1:i<l.length):m.cell (a.add (i.toNat*1))=some (.int k (l.getD i.toNat 0)):=by
 have hlt:i.toNat<l.length:=by omega
 refine h _ _ ?_
 simp [intCells,hlt,List.getD]
end Go.Alog

