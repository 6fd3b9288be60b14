/- YtkfemiloehkmhaaGreat: a text of our own, by an AI agent: CoreA -/
import Derived.WalkKit
import Derived.ProofKit
import Derived.OpenShut
import Derived.ChangeOld
import Derived.Below
import Derived.SizedLaws
import Derived.Deep.Slices
import Derived.ChangeSame
import Derived.Lib.SmallJoins
import Derived.ChangeSlices
namespace Go.Alog
open Go Go.RowKit

abbrev AM:=Nat→Option Obj

def AM.cell (m:AM) (a:Addr):Option Value :=
 match m a.block with
 | some (.cells c _ _)=>if a.spot.isSome then none else c[a.off]?
 | _=>none

def AM.frozen (m:AM) (a:Addr):Bool :=
 match m a.block with
 | some (.cells _ _ (lo,hi))=>lo≤a.off && a.off<hi
 | _=>false

def AM.upd (m:AM) (b:Nat) (o:Obj):AM:=fun x=>if x=b then some o else m x

def AM.set (m:AM) (a:Addr) (v:Value):AM :=
 match m a.block with
 | some (.cells c t f)=>m.upd a.block (.cells (if a.spot.isSome then c else c.setIfInBounds a.off v) t f)
 | _=>m

def AM.le (m m':AM):Prop:=∀ b o,m b=some o→m' b=some o

def shapeOf:Obj→Option (TypeId × Nat)
 | .cells c e _=>some (e,c.size)
 | _=>none

def notCells:Obj→Prop
 | .cells ..=>False
 | _=>True

structure Holds (w0 w:World) (m:AM):Prop where
 below:Below w0.heap.size w0 w
 has:∀ b o,m b=some o→w.heap[b]?=some o

theorem Holds.mono {w0 w:World} {m m':AM} (h:Holds w0 w m) (hl:m'.le m):Holds w0 w m':=⟨h.below,fun b o hb=>h.has b o (hl b o hb)⟩
theorem Holds.drawn {w0 w:World} {m:AM} (h:Holds w0 w m) (n:Nat):Holds w0 { w with drawn:=n } m:=⟨⟨h.below.os,h.below.tape,h.below.output,h.below.size,h.below.block⟩,h.has⟩

theorem Holds.cell {w0 w:World} {m:AM} (h:Holds w0 w m) {a:Addr} {v:Value} (hc:m.cell a=some v):w.cell? a=some v:=by
 unfold AM.cell at hc
 unfold World.cell?
 cases hm:m a.block with
 | none=>rw [hm] at hc; cases hc
 | some o=>rw [hm] at hc; rw [h.has _ _ hm]; exact hc

theorem Holds.frozen {w0 w:World} {m:AM} (h:Holds w0 w m) {a:Addr} {v:Value} (hc:m.cell a=some v):w.frozen? a=m.frozen a:=by
 unfold AM.cell at hc
 unfold World.frozen? AM.frozen
 cases hm:m a.block with
 | none=>rw [hm] at hc; cases hc
 | some o=>rw [h.has _ _ hm]; cases o <;> rfl

theorem heap_modify_get (w:World) (f:Obj→Obj) (b k:Nat):({ w with heap:=w.heap.modify b f }:World).heap[k]?=if k=b then (w.heap[b]?).map f else w.heap[k]?:=by
 show (w.heap.modify b f)[k]?=_
 rw [Array.getElem?_modify]
 by_cases h:b=k
 ·subst h; simp
 ·rw [if_neg h,if_neg (Ne.symm h)]

theorem Holds.set {w0 w:World} {m:AM} (h:Holds w0 w m) {a:Addr} (ha:w0.heap.size≤a.block) (v:Value):Holds w0 (w.setCell a v) (m.set a v):=by
 refine ⟨h.below.setCell ha v,fun b o hb=>?_⟩
 unfold AM.set at hb
 unfold World.setCell
 rw [heap_modify_get]
 cases hm:m a.block with
 | none =>
  rw [hm] at hb
  by_cases hba:b=a.block
  ·subst hba; exact absurd (hm.symm.trans hb) (by simp)
  ·rw [if_neg hba]; exact h.has _ _ hb
 | some o' =>
  rw [hm] at hb
  have hw:=h.has _ _ hm
  by_cases hba:b=a.block
  ·subst hba
   rw [if_pos rfl,hw]
   cases o' <;> simp_all [AM.upd]
  ·rw [if_neg hba]
   cases o' <;> simp [AM.upd,hba] at hb <;> exact h.has _ _ hb

theorem Holds.new {w0 w:World} {m:AM} (h:Holds w0 w m) (o:Obj):Holds w0 { w with heap:=w.heap.push o } (m.upd w.heap.size o):=by
 refine ⟨h.below.alloc (by exact h.below.size) o,fun b o' hb=>?_⟩
 unfold AM.upd at hb
 show (w.heap.push o)[b]?=_
 rw [Array.getElem?_push]
 by_cases hbs:b=w.heap.size
 ·rw [if_pos hbs] at hb; rw [if_pos hbs]; exact hb
 ·rw [if_neg hbs] at hb; rw [if_neg hbs]; exact h.has _ _ hb

theorem Holds.free {w0 w:World} {m:AM} (h:Holds w0 w m):m w.heap.size=none:=by
 cases hm:m w.heap.size with
 | none=>rfl
 | some o =>
  have:=h.has _ _ hm
  simp at this

theorem Holds.setObj {w0 w:World} {m:AM} (h:Holds w0 w m) {r:Nat} (hr:w0.heap.size≤r) {o':Obj} (hm:m r=some o') (o:Obj):Holds w0 { w with heap:=w.heap.setIfInBounds r o } (m.upd r o):=by
 have hlt:r<w.heap.size:=by have:=h.has _ _ hm; exact (Array.getElem?_eq_some_iff.1 this).1
 refine ⟨⟨h.below.os,h.below.tape,h.below.output,by simpa using h.below.size,fun k hk=>?_⟩,fun b o1 hb=>?_⟩
 ·show (w.heap.setIfInBounds r o)[k]?=_
  rw [Array.getElem?_setIfInBounds_ne (by omega)]
  exact h.below.block k hk
 ·show (w.heap.setIfInBounds r o)[b]?=_
  unfold AM.upd at hb
  by_cases hbr:b=r
  ·subst hbr
   rw [if_pos rfl] at hb
   injection hb with hb
   subst hb
   simp [hlt]
  ·rw [if_neg hbr] at hb
   rw [Array.getElem?_setIfInBounds_ne (Ne.symm hbr)]
   exact h.has _ _ hb

def awp (P:Program) (B:Nat) {α:Type}:Sem α→AM→(α→AM→Prop)→Prop
 | .pure x,m,K=>K x m
 | .load _ a k,m,K=>∃ v,m.cell a=some v∧awp P B (k v) m K
 | .store _ a v k,m,K=>v.oneCell'=true∧B≤a.block∧(∃ u,m.cell a=some u)∧m.frozen a=false∧awp P B k (m.set a v) K
 | .new o k,m,K=>∀ b,B≤b→m b=none→awp P B (k b) (m.upd b o) K
 | .shape r k,m,K=>∃ o,m r=some o∧awp P B (k (shapeOf o)) m K
 | .getObj r k,m,K=>∃ o,m r=some o∧notCells o∧awp P B (k o) m K
 | .setObj r o k,m,K=>B≤r∧(∃ o',m r=some o'∧notCells o')∧awp P B k (m.upd r o) K
 | .frozen a k,m,K=>(∃ o,m a.block=some o)∧awp P B (k (m.frozen a)) m K
 | .choose q k,m,K=>(q.forced=true→awp P B (k 0) m K)∧(q.forced=false→∀ t,awp P B (k (q.cut t)) m K)
 | .program k,m,K=>awp P B (k P) m K
 | .mark _ k,m,K=>awp P B k m K
 | .freeze ..,_,_=>False
 | .sys ..,_,_=>False
 | .halt _,_,_=>False

theorem oneCell_store {α:Type} (P:Program) (m:Mode) (a:Addr) (v:Value) (k:Sem α) (w:World) (hv:v.oneCell'=true) {u:Value} (hc:w.cell? a=some u) (hf:w.frozen? a=false) :
  (Sem.store m a v k).run P w=k.run P (w.setCell a v):=by
 cases v <;> first | (simp [Value.oneCell'] at hv; done) | simp [Sem.run,hc,hf]

theorem awp_run {P:Program} {w0:World} {α:Type} (s:Sem α):∀ (w:World) (m:AM) (K:α→AM→Prop),Holds w0 w m→awp P w0.heap.size s m K →
  ∃ x w' m',s.run P w=.ok x w'∧Holds w0 w' m'∧K x m':=by
 induction s with
 | pure x=>intro w m K h hk; exact ⟨x,w,m,rfl,h,hk⟩
 | load md a k ih =>
  intro w m K h hk
  obtain ⟨v,hc,hk⟩:=hk
  obtain ⟨x,w',m',hr,hh,hK⟩:=ih v w m K h hk
  exact ⟨x,w',m',by simp only [Sem.run,h.cell hc]; exact hr,hh,hK⟩
 | store md a v k ih =>
  intro w m K h hk
  obtain ⟨hv,hB,⟨u,hc⟩,hf,hk⟩:=hk
  obtain ⟨x,w',m',hr,hh,hK⟩:=ih _ _ K (h.set hB v) hk
  refine ⟨x,w',m',?_,hh,hK⟩
  rw [oneCell_store P md a v k w hv (h.cell hc) ((h.frozen hc).trans hf)]
  exact hr
 | new o k ih =>
  intro w m K h hk
  obtain ⟨x,w',m',hr,hh,hK⟩:=ih _ _ _ K (h.new o) (hk w.heap.size h.below.size h.free)
  exact ⟨x,w',m',by simp only [Sem.run]; exact hr,hh,hK⟩
 | shape r k ih =>
  intro w m K h hk
  obtain ⟨o,ho,hk⟩:=hk
  obtain ⟨x,w',m',hr,hh,hK⟩:=ih _ w m K h hk
  refine ⟨x,w',m',?_,hh,hK⟩
  have:w.shape? r=shapeOf o:=by unfold World.shape?; rw [h.has _ _ ho]; cases o <;> rfl
  simp only [Sem.run,this]; exact hr
 | freeze a n k ih=>intro w m K h hk; exact hk.elim
 | frozen a k ih =>
  intro w m K h hk
  obtain ⟨⟨o,ho⟩,hk⟩:=hk
  obtain ⟨x,w',m',hr,hh,hK⟩:=ih _ w m K h hk
  refine ⟨x,w',m',?_,hh,hK⟩
  have:w.frozen? a=m.frozen a:=by unfold World.frozen? AM.frozen; rw [h.has _ _ ho,ho]; cases o <;> rfl
  simp only [Sem.run,this]; exact hr
 | getObj r k ih =>
  intro w m K h hk
  obtain ⟨o,ho,hn,hk⟩:=hk
  obtain ⟨x,w',m',hr,hh,hK⟩:=ih _ w m K h hk
  refine ⟨x,w',m',?_,hh,hK⟩
  simp only [Sem.run,h.has _ _ ho]
  cases o <;> first | exact hr | exact hn.elim
 | setObj r o k ih =>
  intro w m K h hk
  obtain ⟨hB,⟨o',ho,hn⟩,hk⟩:=hk
  obtain ⟨x,w',m',hr,hh,hK⟩:=ih _ _ K (h.setObj hB ho o) hk
  refine ⟨x,w',m',?_,hh,hK⟩
  simp only [Sem.run,h.has _ _ ho]
  cases o' <;> first | exact hr | exact hn.elim
 | choose q k ih =>
  intro w m K h hk
  cases hq:q.forced with
  | true =>
   obtain ⟨x,w',m',hr,hh,hK⟩:=ih _ w m K h (hk.1 hq)
   exact ⟨x,w',m',by simp only [Sem.run,hq,if_true]; exact hr,hh,hK⟩
  | false =>
   obtain ⟨x,w',m',hr,hh,hK⟩:=ih _ { w with drawn:=w.drawn+1 } m K (h.drawn _) (hk.2 hq (w.tape w.drawn q))
   exact ⟨x,w',m',by simp only [Sem.run,hq,Bool.false_eq_true,if_false]; exact hr,hh,hK⟩
 | sys c k ih=>intro w m K h hk; exact hk.elim
 | program k ih =>
  intro w m K h hk
  obtain ⟨x,w',m',hr,hh,hK⟩:=ih _ w m K h hk
  exact ⟨x,w',m',by simp only [Sem.run]; exact hr,hh,hK⟩
 | mark mk k ih =>
  intro w m K h hk
  obtain ⟨x,w',m',hr,hh,hK⟩:=ih w m K h hk
  exact ⟨x,w',m',by simp only [Sem.run]; exact hr,hh,hK⟩
 | halt hh=>intro w m K h hk; exact hk.elim

theorem awp_mono {P:Program} {B:Nat} {α:Type} (s:Sem α):∀ (m:AM) (K K':α→AM→Prop),(∀ x m',K x m'→K' x m')→awp P B s m K→awp P B s m K':=by
 induction s with
 | pure x=>intro m K K' h hk; exact h _ _ hk
 | load md a k ih=>intro m K K' h ⟨v,hc,hk⟩; exact ⟨v,hc,ih v m K K' h hk⟩
 | store md a v k ih=>intro m K K' h ⟨h1,h2,h3,h4,hk⟩; exact ⟨h1,h2,h3,h4,ih _ K K' h hk⟩
 | new o k ih=>intro m K K' h hk b hb hf; exact ih b _ K K' h (hk b hb hf)
 | shape r k ih=>intro m K K' h ⟨o,ho,hk⟩; exact ⟨o,ho,ih _ m K K' h hk⟩
 | freeze a n k ih=>intro m K K' h hk; exact hk.elim
 | frozen a k ih=>intro m K K' h ⟨ho,hk⟩; exact ⟨ho,ih _ m K K' h hk⟩
 | getObj r k ih=>intro m K K' h ⟨o,ho,hn,hk⟩; exact ⟨o,ho,hn,ih _ m K K' h hk⟩
 | setObj r o k ih=>intro m K K' h ⟨h1,h2,hk⟩; exact ⟨h1,h2,ih _ K K' h hk⟩
 | choose q k ih=>intro m K K' h ⟨h1,h2⟩; exact ⟨fun hq=>ih _ m K K' h (h1 hq),fun hq t=>ih _ m K K' h (h2 hq t)⟩
 | sys c k ih=>intro m K K' h hk; exact hk.elim
 | program k ih=>intro m K K' h hk; exact ih _ m K K' h hk
 | mark mk k ih=>intro m K K' h hk; exact ih m K K' h hk
 | halt hh=>intro m K K' h hk; exact hk.elim

theorem awp_bind {P:Program} {B:Nat} {α β:Type} (s:Sem α) (f:α→Sem β):∀ (m:AM) (K:β→AM→Prop),awp P B (s.bind f) m K↔awp P B s m (fun x m'=>awp P B (f x) m' K):=by
 induction s with
 | pure x=>intro m K; exact Iff.rfl
 | load md a k ih=>intro m K; simp only [Sem.bind,awp,ih]
 | store md a v k ih=>intro m K; simp only [Sem.bind,awp,ih]
 | new o k ih=>intro m K; simp only [Sem.bind,awp,ih]
 | shape r k ih=>intro m K; simp only [Sem.bind,awp,ih]
 | freeze a n k ih=>intro m K; simp only [Sem.bind,awp]
 | frozen a k ih=>intro m K; simp only [Sem.bind,awp,ih]
 | getObj r k ih=>intro m K; simp only [Sem.bind,awp,ih]
 | setObj r o k ih=>intro m K; simp only [Sem.bind,awp,ih]
 | choose q k ih=>intro m K; simp only [Sem.bind,awp,ih]
 | sys c k ih=>intro m K; simp only [Sem.bind,awp]
 | program k ih=>intro m K; simp only [Sem.bind,awp,ih]
 | mark mk k ih=>intro m K; simp only [Sem.bind,awp,ih]
 | halt hh=>intro m K; simp only [Sem.bind,awp]

def pval (P:Program) {α:Type}:Sem α→Option α
 | .pure x=>some x
 | .program k=>pval P (k P)
 | .mark _ k=>pval P k
 | _=>none

def rval (P:Program) (m:AM) {α:Type}:Sem α→Option α
 | .pure x=>some x
 | .program k=>rval P m (k P)
 | .mark _ k=>rval P m k
 | .load _ a k=>match m.cell a with | some v=>rval P m (k v) | none=>none
 | .shape r k=>match m r with | some o=>rval P m (k (shapeOf o)) | none=>none
 | .getObj r k=>match m r with | some (.cells ..)=>none | some o=>rval P m (k o) | none=>none
 | _=>none

theorem pval_run {P:Program} {α:Type} (s:Sem α):∀ {x:α},pval P s=some x→∀ w,s.run P w=.ok x w:=by
 induction s with
 | pure x=>intro y h w; injection h with h; subst h; rfl
 | program k ih=>intro y h w; exact ih _ h w
 | mark mk k ih=>intro y h w; exact ih h w
 | _=>intros; simp_all [pval]

theorem rval_run {P:Program} {w0 w:World} {m:AM} (hh:Holds w0 w m) {α:Type} (s:Sem α):∀ {x:α},rval P m s=some x→s.run P w=.ok x w:=by
 induction s with
 | pure x=>intro y h; injection h with h; subst h; rfl
 | program k ih=>intro y h; exact ih _ h
 | mark mk k ih=>intro y h; exact ih h
 | load md a k ih =>
  intro y h
  unfold rval at h
  cases hc:m.cell a with
  | none=>rw [hc] at h; cases h
  | some v=>rw [hc] at h; simp only [Sem.run,hh.cell hc]; exact ih v h
 | shape r k ih =>
  intro y h
  unfold rval at h
  cases hc:m r with
  | none=>rw [hc] at h; cases h
  | some o =>
   rw [hc] at h
   have:w.shape? r=shapeOf o:=by unfold World.shape?; rw [hh.has _ _ hc]; cases o <;> rfl
   simp only [Sem.run,this]; exact ih _ h
 | getObj r k ih =>
  intro y h
  unfold rval at h
  cases hc:m r with
  | none=>rw [hc] at h; cases h
  | some o =>
   rw [hc] at h
   simp only [Sem.run,hh.has _ _ hc]
   cases o <;> first | exact ih _ h | (simp at h)
 | _=>intros; simp_all [rval]

def Sat (w0:World) (m:AM):Prop:=(∃ N,∀ b,N≤b→m b=none)∧∀ b o,b<w0.heap.size→m b=some o→w0.heap[b]?=some o

theorem Holds.sat {w0 w:World} {m:AM} (h:Holds w0 w m):Sat w0 m:=by
 refine ⟨⟨w.heap.size,fun b hb=>?_⟩,fun b o hb ho=>?_⟩
 ·cases hm:m b with
  | none=>rfl
  | some o =>
   have:=h.has _ _ hm
   rw [Array.getElem?_eq_none hb] at this
   cases this
 ·rw [← h.below.block b hb]; exact h.has _ _ ho

theorem Sat.upd {w0:World} {m:AM} (h:Sat w0 m) {b:Nat} (hb:w0.heap.size≤b) (o:Obj):Sat w0 (m.upd b o):=by
 obtain ⟨⟨N,hN⟩,h2⟩:=h
 refine ⟨⟨max N (b+1),fun x hx=>?_⟩,fun x o' hx ho=>?_⟩
 ·unfold AM.upd; rw [if_neg (by omega)]; exact hN x (by omega)
 ·unfold AM.upd at ho; rw [if_neg (by omega)] at ho; exact h2 x o' hx ho

theorem Sat.set {w0:World} {m:AM} (h:Sat w0 m) {a:Addr} (hb:w0.heap.size≤a.block) (v:Value):Sat w0 (m.set a v):=by
 unfold AM.set
 split
 ·exact h.upd hb _
 ·exact h

theorem Sat.world {w0:World} {m:AM} (h:Sat w0 m):∃ w,Holds w0 w m:=by
 obtain ⟨⟨N,hN⟩,h2⟩:=h
 let f:Nat→Obj:=fun b=>match m b with | some o=>o | none=>(w0.heap[b]?).getD default
 refine ⟨{ w0 with heap:=((List.range (max N w0.heap.size)).map f).toArray },⟨rfl,rfl,rfl,by simp; omega,fun k hk=>?_⟩,fun b o hb=>?_⟩
 ·show (((List.range (max N w0.heap.size)).map f).toArray)[k]?=_
  simp only [List.getElem?_toArray,List.getElem?_map,List.getElem?_range (show k<max N w0.heap.size by omega),Option.map_some]
  have:f k=w0.heap[k]:=by
   show (match m k with | some o=>o | none=>(w0.heap[k]?).getD default)=_
   cases hm:m k with
   | none=>simp [hk]
   | some o=>have:=h2 k o hk hm; simp [hk] at this; exact this.symm
  rw [this]; simp [hk]
 ·show (((List.range (max N w0.heap.size)).map f).toArray)[b]?=_
  have hbN:b<N:=by
   rcases Nat.lt_or_ge b N with h | h
   ·exact h
   ·rw [hN b h] at hb; cases hb
  simp only [List.getElem?_toArray,List.getElem?_map,List.getElem?_range (show b<max N w0.heap.size by omega),Option.map_some]
  show some (match m b with | some o=>o | none=>(w0.heap[b]?).getD default)=_
  rw [hb]

theorem awp_mono_sat {P:Program} {w0:World} {α:Type} (s:Sem α):∀ (m:AM) (K K':α→AM→Prop),Sat w0 m→(∀ x m',Sat w0 m'→K x m'→K' x m')→awp P w0.heap.size s m K→awp P w0.heap.size s m K':=by
 induction s with
 | pure x=>intro m K K' hs h hk; exact h _ _ hs hk
 | load md a k ih=>intro m K K' hs h ⟨v,hc,hk⟩; exact ⟨v,hc,ih v m K K' hs h hk⟩
 | store md a v k ih=>intro m K K' hs h ⟨h1,h2,h3,h4,hk⟩; exact ⟨h1,h2,h3,h4,ih _ K K' (hs.set h2 v) h hk⟩
 | new o k ih=>intro m K K' hs h hk b hb hf; exact ih b _ K K' (hs.upd hb o) h (hk b hb hf)
 | shape r k ih=>intro m K K' hs h ⟨o,ho,hk⟩; exact ⟨o,ho,ih _ m K K' hs h hk⟩
 | freeze a n k ih=>intro m K K' hs h hk; exact hk.elim
 | frozen a k ih=>intro m K K' hs h ⟨ho,hk⟩; exact ⟨ho,ih _ m K K' hs h hk⟩
 | getObj r k ih=>intro m K K' hs h ⟨o,ho,hn,hk⟩; exact ⟨o,ho,hn,ih _ m K K' hs h hk⟩
 | setObj r o k ih=>intro m K K' hs h ⟨h1,h2,hk⟩; exact ⟨h1,h2,ih _ K K' (hs.upd h1 o) h hk⟩
 | choose q k ih=>intro m K K' hs h ⟨h1,h2⟩; exact ⟨fun hq=>ih _ m K K' hs h (h1 hq),fun hq t=>ih _ m K K' hs h (h2 hq t)⟩
 | sys c k ih=>intro m K K' hs h hk; exact hk.elim
 | program k ih=>intro m K K' hs h hk; exact ih _ m K K' hs h hk
 | mark mk k ih=>intro m K K' hs h hk; exact ih m K K' hs h hk
 | halt hh=>intro m K K' hs h hk; exact hk.elim

def CallsA (P:Program) (w0:World) (f:FuncId) (args:Array Value) (m:AM) (R:Value→AM→Prop):Prop :=
 ∀ w,Holds w0 w m→Calls P f args w (fun e w'=>∃ r m',e=.returned r∧Holds w0 w' m'∧R r m')

theorem CallsA.mono_sat {P:Program} {w0:World} {f:FuncId} {args:Array Value} {m:AM} {R R':Value→AM→Prop} (h:CallsA P w0 f args m R) (hr:∀ r m',Sat w0 m'→R r m'→R' r m'):CallsA P w0 f args m R' :=
 fun w hw=>(h w hw).mono fun _ _ ⟨r,m',he,hh,hR⟩=>⟨r,m',he,hh,hr r m' hh.sat hR⟩

theorem CallsA.mono {P:Program} {w0:World} {f:FuncId} {args:Array Value} {m:AM} {R R':Value→AM→Prop} (h:CallsA P w0 f args m R) (hr:∀ r m',R r m'→R' r m'):CallsA P w0 f args m R' :=
 h.mono_sat fun r m' _=>hr r m'

theorem CallsA.nonvac {P:Program} {w0:World} {f:FuncId} {args:Array Value} {m:AM} {C:Prop} (hs:Sat w0 m) (h:CallsA P w0 f args m (fun _ _=>C)):C:=by
 obtain ⟨w,hw⟩:=hs.world
 obtain ⟨e,w',fr,⟨r,m',_,_,hC⟩,_⟩:=h w hw []
 exact hC

def nextVal:Next→Option Value
 | .value v=>some v
 | .skip=>some undef
 | _=>none

def cont (P:Program) (w0:World) (K:Value→AM→Prop):Next→AM→Prop
 | .value v,m=>K v m
 | .skip,m=>K undef m
 | .enter f args,m=>CallsA P w0 f args m K
 | _,_=>False

def Y (P:Program) (w0:World):Nat→Sem Next→AM→Value→Prop
 | 0,s,_,v=>(pval P s).bind nextVal=some v
 | 1,s,m,v=>(rval P m s).bind nextVal=some v
 | _,s,m,v=>(rval P m s).bind nextVal=some v∨∃ f args,rval P m s=some (.enter f args)∧CallsA P w0 f args m (fun r m'=>r=v∧m'=m)

def OpA (P:Program) (w0:World) (c:Nat) (s:Sem Next) (m:AM) (K:Value→AM→Prop):Prop :=
 match c with
 | 0=>∃ v,Y P w0 0 s m v∧K v m
 | 1=>∃ v,Y P w0 1 s m v∧K v m
 | 2=>∃ v,Y P w0 2 s m v∧K v m
 | 3=>awp P w0.heap.size s m (cont P w0 K)
 | _=>awp P w0.heap.size s m (cont P w0 (fun v m'=>m.le m'∧K v m'))

def GOp (P:Program) (w0:World) (c:Nat) (ops:Array Oper) (o:Oper) (a:Act) (m:AM) (K:Value→AM→Prop):Prop :=
 (Region.wanted o (yielded ops a.tmps)=true→OpA P w0 c (execOp a.eval o) m K)∧(Region.wanted o (yielded ops a.tmps)=false→K undef m)

section
variable {P:Program} {w0:World}

theorem cont_mono_sat {K K':Value→AM→Prop} (h:∀ v m',Sat w0 m'→K v m'→K' v m') (n:Next) (m:AM) (hs:Sat w0 m) (hk:cont P w0 K n m):cont P w0 K' n m:=by
 cases n <;> first | exact h _ _ hs hk | exact CallsA.mono_sat hk h | exact hk

theorem OpA_mono_sat {c:Nat} {s:Sem Next} {m:AM} {K K':Value→AM→Prop} (hs:Sat w0 m) (h:∀ v m',Sat w0 m'→K v m'→K' v m') (hk:OpA P w0 c s m K):OpA P w0 c s m K':=by
 match c,hk with
 | 0,⟨v,hy,hK⟩=>exact ⟨v,hy,h _ _ hs hK⟩
 | 1,⟨v,hy,hK⟩=>exact ⟨v,hy,h _ _ hs hK⟩
 | 2,⟨v,hy,hK⟩=>exact ⟨v,hy,h _ _ hs hK⟩
 | 3,hk=>exact awp_mono_sat s m _ _ hs (fun x m' hs' hx=>cont_mono_sat h x m' hs' hx) hk
 | n+4,hk=>exact awp_mono_sat s m _ _ hs (fun x m' hs' hx=>cont_mono_sat (fun v m'' hs'' hv=>⟨hv.1,h v m'' hs'' hv.2⟩) x m' hs' hx) hk

theorem GOp_mono_sat {c:Nat} {ops:Array Oper} {o:Oper} {a:Act} {m:AM} {K K':Value→AM→Prop} (hs:Sat w0 m) (h:∀ v m',Sat w0 m'→K v m'→K' v m') (hk:GOp P w0 c ops o a m K):GOp P w0 c ops o a m K' :=
 ⟨fun hw=>OpA_mono_sat hs h (hk.1 hw),fun hw=>h _ _ hs (hk.2 hw)⟩

theorem cont_mono {K K':Value→AM→Prop} (h:∀ v m',K v m'→K' v m') (n:Next) (m:AM) (hk:cont P w0 K n m):cont P w0 K' n m:=by
 cases n <;> first | exact h _ _ hk | exact CallsA.mono hk h | exact hk

theorem OpA_mono {c:Nat} {s:Sem Next} {m:AM} {K K':Value→AM→Prop} (h:∀ v m',K v m'→K' v m') (hk:OpA P w0 c s m K):OpA P w0 c s m K':=by
 match c,hk with
 | 0,⟨v,hy,hK⟩=>exact ⟨v,hy,h _ _ hK⟩
 | 1,⟨v,hy,hK⟩=>exact ⟨v,hy,h _ _ hK⟩
 | 2,⟨v,hy,hK⟩=>exact ⟨v,hy,h _ _ hK⟩
 | 3,hk=>exact awp_mono s m _ _ (fun x m' hx=>cont_mono h x m' hx) hk
 | n+4,hk=>exact awp_mono s m _ _ (fun x m' hx=>cont_mono (fun v m'' hv=>⟨hv.1,h v m'' hv.2⟩) x m' hx) hk

theorem GOp_mono {c:Nat} {ops:Array Oper} {o:Oper} {a:Act} {m:AM} {K K':Value→AM→Prop} (h:∀ v m',K v m'→K' v m') (hk:GOp P w0 c ops o a m K):GOp P w0 c ops o a m K' :=
 ⟨fun hw=>OpA_mono h (hk.1 hw),fun hw=>h _ _ (hk.2 hw)⟩

theorem awp_nonvac {α:Type} (s:Sem α):∀ {m:AM} {C:Prop} (K:α→AM→Prop),Sat w0 m→(∀ x m',Sat w0 m'→K x m'→C)→awp P w0.heap.size s m K→C:=by
 intro m C K hs h hk
 obtain ⟨w,hw⟩:=hs.world
 obtain ⟨x,w',m',_,hh,hK⟩:=awp_run s w m K hw hk
 exact h x m' hh.sat hK

theorem OpA_nonvac {c:Nat} {s:Sem Next} {m:AM} {C:Prop} (hs:Sat w0 m) (hk:OpA P w0 c s m (fun _ _=>C)):C:=by
 match c,hk with
 | 0,⟨v,hy,hK⟩=>exact hK
 | 1,⟨v,hy,hK⟩=>exact hK
 | 2,⟨v,hy,hK⟩=>exact hK
 | 3,hk =>
  refine awp_nonvac s _ hs (fun x m' hs' hx=>?_) hk
  cases x <;> first | exact hx | exact CallsA.nonvac hs' hx | exact hx.elim
 | n+4,hk =>
  refine awp_nonvac s _ hs (fun x m' hs' hx=>?_) hk
  cases x <;> first | exact hx.2 | exact CallsA.nonvac hs' (CallsA.mono hx fun _ _ h=>h.2) | exact hx.elim

theorem GOp_nonvac {c:Nat} {ops:Array Oper} {o:Oper} {a:Act} {m:AM} {C:Prop} (hs:Sat w0 m) (hk:GOp P w0 c ops o a m (fun _ _=>C)):C:=by
 cases hw:Region.wanted o (yielded ops a.tmps) with
 | true=>exact OpA_nonvac hs (hk.1 hw)
 | false=>exact hk.2 hw

def YG (P:Program) (w0:World) (c:Nat) (ops:Array Oper) (o:Oper) (a:Act) (m:AM) (v:Value):Prop :=
 (Region.wanted o (yielded ops a.tmps)=true→Y P w0 c (execOp a.eval o) m v)∧(Region.wanted o (yielded ops a.tmps)=false→v=undef)

theorem GOp_low {c:Nat} (hc:c≤2) {ops:Array Oper} {o:Oper} {a:Act} {m:AM} {K:Value→AM→Prop}:GOp P w0 c ops o a m K↔∃ v,YG P w0 c ops o a m v∧K v m:=by
 have hO:∀ s,OpA P w0 c s m K↔∃ v,Y P w0 c s m v∧K v m:=fun s=>by
  match c,hc with
  | 0,_=>exact Iff.rfl
  | 1,_=>exact Iff.rfl
  | 2,_=>exact Iff.rfl
 unfold GOp YG
 rw [hO]
 cases Region.wanted o (yielded ops a.tmps) with
 | true=>simp
 | false=>simp

theorem YG_zero_any {ops:Array Oper} {o:Oper} {a:Act} {m m':AM} {v:Value} (h:YG P w0 0 ops o a m v):YG P w0 0 ops o a m' v:=h

theorem YG_zero_det {ops:Array Oper} {o:Oper} {a:Act} {m m':AM} {v v':Value} (h:YG P w0 0 ops o a m v) (h':YG P w0 0 ops o a m' v'):v=v':=by
 cases hw:Region.wanted o (yielded ops a.tmps) with
 | true =>
  have e1:(pval P (execOp a.eval o)).bind nextVal=some v:=h.1 hw
  have e2:(pval P (execOp a.eval o)).bind nextVal=some v':=h'.1 hw
  rw [e1] at e2; injection e2
 | false=>rw [h.2 hw,h'.2 hw]

def classOK (c d:Nat):Bool:=c == 0 || d == 0 || (c≤2 && d≤2) || (c == 1 && d≥4)

theorem rval_mono {m m':AM} (hl:m.le m') {α:Type} (s:Sem α):∀ {x:α},rval P m s=some x→rval P m' s=some x:=by
 induction s with
 | pure x=>intro y h; exact h
 | program k ih=>intro y h; exact ih _ h
 | mark mk k ih=>intro y h; exact ih h
 | load md a k ih =>
  intro y h
  unfold rval at h ⊢
  cases hc:m.cell a with
  | none=>rw [hc] at h; cases h
  | some v =>
   have:m'.cell a=some v:=by
    unfold AM.cell at hc ⊢
    cases hm:m a.block with
    | none=>rw [hm] at hc; cases hc
    | some o=>rw [hm] at hc; rw [hl _ _ hm]; exact hc
   rw [hc] at h; rw [this]; exact ih v h
 | shape r k ih =>
  intro y h
  unfold rval at h ⊢
  cases hc:m r with
  | none=>rw [hc] at h; cases h
  | some o=>rw [hc] at h; rw [hl _ _ hc]; exact ih _ h
 | getObj r k ih =>
  intro y h
  unfold rval at h ⊢
  cases hc:m r with
  | none=>rw [hc] at h; cases h
  | some o =>
   rw [hc] at h; rw [hl _ _ hc]
   cases o <;> first | exact ih _ h | (simp at h)
 | _=>intros; simp_all [rval]

theorem swapA {ck cj:Nat} {ops:Array Oper} {k j:Oper} {a:Act} {m:AM} (hs:Sat w0 m) (hc:classOK ck cj=true) {K:Value→Value→AM→Prop}
  (h:GOp P w0 ck ops k a m (fun vk m1=>GOp P w0 cj ops j a m1 (fun vj m2=>K vk vj m2))) :
  GOp P w0 cj ops j a m (fun vj m1=>GOp P w0 ck ops k a m1 (fun vk m2=>K vk vj m2)):=by
 rcases Nat.lt_or_ge 2 ck with hck | hck
 ·
  have hcj:cj=0:=by simp [classOK] at hc; omega
  subst hcj
  have h0:∃ vj,YG P w0 0 ops j a m vj:=by
   refine GOp_nonvac hs (GOp_mono (fun vk m1 h1=>?_) h)
   obtain ⟨vj,hy,_⟩:=(GOp_low (by omega)).1 h1
   exact ⟨vj,YG_zero_any hy⟩
  obtain ⟨vj,hy⟩:=h0
  refine (GOp_low (by omega)).2 ⟨vj,hy,GOp_mono (fun vk m1 h1=>?_) h⟩
  obtain ⟨vj',hy',hK⟩:=(GOp_low (by omega)).1 h1
  have:=YG_zero_det hy hy'
  subst this
  exact hK
 ·obtain ⟨vk,hyk,h1⟩:=(GOp_low hck).1 h
  rcases Nat.lt_or_ge 2 cj with hcj | hcj
  ·have h3:ck=0∨(ck=1∧4≤cj):=by simp [classOK] at hc; omega
   rcases h3 with rfl | ⟨rfl,hcj4⟩
   ·exact GOp_mono (fun vj m1 hK=>(GOp_low (by omega)).2 ⟨vk,YG_zero_any hyk,hK⟩) h1
   ·have up:∀ m1,m.le m1→YG P w0 1 ops k a m1 vk:=fun m1 hl=>⟨fun hw=>by
      have e:(rval P m (execOp a.eval k)).bind nextVal=some vk:=hyk.1 hw
      show (rval P m1 (execOp a.eval k)).bind nextVal=some vk
      cases hr:rval P m (execOp a.eval k) with
      | none=>rw [hr] at e; cases e
      | some x=>rw [rval_mono hl _ hr]; rw [hr] at e; exact e,hyk.2⟩
    refine ⟨fun hw=>?_,fun hw=>?_⟩
    ·have h2:=h1.1 hw
     obtain ⟨n,rfl⟩:∃ n,cj=n+4:=⟨cj-4,by omega⟩
     refine awp_mono _ _ _ _ (fun x m1 hx=>cont_mono (fun v m2 hv=>⟨hv.1,?_⟩) x m1 hx) h2
     exact (GOp_low (by omega)).2 ⟨vk,up m2 hv.1,hv.2⟩
    ·exact (GOp_low (by omega)).2 ⟨vk,hyk,h1.2 hw⟩
  ·obtain ⟨vj,hyj,hK⟩:=(GOp_low hcj).1 h1
   exact (GOp_low hcj).2 ⟨vj,hyj,(GOp_low hck).2 ⟨vk,hyk,hK⟩⟩

theorem GOp_put {c:Nat} {ops:Array Oper} {o:Oper} (hs:∀ cs b,o.op≠.select cs b) {a:Act} {d:Option Tmp} {u:Value} (hd:∀ t,d=some t→t∉o.looksAt ops) {m:AM} {K:Value→AM→Prop} :
  GOp P w0 c ops o (a.put d u) m K=GOp P w0 c ops o a m K:=by
 unfold GOp
 rw [execOp_put o hs a d u hd,wanted_put o a d u hd]

def VAny (P:Program) (w0:World) (cls:Nat→Nat) (md:Region.Mode) (ops:Array Oper) (Q:Act→AM→Prop):Nat→Array Bool→Act→AM→Prop
 | 0,listed,a,m=>Region.ready md ops listed = []∧Q a m
 | fuel+1,listed,a,m =>
  (Region.ready md ops listed = []→Q a m) ∧
  ∀ i o,i∈Region.ready md ops listed→ops[i]?=some o→GOp P w0 (cls i) ops o a m (fun v m'=>VAny P w0 cls md ops Q fuel (listed.setIfInBounds i true) (a.put o.dst v) m')

theorem upon_of_awp {o:Oper} {a:Act} {w:World} {m:AM} (hh:Holds w0 w m) {K:Value→AM→Prop} {K':Act→World→Prop} {Q:Exit→Act→World→Prop}
  (hK:∀ v m' w',Holds w0 w' m'→K v m'→K' (a.put o.dst v) w') (h:awp P w0.heap.size (execOp a.eval o) m (cont P w0 K)):o.wp P a w K' Q:=by
 obtain ⟨x,w',m',hr,hh',hc⟩:=awp_run _ w m _ hh h
 unfold Oper.wp
 rw [hr]
 cases x <;> first
  | exact hK _ _ _ hh' hc
  | exact hc.elim
  | (simp only [Oper.upon]; exact (hc w' hh').mono fun e w'' ⟨r,m'',he,hh'',hR⟩=>by subst he; exact hK _ _ _ hh'' hR)

theorem wp_of_GOp {c:Nat} {ops:Array Oper} {i:Nat} {o:Oper} (hi:ops[i]?=some o) {a:Act} {w:World} {m:AM} (hh:Holds w0 w m) {K:Value→AM→Prop} {K':Act→World→Prop} {Q:Exit→Act→World→Prop}
  (hK:∀ v m' w',Holds w0 w' m'→K v m'→K' (a.put o.dst v) w') (h:GOp P w0 c ops o a m K):wpOp P ops Q i K' a w:=by
 unfold wpOp
 simp only [hi]
 cases hw:Region.wanted o (yielded ops a.tmps) with
 | false=>simp only [Bool.false_eq_true,if_false]; exact hK _ _ _ hh (h.2 hw)
 | true =>
  simp only [if_true]
  refine .inl ?_
  have h1:=h.1 hw
  match c,h1 with
  | 0,⟨v,hy,hk⟩ =>
   have hy:(pval P (execOp a.eval o)).bind nextVal=some v:=hy
   unfold Oper.wp
   cases hp:pval P (execOp a.eval o) with
   | none=>rw [hp] at hy; cases hy
   | some x =>
    rw [hp] at hy
    rw [pval_run _ hp w]
    cases x <;> simp [nextVal] at hy <;> (subst hy; exact hK _ _ _ hh hk)
  | 1,⟨v,hy,hk⟩ =>
   have hy:(rval P m (execOp a.eval o)).bind nextVal=some v:=hy
   unfold Oper.wp
   cases hp:rval P m (execOp a.eval o) with
   | none=>rw [hp] at hy; cases hy
   | some x =>
    rw [hp] at hy
    rw [rval_run hh _ hp]
    cases x <;> simp [nextVal] at hy <;> (subst hy; exact hK _ _ _ hh hk)
  | 2,⟨v,hy,hk⟩ =>
   unfold Oper.wp
   rcases hy with hy | ⟨f,args,hr,hcall⟩
   ·cases hp:rval P m (execOp a.eval o) with
    | none=>rw [hp] at hy; cases hy
    | some x =>
     rw [hp] at hy
     rw [rval_run hh _ hp]
     cases x <;> simp [nextVal] at hy <;> (subst hy; exact hK _ _ _ hh hk)
   ·rw [rval_run hh _ hr]
    simp only [Oper.upon]
    exact (hcall w hh).mono fun e w'' ⟨r,m'',he,hh'',hr,hm⟩=>by subst he; subst hr; subst hm; exact hK _ _ _ hh'' hk
  | 3,h1=>exact upon_of_awp hh hK h1
  | n+4,h1=>exact upon_of_awp hh (fun v m' w' hh' hv=>hK v m' w' hh' hv.2) h1

theorem wpAny_of_VAny {cls:Nat→Nat} {md:Region.Mode} {ops:Array Oper} {Q:Act→AM→Prop} {Q':Exit→Act→World→Prop} (hQ:∀ a m w,Holds w0 w m→Q a m→Q' .normal a w) :
  ∀ (fuel:Nat) (listed:Array Bool) (a:Act) (w:World) (m:AM),Holds w0 w m→VAny P w0 cls md ops Q fuel listed a m→wpAny P md ops Q' fuel listed a w
 | 0,_,_,_,_,hh,h=>⟨h.1,hQ _ _ _ hh h.2⟩
 | fuel+1,listed,a,w,m,hh,h=>⟨fun h0=>hQ _ _ _ hh (h.1 h0),fun i hi=>by
   obtain ⟨_,o,ho,_⟩:=mem_ready.1 hi
   exact wp_of_GOp ho hh (fun v m' w' hh' hv=>wpAny_of_VAny hQ fuel _ _ _ _ hh' hv) (h.2 i o hi ho)⟩

theorem getD_both {listed:Array Bool} {i:Nat} (h:listed.getD i true=false):listed.getD i false=false:=by
 rcases Nat.lt_or_ge i listed.size with h' | h'
 ·simp [h'] at h ⊢; exact h
 ·simp [Array.getElem?_eq_none h'] at h

def Closed (md:Region.Mode) (ops:Array Oper) (listed:Array Bool):Prop :=
 ∀ j oj,ops[j]?=some oj→listed.getD j false=true→∀ e∈oj.after,Region.binds md e=true→listed.getD e.on false=true

def predsOf (md:Region.Mode) (o:Oper):List Nat:=o.after.toList.filterMap fun e=>if Region.binds md e then some e.on else none

def depOk (md:Region.Mode) (ops:Array Oper) (D:List (List Nat)):Bool :=
 (List.range ops.size).all fun j=>(D.getD j []).all fun x =>
  match ops[j]? with
  | some o=>(predsOf md o).contains x || (predsOf md o).any fun p=>decide (p<j) && (D.getD p []).contains x
  | none=>false

theorem mem_predsOf {md:Region.Mode} {o:Oper} {x:Nat} (h:x∈predsOf md o):∃ e∈o.after,Region.binds md e=true∧e.on=x:=by
 unfold predsOf at h
 obtain ⟨e,he,h2⟩:=List.mem_filterMap.1 h
 refine ⟨e,by simpa using he,?_⟩
 by_cases hb:Region.binds md e=true
 ·rw [if_pos hb] at h2; injection h2 with h2; exact ⟨hb,h2⟩
 ·rw [if_neg hb] at h2; cases h2

theorem dep_listed {md:Region.Mode} {ops:Array Oper} {D:List (List Nat)} (hD:depOk md ops D=true) {listed:Array Bool} (hc:Closed md ops listed) :
  ∀ (n j:Nat),j=n→j<ops.size→(∀ oj,ops[j]?=some oj→∀ e∈oj.after,Region.binds md e=true→listed.getD e.on false=true)→∀ x∈D.getD j [],listed.getD x false=true:=by
 intro n
 induction n using Nat.strongRecOn with
 | _ n ih =>
  intro j hj hlt hall x hx
  subst hj
  have h1:=List.all_eq_true.1 hD j (List.mem_range.2 hlt)
  have h2:=List.all_eq_true.1 h1 x hx
  cases ho:ops[j]? with
  | none=>rw [ho] at h2; cases h2
  | some o =>
   rw [ho] at h2
   simp only [Bool.or_eq_true] at h2
   rcases h2 with h2 | h2
   ·obtain ⟨e,he,hb,hon⟩:=mem_predsOf (List.contains_iff_mem.1 h2)
    have:=hall o ho e he hb
    rw [hon] at this
    exact this
   ·obtain ⟨p,hp,h3⟩:=List.any_eq_true.1 h2
    simp only [Bool.and_eq_true,decide_eq_true_eq] at h3
    obtain ⟨e,he,hb,hon⟩:=mem_predsOf hp
    have hpl:=hall o ho e he hb
    rw [hon] at hpl
    exact ih p h3.1 p rfl (by omega) (fun op hop e' he' hb'=>hc p op hop hpl e' he' hb') x (List.contains_iff_mem.1 h3.2)

theorem Closed.set {md:Region.Mode} {ops:Array Oper} {listed:Array Bool} (hc:Closed md ops listed) {i:Nat} (hi:i∈Region.ready md ops listed):Closed md ops (listed.setIfInBounds i true):=by
 obtain ⟨_,oi,hoi,hall⟩:=mem_ready.1 hi
 intro j oj hj hl e he hb
 by_cases hij:i=j
 ·subst hij
  have:oj=oi:=Option.some.inj (hj.symm.trans hoi)
  subst this
  exact getD_set_true (hall e he hb)
 ·rw [getD_set_ne false hij] at hl
  exact getD_set_true (hc j oj hj hl e he hb)

theorem VAny_first {cls:Nat→Nat} {md:Region.Mode} {ops:Array Oper} {Q:Act→AM→Prop} {D:List (List Nat)} (hD:depOk md ops D=true) {k:Nat} {ok:Oper} (hk:ops[k]?=some ok)
  (hsel:∀ (j:Nat) (o:Oper) cs b,ops[j]?=some o→o.op≠.select cs b) :
  ∀ (fuel:Nat) (listed:Array Bool) (a:Act) (m:AM),Sat w0 m→Closed md ops listed →
   (∀ j oj,ops[j]?=some oj→j≠k→listed.getD j true=false→k∈D.getD j []∨(ok.apart ops oj=true∧classOK (cls k) (cls j)=true)) →
   k∈Region.ready md ops listed→GOp P w0 (cls k) ops ok a m (fun v m1=>VAny P w0 cls md ops Q fuel (listed.setIfInBounds k true) (a.put ok.dst v) m1) →
   VAny P w0 cls md ops Q (fuel+1) listed a m:=by
 intro fuel
 induction fuel with
 | zero =>
  intro listed a m hs hc hfree hr H
  refine ⟨fun h=>(by rw [h] at hr; cases hr),fun j oj hj hoj=>?_⟩
  by_cases hjk:j=k
  ·subst hjk
   have:oj=ok:=Option.some.inj (hoj.symm.trans hk)
   subst this
   exact H
  ·have h0:Region.ready md ops (listed.setIfInBounds k true) = []:=GOp_nonvac hs (GOp_mono (fun v m1 h1=>h1.1) H)
   have:=ready_mono hj hjk
   rw [h0] at this
   cases this
 | succ fuel ih =>
  intro listed a m hs hc hfree hr H
  refine ⟨fun h=>(by rw [h] at hr; cases hr),fun j oj hj hoj=>?_⟩
  by_cases hjk:j=k
  ·subst hjk
   have:oj=ok:=Option.some.inj (hoj.symm.trans hk)
   subst this
   exact H
  ·obtain ⟨hjun,oj',hoj',hall⟩:=mem_ready.1 hj
   have:oj'=oj:=Option.some.inj (hoj'.symm.trans hoj)
   subst this
   have hjlt:j<ops.size:=(Array.getElem?_eq_some_iff.1 hoj).1
   have hkun:=(mem_ready.1 hr).1
   have hnot:k∉D.getD j []:=fun hin=>by
    have h1:=dep_listed hD hc j j rfl hjlt (fun o' ho' e he hb=>by
     have:o'=oj':=Option.some.inj (ho'.symm.trans hoj)
     subst this
     exact hall e he hb) k hin
    rw [getD_both hkun] at h1
    cases h1
   obtain ⟨hap,hcl⟩:=(hfree j oj' hoj hjk hjun).resolve_left hnot
   obtain ⟨h1,h2,h3⟩:=Oper.apart_spec hap
   have step:GOp P w0 (cls k) ops ok a m (fun vk m1=>GOp P w0 (cls j) ops oj' a m1 (fun vj m2 =>
     VAny P w0 cls md ops Q fuel ((listed.setIfInBounds k true).setIfInBounds j true) ((a.put ok.dst vk).put oj'.dst vj) m2)):=by
    refine GOp_mono (fun vk m1 hv=>?_) H
    have h4:=hv.2 j oj' (ready_mono hj hjk) hoj
    rw [GOp_put (fun cs b=>hsel j oj' cs b hoj) h1] at h4
    exact h4
   refine GOp_mono_sat hs (fun vj m1 hs1 hv=>?_) (swapA hs hcl step)
   refine ih (listed.setIfInBounds j true) (a.put oj'.dst vj) m1 hs1 (hc.set hj) (fun i oi hoi hik hun=>?_) (ready_mono hr (Ne.symm hjk)) ?_
   ·refine hfree i oi hoi hik ?_
    by_cases hji:j=i
    ·subst hji; exact hjun
    ·rw [getD_set_ne true hji] at hun; exact hun
   ·rw [GOp_put (fun cs b=>hsel k ok cs b hk) h3]
    refine GOp_mono (fun vk m2 hq=>?_) hv
    rw [Act.put_comm a vk vj h2,Array.setIfInBounds_comm _ _ (Ne.symm hjk)] at hq
    exact hq

def AL (P:Program) (w0:World) (cls:Nat→Nat) (ops:Array Oper):List Oper→Nat→Act→AM→(Act→AM→Prop)→Prop
 | [],_,a,m,Q=>Q a m
 | o :: rest,k,a,m,Q=>GOp P w0 (cls k) ops o a m (fun v m'=>AL P w0 cls ops rest (k+1) (a.put o.dst v) m' Q)

def regOk (md:Region.Mode) (ops:Array Oper) (cls:Nat→Nat) (D:List (List Nat)):Bool :=
 Region.noSelect ops && depOk md ops D && (List.range ops.size).all fun k =>
  match ops[k]? with
  | some ok=>(predsOf md ok).all (fun p=>decide (p<k)) && (List.range ops.size).all fun j=>decide (j≤k) || (D.getD j []).contains k ||
    (match ops[j]? with
    | some oj=>ok.apart ops oj && classOK (cls k) (cls j)
    | none=>true)
  | none=>true

theorem VAny_lex {cls:Nat→Nat} {md:Region.Mode} {ops:Array Oper} {Q:Act→AM→Prop} {D:List (List Nat)} (hB:regOk md ops cls D=true) :
  ∀ (l:List Oper) (k:Nat) (listed:Array Bool) (a:Act) (m:AM),(∀ j,l[j]?=ops[k+j]?)→k+l.length=ops.size→listed.size=ops.size→(∀ j,j<k→listed.getD j false=true)→(∀ j,k≤j→j<ops.size→listed.getD j true=false) →
   Sat w0 m→Closed md ops listed→AL P w0 cls ops l k a m Q→VAny P w0 cls md ops Q l.length listed a m
 | [],k,listed,a,m,hl,hlen,hsz,hlow,hhigh,hs,hc,h=>by
  refine ⟨?_,h⟩
  have hk:k=ops.size:=by simpa using hlen
  cases hr:Region.ready md ops listed with
  | nil=>rfl
  | cons j js =>
   have hj:j∈Region.ready md ops listed:=by rw [hr]; simp
   obtain ⟨hun,oj,hoj,_⟩:=mem_ready.1 hj
   have hlt:j<ops.size:=(Array.getElem?_eq_some_iff.1 hoj).1
   have:=hlow j (by omega)
   rw [getD_both hun] at this
   cases this
 | o :: l,k,listed,a,m,hl,hlen,hsz,hlow,hhigh,hs,hc,h=>by
  have h0:ops[k]?=some o:=by simpa using (hl 0).symm
  have hklt:k<ops.size:=(Array.getElem?_eq_some_iff.1 h0).1
  simp only [regOk,Bool.and_eq_true] at hB
  obtain ⟨⟨hsel,hD⟩,hall⟩:=hB
  have hB':regOk md ops cls D=true:=by simp only [regOk,Bool.and_eq_true]; exact ⟨⟨hsel,hD⟩,hall⟩
  have hk:=List.all_eq_true.1 hall k (List.mem_range.2 hklt)
  rw [h0] at hk
  simp only [Bool.and_eq_true] at hk
  have hr:k∈Region.ready md ops listed:=by
   refine mem_ready.2 ⟨hhigh k (Nat.le_refl _) hklt,o,h0,fun e he hb=>?_⟩
   have hm:e.on∈predsOf md o:=by
    unfold predsOf
    exact List.mem_filterMap.2 ⟨e,by simpa using he,by rw [if_pos hb]⟩
   exact hlow _ (by simpa using List.all_eq_true.1 hk.1 _ hm)
  refine VAny_first hD h0 (Region.noSelect_spec hsel) l.length listed a m hs hc (fun j oj hoj hjk hun=>?_) hr ?_
  ·have hjlt:j<ops.size:=(Array.getElem?_eq_some_iff.1 hoj).1
   have h2:=List.all_eq_true.1 hk.2 j (List.mem_range.2 hjlt)
   rw [hoj] at h2
   simp only [Bool.or_eq_true,decide_eq_true_eq,Bool.and_eq_true] at h2
   rcases h2 with (h2 | h2) | h2
   ·have:=hlow j (by omega)
    rw [getD_both hun] at this
    cases this
   ·exact .inl (List.contains_iff_mem.1 h2)
   ·exact .inr h2
  ·refine GOp_mono_sat hs (fun v m1 hs1 hv=>?_) h
   exact VAny_lex hB' l (k+1) _ _ _ (fun j=>by have:=hl (j+1); simpa [Nat.add_assoc,Nat.add_comm 1 j] using this) (by simp only [List.length_cons] at hlen; omega) (by simp [hsz])
    (fun j hj=>by
     by_cases hjk:k=j
     ·subst hjk; simp [hsz,hklt]
     ·rw [getD_set_ne false hjk]; exact hlow j (by omega))
    (fun j hj hjl=>by rw [getD_set_ne true (by omega)]; exact hhigh j (by omega) hjl) hs1 (hc.set hr) hv

theorem VAny_text {cls:Nat→Nat} {md:Region.Mode} {ops:Array Oper} {Q:Act→AM→Prop} {D:List (List Nat)} (hB:regOk md ops cls D=true) {a:Act} {m:AM} (hs:Sat w0 m) (h:AL P w0 cls ops ops.toList 0 a m Q) :
  VAny P w0 cls md ops Q ops.size (Array.replicate ops.size false) a m:=by
 have:=VAny_lex hB ops.toList 0 (Array.replicate ops.size false) a m (by simp) (by simp) (by simp) (fun j hj=>absurd hj (by omega)) (fun j _ hj=>by simp [hj]) hs (fun j oj _ hl=>by exfalso; rcases Nat.lt_or_ge j ops.size with h' | h' <;> simp [h'] at hl) h
 simpa using this

def goodB (ops:Array Oper) (cls:Nat→Nat) (D:List (List Nat)) (listed:Array Bool) (k:Nat):Bool :=
 match ops[k]? with
 | some ok=>(List.range ops.size).all fun j=>decide (j=k) || listed.getD j true || (D.getD j []).contains k ||
   (match ops[j]? with
   | some oj=>ok.apart ops oj && classOK (cls k) (cls j)
   | none=>true)
 | none=>false
def pickF (ops:Array Oper) (cls:Nat→Nat) (D:List (List Nat)) (listed:Array Bool):List Nat :=
 let r:=Region.ready .any ops listed
 match r.find? (goodB ops cls D listed) with
 | some k=>[k]
 | none=>r

theorem VAny_pick {cls:Nat→Nat} {ops:Array Oper} {Q:Act→AM→Prop} {D:List (List Nat)} (hsel:Region.noSelect ops=true) (hD:depOk .any ops D=true) {fuel:Nat} {listed:Array Bool} {a:Act} {m:AM} (hs:Sat w0 m) (hc:Closed .any ops listed)
  (h0:pickF ops cls D listed = []→Q a m)
  (h:∀ k o,k∈pickF ops cls D listed→ops[k]?=some o→k∈Region.ready .any ops listed→GOp P w0 (cls k) ops o a m (fun v m'=>VAny P w0 cls .any ops Q fuel (listed.setIfInBounds k true) (a.put o.dst v) m')) :
  VAny P w0 cls .any ops Q (fuel+1) listed a m:=by
 unfold pickF at h0 h
 simp only at h0 h
 cases hf:(Region.ready .any ops listed).find? (goodB ops cls D listed) with
 | none =>
  rw [hf] at h0 h
  exact ⟨h0,fun i o hi ho=>h i o hi ho hi⟩
 | some k =>
  rw [hf] at h
  have hk:=List.mem_of_find?_eq_some hf
  have hg:=List.find?_some hf
  obtain ⟨_,ok,hok,_⟩:=mem_ready.1 hk
  refine VAny_first hD hok (Region.noSelect_spec hsel) fuel listed a m hs hc (fun j oj hoj hjk hun=>?_) hk (h k ok (by simp) hok hk)
  unfold goodB at hg
  rw [hok] at hg
  have hjlt:j<ops.size:=(Array.getElem?_eq_some_iff.1 hoj).1
  have h2:=List.all_eq_true.1 hg j (List.mem_range.2 hjlt)
  rw [hoj,hun] at h2
  simp only [Bool.or_eq_true,decide_eq_true_eq,Bool.and_eq_true] at h2
  rcases h2 with ((h2 | h2) | h2) | h2
  ·exact absurd h2 hjk
  ·cases h2
  ·exact .inl (List.contains_iff_mem.1 h2)
  ·exact .inr h2

theorem wpList_of_AL {ops:Array Oper} {Q:Act→AM→Prop} {Q':Exit→Act→World→Prop} (hQ:∀ a m w,Holds w0 w m→Q a m→Q' .normal a w) (cls:Nat→Nat) :
  ∀ (l:List Oper) (k:Nat) (a:Act) (w:World) (m:AM),(∀ j,l[j]?=ops[k+j]?)→Holds w0 w m→AL P w0 cls ops l k a m Q→wpList P ops Q' l a w
 | [],_,_,_,_,_,hh,h=>hQ _ _ _ hh h
 | o :: l,k,a,w,m,hl,hh,h=>by
  have h0:ops[k]?=some o:=by simpa using (hl 0).symm
  have h1:=wp_of_GOp (Q:=Q') h0 hh (K':=wpList P ops Q' l) (fun v m' w' hh' hv=>wpList_of_AL hQ cls l (k+1) _ _ _ (fun j=>by have:=hl (j+1); simpa [Nat.add_assoc,Nat.add_comm 1 j] using this) hh' hv) h
  unfold wpOp at h1
  simp only [h0] at h1
  exact h1

def dep1 (md:Region.Mode) (acc:List (List Nat)) (o:Oper):List Nat :=
 ((predsOf md o) ++ (predsOf md o).flatMap (fun p=>acc.getD p [])).eraseDups
def deps (md:Region.Mode) (ops:List Oper):List (List Nat):=ops.foldl (fun acc o=>acc ++ [dep1 md acc o]) []

def baseClass:Op→Nat
 | .move _ | .assign _ | .pick .. | .nilCheck _ | .binOp .. | .unOp .. | .convert .. | .fieldAddr .. | .field .. | .indexAddr .. | .index .. | .extract .. | .makeFunc .. | .makeInterface .. | .slice .. | .build ..=>0
 | .load .. | .lookup ..=>1
 | .call { callee:=.builtin .len,.. } | .call { callee:=.builtin .cap,.. } | .call { callee:=.builtin .min,.. } | .call { callee:=.builtin .max,.. }=>0
 | .alloc _ | .box .. | .buildSlice .. | .makeSlice .. | .makeMap ..=>4
 | _=>3

def cl (qs:List (Nat × Nat)) (k:Nat) (op:Op):Nat :=
 match qs.find? (fun p=>p.1 == k) with
 | some p=>max p.2 2
 | none=>baseClass op

def clsOf (qs:List (Nat × Nat)) (ops:Array Oper) (k:Nat):Nat :=
 match ops[k]? with
 | some o=>cl qs k o.op
 | none=>3

def iterA (body:Act→AM→(Exit→Act→AM→Prop)→Prop):Nat→Act→AM→(Exit→Act→AM→Prop)→Prop
 | 0,_,_,_=>False
 | n+1,a,m,Q=>body a m fun e a' m'=>match e with
  | .normal=>iterA body n a' m' Q
  | e=>Q e a' m'

def vc (P:Program) (w0:World):Code→Act→AM→(Exit→Act→AM→Prop)→Prop
 | .skip,a,m,Q=>Q .normal a m
 | .label _,a,m,Q=>Q .normal a m
 | .region _ ops false,a,m,Q=>AL P w0 (fun _=>3) ops ops.toList 0 a m (Q .normal)
 | .region _ ops true,a,m,Q=>∃ cls:Nat→Nat,Sat w0 m→VAny P w0 cls .any ops (Q .normal) ops.size (Array.replicate ops.size false) a m
 | .seq x y,a,m,Q=>vc P w0 x a m fun e a' m'=>match e with
  | .normal=>vc P w0 y a' m' Q
  | e=>Q e a' m'
 | .cond c x y,a,m,Q=>∃ t,a.eval c=.bool t∧(t=true→vc P w0 x a m Q)∧(t=false→vc P w0 y a m Q)
 | .block id c,a,m,Q=>vc P w0 c a m fun e a' m'=>match e with
  | .exit id'=>if id'=id then Q .normal a' m' else Q (.exit id') a' m'
  | e=>Q e a' m'
 | .loop c,a,m,Q=>∃ n,iterA (fun a m Q=>vc P w0 c a m Q) n a m Q
 | .exit id,a,m,Q=>Q (.exit id) a m
 | .ret,a,m,Q=>Q .ret a m
 | _,_,_,_=>False

theorem vc_sound (hm:P.follows .mixedOrders=true) (c:Code):∀ (a:Act) (m:AM) (Q:Exit→Act→AM→Prop) (w:World),Holds w0 w m→vc P w0 c a m Q →
  c.wp P (fun e a' w'=>∃ m',Holds w0 w' m'∧Q e a' m') a w:=by
 induction c with
 | skip=>intro a m Q w hh h; exact wp_skip ⟨m,hh,h⟩
 | label l=>intro a m Q w hh h; exact wp_label ⟨m,hh,h⟩
 | region id ops draw =>
  intro a m Q w hh h
  cases draw with
  | false=>exact wp_region_list (wpList_of_AL (Q:=Q .normal) (fun a m w hh hq=>⟨m,hh,hq⟩) (fun _=>3) ops.toList 0 a w m (by simp) hh h)
  | true =>
   obtain ⟨cls,h⟩:=h
   refine wp_region_any hm ?_
   have hh1:Holds w0 { w with drawn:=w.drawn+1 } m:=hh.drawn _
   exact wpAny_of_VAny (P:=P) (Q':=fun e a' w'=>∃ m',Holds w0 w' m'∧Q e a' m') (Q:=Q .normal) (fun a m w hh hq=>⟨m,hh,hq⟩) ops.size (Array.replicate ops.size false) a _ m hh1 (h hh.sat)
 | seq x y ihx ihy =>
  intro a m Q w hh h
  refine wp_seq (Code.wp_mono (fun e a' w' hq=>?_) (ihx a m _ w hh h))
  obtain ⟨m',hh',hq⟩:=hq
  cases e <;> first | exact ihy _ _ _ _ hh' hq | exact ⟨m',hh',hq⟩
 | cond c x y ihx ihy =>
  intro a m Q w hh h
  obtain ⟨t,ht,h1,h2⟩:=h
  exact wp_cond_split ht (fun e=>ihx a m Q w hh (h1 e)) (fun e=>ihy a m Q w hh (h2 e))
 | block id c ih =>
  intro a m Q w hh h
  refine wp_block (Code.wp_mono (fun e a' w' hq=>?_) (ih a m _ w hh h))
  obtain ⟨m',hh',hq⟩:=hq
  cases e <;> first | exact ⟨m',hh',hq⟩ | skip
  rename_i id'
  show Exit.inBlock id _ (.exit id') a' w'
  simp only [Exit.inBlock]
  by_cases hid:id'=id
  ·rw [if_pos hid]; simp only [if_pos hid] at hq; exact ⟨m',hh',hq⟩
  ·rw [if_neg hid]; simp only [if_neg hid] at hq; exact ⟨m',hh',hq⟩
 | loop c ih =>
  intro a m Q w hh h
  obtain ⟨n,h⟩:=h
  refine wp_loop_rounds n ?_
  induction n generalizing a m w with
  | zero=>exact h.elim
  | succ n ihn =>
   rw [rounds_succ]
   refine Code.wp_mono (fun e a' w' hq=>?_) (ih a m _ w hh h)
   obtain ⟨m',hh',hq⟩:=hq
   cases e <;> first | exact ihn _ _ _ hh' hq | exact ⟨m',hh',hq⟩
 | exit id=>intro a m Q w hh h; exact wp_exit ⟨m,hh,h⟩
 | ret=>intro a m Q w hh h; exact wp_ret ⟨m,hh,h⟩
 | _=>intro a m Q w hh h; exact h.elim
end
end Go.Alog

set_option linter.unusedSimpArgs false
set_option linter.unusedVariables false
namespace Go.Alog
open Go Go.RowKit

def isAggD:TypeDesc→Bool
 | .struct _ | .array _ _=>true
 | _=>false

section lemmas
variable {P:Program} {w0:World}

theorem pval_bind {α β:Type} (s:Sem α) (f:α→Sem β):pval P (s.bind f)=(pval P s).bind fun x=>pval P (f x):=by
 induction s with
 | pure x=>rfl
 | program k ih=>simp only [Sem.bind,pval,ih]
 | mark mk k ih=>simp only [Sem.bind,pval,ih]
 | _=>rfl

theorem rval_bind {m:AM} {α β:Type} (s:Sem α) (f:α→Sem β):rval P m (s.bind f)=(rval P m s).bind fun x=>rval P m (f x):=by
 induction s with
 | pure x=>rfl
 | program k ih=>simp only [Sem.bind,rval,ih]
 | mark mk k ih=>simp only [Sem.bind,rval,ih]
 | load md a k ih=>simp only [Sem.bind,rval]; cases m.cell a <;> simp [ih]
 | shape r k ih=>simp only [Sem.bind,rval]; cases m r <;> simp [ih]
 | getObj r k ih=>simp only [Sem.bind,rval]; cases hm:m r with
  | none=>rfl
  | some o=>cases o <;> simp [ih]
 | _=>rfl

theorem pval_bind' {α β:Type} (s:Sem α) (f:α→Sem β):pval P (s >>= f)=(pval P s).bind fun x=>pval P (f x):=pval_bind s f
theorem rval_bind' {m:AM} {α β:Type} (s:Sem α) (f:α→Sem β):rval P m (s >>= f)=(rval P m s).bind fun x=>rval P m (f x):=rval_bind s f
theorem pval_pure {α:Type} (x:α):pval P (pure x:Sem α)=some x:=rfl
theorem rval_pure {m:AM} {α:Type} (x:α):rval P m (pure x:Sem α)=some x:=rfl
theorem awp_bind' {B:Nat} {α β:Type} (s:Sem α) (f:α→Sem β) (m:AM) (K:β→AM→Prop):awp P B (s >>= f) m K↔awp P B s m (fun x m'=>awp P B (f x) m' K):=awp_bind s f m K
theorem rval_of_pval {m:AM} {α:Type} (s:Sem α):∀ {x:α},pval P s=some x→rval P m s=some x:=by
 induction s with
 | pure x=>intro y h; exact h
 | program k ih=>intro y h; exact ih _ h
 | mark mk k ih=>intro y h; exact ih h
 | _=>intros; simp_all [pval]

theorem awp_of_rval {B:Nat} {m:AM} {α:Type} (s:Sem α):∀ {x:α} {K:α→AM→Prop},rval P m s=some x→K x m→awp P B s m K:=by
 induction s with
 | pure x=>intro y K h hk; injection h with h; subst h; exact hk
 | program k ih=>intro y K h hk; exact ih _ h hk
 | mark mk k ih=>intro y K h hk; exact ih h hk
 | load md a k ih =>
  intro y K h hk
  unfold rval at h
  cases hc:m.cell a with
  | none=>rw [hc] at h; cases h
  | some v=>rw [hc] at h; exact ⟨v,hc,ih v h hk⟩
 | shape r k ih =>
  intro y K h hk
  unfold rval at h
  cases hc:m r with
  | none=>rw [hc] at h; cases h
  | some o=>rw [hc] at h; exact ⟨o,hc,ih _ h hk⟩
 | getObj r k ih =>
  intro y K h hk
  unfold rval at h
  cases hc:m r with
  | none=>rw [hc] at h; cases h
  | some o =>
   rw [hc] at h
   refine ⟨o,hc,?_⟩
   cases o <;> first | exact ⟨trivial,ih _ h hk⟩ | (simp at h)
 | _=>intros; simp_all [rval]

theorem OpA_of_pval {s:Sem Next} {v:Value} (h:pval P s=some (.value v)) (c:Nat) {m:AM} {K:Value→AM→Prop} (hk:K v m):OpA P w0 c s m K:=by
 match c with
 | 0=>exact ⟨v,by show (pval P s).bind nextVal=_; rw [h]; rfl,hk⟩
 | 1=>exact ⟨v,by show (rval P m s).bind nextVal=_; rw [rval_of_pval s h]; rfl,hk⟩
 | 2=>exact ⟨v,.inl (by rw [rval_of_pval s h]; rfl),hk⟩
 | 3=>exact awp_of_rval s (rval_of_pval s h) hk
 | n+4=>exact awp_of_rval s (rval_of_pval s h) ⟨fun _ _ h=>h,hk⟩

theorem OpA_of_rval {s:Sem Next} {v:Value} {m:AM} (h:rval P m s=some (.value v)) {c:Nat} (hc:1≤c) {K:Value→AM→Prop} (hk:K v m):OpA P w0 c s m K:=by
 match c,hc with
 | 1,_=>exact ⟨v,by show (rval P m s).bind nextVal=_; rw [h]; rfl,hk⟩
 | 2,_=>exact ⟨v,.inl (by rw [h]; rfl),hk⟩
 | 3,_=>exact awp_of_rval s h hk
 | n+4,_=>exact awp_of_rval s h ⟨fun _ _ h=>h,hk⟩

theorem OpA_of_awp {s:Sem Next} {m:AM} {K:Value→AM→Prop} {c:Nat} (hc:c=3) (h:awp P w0.heap.size s m (cont P w0 K)):OpA P w0 c s m K:=by
 subst hc; exact h

theorem OpA_of_ext {s:Sem Next} {m:AM} {K:Value→AM→Prop} {c:Nat} (hc:3≤c) (h:awp P w0.heap.size s m (cont P w0 (fun v m'=>m.le m'∧K v m'))):OpA P w0 c s m K:=by
 match c,hc with
 | 3,_=>exact awp_mono s m _ _ (fun x m' hx=>cont_mono (fun v m'' hv=>hv.2) x m' hx) h
 | n+4,_=>exact h

theorem le_new {m:AM} {b:Nat} (hm:m b=none) (o:Obj):m.le (m.upd b o):=fun x o' hx=>by
 have:x≠b:=fun e=>by subst e; rw [hm] at hx; cases hx
 unfold AM.upd; rw [if_neg this]; exact hx

theorem pval_underlying (t:TypeId):pval P (underlying t)=P.underlying t:=by
 unfold underlying program
 show pval P (match P.underlying t with | some d => (pure d : Sem TypeDesc) | none => stuck "no such type") = _
 cases P.underlying t <;> rfl
theorem pval_typeInfo (t:TypeId):pval P (typeInfo t)=P.info? t:=by
 unfold typeInfo program
 show pval P (match P.info? t with | some i => (pure i : Sem TypeInfo) | none => stuck "no such type") = _
 cases P.info? t <;> rfl
theorem pval_sizeOf (t:TypeId):pval P (sizeOf t)=(P.info? t).map (·.size):=by
 unfold sizeOf
 rw [pval_bind',pval_typeInfo]
 cases P.info? t <;> rfl
theorem pval_isAgg (t:TypeId):pval P (isAgg t)=(P.underlying t).map isAggD:=by
 unfold isAgg
 rw [pval_bind',pval_underlying]
 cases P.underlying t with
 | none=>rfl
 | some d=>cases d <;> rfl
theorem pval_zeroValue (t:TypeId):pval P (zeroValue t)=(P.info? t).bind (·.zero):=by
 unfold zeroValue
 rw [pval_bind',pval_typeInfo]
 cases P.info? t with
 | none=>rfl
 | some i=>simp only [Option.bind_some]; cases i.zero <;> rfl

theorem rv_isAgg {t:TypeId} {d:TypeDesc} {m:AM} (h:P.underlying t=some d):rval P m (isAgg t)=some (isAggD d):=rval_of_pval _ (by rw [pval_isAgg,h]; rfl)
theorem rv_sizeOf {t:TypeId} {i:TypeInfo} {m:AM} (h:P.info? t=some i):rval P m (sizeOf t)=some i.size:=rval_of_pval _ (by rw [pval_sizeOf,h]; rfl)
theorem pv_sizeOf {t:TypeId} {i:TypeInfo} (h:P.info? t=some i):pval P (sizeOf t)=some i.size:=by rw [pval_sizeOf,h]; rfl
theorem pv_isAgg {t:TypeId} {d:TypeDesc} (h:P.underlying t=some d):pval P (isAgg t)=some (isAggD d):=by rw [pval_isAgg,h]; rfl
theorem pv_underlying {t:TypeId} {d:TypeDesc} (h:P.underlying t=some d):pval P (underlying t)=some d:=by rw [pval_underlying,h]
theorem pv_zeroValue {t:TypeId} {i:TypeInfo} {z:Value} (h:P.info? t=some i) (hz:i.zero=some z):pval P (zeroValue t)=some z:=by rw [pval_zeroValue,h]; exact hz
theorem pv_typeInfo {t:TypeId} {i:TypeInfo} (h:P.info? t=some i):pval P (typeInfo t)=some i:=by rw [pval_typeInfo,h]
theorem awp_p {α:Type} {s:Sem α} {m:AM} {x:α} {B:Nat} {K:α→AM→Prop} (h:pval P s=some x) (hk:K x m):awp P B s m K:=awp_of_rval s (rval_of_pval s h) hk
end lemmas

inductive CK where
 | int (k:IntKind)
 | bool | str | ptr | slice | map | any
 deriving DecidableEq,Repr

structure TI where
 agg:Bool
 cks:List CK
 zero:List Value

def ckOf:TypeDesc→CK
 | .int k=>.int k
 | .bool=>.bool
 | .string=>.str
 | .pointer _=>.ptr
 | .slice _=>.slice
 | .map ..=>.map
 | _=>.any

def flat (P:Program):Nat→TypeId→List CK
 | 0,_=>[]
 | d+1,t=>match P.underlying t with
  | some (.struct fs)=>fs.toList.flatMap fun f=>flat P d f.type
  | some (.array n e)=>(List.replicate n (flat P d e)).flatten
  | some x=>[ckOf x]
  | none=>[]

def tyOf (P:Program) (t:TypeId):Option TI :=
 match P.underlying t,P.info? t with
 | some d,some i=>match i.zero with
  | some z=>if (flat P 12 t).length=i.size then some ⟨isAggD d,flat P 12 t,z.cells.toList⟩ else none
  | none=>none
 | _,_=>none

def elOf (P:Program) (t:TypeId):Option (TypeId × Nat × Nat × List Value) :=
 match P.underlying t with
 | some (.slice e)=>match P.info? e with
  | some i=>match i.zero with
   | some z=>if z.cells.size=i.size then some (e,i.size,i.bytes,z.cells.toList) else none
   | none=>none
  | none=>none
 | _=>none

def bldOf (P:Program) (t:TypeId):Option (List (Nat × Nat) × List Value) :=
 match P.info? t with
 | some i=>match i.zero with
  | some z=>match P.underlying t with
   | some (.struct fs)=>match fs.toList.mapM (fun f=>(P.info? f.type).map fun j=>(f.offset,j.size)) with
    | some l=>some (l,z.cells.toList)
    | none=>none
   | _=>none
  | none=>none
 | none=>none

def arOf (P:Program) (t:TypeId):Option (Nat × Nat) :=
 match P.underlying t with
 | some (.array n e)=>match P.info? e with
  | some i=>some (n,i.size)
  | none=>none
 | _=>none

def fldOf (P:Program) (t:TypeId) (k:Nat):Option (Nat × Bool × Nat) :=
 match P.underlying t with
 | some (.struct fs)=>match fs[k]? with
  | some f=>match P.underlying f.type,P.info? f.type with
   | some d,some i=>if i.size=0 then none else some (f.offset,isAggD d,i.size)
   | _,_=>none
  | none=>none
 | _=>none

def sigOf (P:Program) (g:FuncId):Option (List TI) :=
 match P.funcs[g]? with
 | some fn => if fn.name == "runtime.NumGoroutine" then none else if fn.body.isNone then none else (fn.resultTypes.toList.mapM (tyOf P))
 | none=>none

def CK.ex (c:CK) (K:Value→Prop):Prop :=
 match c with
 | .int k=>∃ n:Int,K (.int k n)
 | .bool=>∃ b:Bool,K (.bool b)
 | .str=>∃ s:ByteArray,K (.string s)
 | .ptr=>∃ p:Option Addr,K (.pointer p)
 | .slice=>∃ A n c,K (.slice A n c)
 | .map=>∃ r,K (.map r)
 | .any=>∃ v,K v

theorem CK.ex_some {c:CK} {K:Value→Prop} (h:c.ex K):∃ v,K v:=by
 cases c <;> first | exact h | (obtain ⟨_,h⟩:=h; first | exact ⟨_,h⟩ | (obtain ⟨_,_,h⟩:=h; exact ⟨_,h⟩))

def cksEx:List CK→List Value→(List Value→Prop)→Prop
 | [],acc,K=>K acc
 | c :: r,acc,K=>c.ex fun v=>cksEx r (acc ++ [v]) K

def TI.ex (t:TI) (K:Value→Prop):Prop :=
 if t.agg then cksEx t.cks [] fun l=>K (.agg l.toArray) else match t.cks with
  | [c]=>c.ex K
  | _=>False

def tupEx:List TI→List Value→(List Value→Prop)→Prop
 | [],acc,K=>K acc
 | t :: r,acc,K=>t.ex fun v=>tupEx r (acc ++ [v]) K

def resEx (ts:List TI) (K:Value→Prop):Prop :=
 match ts with
 | [t]=>t.ex K
 | ts=>tupEx ts [] fun l=>K (.tuple l.toArray)

theorem cksEx_some:∀ {l:List CK} {acc:List Value} {K:List Value→Prop},cksEx l acc K→∃ r,K r
 | [],_,_,h=>⟨_,h⟩
 | _ :: _,_,_,h=>by obtain ⟨v,h⟩:=CK.ex_some h; exact cksEx_some h
theorem TI.ex_some {t:TI} {K:Value→Prop} (h:t.ex K):∃ v,K v:=by
 unfold TI.ex at h
 split at h
 ·obtain ⟨l,h⟩:=cksEx_some h; exact ⟨_,h⟩
 ·split at h
  ·exact CK.ex_some h
  ·exact h.elim
theorem tupEx_some:∀ {l:List TI} {acc:List Value} {K:List Value→Prop},tupEx l acc K→∃ r,K r
 | [],_,_,h=>⟨_,h⟩
 | _ :: _,_,_,h=>by obtain ⟨v,h⟩:=TI.ex_some h; exact tupEx_some h
theorem resEx_some {ts:List TI} {K:Value→Prop} (h:resEx ts K):∃ v,K v:=by
 unfold resEx at h
 split at h
 ·exact TI.ex_some h
 ·obtain ⟨l,h⟩:=tupEx_some h; exact ⟨_,h⟩

def ldCells (m:AM) (a:Addr):List CK→Nat→List Value→(List Value→Prop)→Prop
 | [],_,acc,K=>K acc
 | c :: r,i,acc,K=>c.ex fun v=>m.cell (a.add i)=some v∧ldCells m a r (i+1) (acc ++ [v]) K

theorem ldCells_rval {P:Program} {m:AM} {a:Addr}:∀ {cks:List CK} {i:Nat} {acc:List Value} {K:List Value→Prop},ldCells m a cks i acc K →
  ∃ l,rval P m (loadCellsFrom a i cks.length acc.toArray)=some l.toArray∧K l
 | [],i,acc,K,h=>⟨acc,rfl,h⟩
 | c :: r,i,acc,K,h=>by
  obtain ⟨v,hc,h⟩:=CK.ex_some h
  obtain ⟨l,hl,hK⟩:=ldCells_rval (P:=P) h
  refine ⟨l,?_,hK⟩
  show rval P m (load (a.add i) >>= fun v=>loadCellsFrom a (i+1) r.length (acc.toArray.push v))=_
  rw [rval_bind']
  have:rval P m (load (a.add i))=some v:=by unfold load; simp only [rval,hc]
  rw [this]
  simpa using hl

def ldS (P:Program) (t:TypeId) (m:AM) (a:Addr) (K:Value→Prop):Prop :=
 match tyOf P t with
 | some ti=>if ti.agg then ldCells m a ti.cks 0 [] fun l=>K (.agg l.toArray) else match ti.cks with
  | [c]=>c.ex fun v=>m.cell a=some v∧K v
  | _=>False
 | none=>False

theorem tyOf_spec {P:Program} {t:TypeId} {ti:TI} (h:tyOf P t=some ti):∃ d i z,P.underlying t=some d∧P.info? t=some i∧i.zero=some z∧ti.agg=isAggD d∧ti.cks.length=i.size∧ti.zero=z.cells.toList:=by
 unfold tyOf at h
 split at h
 ·rename_i d i hd hi
  split at h
  ·rename_i z hz
   split at h
   ·rename_i hl
    injection h with h
    subst h
    exact ⟨d,i,z,hd,hi,hz,rfl,hl,rfl⟩
   ·cases h
  ·cases h
 ·cases h

theorem ldS_rval {P:Program} {t:TypeId} {m:AM} {a:Addr} {K:Value→Prop} (h:ldS P t m a K):∃ v,rval P m (loadVar t a)=some v∧K v:=by
 unfold ldS at h
 split at h
 ·rename_i ti hti
  obtain ⟨d,i,z,hd,hi,hz,hag,hlen,hzz⟩:=tyOf_spec hti
  unfold loadVar
  rw [rval_bind',rv_isAgg hd,← hag]
  by_cases hg:ti.agg=true
  ·rw [if_pos hg] at h
   obtain ⟨l,hl,hK⟩:=ldCells_rval (P:=P) h
   refine ⟨_,?_,hK⟩
   simp only [Option.bind_some,hg,if_true]
   rw [rval_bind',rv_sizeOf hi,← hlen]
   have hl':rval P m (loadCells a ti.cks.length)=some l.toArray:=hl
   simp only [Option.bind_some]
   rw [rval_bind',hl']
   rfl
  ·rw [if_neg hg] at h
   split at h
   ·obtain ⟨v,hc,hK⟩:=CK.ex_some h
    refine ⟨v,?_,hK⟩
    have hg':ti.agg=false:=by simpa using hg
    simp only [Option.bind_some,hg',Bool.false_eq_true,if_false]
    unfold load
    simp only [rval,hc]
   ·exact h.elim
 ·exact h.elim

def StC (B:Nat) (m:AM) (a:Addr) (v:Value) (K:AM→Prop):Prop :=
 B≤a.block∧(∃ u,m.cell a=some u)∧m.frozen a=false∧K (m.set a v)

def one1 (v:Value) (X:Prop):Prop :=
 match v with
 | .agg _=>False
 | .tuple _=>False
 | _=>X

def stCells (B:Nat) (a:Addr):List Value→List CK→Nat→AM→(AM→Prop)→Prop
 | [],[],_,m,K=>K m
 | v :: r,_ :: cs,i,m,K=>one1 v (StC B m (a.add i) v fun m'=>stCells B a r cs (i+1) m' K)
 | _,_,_,_,_=>False

theorem one1_spec {v:Value} {X:Prop} (h:one1 v X):v.oneCell'=true∧X:=by
 cases v <;> first | exact h.elim | exact ⟨rfl,h⟩

theorem stCells_len {B:Nat} {a:Addr}:∀ {l:List Value} {cs:List CK} {i:Nat} {m:AM} {K:AM→Prop},stCells B a l cs i m K→l.length=cs.length
 | [],[],_,_,_,_=>rfl
 | v :: r,c :: cs,i,m,K,h=>by
  obtain ⟨_,_,_,_,h⟩:=one1_spec h
  simp [stCells_len h]
 | [],_ :: _,_,_,_,h=>h.elim
 | _ :: _,[],_,_,_,h=>h.elim

theorem stCells_awp {P:Program} {B:Nat} {a:Addr}:∀ {l:List Value} {cs:List CK} {i:Nat} {m:AM} {K:AM→Prop},stCells B a l cs i m K→awp P B (storeCells a l i) m (fun _ m'=>K m')
 | [],[],i,m,K,h=>h
 | v :: r,c :: cs,i,m,K,h=>by
  obtain ⟨h1,h2,h3,h4,h5⟩:=one1_spec h
  show awp P B (store (a.add i) v >>= fun _=>storeCells a r (i+1)) m _
  rw [awp_bind']
  exact ⟨h1,h2,h3,h4,stCells_awp h5⟩
 | [],_ :: _,_,_,_,h=>h.elim
 | _ :: _,[],_,_,_,h=>h.elim

def stS (P:Program) (B:Nat) (t:TypeId) (m:AM) (a:Addr) (v:Value) (K:AM→Prop):Prop :=
 match tyOf P t with
 | some ti=>stCells B a v.cells.toList ti.cks 0 m K
 | none=>False

theorem stS_awp {P:Program} {B:Nat} {t:TypeId} {m:AM} {a:Addr} {v:Value} {K:AM→Prop} (h:stS P B t m a v K):awp P B (storeVar t a v) m (fun _ m'=>K m'):=by
 unfold stS at h
 split at h
 ·rename_i ti hti
  obtain ⟨d,i,z,hd,hi,hz,hag,hlen,hzz⟩:=tyOf_spec hti
  have hl:=stCells_len h
  unfold storeVar
  rw [awp_bind']
  refine awp_p (pv_sizeOf hi) ?_
  have e:¬ v.cells.size≠i.size:=by
   have:v.cells.toList.length=v.cells.size:=by simp
   omega
  simp only [e,if_false]
  exact stCells_awp h
 ·exact h.elim

def mpOf (P:Program) (t:TypeId):Option TI :=
 match P.underlying t with
 | some (.map _ e)=>tyOf P e
 | _=>none

abbrev Sg:=Nat→Value
def upd (σ:Sg) (d:Nat) (v:Value):Sg:=fun t=>if t=d then v else σ t
def putS (σ:Sg) (d:Option Tmp) (v:Value):Sg :=
 match d with
 | some d=>upd σ d v
 | none=>σ
def evS (σ:Sg) (x:Operand):Value :=
 match x with
 | .tmp t=>σ t
 | .const v=>v
 | .global g=>.pointer (some ⟨g,0,none⟩)
 | .func f=>.func (.func f) #[] #[]

def binS (op : BinOp) (x y : Value) (K : Value → Prop) : Prop :=
  match op, x, y with
  | .add, .int k a, .int k' b => k = k' ∧ K (.int k (k.wrap (a + b)))
  | .sub, .int k a, .int k' b => k = k' ∧ K (.int k (k.wrap (a - b)))
  | .mul, .int k a, .int k' b => k = k' ∧ K (.int k (k.wrap (a * b)))
  | .quo, .int k a, .int k' b => k = k' ∧ b ≠ 0 ∧ K (.int k (k.wrap (a.tdiv b)))
  | .rem, .int k a, .int k' b => k = k' ∧ b ≠ 0 ∧ K (.int k (a.tmod b))
  | .and, .int k a, .int k' b => k = k' ∧ K (bitsV .and k a b)
  | .or, .int k a, .int k' b => k = k' ∧ K (bitsV .or k a b)
  | .eql, .int k a, .int k' b => k = k' ∧ K (.bool (a == b))
  | .neq, .int k a, .int k' b => k = k' ∧ K (.bool (a != b))
  | .lss, .int k a, .int k' b => k = k' ∧ K (.bool (decide (a < b)))
  | .leq, .int k a, .int k' b => k = k' ∧ K (.bool (decide (a ≤ b)))
  | .gtr, .int k a, .int k' b => k = k' ∧ K (.bool (decide (a > b)))
  | .geq, .int k a, .int k' b => k = k' ∧ K (.bool (decide (a ≥ b)))
  | .shl, .int k a, .int _ b => 0 ≤ b ∧ K (.int k (k.wrap (a * 2 ^ (min b.toNat k.bits))))
  | .shr, .int k a, .int _ b => 0 ≤ b ∧ K (.int k (a.fdiv (2 ^ (min b.toNat k.bits))))
  | _, _, _ => False
 where bitsV (op : BinOp) (k : IntKind) (a b : Int) : Value :=
  match op with
  | .and => .int k (k.wrap (BitVec.ofInt k.bits a &&& BitVec.ofInt k.bits b).toNat)
  | _ => .int k (k.wrap (BitVec.ofInt k.bits a ||| BitVec.ofInt k.bits b).toNat)

theorem eqGuard_int {P:Program} (op:BinOp) (t:TypeId) (x y:Operand) {k k':IntKind} (a b:Int):pval P (eqGuard op t x y (.int k a) (.int k' b))=some ():=by
 unfold eqGuard; cases op <;> rfl

theorem binS_pval {P : Program} {op : BinOp} {t : TypeId} {x y : Operand} {u v : Value} {K : Value → Prop} (h : binS op u v K) :
    ∃ r, pval P (do eqGuard op t x y u v; binOp op t u v) = some r ∧ K r := by
  unfold binS at h
  split at h <;> first
    | exact h.elim
    | (obtain ⟨rfl, hb, h⟩ := h
       refine ⟨_, ?_, h⟩
       rw [pval_bind', eqGuard_int]
       simp [binOp, Op.intDiv, hb, pval_pure])
    | (obtain ⟨rfl, h⟩ := h
       refine ⟨_, ?_, h⟩
       rw [pval_bind', eqGuard_int]
       simp [binOp, Op.intArith, Op.intCmp, Op.intBits, binS.bitsV, pval_pure])
    | (obtain ⟨h0, h⟩ := h
       refine ⟨_, ?_, h⟩
       rw [pval_bind', eqGuard_int]
       have hb : ¬ (_ : Int) < 0 := Int.not_lt.2 h0
       simp [binOp, Op.shift, hb, pval_pure])

def spl (place:Nat→Option (Nat × Nat)):List Value→List (Nat × Value)→List Value
 | cells,[]=>cells
 | cells,(i,v) :: r=>match place i with
  | some (off,_)=>spl place (cells.take off ++ v.cells.toList ++ cells.drop (off+v.cells.toList.length)) r
  | none=>cells

def splOk (place:Nat→Option (Nat × Nat)) (n:Nat) (parts:List (Nat × Value)):Bool :=
 parts.all fun p=>match place p.1 with
  | some (off,size)=>Nat.beq p.2.cells.toList.length size && Nat.ble (off+size) n
  | none=>false

theorem fold_splice (cs:List Value):∀ (cells:Array Value) (off k:Nat),off+k+cs.length≤cells.size →
  (cs.zipIdx k).foldl (fun a (x:Value × Nat)=>a.setIfInBounds (off+x.2) x.1) cells=(cells.toList.take (off+k) ++ cs ++ cells.toList.drop (off+k+cs.length)).toArray:=by
 induction cs with
 | nil=>intro cells off k h; simp
 | cons c cs ih =>
  intro cells off k h
  simp only [List.length_cons] at h
  rw [List.zipIdx_cons,List.foldl_cons,ih _ off (k+1) (by simp; omega)]
  apply Array.ext'
  simp only [Array.toList_setIfInBounds,List.length_cons]
  apply List.ext_getElem?
  intro i
  simp only [List.getElem?_append,List.getElem?_take,List.getElem?_drop,List.getElem?_set,List.length_append,List.length_take,List.length_set,List.length_cons,List.getElem?_cons,Array.length_toList]
  have e1:min (off+(k+1)) cells.size=off+k+1:=by omega
  have e2:min (off+k) cells.size=off+k:=by omega
  rw [e1,e2]
  by_cases h1:i<off+k
  ·simp [h1,show i<off+k+1 by omega,show i<off+(k+1) by omega,show ¬ off+k=i by omega,show i<off+k+1+cs.length by omega,show i<off+k+(cs.length+1) by omega]
  ·by_cases h2:i=off+k
   ·subst h2
    simp [show off+k<off+(k+1) by omega,show off+k<cells.size by omega,show off+k<off+k+1+cs.length by omega]
   ·by_cases h3:i<off+k+1+cs.length
    ·simp [h1,h3,show ¬ i<off+k+1 by omega,show i<off+k+(cs.length+1) by omega,show ¬ i-(off+k)=0 by omega]
     congr 1
    ·simp [h1,h3,show ¬ i<off+k+1 by omega,show ¬ i<off+k+(cs.length+1) by omega]
     rw [show off+(k+1)+cs.length+(i-(off+k+1+cs.length))=i by omega,show off+k+(cs.length+1)+(i-(off+k+(cs.length+1)))=i by omega]
     rw [if_neg (by omega)]

theorem fill_spl (place:Nat→Option (Nat × Nat)):∀ (parts:List (Nat × Value)) (cells:Array Value),splOk place cells.size parts=true →
  Instr.fill place cells parts=some (spl place cells.toList parts).toArray
 | [],cells,_=>by simp [Instr.fill,spl]
 | (i,v) :: r,cells,h=>by
  unfold splOk at h
  rw [List.all_cons,Bool.and_eq_true] at h
  obtain ⟨h1,h2⟩:=h
  simp only at h1
  unfold Instr.fill spl
  cases hp:place i with
  | none=>rw [hp] at h1; cases h1
  | some os =>
   obtain ⟨off,size⟩:=os
   rw [hp] at h1
   simp only [Bool.and_eq_true] at h1
   have hs:v.cells.size=size:=by have:=Nat.eq_of_beq_eq_true h1.1; simpa using this
   have hb:off+size≤cells.size:=Nat.le_of_ble_eq_true h1.2
   simp only
   have hn:¬ ((decide (v.cells.size≠size) || decide (off+v.cells.size>cells.size))=true):=by
    simp only [Bool.or_eq_true,decide_eq_true_eq]; omega
   rw [if_neg hn]
   have hf:v.cells.zipIdx.foldl (fun cs x=>match x with | (c,j)=>cs.setIfInBounds (off+j) c) cells=(cells.toList.take off ++ v.cells.toList ++ cells.toList.drop (off+v.cells.toList.length)).toArray:=by
    have:=fold_splice v.cells.toList cells off 0 (by simp; omega)
    simp only [Nat.add_zero] at this
    rw [← this,← Array.foldl_toList,Array.toList_zipIdx]
   rw [hf,fill_spl place r _ (by
    have hsz:(cells.toList.take off ++ v.cells.toList ++ cells.toList.drop (off+v.cells.toList.length)).toArray.size=cells.size:=by simp; omega
    rw [hsz]; exact h2)]

end Go.Alog

set_option linter.unusedSimpArgs false
set_option linter.unusedVariables false
namespace Go.Alog
open Go Go.RowKit

section
variable (P:Program) (w0:World) (c:Nat) (ev:Operand→Value)

def rawS (op : Op) (ty : TypeId) (m : AM) (K : Value → AM → Prop) : Prop := OpA P w0 c (execOp ev ⟨none, op, ty, "", #[], none⟩) m K

def nilO (p:Option Addr) (K:Addr→Prop):Prop :=
 match p with
 | some a=>K a
 | none=>False

theorem nilO_spec {p:Option Addr} {K:Addr→Prop} (h:nilO p K):∃ a,p=some a∧K a:=by
 cases p with
 | none=>exact h.elim
 | some a=>exact ⟨a,rfl,h⟩

def pickS (t x y:Value) (K:Value→Prop):Prop :=
 match t,x,y with
 | .bool t,.bool x,.bool y=>K (.bool (bif t then x else y))
 | .bool t,.bool x,.tuple _=>t=true∧K (.bool x)
 | .bool t,.tuple _,.bool y=>t=false∧K (.bool y)
 | _,_,_=>False

def nilS (v:Value) (m:AM) (K:Value→AM→Prop):Prop :=
 match v with
 | .pointer p=>nilO p fun a=>K (.pointer (some a)) m
 | .func (.func g) f cs=>K (.func (.func g) f cs) m
 | _=>False

def eqS (t:TypeId) (x y:Value) (K:Bool→Prop):Prop :=
 match P.underlying t,x,y with
 | some .bool,.bool a,.bool b=>K (a == b)
 | some (.slice _),.slice A _ _,.slice none _ _=>K A.isNone
 | some (.slice _),.slice none _ _,.slice (some _) _ _=>K false
 | some (.pointer _),.pointer A,.pointer none=>K A.isNone
 | some (.map _ _),.map A,.map none=>K A.isNone
 | _,_,_=>False

def eqOp (op:BinOp) (t:TypeId) (x y:Value) (K:Value→Prop):Prop :=
 match op with
 | .eql=>eqS P t x y (fun b=>K (.bool b))
 | .neq=>eqS P t x y (fun b=>K (.bool !b))
 | _=>False

def binX (op:BinOp) (t:TypeId) (x y:Value) (m:AM) (K:Value→AM→Prop) (raw:Prop):Prop :=
 match x,y with
 | .int k a,.int k' b=>binS op (.int k a) (.int k' b) (fun v=>K v m)
 | .agg xs,.agg ys=>∃ b:Bool,pval P (eqGuard op t (.const undef) (.const undef) (.agg xs) (.agg ys) >>= fun _=>binOp op t (.agg xs) (.agg ys))=some (.bool b)∧K (.bool b) m
 | .string a,.string b=>match op with
  | .eql=>K (.bool (a.toList == b.toList)) m
  | .neq=>K (.bool (!(a.toList == b.toList))) m
  | .add=>raw
  | _=>raw
 | x,y=>eqOp P op t x y (fun v=>K v m)

def unS (op:UnOp) (x:Value) (K:Value→Prop):Prop :=
 match op,x with
 | .not,.bool b=>K (.bool !b)
 | .neg,.int k n=>K (.int k (k.wrap (0-n)))
 | _,_=>False

def fldS (s:TypeId) (v:Value) (k:Nat) (K:Value→Prop):Prop :=
 match v,fldOf P s k with
 | .pointer (some a),some (off,_,_)=>K (.pointer (some (a.add off)))
 | _,_=>False

def partS (s:TypeId) (v:Value) (k:Nat) (K:Value→Prop):Prop :=
 match v,fldOf P s k with
 | .agg cs,some (off,true,n)=>K (.agg (cs.extract off (off+n)))
 | .agg cs,some (off,false,_)=>match cs[off]? with
  | some u=>K u
  | none=>False
 | _,_=>False

def idxS (t:TypeId) (x i:Value) (K:Value→Prop):Prop :=
 match x,i with
 | .slice A n _,.int _ i=>match elOf P t with
  | some (_,sz,_,_)=>(0≤i∧i<n)∧nilO A fun a=>K (.pointer (some (a.add (i.toNat*sz))))
  | none=>False
 | .pointer (some a),.int _ i=>match arOf P t with
  | some (n,sz)=>(0≤i∧i<n)∧K (.pointer (some (a.add (i.toNat*sz))))
  | none=>False
 | _,_=>False

def extS (v:Value) (k:Nat) (K:Value→Prop):Prop :=
 match v with
 | .tuple vs=>match vs[k]? with
  | some u=>K u
  | none=>False
 | _=>False

def cvtS (src dst:TypeId) (x:Value) (m:AM) (K:Value→AM→Prop) (raw:Prop):Prop :=
 match x with
 | .int _ n=>match P.underlying src,P.underlying dst with
  | some _,some (.int k)=>K (.int k (k.wrap n)) m
  | _,_=>raw
 | _=>raw

def bndS (v:Option Value) (dflt:Nat) (K:Nat→Prop):Prop :=
 match v with
 | none=>K dflt
 | some (.int _ i)=>0≤i∧K i.toNat
 | some _=>False

def sliS (t:TypeId) (x:Value) (lo hi:Option Value) (K:Value→Prop):Prop :=
 match x with
 | .slice A n cp=>match elOf P t with
  | some (_,sz,_,_)=>bndS hi n fun h=>bndS lo 0 fun l=>h≤cp∧l≤h∧K (.slice (if cp=l then A else A.map (·.add (l*sz))) (h-l) (cp-l))
  | none=>False
 | .string s=>match P.underlying t with
  | some .string=>bndS hi s.size fun h=>bndS lo 0 fun l=>h≤s.size∧l≤h∧K (.string (s.extract l h))
  | _=>False
 | _=>False

def lenS (t:TypeId) (x:Value) (K:Value→Prop):Prop :=
 match x,P.underlying t with
 | .slice _ n _,some (.slice _)=>K (.int .i64 n)
 | .string s,some .string=>K (.int .i64 s.size)
 | _,_=>False

def capS (t:TypeId) (x:Value) (K:Value→Prop):Prop :=
 match x,P.underlying t with
 | .slice _ _ n,some (.slice _)=>K (.int .i64 n)
 | _,_=>False

def mnS (x y:Value) (K:Value→Prop):Prop :=
 match x,y with
 | .int k a,.int k' b=>k=k'∧K (.int k (if b<a then b else a))
 | _,_=>False
def mxS (x y:Value) (K:Value→Prop):Prop :=
 match x,y with
 | .int k a,.int k' b=>k=k'∧K (.int k (if b>a then b else a))
 | _,_=>False

def callS (g:FuncId) (args:Array Value) (m:AM) (K:Value→AM→Prop):Prop :=
 match sigOf P g with
 | some ts=>if c≤2 then resEx ts (fun v=>CallsA P w0 g args m (fun r m'=>r=v∧m'=m)∧K v m) else if c=3 then CallsA P w0 g args m (fun r m'=>resEx ts (fun v=>r=v∧K v m')) else CallsA P w0 g args m (fun r m'=>m.le m'∧resEx ts (fun v=>r=v∧K v m'))
 | none=>False

def fnS (f:Value) (args:Array Value) (m:AM) (K:Value→AM→Prop):Prop :=
 match f with
 | .func (.func g) first captured=>callS P w0 c g (first ++ args ++ captured) m K
 | _=>False

def bltS (b:Builtin) (argTypes:Array TypeId) (ty:TypeId) (args:Array Value) (m:AM) (K:Value→AM→Prop) (raw:Prop):Prop :=
 match b,args.toList,argTypes.toList with
 | .len,[x],[t]=>lenS P t x (fun v=>K v m)
 | .cap,[x],[t]=>capS P t x (fun v=>K v m)
 | .min,[x,y],_=>mnS x y (fun v=>K v m)
 | .max,[x,y],_=>mxS x y (fun v=>K v m)
 | .append,_,_=>if c≠3 then False else awp P w0.heap.size (Builtin.append_ argTypes ty args) m fun v m'=>∃ A n cp,v=.slice A n cp∧K (.slice A n cp) m'
 | .copy,_,_=>if c≠3 then False else awp P w0.heap.size (Builtin.copy_ argTypes ty args) m fun v m'=>∃ n,v=.int .i64 n∧K (.int .i64 n) m'
 | .clear,_,_=>if c≠3 then False else awp P w0.heap.size (Builtin.clear_ argTypes ty args) m fun v m'=>v=.tuple #[]∧K (.tuple #[]) m'
 | _,_,_=>raw

def newS (t:TypeId) (cells:List Value) (m:AM) (K:Value→AM→Prop):Prop :=
 ∀ b,w0.heap.size≤b→m b=none→K (.pointer (some ⟨b,0,none⟩)) (m.upd b (.cells cells.toArray t))

def allocS (t:TypeId) (m:AM) (K:Value→AM→Prop):Prop :=
 match tyOf P t with
 | some ti=>newS w0 t ti.zero m K
 | none=>False

def zeros (z:List Value) (n:Nat):List Value:=(List.replicate n z).flatten

def mkS (t:TypeId) (l cp:Value) (m:AM) (K:Value→AM→Prop):Prop :=
 match l,cp,elOf P t with
 | .int _ l,.int _ cp,some (e,_,by_,z)=>(0≤l∧l≤cp∧cp≤9223372036854775807∧by_*cp≤281474976710656) ∧
   ∀ b,w0.heap.size≤b→m b=none→K (.slice (some ⟨b,0,none⟩) l.toNat cp.toNat) (m.upd b (.cells (zeros z cp.toNat).toArray e))
 | _,_,_=>False

def EqP (P:Program) (op:BinOp) (t:TypeId) (x y:Value) (b:Bool):Prop :=
 pval P (eqGuard op t (.const undef) (.const undef) x y >>= fun _=>binOp op t x y)=some (.bool b)

def rowP (sz:Nat) (i:Nat):Option (Nat × Nat):=some (i*sz,sz)

def bslS (t:TypeId) (len:Nat) (parts:List (Nat × Value)) (m:AM) (K:Value→AM→Prop):Prop :=
 match elOf P t with
 | some (e,sz,_,z)=>(Nat.ble (len*sz) 16777216 && splOk (rowP sz) (zeros z len).length parts)=true ∧
   ∀ b,w0.heap.size≤b→m b=none→K (.slice (some ⟨b,0,none⟩) len len) (m.upd b (.cells (spl (rowP sz) (zeros z len) parts).toArray e))
 | none=>False

def bldS (t:TypeId) (parts:List (Nat × Value)) (K:Value→Prop):Prop :=
 match bldOf P t with
 | some (l,z)=>splOk (fun i=>l[i]?) z.length parts=true∧K (.agg (spl (fun i=>l[i]?) z parts).toArray)
 | none=>False

def opS (op:Op) (ty:TypeId) (m:AM) (K:Value→AM→Prop):Prop :=
 match op with
 | .move x=>K (ev x) m
 | .assign x=>K (ev x) m
 | .pick cd a b=>pickS (ev cd) (ev a) (ev b) (fun v=>K v m)
 | .nilCheck x=>nilS (ev x) m K
 | .binOp bo t x y _=>binX P bo t (ev x) (ev y) m K (rawS P w0 c ev op ty m K)
 | .unOp uo _ x=>unS uo (ev x) (fun v=>K v m)
 | .convert s d x=>cvtS P s d (ev x) m K (rawS P w0 c ev op ty m K)
 | .fieldAddr s x k=>fldS P s (ev x) k (fun v=>K v m)
 | .field s x k=>partS P s (ev x) k (fun v=>K v m)
 | .indexAddr t x i=>idxS P t (ev x) (ev i) (fun v=>K v m)
 | .extract x k=>extS (ev x) k (fun v=>K v m)
 | .makeFunc fn first captured=>K (.func fn (first.map ev) (captured.map ev)) m
 | .slice t x lo hi none=>sliS P t (ev x) (lo.map ev) (hi.map ev) (fun v=>K v m)
 | .load t a=>match ev a with
  | .pointer (some ad)=>ldS P t m ad (fun v=>K v m)
  | _=>False
 | .store t a x=>if c≠3 then False else match ev a with
  | .pointer (some ad)=>stS P w0.heap.size t m ad (ev x) (K undef)
  | _=>False
 | .alloc t=>if c≤2 then False else allocS P w0 t m K
 | .box t x=>if c≤2 then False else newS w0 t (ev x).cells.toList m K
 | .makeSlice t l cp=>if c≤2 then False else mkS P w0 t (ev l) (ev cp) m K
 | .buildSlice t len parts=>if c≤2 then False else bslS P w0 t len (parts.toList.map fun p=>(p.1,ev p.2)) m K
 | .build t parts=>bldS P t (parts.toList.map fun p=>(p.1,ev p.2)) (fun v=>K v m)
 | .makeMap t none=>if c≤2 then False else ∀ b,w0.heap.size≤b→m b=none→K (.map (some b)) (m.upd b (.map #[] 0))
 | .lookup t x i true=>match mpOf P t with
  | some te=>te.ex fun v=>∃ ok:Bool,rval P m (Instr.lookup t (ev x) (ev i) true)=some (.tuple #[v,.bool ok])∧K (.tuple #[v,.bool ok]) m
  | none=>False
 | .lookup t x i false=>match mpOf P t with
  | some te=>te.ex fun v=>rval P m (Instr.lookup t (ev x) (ev i) false)=some v∧K v m
  | none=>False
 | .mapUpdate t mp k v=>if c≠3 then False else awp P w0.heap.size (Instr.mapUpdate t (ev mp) (ev k) (ev v)) m fun _ m'=>K undef m'
 | .call { callee:=.value f,args,.. }=>fnS P w0 c (ev f) (args.map ev) m K
 | .call { callee:=.builtin b,args,argTypes }=>bltS P w0 c b argTypes ty (args.map ev) m K (rawS P w0 c ev op ty m K)
 | op=>rawS P w0 c ev op ty m K
end

def okClass (c:Nat) (op:Op):Prop:=baseClass op≤c∨2≤c

section sound
variable {P:Program} {w0:World} {c:Nat} {ev:Operand→Value} {m:AM} {K:Value→AM→Prop} {ty:TypeId}

theorem exec_value {s:Sem Value} {v:Value} (h:pval P s=some v):pval P (do pure (Next.value (← s)):Sem Next)=some (.value v):=by
 rw [pval_bind',h]; rfl
theorem execr_value {s:Sem Value} {v:Value} (h:rval P m s=some v):rval P m (do pure (Next.value (← s)):Sem Next)=some (.value v):=by
 rw [rval_bind',h]; rfl

theorem fldOf_spec {s:TypeId} {k off n:Nat} {g:Bool} (h:fldOf P s k=some (off,g,n)) :
  ∃ fs f d i,P.underlying s=some (.struct fs)∧fs[k]?=some f∧P.underlying f.type=some d∧P.info? f.type=some i∧i.size≠0∧f.offset=off∧isAggD d=g∧i.size=n:=by
 unfold fldOf at h
 split at h
 ·rename_i fs hs
  split at h
  ·rename_i f hf
   split at h
   ·rename_i d i hd hi
    by_cases h0:i.size=0
    ·rw [if_pos h0] at h; cases h
    ·rw [if_neg h0] at h
     injection h with h; injection h with h1 h; injection h with h2 h3
     exact ⟨fs,f,d,i,hs,hf,hd,hi,h0,h1,h2,h3⟩
   ·cases h
  ·cases h
 ·cases h

theorem pv_fieldAt {s:TypeId} {k off n:Nat} {g:Bool} {a:Addr} (h:fldOf P s k=some (off,g,n)):pval P (Instr.fieldAt s (.pointer (some a)) k)=some (.pointer (some (a.add off))):=by
 obtain ⟨fs,f,d,i,hs,hf,hd,hi,h0,h1,h2,h3⟩:=fldOf_spec h
 unfold Instr.fieldAt
 rw [pval_bind',pv_underlying hs]
 simp only [Option.bind_some,hf]
 rw [pval_bind']
 simp only [Instr.sureAddr,pval_pure,Option.bind_some]
 rw [pval_bind']
 unfold fieldPlace
 rw [pval_bind',pv_sizeOf hi]
 simp only [Option.bind_some,if_neg h0,pval_pure,h1]

theorem pv_part {t:TypeId} {d:TypeDesc} {i:TypeInfo} {cs:Array Value} {off:Nat} (hd:P.underlying t=some d) (hi:P.info? t=some i) :
  pval P (part t cs off)=if isAggD d then some (.agg (cs.extract off (off+i.size))) else cs[off]?:=by
 unfold part
 rw [pval_bind',pv_isAgg hd]
 simp only [Option.bind_some]
 cases isAggD d with
 | true=>simp only [if_true]; rw [pval_bind',pv_sizeOf hi]; rfl
 | false=>simp only [Bool.false_eq_true,if_false]; cases cs[off]? <;> rfl

theorem elOf_spec {t e:TypeId} {sz bs:Nat} {zl:List Value} (h:elOf P t=some (e,sz,bs,zl)):∃ i z,P.underlying t=some (.slice e)∧P.info? e=some i∧i.zero=some z∧z.cells.size=i.size∧i.size=sz∧i.bytes=bs∧z.cells.toList=zl:=by
 unfold elOf at h
 split at h
 ·rename_i e' he
  split at h
  ·rename_i i hi
   split at h
   ·rename_i z hz
    split at h
    ·rename_i hs
     injection h with h; injection h with h1 h; injection h with h2 h; injection h with h3 h4
     subst h1
     exact ⟨i,z,he,hi,hz,hs,h2,h3,h4⟩
    ·cases h
   ·cases h
  ·cases h
 ·cases h

theorem arOf_spec {t:TypeId} {n sz:Nat} (h:arOf P t=some (n,sz)):∃ e i,P.underlying t=some (.array n e)∧P.info? e=some i∧i.size=sz:=by
 unfold arOf at h
 split at h
 ·rename_i n' e he
  split at h
  ·rename_i i hi
   injection h with h; injection h with h1 h2
   subst h1
   exact ⟨e,i,he,hi,h2⟩
  ·cases h
 ·cases h

theorem idxS_pval {t:TypeId} {x i:Value} {K:Value→Prop} (h:idxS P t x i K):∃ v,pval P (Instr.indexAt t x i)=some v∧K v:=by
 unfold idxS at h
 split at h
 ·rename_i A n cp k i
  split at h
  ·rename_i e sz bs zl hel
   obtain ⟨hb,h⟩:=h
   obtain ⟨a,rfl,hK⟩:=nilO_spec h
   obtain ⟨inf,z,hu,hi,_,_,hsz,_,_⟩:=elOf_spec hel
   refine ⟨_,?_,hK⟩
   unfold Instr.indexAt
   rw [pval_bind']
   simp only [asIntOf,pval_pure,Option.bind_some]
   rw [pval_bind',pv_underlying hu]
   simp only [Option.bind_some]
   rw [pval_bind']
   simp only [pval_pure,Option.bind_some]
   rw [pval_bind',pv_underlying hu]
   simp only [Option.bind_some,if_pos hb]
   rw [pval_bind',pv_sizeOf hi]
   simp only [Option.bind_some,pval_pure,hsz]
  ·exact h.elim
 ·rename_i a k i
  split at h
  ·rename_i n sz har
   obtain ⟨hb,hK⟩:=h
   obtain ⟨e,inf,hu,hi,hsz⟩:=arOf_spec har
   refine ⟨_,?_,hK⟩
   unfold Instr.indexAt
   rw [pval_bind']
   simp only [asIntOf,pval_pure,Option.bind_some]
   rw [pval_bind',pv_underlying hu]
   simp only [Option.bind_some]
   rw [pval_bind']
   simp only [Instr.sureAddr,pval_pure,Option.bind_some]
   rw [pval_bind']
   simp only [pval_pure,Option.bind_some]
   rw [pval_bind',pv_underlying hu]
   simp only [Option.bind_some,if_pos hb]
   rw [pval_bind',pv_sizeOf hi]
   simp only [Option.bind_some,pval_pure,hsz]
  ·exact h.elim
 ·exact h.elim

theorem partS_pval {s:TypeId} {v:Value} {k:Nat} {K:Value→Prop} (h:partS P s v k K):∃ u,pval P (Instr.field s v k)=some u∧K u:=by
 unfold partS at h
 split at h
 ·rename_i cs off n hf
  obtain ⟨fs,f,d,i,hs,hfk,hd,hi,h0,h1,h2,h3⟩:=fldOf_spec hf
  refine ⟨_,?_,h⟩
  unfold Instr.field
  rw [pval_bind',pv_underlying hs]
  simp only [Option.bind_some,hfk]
  rw [pval_bind']
  simp only [asAgg,pval_pure,Option.bind_some]
  rw [pv_part hd hi,h2,h1,h3]; rfl
 ·rename_i cs off n hf
  obtain ⟨fs,f,d,i,hs,hfk,hd,hi,h0,h1,h2,h3⟩:=fldOf_spec hf
  cases hu:cs[off]? with
  | none=>rw [hu] at h; exact h.elim
  | some u =>
  rw [hu] at h
  refine ⟨u,?_,h⟩
  unfold Instr.field
  rw [pval_bind',pv_underlying hs]
  simp only [Option.bind_some,hfk]
  rw [pval_bind']
  simp only [asAgg,pval_pure,Option.bind_some]
  rw [pv_part hd hi,h2,h1]
  simpa using hu
 ·exact h.elim

theorem eqS_pval {t:TypeId} {x y:Value} {K:Bool→Prop} (h:eqS P t x y K):∃ b,pval P (Op.equal t x y)=some b∧K b:=by
 have key:∀ (d:Nat),∃ b,pval P (Op.equalIn (d+1) t x y)=some b∧K b:=by
  intro d
  unfold eqS at h
  split at h
  ·rename_i a b hu
   refine ⟨_,?_,h⟩
   unfold Op.equalIn
   rw [pval_bind',pv_underlying hu]; rfl
  ·rename_i A _ _ _ _ hu
   refine ⟨_,?_,h⟩
   unfold Op.equalIn
   rw [pval_bind',pv_underlying hu]
   cases A <;> rfl
  ·rename_i hu
   refine ⟨_,?_,h⟩
   unfold Op.equalIn
   rw [pval_bind',pv_underlying hu]; rfl
  ·rename_i A hu
   refine ⟨_,?_,h⟩
   unfold Op.equalIn
   rw [pval_bind',pv_underlying hu]
   cases A <;> rfl
  ·rename_i A hu
   refine ⟨_,?_,h⟩
   unfold Op.equalIn
   rw [pval_bind',pv_underlying hu]
   cases A <;> rfl
  ·exact h.elim
 exact key 9999

theorem eqGuard_other {op:BinOp} {t:TypeId} {x y:Operand} {u v:Value} (h1:∀ c,u≠.agg c) (h2:u≠.nilIface):pval P (eqGuard op t x y u v)=some ():=by
 unfold eqGuard
 cases op <;> first | rfl | (cases u <;> first | rfl | exact absurd rfl h2 | exact absurd rfl (h1 _))

theorem bin_eq {op : BinOp} {t : TypeId} {x y : Operand} {u v : Value} {K : Value → Prop} (h1 : ∀ c, u ≠ .agg c) (h2 : u ≠ .nilIface)
    (hb : ∀ r, pval P (Op.equal t u v) = some r → (op = .eql → pval P (binOp op t u v) = some (.bool r)) ∧ (op = .neq → pval P (binOp op t u v) = some (.bool !r)))
    (h : eqOp P op t u v K) :
    ∃ r, pval P (do eqGuard op t x y u v; binOp op t u v) = some r ∧ K r := by
  unfold eqOp at h
  cases op <;> first
    | exact h.elim
    | (obtain ⟨b, he, hK⟩ := eqS_pval h
       refine ⟨_, ?_, hK⟩
       rw [pval_bind', eqGuard_other h1 h2]
       first | exact (hb b he).1 rfl | exact (hb b he).2 rfl)

theorem eqS_shape {t:TypeId} {u v:Value} {K:Bool→Prop} (h:eqS P t u v K):(∃ a b,u=.bool a∧v=.bool b)∨(∃ A n c B n' c',u=.slice A n c∧v=.slice B n' c')∨(∃ A,u=.pointer A∧v=.pointer none)∨(∃ A,u=.map A∧v=.map none):=by
 unfold eqS at h
 split at h
 ·exact .inl ⟨_,_,rfl,rfl⟩
 ·exact .inr (.inl ⟨_,_,_,_,_,_,rfl,rfl⟩)
 ·exact .inr (.inl ⟨_,_,_,_,_,_,rfl,rfl⟩)
 ·exact .inr (.inr (.inl ⟨_,rfl,rfl⟩))
 ·exact .inr (.inr (.inr ⟨_,rfl,rfl⟩))
 ·exact h.elim

theorem binX_sound {op:BinOp} {t yt:TypeId} {x y:Operand} (h:binX P op t (ev x) (ev y) m K (rawS P w0 c ev (.binOp op t x y yt) ty m K)):rawS P w0 c ev (.binOp op t x y yt) ty m K:=by
 have fin:(∃ r,pval P (do eqGuard op t x y (ev x) (ev y); binOp op t (ev x) (ev y))=some r∧K r m)→rawS P w0 c ev (.binOp op t x y yt) ty m K:=fun ⟨r,hr,hK⟩=>OpA_of_pval (exec_value hr) c hK
 have gen:∀ u v,ev x=u→ev y=v→eqOp P op t u v (fun v=>K v m)→rawS P w0 c ev (.binOp op t x y yt) ty m K:=by
  intro u v hu hv hh
  have hs:(∃ a b,u=.bool a∧v=.bool b)∨(∃ A n c B n' c',u=.slice A n c∧v=.slice B n' c')∨(∃ A,u=.pointer A∧v=.pointer none)∨(∃ A,u=.map A∧v=.map none):=by
   unfold eqOp at hh
   cases op <;> first | exact hh.elim | exact eqS_shape hh
  refine fin ?_
  rw [hu,hv]
  rcases hs with ⟨a,b,rfl,rfl⟩ | ⟨A,n,c',B,n',c'',rfl,rfl⟩ | ⟨A,rfl,rfl⟩ | ⟨A,rfl,rfl⟩
  all_goals
   refine bin_eq (K:=fun r=>K r m) (by simp) (by simp) (fun r hr=>⟨fun e=>?_,fun e=>?_⟩) hh
   all_goals
    subst e
    simp only [binOp]
    rw [pval_bind',hr]
    rfl
 unfold binX at h
 split at h
 ·rename_i k a k' b hx hy
  rw [← hx,← hy] at h
  exact fin (binS_pval h)
 ·rename_i xs ys hx hy
  obtain ⟨b,hb,hK⟩:=h
  refine fin ⟨_,?_,hK⟩
  rw [hx,hy]
  exact hb
 ·rename_i a b hx hy
  split at h
  ·refine fin ⟨_,?_,h⟩
   rw [pval_bind',eqGuard_other (by rw [hx]; simp) (by rw [hx]; simp),hx,hy]
   simp [binOp,Op.stringOp,pval_pure]
  ·refine fin ⟨_,?_,h⟩
   rw [pval_bind',eqGuard_other (by rw [hx]; simp) (by rw [hx]; simp),hx,hy]
   simp [binOp,Op.stringOp,pval_pure]
  ·exact h
  ·exact h
 ·exact gen _ _ rfl rfl h

theorem unS_pval {op:UnOp} {x:Value} {K:Value→Prop} (h:unS op x K):∃ v,pval P (Op.unary op x)=some v∧K v:=by
 unfold unS at h
 split at h
 ·exact ⟨_,rfl,h⟩
 ·exact ⟨_,rfl,h⟩
 ·exact h.elim

theorem bnd_pval {v:Option Value} {cap:Nat} {code:BoundsCode} {dflt:Nat} {K:Nat→Prop} (h:bndS v dflt K) (hle:∀ n,K n→n≤cap):∃ n,(match v with | some v=>pval P (Instr.sliceBound v cap code) | none=>some dflt)=some n∧K n:=by
 unfold bndS at h
 split at h
 ·exact ⟨_,rfl,h⟩
 ·rename_i i
  obtain ⟨h0,hK⟩:=h
  refine ⟨_,?_,hK⟩
  have:=hle _ hK
  simp only [Instr.sliceBound]
  rw [pval_bind']
  simp only [asIntOf,pval_pure,Option.bind_some]
  rw [if_pos ⟨h0,by omega⟩]; rfl
 ·exact h.elim

theorem bounds_pval {isS:Bool} {len cap:Nat} {lo hi:Option Value} {K:Nat→Nat→Prop} (h:bndS hi len fun h=>bndS lo 0 fun l=>h≤cap∧l≤h∧K h l) (hlc:len≤cap∨hi≠none) :
  ∃ l h,pval P (Instr.sliceBounds isS len cap lo hi none)=some (l,h,cap)∧h≤cap∧l≤h∧K h l:=by
 have hh:∃ hv,(match hi with | some v=>pval P (Instr.sliceBound v cap (if isS then .sliceAcap else .sliceAlen)) | none=>some len)=some hv∧bndS lo 0 fun l=>hv≤cap∧l≤hv∧K hv l :=
  bnd_pval h (fun n hn=>by
   unfold bndS at hn
   split at hn
   ·exact hn.1
   ·exact hn.2.1
   ·exact hn.elim)
 obtain ⟨hv,e1,h2⟩:=hh
 obtain ⟨lv,e2,h3,h4,h5⟩:=bnd_pval (P:=P) (code:=.sliceB) (cap:=hv) h2 (fun n hn=>hn.2.1)
 refine ⟨lv,hv,?_,h3,h4,h5⟩
 unfold Instr.sliceBounds
 rw [pval_bind']
 simp only [pval_pure,Option.bind_some]
 cases hi with
 | none =>
  simp only at e1
  injection e1 with e1
  subst e1
  simp only
  rw [pval_bind']
  simp only [pval_pure,Option.bind_some]
  cases lo with
  | none=>simp only at e2; injection e2 with e2; subst e2; rfl
  | some v=>simp only at e2; simp only [Option.isSome_none,Bool.false_eq_true,if_false]; rw [pval_bind',e2]; rfl
 | some v1 =>
  simp only at e1
  simp only
  rw [pval_bind',e1]
  simp only [Option.bind_some]
  cases lo with
  | none=>simp only at e2; injection e2 with e2; subst e2; rfl
  | some v=>simp only at e2; simp only [Option.isSome_none,Bool.false_eq_true,if_false]; rw [pval_bind',e2]; rfl

theorem sliS_pval {t:TypeId} {x:Value} {lo hi:Option Value} {K:Value→Prop} (h:sliS P t x lo hi K):∃ v,pval P (Instr.sliceAt t x lo hi none)=some v∧K v:=by
 unfold sliS at h
 split at h
 ·rename_i A n cp
  split at h
  ·rename_i e sz bs zl hel
   obtain ⟨inf,z,hu,hinf,_,_,hsz,_,_⟩:=elOf_spec hel
   obtain ⟨l,hh,hb,h1,h2,hK⟩:=bounds_pval (P:=P) (isS:=true) (K:=fun h l=>K (.slice (if cp=l then A else A.map (·.add (l*sz))) (h-l) (cp-l))) h (by
    by_cases hn:hi=none
    ·left
     subst hn
     unfold bndS at h
     simp only at h
     split at h
     ·exact h.1
     ·exact h.2.1
     ·exact h.elim
    ·exact .inr hn)
   refine ⟨_,?_,hK⟩
   unfold Instr.sliceAt
   rw [pval_bind',pv_underlying hu]
   simp only [Option.bind_some]
   unfold Instr.slice
   rw [pval_bind',pv_underlying hu]
   simp only [Option.bind_some]
   rw [pval_bind',hb]
   simp only [Option.bind_some]
   rw [pval_bind',pv_sizeOf hinf]
   simp only [Option.bind_some,pval_pure,hsz]
  ·exact h.elim
 ·rename_i s
  split at h
  ·rename_i hu
   obtain ⟨l,hh,hb,h1,h2,hK⟩:=bounds_pval (P:=P) (isS:=false) (K:=fun h l=>K (.string (s.extract l h))) h (.inl (Nat.le_refl _))
   refine ⟨_,?_,hK⟩
   unfold Instr.sliceAt
   rw [pval_bind',pv_underlying hu]
   simp only [Option.bind_some]
   unfold Instr.slice
   rw [pval_bind',pv_underlying hu]
   simp only [Option.bind_some,Option.isSome_none,Bool.false_eq_true,if_false]
   first
    | (rw [pval_bind',hb]; rfl)
    | (rw [pval_bind']; simp only [pval_pure,Option.bind_some]; rw [pval_bind',hb]; rfl)
  ·exact h.elim
 ·exact h.elim

theorem nilS_pval {v:Value} {o:Oper} {x:Operand} (ho:o.op=.nilCheck x) (hx:ev x=v) (h:nilS v m K):∃ u,pval P (execOp ev o)=some (.value u)∧K u m:=by
 unfold nilS at h
 split at h
 ·obtain ⟨a,rfl,hK⟩:=nilO_spec h
  refine ⟨_,?_,hK⟩
  simp [execOp,ho,hx,pval_pure]
 ·refine ⟨_,?_,h⟩
  simp [execOp,ho,hx,pval_pure]
 ·exact h.elim

theorem lenS_pval {t ty':TypeId} {x:Value} {K:Value→Prop} (h:lenS P t x K):∃ v,pval P (Builtin.len_ #[t] ty' #[x])=some v∧K v:=by
 unfold lenS at h
 split at h
 ·rename_i A n cp e hu
  refine ⟨_,?_,h⟩
  show pval P (underlying t >>= _)=_
  rw [pval_bind',pv_underlying hu]; rfl
 ·rename_i s hu
  refine ⟨_,?_,h⟩
  show pval P (underlying t >>= _)=_
  rw [pval_bind',pv_underlying hu]; rfl
 ·exact h.elim

theorem capS_pval {t ty':TypeId} {x:Value} {K:Value→Prop} (h:capS P t x K):∃ v,pval P (Builtin.cap_ #[t] ty' #[x])=some v∧K v:=by
 unfold capS at h
 split at h
 ·rename_i A n cp e hu
  refine ⟨_,?_,h⟩
  show pval P (underlying t >>= _)=_
  rw [pval_bind',pv_underlying hu]; rfl
 ·exact h.elim

theorem mnS_pval {at':Array TypeId} {ty':TypeId} {x y:Value} {K:Value→Prop} (h:mnS x y K):∃ v,pval P (Builtin.min_ at' ty' #[x,y])=some v∧K v:=by
 unfold mnS at h
 split at h
 ·obtain ⟨rfl,h⟩:=h
  exact ⟨_,rfl,h⟩
 ·exact h.elim
theorem mxS_pval {at':Array TypeId} {ty':TypeId} {x y:Value} {K:Value→Prop} (h:mxS x y K):∃ v,pval P (Builtin.max_ at' ty' #[x,y])=some v∧K v:=by
 unfold mxS at h
 split at h
 ·obtain ⟨rfl,h⟩:=h
  exact ⟨_,rfl,h⟩
 ·exact h.elim

theorem extS_pval {v:Value} {k:Nat} {K:Value→Prop} (h:extS v k K):∃ u,pval P (Instr.extract v k)=some u∧K u:=by
 unfold extS at h
 split at h
 ·rename_i vs
  cases hu:vs[k]? with
  | none=>rw [hu] at h; exact h.elim
  | some u =>
  rw [hu] at h
  exact ⟨u,by simp [Instr.extract,hu,pval_pure],h⟩
 ·exact h.elim

theorem cvt_sound {s d:TypeId} {x:Operand} (h:cvtS P s d (ev x) m K (rawS P w0 c ev (.convert s d x) ty m K)):rawS P w0 c ev (.convert s d x) ty m K:=by
 unfold cvtS at h
 split at h
 ·rename_i k n hx
  split at h
  ·rename_i ds k' hs hd
   refine OpA_of_pval (v:=.int k' (k'.wrap n)) (exec_value ?_) c h
   unfold convert
   rw [pval_bind',pv_underlying hs]
   simp only [Option.bind_some]
   rw [pval_bind',pv_underlying hd,hx]
   simp [Conv.intToInt,pval_pure]
  ·exact h
 ·exact h

theorem sigOf_spec {g : FuncId} {ts : List TI} (h : sigOf P g = some ts) : ∃ fn, P.funcs[g]? = some fn ∧ (fn.name == "runtime.NumGoroutine") = false ∧ fn.body.isNone = false := by
 unfold sigOf at h
 split at h
 ·rename_i fn hf
  refine ⟨fn,hf,?_,?_⟩
  ·cases hn : fn.name == "runtime.NumGoroutine" with
   | false=>rfl
   | true=>rw [if_pos hn] at h; cases h
  ·cases hn : fn.name == "runtime.NumGoroutine" with
   | true=>rw [if_pos hn] at h; cases h
   | false =>
    rw [if_neg (by simp [hn])] at h
    cases hb:fn.body.isNone with
    | false=>rfl
    | true=>rw [if_pos hb] at h; cases h
 ·cases h

theorem pv_callFunc {g:FuncId} {ts:List TI} (h:sigOf P g=some ts) (args:Array Value):pval P (callFunc g args)=some (.enter g args):=by
 obtain ⟨fn,hf,h1,h2⟩:=sigOf_spec h
 unfold callFunc program
 show pval P (match P.funcs[g]? with | none => stuck "call: no such function" | some fn => _) = _
 rw [hf]
 simp [h1,h2,pval_pure]

theorem OpA_of_enter {s:Sem Next} {g:FuncId} {args:Array Value} (hs:pval P s=some (.enter g args)) {ts:List TI} (hc:2≤c) (h:if c≤2 then resEx ts (fun v=>CallsA P w0 g args m (fun r m'=>r=v∧m'=m)∧K v m) else if c=3 then CallsA P w0 g args m (fun r m'=>resEx ts (fun v=>r=v∧K v m')) else CallsA P w0 g args m (fun r m'=>m.le m'∧resEx ts (fun v=>r=v∧K v m'))):OpA P w0 c s m K:=by
 match c,hc with
 | 2,_ =>
  simp only [Nat.le_refl,if_true] at h
  obtain ⟨v,h1,h2⟩:=resEx_some h
  exact ⟨v,.inr ⟨g,args,rval_of_pval s hs,h1⟩,h2⟩
 | 3,_ =>
  rw [if_neg (by omega),if_pos rfl] at h
  refine awp_of_rval s (rval_of_pval s hs) ?_
  refine CallsA.mono h fun r m' hr=>?_
  obtain ⟨v,rfl,hK⟩:=resEx_some hr
  exact hK
 | n+4,_ =>
  rw [if_neg (by omega),if_neg (by omega)] at h
  refine awp_of_rval s (rval_of_pval s hs) ?_
  refine CallsA.mono h fun r m' hr=>?_
  obtain ⟨v,rfl,hK⟩:=resEx_some hr.2
  exact ⟨hr.1,hK⟩

theorem fn_sound {f:Operand} {args:Array Operand} {at':Array TypeId} (hc:2≤c) (h:fnS P w0 c (ev f) (args.map ev) m K):rawS P w0 c ev (.call { callee:=.value f,args,argTypes:=at' }) ty m K:=by
 unfold fnS at h
 split at h
 ·rename_i g first captured hf
  unfold callS at h
  split at h
  ·rename_i ts hts
   refine OpA_of_enter (g:=g) (args:=first ++ args.map ev ++ captured) ?_ hc h
   show pval P (resolve ev _ ty >>= fun d=>invoke d.target d.args)=_
   rw [pval_bind']
   have:pval P (resolve ev { callee:=.value f,args,argTypes:=at' } ty)=some { target:=.fn (.func g) captured,args:=first ++ args.map ev }:=by
    simp [resolve,Deferred.ofValue,hf,pval_pure]
   rw [this]
   exact pv_callFunc hts _
  ·exact h.elim
 ·exact h.elim

theorem new_sound {t:TypeId} {cells:Array Value} {s:Sem Value} (hs:s=(do pure (.pointer (some (← newRow t cells))):Sem Value)) (hc:3≤c) (h:newS w0 t cells.toList m K):OpA P w0 c (do pure (Next.value (← s)):Sem Next) m K:=by
 refine OpA_of_ext hc ?_
 subst hs
 intro b hb hm
 have:=h b hb hm
 rw [Array.toArray_toList] at this
 exact ⟨le_new hm _,this⟩

theorem alloc_sound {t:TypeId} (hc:3≤c) (h:allocS P w0 t m K):rawS P w0 c ev (.alloc t) ty m K:=by
 unfold allocS at h
 split at h
 ·rename_i ti hti
  obtain ⟨d,i,z,hd,hi,hz,hag,hlen,hzz⟩:=tyOf_spec hti
  refine OpA_of_ext hc ?_
  show awp P _ (Instr.alloc t true (.tuple #[]) >>= fun v=>pure (Next.value v)) m _
  rw [awp_bind']
  unfold Instr.alloc
  rw [awp_bind']
  refine awp_p (pv_zeroValue hi hz) ?_
  intro b hb hm
  have:=h b hb hm
  rw [hzz,Array.toArray_toList] at this
  exact ⟨le_new hm _,this⟩
 ·exact h.elim

theorem zeros_eq (z:Array Value) (n:Nat) (_hz:0<z.size):((Array.range (n*z.size)).map (z[· % z.size]!))=(zeros z.toList n).toArray:=by
 apply Array.ext'
 simp only [Array.toList_map,Array.toList_range]
 induction n with
 | zero=>simp [zeros]
 | succ n ih =>
  have e:(List.range ((n+1)*z.size))=List.range (n*z.size) ++ (List.range z.size).map (fun x=>n*z.size+x):=by
   rw [Nat.succ_mul,List.range_add]
  rw [e,List.map_append,ih]
  have e2:zeros z.toList (n+1)=zeros z.toList n ++ z.toList:=by
   simp [zeros,List.replicate_succ',List.flatten_append]
  rw [e2]
  congr 1
  apply List.ext_getElem
  ·simp
  ·intro i h1 h2
   simp only [List.length_map,List.length_range] at h1
   simp [Nat.mul_add_mod_self_right,Nat.mod_eq_of_lt h1,h1]

theorem mk_sound {t:TypeId} {l cp:Operand} (hc:3≤c) (h:mkS P w0 t (ev l) (ev cp) m K):rawS P w0 c ev (.makeSlice t l cp) ty m K:=by
 unfold mkS at h
 split at h
 ·rename_i kl l' kc cp' e sz bs zl hl hcp hel
  obtain ⟨⟨h0,h1,h2,h3⟩,h⟩:=h
  obtain ⟨i,z,hu,hi,hz,hzs,hsz,hbs,hzl⟩:=elOf_spec hel
  refine OpA_of_ext hc ?_
  show awp P _ (Instr.makeSlice t (ev l) (ev cp) >>= fun v=>pure (Next.value v)) m _
  rw [awp_bind',hl,hcp]
  have wl:IntKind.i64.wrap l'=l':=by rw [IntKind.wrap_i64]; omega
  have wc:IntKind.i64.wrap cp'=cp':=by rw [IntKind.wrap_i64]; omega
  have t1:¬ (cp'<0∨(i.bytes:Int)*cp'>2 ^ 48):=by rw [hbs]; omega
  unfold Instr.makeSlice
  rw [awp_bind']
  refine awp_p (pv_underlying hu) ?_
  simp only
  rw [awp_bind']
  refine awp_p (x:=l') rfl ?_
  rw [awp_bind']
  refine awp_p (x:=cp') rfl ?_
  rw [awp_bind']
  refine awp_p (pv_typeInfo hi) ?_
  simp only [wl,wc]
  have t2:(decide (cp'<0) || decide ((i.bytes:Int)*cp'>2 ^ 48) || decide (l'<0) || decide (l'>cp'))=false:=by
   simp only [Bool.or_eq_false_iff,decide_eq_false_iff_not]
   refine ⟨⟨⟨?_,?_⟩,?_⟩,?_⟩ <;> omega
  simp only [Bool.or_eq_true,decide_eq_true_eq]
  rw [if_neg (by omega)]
  rw [awp_bind']
  have ask:∀ (b:Nat) (K':Unit→AM→Prop),K' () m→awp P w0.heap.size (askRoom b) m K':=fun b K' hK=>by
   unfold askRoom
   by_cases hb:b>roomBytes
   ·rw [if_pos hb]; exact hK
   ·rw [if_neg hb]; exact hK
  refine ask _ _ ?_
  rw [awp_bind']
  refine awp_p (pv_sizeOf hi) ?_
  have fin:∀ (za:Array Value),((Array.range (cp'.toNat*i.size)).map (za[· % za.size]!))=(zeros zl cp'.toNat).toArray →
    awp P w0.heap.size (do let a ← newRow e ((Array.range (cp'.toNat*i.size)).map (za[· % za.size]!)); pure (Value.slice (some a) l'.toNat cp'.toNat)) m (fun x m'=>awp P w0.heap.size (pure (Next.value x)) m' (cont P w0 (fun v m'=>m.le m'∧K v m'))):=fun za hza=>by
   rw [hza]
   intro b hb hm
   exact ⟨le_new hm _,h b hb hm⟩
  by_cases hn:cp'.toNat*i.size=0
  ·rw [if_pos hn]
   refine fin #[] ?_
   rw [hn]
   have:(zeros zl cp'.toNat).length=0:=by
    simp only [zeros,List.length_flatten,List.map_replicate,List.sum_replicate_nat]
    rw [← hzl,Array.length_toList,hzs]; exact hn
   rw [List.eq_nil_of_length_eq_zero this]; simp
  ·rw [if_neg hn,awp_bind']
   refine awp_p (pv_zeroValue hi hz) ?_
   refine fin z.cells ?_
   rw [← hzl,← hzs]
   refine zeros_eq _ _ ?_
   rw [hzs]
   rcases Nat.eq_zero_or_pos i.size with h0 | h0
   ·rw [h0] at hn; omega
   ·exact h0
 ·exact h.elim

theorem bsl_sound {t:TypeId} {len:Nat} {parts:Array (Nat × Operand)} (hc:3≤c) (h:bslS P w0 t len (parts.toList.map fun p=>(p.1,ev p.2)) m K):rawS P w0 c ev (.buildSlice t len parts) ty m K:=by
 unfold bslS at h
 split at h
 ·rename_i e sz bs zl hel
  obtain ⟨hle,h⟩:=h
  simp only [Bool.and_eq_true] at hle
  have hle1:=Nat.le_of_ble_eq_true hle.1
  obtain ⟨i,z,hu,hi,hz,hzs,hsz,hbs,hzl⟩:=elOf_spec hel
  refine OpA_of_ext hc ?_
  have e0 : execOp ev ⟨none, .buildSlice t len parts, ty, "", #[], none⟩ = (Instr.buildSlice t len (parts.map fun (i, x) => (i, ev x)) >>= fun v => pure (Next.value v)) := rfl
  rw [e0,awp_bind']
  unfold Instr.buildSlice
  rw [awp_bind']
  refine awp_p (pv_underlying hu) ?_
  simp only
  rw [awp_bind']
  refine awp_p (pv_sizeOf hi) ?_
  rw [hsz,if_neg (by omega)]
  have hf:Instr.fill (fun i=>some (i*sz,sz)) (zeros zl len).toArray (parts.toList.map fun p=>(p.1,ev p.2))=some (spl (rowP sz) (zeros zl len) (parts.toList.map fun p=>(p.1,ev p.2))).toArray :=
   fill_spl (rowP sz) _ (zeros zl len).toArray (by simpa using hle.2)
  have hp:(parts.map fun (i,x)=>(i,ev x)).toList=parts.toList.map fun p=>(p.1,ev p.2):=by simp
  by_cases hn:len*sz=0
  ·simp only [if_pos hn]
   rw [awp_bind']
   refine awp_p (x:=#[]) rfl ?_
   have hza:((Array.range (len*sz)).map fun x=>(#[]:Array Value)[x % (#[]:Array Value).size]!)=(zeros zl len).toArray:=by
    rw [hn]
    have:(zeros zl len).length=0:=by
     simp only [zeros,List.length_flatten,List.map_replicate,List.sum_replicate_nat]
     rw [← hzl,Array.length_toList,hzs,hsz]; exact hn
    rw [List.eq_nil_of_length_eq_zero this]; simp
   rw [hza,hp,hf]
   intro b hb hm
   exact ⟨le_new hm _,h b hb hm⟩
  ·simp only [if_neg hn]
   rw [awp_bind']
   refine awp_p (pv_zeroValue hi hz) ?_
   rw [awp_bind']
   refine awp_p (x:=z.cells) rfl ?_
   have hza:((Array.range (len*sz)).map fun x=>z.cells[x % z.cells.size]!)=(zeros zl len).toArray:=by
    rw [← hzl,← hsz,← hzs]
    refine zeros_eq _ _ ?_
    rw [hzs,hsz]
    rcases Nat.eq_zero_or_pos sz with h0 | h0
    ·rw [h0] at hn; omega
    ·exact h0
   rw [hza,hp,hf]
   intro b hb hm
   exact ⟨le_new hm _,h b hb hm⟩
 ·exact h.elim

theorem opS_sound {op:Op} (hc:okClass c op) (h:opS P w0 c ev op ty m K):rawS P w0 c ev op ty m K:=by
 have h1:1≤baseClass op→1≤c:=fun hb=>by rcases hc with hc | hc <;> omega
 have h2:2≤baseClass op→2≤c:=fun hb=>by rcases hc with hc | hc <;> omega
 cases op <;> first
  | exact h
  | (exact OpA_of_pval (v:=_) rfl c h)
  | skip
 case pick cd a b =>
  have h:pickS (ev cd) (ev a) (ev b) (fun v=>K v m):=h
  have key:∀ t,ev cd=.bool t→K (if t then ev a else ev b) m→rawS P w0 c ev (.pick cd a b) ty m K:=fun t ht hK=>by
   refine OpA_of_pval (v:=if t then ev a else ev b) ?_ c hK
   show pval P (asBool (ev cd) >>= _)=_
   rw [pval_bind',ht]; rfl
  unfold pickS at h
  split at h
  ·rename_i t x y h1 h2 h3
   refine key t h1 ?_
   rw [h2,h3]
   cases t <;> exact h
  ·rename_i t x y h1 h2 h3
   obtain ⟨rfl,h⟩:=h
   refine key true h1 ?_
   rw [h2]; exact h
  ·rename_i t x y h1 h2 h3
   obtain ⟨rfl,h⟩:=h
   refine key false h1 ?_
   rw [h3]; exact h
  ·exact h.elim
 case nilCheck x =>
  obtain ⟨u, hu, hK⟩ := nilS_pval (P := P) (ev := ev) (o := ⟨none, .nilCheck x, ty, "", #[], none⟩) rfl rfl h
  exact OpA_of_pval hu c hK
 case binOp bo t x y yt=>exact binX_sound h
 case unOp uo t x =>
  obtain ⟨v,hv,hK⟩:=unS_pval (P:=P) (show unS uo (ev x) (fun v=>K v m) from h)
  exact OpA_of_pval (exec_value hv) c hK
 case convert s d x=>exact cvt_sound h
 case fieldAddr s x k =>
  unfold opS fldS at h
  simp only at h
  split at h
  ·rename_i a off g n hx hf
   refine OpA_of_pval (exec_value (v:=.pointer (some (a.add off))) ?_) c h
   rw [hx]; exact pv_fieldAt hf
  ·exact h.elim
 case field s x k =>
  obtain ⟨v,hv,hK⟩:=partS_pval (show partS P s (ev x) k (fun v=>K v m) from h)
  exact OpA_of_pval (exec_value hv) c hK
 case indexAddr t x i =>
  obtain ⟨v,hv,hK⟩:=idxS_pval (show idxS P t (ev x) (ev i) (fun v=>K v m) from h)
  exact OpA_of_pval (exec_value hv) c hK
 case extract x k =>
  obtain ⟨v,hv,hK⟩:=extS_pval (P:=P) h
  exact OpA_of_pval (exec_value hv) c hK
 case slice t x lo hi mx =>
  cases mx with
  | some _=>exact h
  | none =>
   obtain ⟨v,hv,hK⟩:=sliS_pval (show sliS P t (ev x) (lo.map ev) (hi.map ev) (fun v=>K v m) from h)
   exact OpA_of_pval (exec_value hv) c hK
 case load t a =>
  unfold opS at h
  simp only at h
  split at h
  ·rename_i ad ha
   obtain ⟨v,hv,hK⟩:=ldS_rval h
   refine OpA_of_rval (execr_value (v:=v) ?_) (h1 (by simp [baseClass])) hK
   rw [ha]
   unfold Instr.loadAt
   rw [rval_bind']
   exact hv
  ·exact h.elim
 case store t a x =>
  unfold opS at h
  simp only at h
  split at h
  ·exact h.elim
  ·rename_i hc1
   split at h
   ·rename_i ad ha
    refine OpA_of_awp (by omega) ?_
    show awp P _ (Instr.storeAt t (ev a) (ev x) >>= fun _=>pure Next.skip) m _
    rw [awp_bind',ha]
    unfold Instr.storeAt
    rw [awp_bind']
    exact stS_awp h
   ·exact h.elim
 case alloc t =>
  unfold opS at h
  simp only at h
  split at h
  ·exact h.elim
  ·exact alloc_sound (by omega) h
 case box t x =>
  unfold opS at h
  simp only at h
  split at h
  ·exact h.elim
  ·exact new_sound (s:=Instr.box t (ev x)) rfl (by omega) h
 case makeSlice t l cp =>
  unfold opS at h
  simp only at h
  split at h
  ·exact h.elim
  ·exact mk_sound (by omega) h
 case buildSlice t len parts =>
  unfold opS at h
  simp only at h
  split at h
  ·exact h.elim
  ·exact bsl_sound (by omega) h
 case call cl =>
  obtain ⟨callee,args,argTypes⟩:=cl
  cases callee with
  | value f=>exact fn_sound (h2 (by simp [baseClass])) h
  | invoke r n=>exact h
  | builtin b =>
   replace h:bltS P w0 c b argTypes ty (args.map ev) m K (rawS P w0 c ev (.call ⟨.builtin b,args,argTypes⟩) ty m K):=h
   have fin:∀ (v:Value),pval P (builtin b argTypes ty (args.map fun | .const _=>true | _=>false) (args.map ev))=some (.value v)→K v m→rawS P w0 c ev (.call ⟨.builtin b,args,argTypes⟩) ty m K:=fun v hv hK=>by
    refine OpA_of_pval (v:=v) ?_ c hK
    show pval P (resolve ev _ ty >>= fun d=>invoke d.target d.args)=_
    rw [pval_bind']
    exact hv
   have finw:c=3→(∀ s:Sem Value,builtin b argTypes ty (args.map fun | .const _=>true | _=>false) (args.map ev)=(do pure (Next.value (← s)))→awp P w0.heap.size s m K→rawS P w0 c ev (.call ⟨.builtin b,args,argTypes⟩) ty m K):=fun hc2 s hs hk=>by
    have e0 : execOp ev ⟨none, .call ⟨.builtin b, args, argTypes⟩, ty, "", #[], none⟩ = builtin b argTypes ty (args.map fun | .const _ => true | _ => false) (args.map ev) := rfl
    refine OpA_of_awp hc2 ?_
    rw [e0,hs,awp_bind']
    exact hk
   have arr:∀ {α:Type} {a:Array α} {l:List α},a.toList=l→a=l.toArray:=fun h=>by rw [← h]
   unfold bltS at h
   split at h
   ·rename_i x t hx ht
    obtain ⟨v,hv,hK⟩:=lenS_pval (ty':=ty) h
    refine fin v ?_ hK
    rw [arr hx,arr ht]
    exact exec_value hv
   ·rename_i x t hx ht
    obtain ⟨v,hv,hK⟩:=capS_pval (ty':=ty) h
    refine fin v ?_ hK
    rw [arr hx,arr ht]
    exact exec_value hv
   ·rename_i x y hx
    obtain ⟨v,hv,hK⟩:=mnS_pval (P:=P) (at':=argTypes) (ty':=ty) h
    refine fin v ?_ hK
    rw [arr hx]
    refine exec_value ?_
    exact hv
   ·rename_i x y hx
    obtain ⟨v,hv,hK⟩:=mxS_pval (P:=P) (at':=argTypes) (ty':=ty) h
    refine fin v ?_ hK
    rw [arr hx]
    refine exec_value ?_
    exact hv
   ·split at h
    ·exact h.elim
    ·exact finw (by omega) _ rfl (awp_mono _ _ _ _ (fun v m' hv=>by obtain ⟨A,n,cp,rfl,hK⟩:=hv; exact hK) h)
   ·split at h
    ·exact h.elim
    ·exact finw (by omega) _ rfl (awp_mono _ _ _ _ (fun v m' hv=>by obtain ⟨n,rfl,hK⟩:=hv; exact hK) h)
   ·split at h
    ·exact h.elim
    ·exact finw (by omega) _ rfl (awp_mono _ _ _ _ (fun v m' hv=>by obtain ⟨rfl,hK⟩:=hv; exact hK) h)
   ·exact h
 case build t parts =>
  have h:bldS P t (parts.toList.map fun p=>(p.1,ev p.2)) (fun v=>K v m):=h
  unfold bldS at h
  split at h
  ·rename_i l z hb
   obtain ⟨hok,hK⟩:=h
   unfold bldOf at hb
   split at hb
   ·rename_i i hi
    split at hb
    ·rename_i zv hz
     split at hb
     ·rename_i fs hs
      split at hb
      ·rename_i l' hl
       injection hb with hb
       injection hb with h1 h2
       subst h1
       subst h2
       refine OpA_of_pval (exec_value (v:=.agg (spl (fun i=>l'[i]?) zv.cells.toList (parts.toList.map fun p=>(p.1,ev p.2))).toArray) ?_) c hK
       unfold Instr.build
       rw [pval_bind',pv_zeroValue hi hz]
       simp only [Option.bind_some]
       rw [pval_bind',pv_underlying hs]
       simp only [Option.bind_some]
       rw [pval_bind']
       have hm:∀ (fl:List Field) (r:List (Nat × Nat)),fl.mapM (fun f=>(P.info? f.type).map fun j=>(f.offset,j.size))=some r →
         pval P (fl.mapM fun f=>(do pure (f.offset,← sizeOf f.type):Sem (Nat × Nat)))=some r:=by
        intro fl
        induction fl with
        | nil=>intro r hr; exact hr
        | cons f fl ih =>
         intro r hr
         rw [List.mapM_cons] at hr ⊢
         cases hj:P.info? f.type with
         | none=>rw [hj] at hr; cases hr
         | some j =>
          rw [hj] at hr
          cases hr2:fl.mapM (fun f=>(P.info? f.type).map fun j=>(f.offset,j.size)) with
          | none=>rw [hr2] at hr; cases hr
          | some r2 =>
           rw [hr2] at hr
           rw [pval_bind',pval_bind',pv_sizeOf hj]
           simp only [Option.bind_some,pval_pure]
           rw [pval_bind',ih r2 hr2]
           exact hr
       have hm2:pval P (fs.mapM fun f=>(do pure (f.offset,← sizeOf f.type):Sem (Nat × Nat)))=some l'.toArray:=by
        rw [Array.mapM_eq_mapM_toList,← bind_pure_comp,pval_bind',hm fs.toList l' hl]; rfl
       rw [hm2]
       simp only [Option.bind_some]
       have hp:(parts.map fun (i,x)=>(i,ev x)).toList=parts.toList.map fun p=>(p.1,ev p.2):=by simp
       have hf:=fill_spl (fun i=>l'[i]?) (parts.toList.map fun p=>(p.1,ev p.2)) zv.cells (by simpa using hok)
       have hpl:(fun i:Nat=>l'.toArray[i]?)=(fun i:Nat=>l'[i]?):=by funext i; simp
       rw [hp,hpl,hf]; rfl
      ·cases hb
     ·cases hb
    ·cases hb
   ·cases hb
  ·exact h.elim
 case makeMap t r =>
  cases r with
  | some _=>exact h
  | none =>
   unfold opS at h
   simp only at h
   split at h
   ·exact h.elim
   ·refine OpA_of_ext (by omega) ?_
    intro b hb hm
    exact ⟨le_new hm _,h b hb hm⟩
 case lookup t x i ok =>
  cases ok with
  | true =>
   unfold opS at h
   simp only at h
   split at h
   ·obtain ⟨v,ok,hr,hK⟩:=TI.ex_some h
    exact OpA_of_rval (execr_value hr) (h1 (by simp [baseClass])) hK
   ·exact h.elim
  | false =>
   unfold opS at h
   simp only at h
   split at h
   ·obtain ⟨v,hr,hK⟩:=TI.ex_some h
    exact OpA_of_rval (execr_value hr) (h1 (by simp [baseClass])) hK
   ·exact h.elim
 case mapUpdate t mp k v =>
  unfold opS at h
  simp only at h
  split at h
  ·exact h.elim
  ·refine OpA_of_awp (by omega) ?_
   have e0 : execOp ev ⟨none, .mapUpdate t mp k v, ty, "", #[], none⟩ = (Instr.mapUpdate t (ev mp) (ev k) (ev v) >>= fun _ => pure Next.skip) := rfl
   rw [e0,awp_bind']
   exact h

end sound
end Go.Alog

namespace Go.Alog
open Go Go.RowKit

section
variable (P:Program) (w0:World)

def bcase (b:Bool) (A B:Prop):Prop :=
 match b with
 | true=>A
 | false=>B

theorem bcase_iff {b:Bool} {A B:Prop}:bcase b A B↔(b=true→A)∧(b=false→B):=by cases b <;> simp [bcase]

def gslot (ops:Array Oper) (g:Nat × Bool):Option Tmp:=(ops[g.1]?).bind (·.dst)

def gmet (ops:Array Oper) (σ:Sg) (g:Nat × Bool):Bool :=
 match gslot ops g with
 | some d=>match σ d with
  | .bool b=>b == g.2
  | _=>false
 | none=>false

def keepG (ops:Array Oper) (known:List ((Nat × Bool) × Bool)) (d:Option Tmp):List ((Nat × Bool) × Bool) :=
 match d with
 | none=>known
 | some d=>known.filter fun x=>match gslot ops x.1 with | some e=>e != d | none=>true

def lookG (known:List ((Nat × Bool) × Bool)) (g:Nat × Bool):Option Bool :=
 match known with
 | []=>none
 | (h,b) :: r=>if h.1 == g.1 && h.2 == g.2 then some b else lookG r g

def alS (ops:Array Oper) (cf:Nat→Op→Nat):List Oper→List ((Nat × Bool) × Bool)→Nat→Sg→AM→(Sg→AM→Prop)→Prop
 | [],_,_,σ,m,Q=>Q σ m
 | o :: rest,known,k,σ,m,Q =>
  match o.guard with
  | none=>opS P w0 (cf k o.op) (evS σ) o.op o.type m fun v m'=>alS ops cf rest (keepG ops known o.dst) (k+1) (putS σ o.dst v) m' Q
  | some g=>match lookG known g with
   | some true=>opS P w0 (cf k o.op) (evS σ) o.op o.type m fun v m'=>alS ops cf rest (keepG ops known o.dst) (k+1) (putS σ o.dst v) m' Q
   | some false=>alS ops cf rest (keepG ops known o.dst) (k+1) (putS σ o.dst undef) m Q
   | none=>match gslot ops g with
    | some d=>match σ d with
     | .bool b=>match g.2 with
      | true=>bcase b (opS P w0 (cf k o.op) (evS σ) o.op o.type m fun v m'=>alS ops cf rest (keepG ops ((g,true) :: known) o.dst) (k+1) (putS σ o.dst v) m' Q)
        (alS ops cf rest (keepG ops ((g,false) :: known) o.dst) (k+1) (putS σ o.dst undef) m Q)
      | false=>bcase b (alS ops cf rest (keepG ops ((g,false) :: known) o.dst) (k+1) (putS σ o.dst undef) m Q)
        (opS P w0 (cf k o.op) (evS σ) o.op o.type m fun v m'=>alS ops cf rest (keepG ops ((g,true) :: known) o.dst) (k+1) (putS σ o.dst v) m' Q)
     | _=>alS ops cf rest (keepG ops ((g,false) :: known) o.dst) (k+1) (putS σ o.dst undef) m Q
    | none=>alS ops cf rest (keepG ops ((g,false) :: known) o.dst) (k+1) (putS σ o.dst undef) m Q

def thenS (next:Sg→AM→Prop) (Q:Exit→Sg→AM→Prop) (e:Exit) (σ:Sg) (m:AM):Prop :=
 match e with
 | .normal=>next σ m
 | e=>Q e σ m

def condS (v:Value) (A B:Prop):Prop :=
 match v with
 | .bool t=>bcase t A B
 | _=>False

def blockS (id:Nat) (Q:Exit→Sg→AM→Prop) (e:Exit) (σ:Sg) (m:AM):Prop :=
 match e with
 | .exit id'=>if id'=id then Q .normal σ m else Q (.exit id') σ m
 | e=>Q e σ m

def stepS (ops:Array Oper) (qsr:List (Nat × Nat)) (k:Nat) (σ:Sg) (m:AM) (K:Sg→AM→Prop):Prop :=
 match ops[k]? with
 | some o=>alS P w0 ops (fun k op=>cl qsr k op) [o] [] k σ m K
 | none=>False
def conjL (f:Nat→Prop):List Nat→Prop
 | []=>True
 | [k]=>f k
 | k :: k' :: l=>f k∧conjL f (k' :: l)
def trS (ops:Array Oper) (qsr:List (Nat × Nat)) (Q:Sg→AM→Prop):Nat→Array Bool→Sg→AM→Prop
 | 0,listed,σ,m=>(Region.ready .any ops listed).isEmpty=true∧Q σ m
 | f+1,listed,σ,m=>match pickF ops (clsOf qsr ops) (deps .any ops.toList) listed with
  | []=>Q σ m
  | k :: l=>conjL (fun k=>stepS P w0 ops qsr k σ m fun σ' m'=>trS ops qsr Q f (listed.setIfInBounds k true) σ' m') (k :: l)

def vcS (qs:Nat→List (Nat × Nat)):Code→Sg→AM→(Exit→Sg→AM→Prop)→Prop
 | .skip,σ,m,Q=>Q .normal σ m
 | .label _,σ,m,Q=>Q .normal σ m
 | .region id ops draw,σ,m,Q=>match draw && !(qs (1000000+id)).isEmpty with
  | true=>∃ Q0:Sg→AM→Prop,(∀ σ m,Q0 σ m→Q .normal σ m)∧trS P w0 ops (qs id) Q0 ops.size (Array.replicate ops.size false) σ m
  | false=>alS P w0 ops (fun k op=>if draw then cl (qs id) k op else 3) ops.toList [] 0 σ m (Q .normal)
 | .seq x y,σ,m,Q=>vcS qs x σ m (thenS (fun σ' m'=>vcS qs y σ' m' Q) Q)
 | .cond c x y,σ,m,Q=>condS (evS σ c) (vcS qs x σ m Q) (vcS qs y σ m Q)
 | .block id c,σ,m,Q=>vcS qs c σ m (blockS id Q)
 | .loop c,σ,m,Q=>∃ (I:Nat→Sg→AM→Prop) (N:Nat),I N σ m∧∀ n σ m,I n σ m→∃ Q0:Exit→Sg→AM→Prop,(∀ e σ m,Q0 e σ m→thenS (fun σ' m'=>∃ n',n'<n∧I n' σ' m') Q e σ m)∧vcS qs c σ m Q0
 | .exit id,σ,m,Q=>Q (.exit id) σ m
 | .ret,σ,m,Q=>Q .ret σ m
 | _,_,_,_=>False
end

def dstsOk (n:Nat) (ops:Array Oper):Bool:=ops.all fun o=>match o.dst with | some d=>decide (d<n) | none=>true

def codeOk (qs:Nat→List (Nat × Nat)) (n:Nat):Code→Bool
 | .region id ops draw=>dstsOk n ops && (!draw || (bif (qs (1000000+id)).isEmpty then regOk .any ops (clsOf (qs id) ops) (deps .any ops.toList) else Region.noSelect ops && depOk .any ops (deps .any ops.toList)))
 | .seq x y=>codeOk qs n x && codeOk qs n y
 | .cond _ x y=>codeOk qs n x && codeOk qs n y
 | .block _ c=>codeOk qs n c
 | .loop c=>codeOk qs n c
 | .rangeFunc ..=>false
 | .scope _=>false
 | _=>true

section
variable {P:Program} {w0:World}

structure Fits (n:Nat) (a:Act) (σ:Sg):Prop where
 defers:a.defers = []
 size:a.tmps.size=n
 eq:∀ t,t<n→a.tmps.getD t undef=σ t
 out:∀ t,n≤t→σ t=undef

theorem Fits.eval {n:Nat} {a:Act} {σ:Sg} (h:Fits n a σ) (x:Operand):a.eval x=evS σ x:=by
 cases x with
 | tmp t =>
  show a.tmps.getD t undef=σ t
  rcases Nat.lt_or_ge t n with hl | hl
  ·exact h.eq t hl
  ·rw [h.out t hl]
   have:a.tmps.size≤t:=by rw [h.size]; exact hl
   simp [Array.getElem?_eq_none this]
 | const v=>rfl
 | global g=>rfl
 | func f=>rfl

theorem Fits.evalF {n:Nat} {a:Act} {σ:Sg} (h:Fits n a σ):a.eval=evS σ:=funext h.eval

theorem Fits.put {n:Nat} {a:Act} {σ:Sg} (h:Fits n a σ) {d:Option Tmp} (hd:∀ t,d=some t→t<n) (v:Value):Fits n (a.put d v) (putS σ d v):=by
 cases d with
 | none=>exact h
 | some d =>
  have hdn:(d:Nat)<n:=hd d rfl
  refine ⟨h.defers,by simp [Act.put,h.size],fun t ht=>?_,fun t ht=>?_⟩
  ·show (a.tmps.setIfInBounds d v).getD t undef=upd σ d v t
   unfold upd
   by_cases htd:t=d
   ·subst htd
    rw [if_pos rfl]
    simp [h.size,ht]
   ·rw [if_neg htd,← h.eq t ht]
    simp [Array.getElem?_setIfInBounds_ne (Ne.symm htd)]
  ·show upd σ d v t=undef
   unfold upd
   rw [if_neg (fun e=>by subst e; exact absurd hdn (Nat.not_lt.2 ht))]
   exact h.out t ht

theorem Fits.wanted {n:Nat} {a:Act} {σ:Sg} (h:Fits n a σ) (ops:Array Oper) (j:Nat):yielded ops a.tmps j=match (ops[j]?).bind (·.dst) with
  | some d=>match σ d with
   | .bool b=>some b
   | _=>none
  | none=>none:=by
 unfold yielded
 cases hd:(ops[j]?).bind (·.dst) with
 | none=>simp
 | some d =>
  simp only [Option.bind_some]
  rcases Nat.lt_or_ge d n with hl | hl
  ·have he:=h.eq d hl
   have hs:d<a.tmps.size:=by rw [h.size]; exact hl
   have:a.tmps[d]?=some (σ d):=by
    rw [← he]; simp [hs]
   rw [this]
   cases σ d <;> rfl
  ·rw [h.out d hl]
   have:a.tmps[d]?=none:=Array.getElem?_eq_none (by rw [h.size]; exact hl)
   rw [this]; rfl

theorem Fits.met {n:Nat} {a:Act} {σ:Sg} (h:Fits n a σ) (ops:Array Oper) (o:Oper) (g:Nat × Bool) (hg:o.guard=some g):Region.wanted o (yielded ops a.tmps)=gmet ops σ g:=by
 obtain ⟨j,want⟩:=g
 unfold Region.wanted gmet gslot
 rw [hg]
 simp only [h.wanted ops j]
 cases (ops[j]?).bind (·.dst) with
 | none=>rfl
 | some d=>cases hv:σ d <;> simp [hv]

def KnowsG (ops:Array Oper) (σ:Sg) (known:List ((Nat × Bool) × Bool)):Prop:=∀ x∈known,gmet ops σ x.1=x.2

theorem KnowsG.keep {ops:Array Oper} {σ:Sg} {known:List ((Nat × Bool) × Bool)} (h:KnowsG ops σ known) (d:Option Tmp) (v:Value):KnowsG ops (putS σ d v) (keepG ops known d):=by
 intro x hx
 cases d with
 | none=>exact h x hx
 | some d =>
  obtain ⟨h1,h2⟩:=List.mem_filter.1 hx
  rw [← h x h1]
  unfold gmet
  cases hs:gslot ops x.1 with
  | none=>rfl
  | some e =>
   rw [hs] at h2
   have hne:e≠d:=by simpa using h2
   have:putS σ (some d) v e=σ e:=by show upd σ d v e=_; unfold upd; rw [if_neg hne]
   simp only [this]

theorem lookG_mem:∀ {known:List ((Nat × Bool) × Bool)} {g:Nat × Bool} {b:Bool},lookG known g=some b→(g,b)∈known
 | [],_,_,h=>by cases h
 | (h0,b0) :: r,g,b,h=>by
  unfold lookG at h
  split at h
  ·rename_i he
   injection h with h
   subst h
   simp only [Bool.and_eq_true,beq_iff_eq] at he
   obtain ⟨h1,h2⟩:=h0
   obtain ⟨g1,g2⟩:=g
   simp only at he
   rw [he.1,he.2]; simp
  ·exact List.mem_cons_of_mem _ (lookG_mem h)

theorem alS_sound {n : Nat} {ops : Array Oper} {cf : Nat → Op → Nat} {cls : Nat → Nat} {Q : Sg → AM → Prop} {Q' : Act → AM → Prop} (hd : dstsOk n ops = true) (hQ : ∀ a σ m, Fits n a σ → Q σ m → Q' a m) :
    ∀ (l : List Oper) (known : List ((Nat × Bool) × Bool)) (k : Nat) (a : Act) (σ : Sg) (m : AM), (∀ j o, l[j]? = some o → ops[k + j]? = some o) → (∀ j o, ops[j]? = some o → cls j = cf j o.op ∧ okClass (cls j) o.op) → Fits n a σ → KnowsG ops σ known →
      alS P w0 ops cf l known k σ m Q → AL P w0 cls ops l k a m Q'
  | [], _, _, _, _, _, _, _, hf, _, h => hQ _ _ _ hf h
  | o :: l, known, k, a, σ, m, hl, hc, hf, hkn, h => by
    have h0 : ops[k]? = some o := by simpa using hl 0 o rfl
    obtain ⟨h1, h2⟩ := hc k o h0
    have hdo : ∀ t, o.dst = some t → t < n := fun t ht => by
      have := Array.all_eq_true.1 hd k (Array.getElem?_eq_some_iff.1 h0).1
      have e : ops[k]'((Array.getElem?_eq_some_iff.1 h0).1) = o := (Array.getElem?_eq_some_iff.1 h0).2
      rw [e, ht] at this
      simpa using this
    have hl' : ∀ j o, l[j]? = some o → ops[k + 1 + j]? = some o := fun j o ho => by have := hl (j + 1) o (by simpa using ho); simpa [Nat.add_assoc, Nat.add_comm 1 j] using this
    have rec_ : ∀ (kn : List ((Nat × Bool) × Bool)), KnowsG ops σ kn → ∀ v m', alS P w0 ops cf l (keepG ops kn o.dst) (k + 1) (putS σ o.dst v) m' Q → AL P w0 cls ops l (k + 1) (a.put o.dst v) m' Q' :=
      fun kn hk v m' hv => alS_sound hd hQ l _ (k + 1) _ _ _ hl' hc (hf.put hdo v) (hk.keep o.dst v) hv
    have run : ∀ (kn : List ((Nat × Bool) × Bool)), KnowsG ops σ kn → (opS P w0 (cf k o.op) (evS σ) o.op o.type m fun v m' => alS P w0 ops cf l (keepG ops kn o.dst) (k + 1) (putS σ o.dst v) m' Q) →
        OpA P w0 (cls k) (execOp a.eval o) m (fun v m' => AL P w0 cls ops l (k + 1) (a.put o.dst v) m' Q') := fun kn hk ho => by
      rw [hf.evalF]
      rw [← h1] at ho
      exact OpA_mono (rec_ kn hk) (opS_sound (ty := o.type) h2 ho)
    unfold alS at h
    show GOp P w0 (cls k) ops o a m (fun v m' => AL P w0 cls ops l (k + 1) (a.put o.dst v) m' Q')
    cases hg : o.guard with
    | none =>
      rw [hg] at h
      refine ⟨fun _ => run known hkn h, fun hw => ?_⟩
      unfold Region.wanted at hw
      rw [hg] at hw
      cases hw
    | some g =>
      rw [hg] at h
      simp only at h
      have hm := hf.met ops o g hg
      have mk : ∀ b, gmet ops σ g = b → KnowsG ops σ ((g, b) :: known) := fun b hb x hx => by
        rcases List.mem_cons.1 hx with rfl | hx
        · exact hb
        · exact hkn x hx
      unfold GOp
      rw [hm]
      cases hlk : lookG known g with
      | some b =>
        rw [hlk] at h
        have hb := hkn _ (lookG_mem hlk)
        simp only at hb
        rw [hb]
        cases b with
        | true => exact ⟨fun _ => run known hkn h, fun hw => (by cases hw)⟩
        | false => exact ⟨fun hw => (by cases hw), fun _ => rec_ known hkn _ _ h⟩
      | none =>
        rw [hlk] at h
        simp only at h
        have hmet : gmet ops σ g = match gslot ops g with
          | some d => match σ d with
            | .bool b => b == g.2
            | _ => false
          | none => false := rfl
        cases hs : gslot ops g with
        | none =>
          rw [hs] at h hmet
          exact ⟨fun hw => (by rw [hmet] at hw; cases hw), fun _ => rec_ _ (mk false hmet) _ _ h⟩
        | some d =>
          rw [hs] at h hmet
          simp only at h hmet
          cases hv : σ d <;> simp only [hv] at h hmet <;> first
            | exact ⟨fun hw => (by rw [hmet] at hw; cases hw), fun _ => rec_ _ (mk false hmet) _ _ h⟩
            | (rename_i b
               cases hg2 : g.2 with
               | true =>
                 rw [hg2] at h hmet
                 have h := bcase_iff.1 h
                 refine ⟨fun hw => ?_, fun hw => ?_⟩
                 · exact run _ (mk true hw) (h.1 (by rw [hw] at hmet; simpa using hmet.symm))
                 · exact rec_ _ (mk false hw) _ _ (h.2 (by rw [hw] at hmet; simpa using hmet.symm))
               | false =>
                 rw [hg2] at h hmet
                 have h := bcase_iff.1 h
                 refine ⟨fun hw => ?_, fun hw => ?_⟩
                 · exact run _ (mk true hw) (h.2 (by rw [hw] at hmet; simpa using hmet.symm))
                 · exact rec_ _ (mk false hw) _ _ (h.1 (by rw [hw] at hmet; simpa using hmet.symm)))

theorem conjL_mem {f:Nat→Prop}:∀ {l:List Nat},conjL f l→∀ k∈l,f k
 | [],_,k,hk=>by cases hk
 | [x],h,k,hk=>by simp at hk; subst hk; exact h
 | x :: y :: l,h,k,hk=>by
  rcases List.mem_cons.1 hk with rfl | hk
  ·exact h.1
  ·exact conjL_mem h.2 k hk

theorem trS_sound {n:Nat} {ops:Array Oper} {qsr:List (Nat × Nat)} {Q:Sg→AM→Prop} {Q':Act→AM→Prop} (hd:dstsOk n ops=true) (hQ:∀ a σ m,Fits n a σ→Q σ m→Q' a m) (hsel:Region.noSelect ops=true) (hD:depOk .any ops (deps .any ops.toList)=true)
  (hcls:∀ j o,ops[j]?=some o→clsOf qsr ops j=cl qsr j o.op∧okClass (clsOf qsr ops j) o.op) :
  ∀ (f:Nat) (listed:Array Bool) (a:Act) (σ:Sg) (m:AM),Sat w0 m→Closed .any ops listed→Fits n a σ→trS P w0 ops qsr Q f listed σ m→VAny P w0 (clsOf qsr ops) .any ops Q' f listed a m
 | 0,listed,a,σ,m,hs,hc,hf,h=>⟨List.isEmpty_iff.1 h.1,hQ _ _ _ hf h.2⟩
 | f+1,listed,a,σ,m,hs,hc,hf,h=>by
  unfold trS at h
  refine VAny_pick hsel hD hs hc (fun h0=>?_) (fun k o hk ho hr=>?_)
  ·rw [h0] at h; exact hQ _ _ _ hf h
  ·have h1:stepS P w0 ops qsr k σ m fun σ' m'=>trS P w0 ops qsr Q f (listed.setIfInBounds k true) σ' m':=by
    cases hp:pickF ops (clsOf qsr ops) (deps .any ops.toList) listed with
    | nil=>rw [hp] at hk; cases hk
    | cons x l=>rw [hp] at h hk; exact conjL_mem h k hk
   unfold stepS at h1
   rw [ho] at h1
   have h2:=alS_sound (cls:=clsOf qsr ops) (Q':=fun a m=>Sat w0 m→VAny P w0 (clsOf qsr ops) .any ops Q' f (listed.setIfInBounds k true) a m) hd (fun a' σ' m' hf' hq' hs'=>trS_sound hd hQ hsel hD hcls f _ a' σ' m' hs' (hc.set hr) hf' hq') [o] [] k a σ m
    (fun j o' hj=>by
     match j,hj with
     | 0,hj=>simp at hj; subst hj; simpa using ho
     | j+1,hj=>simp at hj) hcls hf (fun x hx=>by cases hx) h1
   exact GOp_mono_sat hs (fun v m' hs' hv=>hv hs') h2

theorem okClass_three (op:Op):okClass 3 op:=.inr (by omega)

theorem vcS_sound {qs:Nat→List (Nat × Nat)} {n:Nat} (c:Code):∀ {a:Act} {σ:Sg} {m:AM} {Q:Exit→Sg→AM→Prop} {Q':Exit→Act→AM→Prop},codeOk qs n c=true→Fits n a σ →
  (∀ e a σ m,Fits n a σ→Q e σ m→Q' e a m)→vcS P w0 qs c σ m Q→vc P w0 c a m Q':=by
 induction c with
 | skip=>intro a σ m Q Q' ho hf hq h; exact hq _ _ _ _ hf h
 | label l=>intro a σ m Q Q' ho hf hq h; exact hq _ _ _ _ hf h
 | region id ops draw =>
  intro a σ m Q Q' ho hf hq h
  simp only [codeOk,Bool.and_eq_true] at ho
  cases draw with
  | false =>
   exact alS_sound (Q':=Q' .normal) ho.1 (fun a σ m hf hQ=>hq _ _ _ _ hf hQ) ops.toList [] 0 a σ m (by simp) (fun j o hj=>⟨rfl,okClass_three _⟩) hf (fun x hx=>by cases hx) h
  | true =>
   have hcl:∀ j o,ops[j]?=some o→clsOf (qs id) ops j=cl (qs id) j o.op∧okClass (clsOf (qs id) ops j) o.op:=fun j o hj=>by
    unfold clsOf
    rw [hj]
    refine ⟨rfl,?_⟩
    show okClass (cl (qs id) j o.op) o.op
    unfold cl
    split
    ·exact .inr (Nat.le_max_right _ _)
    ·exact .inl (Nat.le_refl _)
   refine ⟨clsOf (qs id) ops,fun hs=>?_⟩
   cases hm:(qs (1000000+id)).isEmpty with
   | true =>
    simp only [hm,Bool.not_true,Bool.false_or,cond_true] at ho
    have h:alS P w0 ops (fun k op=>if true then cl (qs id) k op else 3) ops.toList [] 0 σ m (Q .normal):=by
     simpa only [vcS,hm,Bool.not_true,Bool.and_false] using h
    refine VAny_text ho.2 hs ?_
    exact alS_sound (Q':=Q' .normal) ho.1 (fun a σ m hf hQ=>hq _ _ _ _ hf hQ) ops.toList [] 0 a σ m (by simp) hcl hf (fun x hx=>by cases hx) h
   | false =>
    simp only [hm,Bool.not_true,Bool.false_or,cond_false,Bool.and_eq_true] at ho
    obtain ⟨Q0,hq0,h⟩:∃ Q0:Sg→AM→Prop,(∀ σ m,Q0 σ m→Q .normal σ m)∧trS P w0 ops (qs id) Q0 ops.size (Array.replicate ops.size false) σ m:=by
     simpa only [vcS,hm,Bool.not_false,Bool.and_true] using h
    exact trS_sound (Q':=Q' .normal) ho.1 (fun a σ m hf hQ=>hq _ _ _ _ hf (hq0 _ _ hQ)) ho.2.1 ho.2.2 hcl ops.size _ a σ m hs (fun j oj _ hl=>by exfalso; rcases Nat.lt_or_ge j ops.size with h' | h' <;> simp [h'] at hl) hf h
 | seq x y ihx ihy =>
  intro a σ m Q Q' ho hf hq h
  simp only [codeOk,Bool.and_eq_true] at ho
  refine ihx ho.1 hf (fun e a' σ' m' hf' he=>?_) h
  cases e <;> first | exact ihy ho.2 hf' hq he | exact hq _ _ _ _ hf' he
 | cond c x y ihx ihy =>
  intro a σ m Q Q' ho hf hq h
  simp only [codeOk,Bool.and_eq_true] at ho
  have h:condS (evS σ c) (vcS P w0 qs x σ m Q) (vcS P w0 qs y σ m Q):=h
  unfold condS at h
  split at h
  ·rename_i t ht
   have h:=bcase_iff.1 h
   exact ⟨t,(hf.eval c).trans ht,fun e=>ihx ho.1 hf hq (h.1 e),fun e=>ihy ho.2 hf hq (h.2 e)⟩
  ·exact h.elim
 | block id c ih =>
  intro a σ m Q Q' ho hf hq h
  refine ih ho hf (fun e a' σ' m' hf' he=>?_) h
  cases e <;> first | exact hq _ _ _ _ hf' he | skip
  rename_i id'
  simp only [blockS] at he ⊢
  by_cases hid:id'=id
  ·rw [if_pos hid] at he ⊢; exact hq _ _ _ _ hf' he
  ·rw [if_neg hid] at he ⊢; exact hq _ _ _ _ hf' he
 | loop c ih =>
  intro a σ m Q Q' ho hf hq h
  obtain ⟨I,N,h0,hr⟩:=h
  refine ⟨N+1,?_⟩
  have key:∀ k j,j<k→∀ a σ m,Fits n a σ→I j σ m→iterA (fun a m Q=>vc P w0 c a m Q) k a m Q':=by
   intro k
   induction k with
   | zero=>intro j hj; omega
   | succ k ihk =>
    intro j hn a σ m hf hI
    obtain ⟨Q0,hle,hv⟩:=hr j σ m hI
    refine ih ho hf (fun e a' σ' m' hf' he=>?_) hv
    have he:=hle _ _ _ he
    cases e <;> first
     | (obtain ⟨n',hn',hI'⟩:=he; exact ihk n' (by omega) a' σ' m' hf' hI')
     | exact hq _ _ _ _ hf' he
  exact key (N+1) N (by omega) a σ m hf h0
 | exit id=>intro a σ m Q Q' ho hf hq h; exact hq _ _ _ _ hf h
 | ret=>intro a σ m Q Q' ho hf hq h; exact hq _ _ _ _ hf h
 | _=>intro a σ m Q Q' ho hf hq h; exact h.elim

def retS (P:Program) (σ:Sg) (m:AM):List ResultVar→List Value→(List Value→Prop)→Prop
 | [],acc,K=>K acc
 | .tmp t :: r,acc,K=>retS P σ m r (acc ++ [σ t]) K
 | .cell x t :: r,acc,K=>match σ x with
  | .pointer (some ad)=>ldS P t m ad fun v=>retS P σ m r (acc ++ [v]) K
  | _=>False

def packS:List Value→Value
 | [v]=>v
 | l=>.tuple l.toArray

def argS (args:List Value):Sg:=fun t=>args.getD t undef

theorem retS_rval {n:Nat} {a:Act} {σ:Sg} (hf:Fits n a σ) {m:AM}:∀ {l:List ResultVar} {acc:List Value} {K:List Value→Prop},retS P σ m l acc K →
  ∃ vs,rval P m (l.mapM fun | .tmp t=>(pure (a.tmps.getD t undef):Sem Value) | .cell x t=>do loadVar t (← asAddr (a.tmps.getD x undef)))=some vs∧K (acc ++ vs)
 | [],acc,K,h=>⟨[],rfl,by rw [List.append_nil]; exact h⟩
 | .tmp t :: r,acc,K,h=>by
  obtain ⟨vs,h1,h2⟩:=retS_rval hf (l:=r) h
  refine ⟨σ t :: vs,?_,by simpa using h2⟩
  rw [List.mapM_cons,rval_bind']
  have e:a.tmps.getD t undef=σ t:=hf.eval (.tmp t)
  simp only [e,rval_pure,Option.bind_some]
  rw [rval_bind',h1]; rfl
 | .cell x t :: r,acc,K,h=>by
  unfold retS at h
  split at h
  ·rename_i ad hx
   obtain ⟨v,hv,h⟩:=ldS_rval h
   obtain ⟨vs,h1,h2⟩:=retS_rval hf (l:=r) h
   refine ⟨v :: vs,?_,by simpa using h2⟩
   rw [List.mapM_cons,rval_bind']
   have e:a.tmps.getD x undef=σ x:=hf.eval (.tmp x)
   have e2:rval P m (do loadVar t (← asAddr (a.tmps.getD x undef)))=some v:=by
    rw [rval_bind',e,hx]
    exact hv
   rw [e2]
   simp only [Option.bind_some]
   rw [rval_bind',h1]; rfl
  ·exact h.elim

def RetP (R:Value→AM→Prop) (v:Value) (m':AM):Prop:=∃ m2,m2.le m'∧R v m2

def retQ (P:Program) (fn:Func) (R:Value→AM→Prop) (e:Exit) (σ:Sg) (m':AM):Prop :=
 match e with
 | .normal=>retS P σ m' fn.results.toList [] fun l=>RetP R (packS l) m'
 | .ret=>retS P σ m' fn.results.toList [] fun l=>RetP R (packS l) m'
 | _=>False

theorem callsA_of {f : FuncId} {fn : Func} {c : Code} {args : List Value} {m : AM} {R : Value → AM → Prop} (hm : P.follows .mixedOrders = true) (hf : P.funcs[f]? = some fn) (hb : fn.body = some c) (qs : Nat → List (Nat × Nat))
    (hn : Nat.ble args.length fn.ntmps = true) (hok : codeOk qs fn.ntmps c = true)
    (h : vcS P w0 qs c (argS args) m (retQ P fn R)) : CallsA P w0 f args.toArray m R := by
  have hn := Nat.le_of_ble_eq_true hn
  intro w hw
  refine calls_of_wp hf hb ?_
  have hfit : Fits fn.ntmps { tmps := args.toArray ++ Array.replicate (fn.ntmps - args.toArray.size) undef, defers := [] } (argS args) := by
    refine ⟨rfl, by simp; omega, fun t ht => ?_, fun t ht => ?_⟩
    · unfold argS
      rcases Nat.lt_or_ge t args.length with hl | hl
      · simp [Array.getElem?_append, hl]
      · simp [Array.getElem?_append, Nat.not_lt.2 hl]
        rw [Array.getElem?_replicate]
        split <;> rfl
    · unfold argS
      simp [List.getElem?_eq_none (show args.length ≤ t by omega)]
  have res : ∀ (a : Act) (σ : Sg) (m' : AM), Fits fn.ntmps a σ → (retS P σ m' fn.results.toList [] fun l => ∃ m2, m2.le m' ∧ R (packS l) m2) → ∃ v, rval P m' (results fn a.tmps) = some v ∧ ∃ m2, m2.le m' ∧ R v m2 := by
    intro a σ m' hf' he
    obtain ⟨vs, h1, m2, h2, h3⟩ := retS_rval (P := P) hf' he
    refine ⟨packS vs, ?_, m2, h2, by simpa using h3⟩
    unfold results
    rw [rval_bind', Array.mapM_eq_mapM_toList, ← bind_pure_comp, rval_bind']
    erw [h1]
    simp only [Option.bind_some, rval_pure]
    match vs with
    | [] => rfl
    | [v] => rfl
    | v :: u :: r => simp [packS]
  have hv := vcS_sound c hok hfit (Q' := fun e a' m' => match e with
      | .normal | .ret => a'.defers = [] ∧ ∃ v, rval P m' (results fn a'.tmps) = some v ∧ ∃ m2, m2.le m' ∧ R v m2
      | _ => False) (fun e a σ m' hf' he => by
        cases e <;> first
          | exact ⟨hf'.defers, res a σ m' hf' he⟩
          | exact he) h
  refine Code.wp_mono (fun e a' w' hq => ?_) (vc_sound hm c _ m _ w hw hv)
  obtain ⟨m', hh, hq⟩ := hq
  cases e <;> first
    | (obtain ⟨hd, v, hr, m2, hle, hR⟩ := hq
       exact ⟨hd, v, rval_run hh _ hr, v, m2, rfl, hh.mono hle, hR⟩)
    | exact hq.elim
def sub:Code→List Nat→Code
 | c,[]=>c
 | .seq x _,0 :: p=>sub x p
 | .seq _ y,1 :: p=>sub y p
 | .cond _ x _,0 :: p=>sub x p
 | .cond _ _ y,1 :: p=>sub y p
 | .block _ c,0 :: p=>sub c p
 | .loop c,0 :: p=>sub c p
 | c,_=>c

def bodyOf (fn:Func):Code :=
 match fn.body with
 | some c=>c
 | none=>.skip
end
def vI:Value→Int
 | .int _ n=>n
 | _=>0
def okI (k:IntKind):Value→Bool
 | .int k' _=>decide (k'=k)
 | _=>false
def vB:Value→Bool
 | .bool b=>b
 | _=>false
def okB:Value→Bool
 | .bool _=>true
 | _=>false
def vSA:Value→Option Addr
 | .slice a _ _=>a
 | _=>none
def vSN:Value→Nat
 | .slice _ n _=>n
 | _=>0
def vSC:Value→Nat
 | .slice _ _ c=>c
 | _=>0
def okS:Value→Bool
 | .slice ..=>true
 | _=>false
theorem ok_int {k:IntKind} {v:Value} (h:okI k v=true):v=.int k (vI v):=by
 cases v <;> simp_all [okI,vI]
theorem ok_bool {v:Value} (h:okB v=true):v=.bool (vB v):=by cases v <;> simp_all [okB,vB]
theorem ok_slice {v:Value} (h:okS v=true):v=.slice (vSA v) (vSN v) (vSC v):=by cases v <;> simp_all [okS,vSA,vSN,vSC]
def trC (P:Program) (w0:World) (qs:Nat→List (Nat × Nat)):Code→Sg→AM→(Sg→AM→Prop)→Prop
 | .region id ops _,σ,m,Q0=>trS P w0 ops (qs id) Q0 ops.size (Array.replicate ops.size false) σ m
 | _,_,_,_=>False
def markB (qs:Nat→List (Nat × Nat)):Code→Bool
 | .region id _ draw=>draw && !(qs (1000000+id)).isEmpty
 | _=>false
theorem vcS_cut {P:Program} {w0:World} {qs:Nat→List (Nat × Nat)} {c:Code} {σ:Sg} {m:AM} {Q:Exit→Sg→AM→Prop} {Q0:Sg→AM→Prop} (hm:markB qs c=true) (h:trC P w0 qs c σ m Q0) (hq:∀ σ m,Q0 σ m→Q .normal σ m):vcS P w0 qs c σ m Q:=by
 cases c <;> first | cases hm | skip
 rename_i id ops draw
 have hm:(draw && !(qs (1000000+id)).isEmpty)=true:=hm
 unfold vcS
 rw [hm]
 exact ⟨Q0,hq,h⟩
theorem upd_id {σ:Sg} {k:Nat} {v:Value} (h:σ k=v):upd σ k v=σ:=by
 funext i
 unfold upd
 by_cases e:i=k
 ·subst e; simp [h]
 ·simp [e]
end Go.Alog

namespace Go.Alog
open Go Go.RowKit

theorem cell_upd_same {m:AM} {b:Nat} {c:Array Value} {t:TypeId} {f:Nat × Nat} {k:Nat}:(m.upd b (.cells c t f)).cell ⟨b,k,none⟩=c[k]?:=by
 unfold AM.cell AM.upd; simp
theorem cell_upd_ne {m:AM} {b:Nat} {o:Obj} {a:Addr} (h:a.block≠b):(m.upd b o).cell a=m.cell a:=by
 unfold AM.cell AM.upd; simp [h]
theorem frozen_upd_same {m:AM} {b:Nat} {c:Array Value} {t:TypeId} {k:Nat}:(m.upd b (.cells c t (0,0))).frozen ⟨b,k,none⟩=false:=by
 unfold AM.frozen AM.upd; simp
theorem set_upd_same {m:AM} {b:Nat} {c:Array Value} {t:TypeId} {f:Nat × Nat} {k:Nat} {v:Value}:(m.upd b (.cells c t f)).set ⟨b,k,none⟩ v=m.upd b (.cells (c.setIfInBounds k v) t f):=by
 unfold AM.set
 have:m.upd b (.cells c t f) b=some (.cells c t f):=by simp [AM.upd]
 simp only [this]
 funext x
 by_cases h:x=b <;> simp [AM.upd,h]
theorem upd_upd {m:AM} {b:Nat} {o o':Obj}:(m.upd b o).upd b o'=m.upd b o':=by
 funext x; by_cases h:x=b <;> simp [AM.upd,h]
theorem upd_self {m:AM} {b:Nat} {o:Obj} (h:m b=some o):m.upd b o=m:=by
 funext x; by_cases hx:x=b <;> simp [AM.upd,hx,h]
theorem upd_get_same {m:AM} {b:Nat} {o:Obj}:(m.upd b o) b=some o:=by simp [AM.upd]
theorem upd_get_ne {m:AM} {b x:Nat} {o:Obj} (h:x≠b):(m.upd b o) x=m x:=by simp [AM.upd,h]
theorem AM.le_refl (m:AM):m.le m:=fun _ _ h=>h
theorem AM.le_trans {a b c:AM} (h:a.le b) (k:b.le c):a.le c:=fun x o hx=>k x o (h x o hx)
theorem AM.le_upd {m m':AM} {b:Nat} {o:Obj} (h:m.le m') (hb:m' b=none):m.le (m'.upd b o):=fun x o' hx=>by
 have h1:=h x o' hx
 have:x≠b:=fun e=>by subst e; rw [hb] at h1; cases h1
 rw [upd_get_ne this]; exact h1
theorem AM.le_none {m m':AM} (h:m.le m') {b:Nat} (hb:m' b=none):m b=none:=by
 cases hm:m b with
 | none=>rfl
 | some o=>rw [h b o hm] at hb; cases hb
theorem cell_of {m:AM} {b k:Nat} {c:Array Value} {t:TypeId} {f:Nat × Nat} (h:m b=some (.cells c t f)):m.cell ⟨b,k,none⟩=c[k]?:=by
 unfold AM.cell; simp [h]
theorem frozen_of {m:AM} {b k:Nat} {c:Array Value} {t:TypeId} (h:m b=some (.cells c t (0,0))):m.frozen ⟨b,k,none⟩=false:=by
 unfold AM.frozen; simp [h]
theorem set_of {m:AM} {b k:Nat} {c:Array Value} {t:TypeId} {f:Nat × Nat} {v:Value} (h:m b=some (.cells c t f)):m.set ⟨b,k,none⟩ v=m.upd b (.cells (c.setIfInBounds k v) t f):=by
 unfold AM.set; simp [h]
theorem AM.le_cell {m m':AM} (h:m.le m') {a:Addr} {v:Value} (hc:m.cell a=some v):m'.cell a=some v:=by
 unfold AM.cell at hc ⊢
 cases hm:m a.block with
 | none=>rw [hm] at hc; cases hc
 | some o=>rw [hm] at hc; rw [h _ _ hm]; exact hc
theorem addn (b o n:Nat):(⟨b,o,none⟩:Addr).add n=⟨b,o+n,none⟩:=by unfold Addr.add; by_cases h:n=0 <;> simp [h]
theorem add_block (a:Addr) (n:Nat):(a.add n).block=a.block:=by unfold Addr.add; split <;> rfl
theorem add_add (a:Addr) (i j:Nat):(a.add i).add j=a.add (i+j):=by
 unfold Addr.add
 by_cases hi:i=0 <;> by_cases hj:j=0 <;> simp [hi,hj,Nat.add_assoc]

theorem loopQ {P:Program} {w0:World} {qs:Nat→List (Nat × Nat)} {c:Code} {σ:Sg} {m:AM} {Q:Exit→Sg→AM→Prop} (I:Nat→Sg→AM→Prop) (N:Nat) (Q0:Nat→Exit→Sg→AM→Prop) (h0:I N σ m)
  (hn:∀ n σ m,Q0 n .normal σ m→∃ n',n'<n∧I n' σ m) (hq:∀ n e σ m,e≠.normal→Q0 n e σ m→Q e σ m)
  (hr:∀ n σ m,I n σ m→vcS P w0 qs c σ m (Q0 n)):vcS P w0 qs (.loop c) σ m Q :=
 ⟨I,N,h0,fun n σ m h=>⟨Q0 n,fun e σ m h=>by
  cases e <;> first | exact hn n σ m h | exact hq n _ σ m (by intro h; cases h) h,hr n σ m h⟩⟩

end Go.Alog

set_option linter.unusedSimpArgs false
set_option linter.unusedVariables false
namespace Go.Alog
open Go Go.RowKit

section
variable {P:Program} {B:Nat}

def Cells (m:AM) (a:Addr) (l:List Value):Prop:=∀ j u,l[j]?=some u→m.cell (a.add j)=some u

theorem Cells.load {m:AM} {a:Addr} {l:List Value} (h:Cells m a l):rval P m (loadCells a l.length)=some l.toArray:=by
 have key:∀ (r:List Value) (i:Nat) (acc:Array Value),(∀ j u,r[j]?=some u→m.cell (a.add (i+j))=some u)→rval P m (loadCellsFrom a i r.length acc)=some (acc ++ r.toArray):=by
  intro r
  induction r with
  | nil=>intro i acc _; simp [loadCellsFrom,rval_pure]
  | cons v r ih =>
   intro i acc hr
   show rval P m (Go.load (a.add i) >>= fun v=>loadCellsFrom a (i+1) r.length (acc.push v))=_
   rw [rval_bind']
   have h0:rval P m (Go.load (a.add i))=some v:=by
    unfold Go.load
    have:=hr 0 v (by simp)
    simp only [Nat.add_zero] at this
    simp only [rval,this]
   rw [h0]
   simp only [Option.bind_some]
   rw [ih (i+1) _ (fun j u hu=>by have:=hr (j+1) u (by simpa using hu); rwa [show i+(j+1)=i+1+j by omega] at this)]
   simp
 have:=key l 0 #[] (fun j u hu=>by simpa using h j u hu)
 unfold loadCells
 simpa using this

def splice (cur:Array Value) (o:Nat) (l:List Value):Array Value:=(cur.toList.take o ++ l ++ cur.toList.drop (o+l.length)).toArray

theorem splice_nil (cur:Array Value) (o:Nat):splice cur o []=cur:=by simp [splice]
theorem splice_size (cur:Array Value) (o:Nat) (l:List Value) (h:o+l.length≤cur.size):(splice cur o l).size=cur.size:=by
 simp [splice]; omega
theorem splice_cons (cur:Array Value) (o:Nat) (v:Value) (l:List Value) (h:o+(l.length+1)≤cur.size):splice (cur.setIfInBounds o v) (o+1) l=splice cur o (v :: l):=by
 unfold splice
 congr 1
 simp only [Array.toList_setIfInBounds,List.length_cons]
 apply List.ext_getElem?
 intro i
 simp only [List.getElem?_append,List.getElem?_take,List.getElem?_drop,List.getElem?_set,List.length_append,List.length_take,List.length_set,List.length_cons,List.getElem?_cons,Array.length_toList]
 have e1:min (o+1) cur.size=o+1:=by omega
 have e2:min o cur.size=o:=by omega
 rw [e1,e2]
 by_cases h1:i<o
 ·simp [h1,show i<o+1 by omega,show ¬ o=i by omega,show i<o+1+l.length by omega,show i<o+(l.length+1) by omega]
 ·by_cases h2:i=o
  ·subst h2
   simp [show i<cur.size by omega,show i<i+1+l.length by omega]
  ·by_cases h3:i<o+1+l.length
   ·simp [h1,h3,show ¬ i<o+1 by omega,show i<o+(l.length+1) by omega,show ¬ i-o=0 by omega]
    congr 1
   ·simp [h1,h3,show ¬ i<o+1 by omega,show ¬ i<o+(l.length+1) by omega]
    rw [show o+1+l.length+(i-(o+1+l.length))=i by omega,show o+(l.length+1)+(i-(o+(l.length+1)))=i by omega]
    rw [if_neg (by omega)]

theorem store_list {g:Nat} {e:TypeId}:∀ (l:List Value) (i o:Nat) (m:AM) (cur:Array Value) (K:Unit→AM→Prop),m g=some (.cells cur e (0,0))→B≤g→(∀ v∈l,v.oneCell'=true)→o+i+l.length≤cur.size →
  K () (m.upd g (.cells (splice cur (o+i) l) e))→awp P B (storeCells ⟨g,o,none⟩ l i) m K
 | [],i,o,m,cur,K,hg,hB,h1,hl,hk=>by
  rw [splice_nil,upd_self hg] at hk
  exact hk
 | v :: l,i,o,m,cur,K,hg,hB,h1,hl,hk=>by
  show awp P B (store ((⟨g,o,none⟩:Addr).add i) v >>= fun _=>storeCells ⟨g,o,none⟩ l (i+1)) m K
  rw [awp_bind',addn]
  simp only [List.length_cons] at hl
  refine ⟨h1 v (by simp),hB,?_,frozen_of hg,?_⟩
  ·rw [cell_of hg]; exact ⟨cur[o+i]'(by omega),by simp [show o+i<cur.size by omega]⟩
  ·rw [set_of hg]
   show awp P B (storeCells ⟨g,o,none⟩ l (i+1)) _ K
   refine store_list l (i+1) o _ (cur.setIfInBounds (o+i) v) K (by rw [upd_get_same]) hB (fun u hu=>h1 u (by simp [hu])) (by simp; omega) ?_
   rw [upd_upd,← Nat.add_assoc,splice_cons cur (o+i) v l (by omega)]
   exact hk

def Own (m:AM) (B:Nat) (e:TypeId) (sz:Nat) (A:Option Addr) (n cp:Nat) (xs:List Value):Prop :=
 xs.length=n*sz∧n≤cp∧((A=none∧cp=0)∨∃ g cur,A=some ⟨g,0,none⟩∧B≤g∧m g=some (.cells cur e (0,0))∧cur.size=cp*sz∧cur.toList.take (n*sz)=xs)

theorem Own.nil (m:AM) (B:Nat) (e:TypeId) (sz:Nat):Own m B e sz none 0 0 []:=⟨by simp,Nat.le_refl _,.inl ⟨rfl,rfl⟩⟩

theorem Own.new (m:AM) {B g:Nat} (hB:B≤g) (e:TypeId) (sz n:Nat) (xs:List Value) (hl:xs.length=n*sz):Own (m.upd g (.cells xs.toArray e)) B e sz (some ⟨g,0,none⟩) n n xs :=
 ⟨hl,Nat.le_refl _,.inr ⟨g,xs.toArray,rfl,hB,upd_get_same,by simp [hl],by simp [← hl]⟩⟩

theorem Own.cells {m:AM} {e:TypeId} {sz:Nat} {A:Option Addr} {n cp:Nat} {xs:List Value} (h:Own m B e sz A n cp xs) {ad:Addr} (hA:A=some ad):Cells m ad xs:=by
 obtain ⟨hl,hn,h | ⟨g,cur,h1,h2,h3,h4,h5⟩⟩:=h
 ·rw [h.1] at hA; cases hA
 ·rw [h1] at hA
  injection hA with hA
  subst hA
  intro j u hu
  rw [addn,cell_of h3,Nat.zero_add]
  rw [← h5,List.getElem?_take] at hu
  split at hu
  ·simpa using hu
  ·cases hu

theorem Own.keep {m m':AM} {e:TypeId} {sz:Nat} {A:Option Addr} {n cp:Nat} {xs:List Value} (h:Own m B e sz A n cp xs) (hk:∀ g,A=some ⟨g,0,none⟩→m' g=m g):Own m' B e sz A n cp xs:=by
 obtain ⟨hl,hn,h | ⟨g,cur,h1,h2,h3,h4,h5⟩⟩:=h
 ·exact ⟨hl,hn,.inl h⟩
 ·exact ⟨hl,hn,.inr ⟨g,cur,h1,h2,by rw [hk g h1]; exact h3,h4,h5⟩⟩

theorem Own.upd {m:AM} {e:TypeId} {sz:Nat} {A:Option Addr} {n cp:Nat} {xs:List Value} (h:Own m B e sz A n cp xs) {b:Nat} {o:Obj} (hb:∀ off,A≠some ⟨b,off,none⟩):Own (m.upd b o) B e sz A n cp xs :=
 h.keep fun g hg=>upd_get_ne (fun e=>hb 0 (by rw [hg,e]))

theorem Own.ne_none {m:AM} {e:TypeId} {sz:Nat} {A:Option Addr} {n cp:Nat} {xs:List Value} (h:Own m B e sz A n cp xs) {b:Nat} (hb:m b=none):∀ off,A≠some ⟨b,off,none⟩:=by
 intro off hA
 obtain ⟨_,_,h | ⟨g,cur,h1,h2,h3,_⟩⟩:=h
 ·rw [h.1] at hA; cases hA
 ·rw [h1] at hA
  injection hA with hA
  injection hA with hg
  subst hg
  rw [hb] at h3; cases h3

theorem Own.ne_type {m:AM} {e:TypeId} {sz:Nat} {A:Option Addr} {n cp:Nat} {xs:List Value} (h:Own m B e sz A n cp xs) {b:Nat} {c:Array Value} {t:TypeId} (hb:m b=some (.cells c t (0,0))) (ht:t≠e):∀ off,A≠some ⟨b,off,none⟩:=by
 intro off hA
 obtain ⟨_,_,h | ⟨g,cur,h1,h2,h3,_⟩⟩:=h
 ·rw [h.1] at hA; cases hA
 ·rw [h1] at hA
  injection hA with hA
  injection hA with hg
  subst hg
  rw [hb] at h3
  injection h3 with h3
  injection h3 with _ h4
  exact ht h4

def Reads (m:AM) (sz:Nat) (A:Option Addr) (n:Nat) (xs:List Value):Prop:=xs.length=n*sz∧((A=none∧n=0)∨∃ ad,A=some ad∧Cells m ad xs)

theorem Own.reads {m:AM} {e:TypeId} {sz:Nat} {A:Option Addr} {n cp:Nat} {xs:List Value} (h:Own m B e sz A n cp xs):Reads m sz A n xs:=by
 refine ⟨h.1,?_⟩
 cases hA:A with
 | none =>
  obtain ⟨_,hn,h1 | ⟨g,cur,h1,_⟩⟩:=h
  ·exact .inl ⟨rfl,by omega⟩
  ·rw [hA] at h1; cases h1
 | some ad=>exact .inr ⟨ad,rfl,h.cells hA⟩

theorem Reads.first {m:AM} {sz:Nat} {A:Option Addr} {n c:Nat} {xs:List Value} (h:Reads m sz A n xs):rval P m (Builtin.firstCells sz n (.slice A n c))=some xs.toArray:=by
 obtain ⟨hl,⟨rfl,rfl⟩ | ⟨ad,rfl,hc⟩⟩:=h
 ·have:xs = []:=List.eq_nil_of_length_eq_zero (by simpa using hl)
  subst this
  rfl
 ·show rval P m (loadCells ad (n*sz))=_
  rw [← hl]
  exact hc.load

theorem awp_ask {m:AM} {b:Nat} {K:Unit→AM→Prop} (h:K () m):awp P B (askRoom b) m K:=by
 unfold askRoom
 by_cases hb:b>roomBytes
 ·rw [if_pos hb]; exact h
 ·rw [if_neg hb]; exact h

theorem awp_append {t ty e : TypeId} {sz bs : Nat} {z : List Value} (hel : elOf P t = some (e, sz, bs, z)) {m : AM} {A : Option Addr} {n cp : Nat} {xs : List Value} (hown : Own m B e sz A n cp xs)
    {A2 : Option Addr} {k c2 : Nat} {news : List Value} (hr : Reads m sz A2 k news) (h1 : ∀ u ∈ news, u.oneCell' = true) (hfit : (n + k) * bs ≤ 140737488355328) (hfit2 : n + k ≤ 140737488355328) {K : Value → AM → Prop}
    (hroom : n + k ≤ cp → ∀ g cur, A = some ⟨g, 0, none⟩ → m g = some (.cells cur e (0, 0)) → K (.slice A (n + k) cp) (m.upd g (.cells (splice cur (n * sz) news) e)))
    (hnil : n + k ≤ cp → A = none → K (.slice A (n + k) cp) m)
    (hgrow : cp < n + k → ∀ b cp', B ≤ b → m b = none → n + k ≤ cp' → ∀ rest : List Value, rest.length = (cp' - (n + k)) * sz → K (.slice (some ⟨b, 0, none⟩) (n + k) cp') (m.upd b (.cells (xs ++ news ++ rest).toArray e))) :
    awp P B (Builtin.append_ #[t, t] ty #[.slice A n cp, .slice A2 k c2]) m K := by
  obtain ⟨i, zv, hu, hi, hz, hzs, hsz, hbs, hzl⟩ := elOf_spec hel
  subst hsz
  subst hbs
  show awp P B (underlying t >>= _) m K
  rw [awp_bind']
  refine awp_p (pv_underlying hu) ?_
  simp only [List.getElem_toArray, List.getElem_cons_zero, List.getElem_cons_succ]
  rw [awp_bind']
  refine awp_p (pv_sizeOf hi) ?_
  simp only [List.getElem?_toArray, List.getElem?_cons_succ, List.getElem?_cons_zero]
  rw [awp_bind']
  refine awp_p (pv_underlying hu) ?_
  rw [awp_bind']
  refine awp_p (x := false) rfl ?_
  simp only [Bool.false_eq_true, if_false, Bool.not_false, if_true]
  rw [awp_bind']
  refine awp_p (x := k) rfl ?_
  by_cases hc : n + k ≤ cp
  · rw [if_pos hc, awp_bind']
    refine awp_of_rval _ hr.first ?_
    cases A with
    | none =>
      simp only
      exact hnil hc rfl
    | some a =>
      simp only
      rw [awp_bind']
      have hown' := hown
      obtain ⟨hl, hn, h | ⟨g, cur, h1', h2, h3, h4, h5⟩⟩ := hown
      · cases h.1
      · injection h1' with h1'
        subst h1'
        have hmul : (n + k) * i.size ≤ cp * i.size := Nat.mul_le_mul_right _ hc
        rw [Nat.add_mul] at hmul
        rw [addn]
        refine store_list news 0 _ m cur _ h3 h2 h1 (by rw [hr.1]; omega) ?_
        have := hroom hc g cur rfl h3
        simp only [Nat.zero_add, Nat.add_zero]
        exact this
  · rw [if_neg hc, awp_bind']
    refine awp_p (pv_typeInfo hi) ?_
    have emax : IntKind.i64.max = 9223372036854775807 := rfl
    rw [if_neg (fun h => by have := h.1; rw [emax] at this; omega), awp_bind']
    refine awp_p (pv_typeInfo hi) ?_
    have hgf := growslice_fits (old := cp) (show cp < n + k by omega) hfit
    rw [if_neg (by have : (2 : Nat) ^ 48 = 281474976710656 := by decide
                   omega), awp_bind']
    refine ⟨fun hf => (by cases hf), fun _ t => ?_⟩
    show awp P B _ m K
    have hge : n + k ≤ (Question.appendCap (n + k) cp e).cut t := by simp [Question.cut]
    generalize (Question.appendCap (n + k) cp e).cut t = cp' at hge
    rw [awp_bind']
    refine awp_p (pv_typeInfo hi) ?_
    rw [awp_bind']
    refine awp_ask ?_
    rw [awp_bind']
    refine awp_of_rval _ hown.reads.first ?_
    rw [awp_bind']
    refine awp_of_rval _ hr.first ?_
    rw [awp_bind']
    refine awp_p (pv_zeroValue hi hz) ?_
    rw [awp_bind']
    intro b hb hm
    have hk := hgrow (by omega) b cp' hb hm hge (Builtin.zeroCells zv.cells (cp' - (n + k))).toList (by simp [Builtin.zeroCells, hzs])
    have e2 : (xs ++ news ++ (Builtin.zeroCells zv.cells (cp' - (n + k))).toList).toArray = xs.toArray ++ news.toArray ++ Builtin.zeroCells zv.cells (cp' - (n + k)) := by
      apply Array.ext'; simp
    rw [e2] at hk
    exact hk

theorem awp_append_own {t ty e:TypeId} {sz bs:Nat} {z:List Value} (hel:elOf P t=some (e,sz,bs,z)) {m:AM} {A:Option Addr} {n cp:Nat} {xs:List Value} (hown:Own m B e sz A n cp xs)
  {A2:Option Addr} {k c2:Nat} {news:List Value} (hr:Reads m sz A2 k news) (h1:∀ u∈news,u.oneCell'=true) (hfit:(n+k)*bs≤140737488355328) (hfit2:n+k≤140737488355328) {K:Value→AM→Prop}
  (h:∀ g cp' cur,(A=some ⟨g,0,none⟩∨m g=none)→B≤g→Own (m.upd g (.cells cur e)) B e sz (some ⟨g,0,none⟩) (n+k) cp' (xs ++ news)→K (.slice (some ⟨g,0,none⟩) (n+k) cp') (m.upd g (.cells cur e)))
  (hn:n+k=0→A=none→K (.slice none 0 0) m) :
  awp P B (Builtin.append_ #[t,t] ty #[.slice A n cp,.slice A2 k c2]) m K:=by
 have hlen:(xs ++ news).length=(n+k)*sz:=by rw [List.length_append,hown.1,hr.1,Nat.add_mul]
 refine awp_append hel hown hr h1 hfit hfit2 (fun hc g cur hA hg=>?_) (fun hc hA=>?_) (fun hc b cp' hb hm hge rest hrest=>?_)
 ·have hown':=hown
  obtain ⟨hl,hn',h' | ⟨g',cur',h1',h2,h3,h4,h5⟩⟩:=hown'
  ·rw [h'.1] at hA; cases hA
  ·rw [hA] at h1'
   injection h1' with h1'
   injection h1' with h1'
   subst h1'
   rw [hg] at h3
   injection h3 with h3
   injection h3 with h3
   subst h3
   have hmul:(n+k)*sz≤cp*sz:=Nat.mul_le_mul_right _ hc
   have hb1:n*sz+news.length≤cur.size:=by rw [hr.1,h4]; rw [Nat.add_mul] at hmul; exact hmul
   rw [hA]
   refine h g cp _ (.inl hA) h2 ⟨hlen,hc,.inr ⟨g,_,rfl,h2,upd_get_same,?_,?_⟩⟩
   ·rw [splice_size _ _ _ hb1,h4]
   ·unfold splice
    rw [h5,← hlen,List.toList_toArray]
    exact List.take_left
 ·obtain ⟨hl,hn',h' | ⟨g',cur',h1',_⟩⟩:=hown
  ·have h0:n+k=0:=by omega
   rw [h0,hA,h'.2]
   exact hn h0 hA
  ·rw [hA] at h1'; cases h1'
 ·refine h b cp' _ (.inr hm) hb ⟨hlen,hge,.inr ⟨b,_,rfl,hb,upd_get_same,?_,?_⟩⟩
  ·simp only [List.size_toArray,List.length_append,hown.1,hr.1,hrest]
   rw [← Nat.add_mul,← Nat.add_mul]
   congr 1
   omega
  ·rw [← hlen]
   simp only [List.take_left]
end
end Go.Alog
namespace Go.Alog
open Go Go.RowKit

def Fr (m m':AM) (fp:List Nat):Prop:=∀ k o,m k=some o→k∉fp→m' k=some o

theorem Fr.refl (m:AM) (fp:List Nat):Fr m m fp:=fun _ _ h _=>h
theorem Fr.trans {a b c:AM} {fp fp':List Nat} (h:Fr a b fp) (h':Fr b c fp') (hs:∀ k,k∈fp'→k∈fp∨a k=none):Fr a c fp:=fun k o hk hn =>
 h' k o (h k o hk hn) fun hk'=>by
  rcases hs k hk' with h1 | h1
  ·exact hn h1
  ·rw [hk] at h1; cases h1
theorem Fr.upd {a b:AM} {fp:List Nat} (h:Fr a b fp) {g:Nat} (hg:g∈fp∨a g=none) (o:Obj):Fr a (b.upd g o) fp:=fun k o' hk hn=>by
 have:k≠g:=fun e=>by
  subst e
  rcases hg with h1 | h1
  ·exact hn h1
  ·rw [hk] at h1; cases h1
 rw [upd_get_ne this]; exact h k o' hk hn
theorem Fr.of_le {a b:AM} (h:a.le b) (fp:List Nat):Fr a b fp:=fun k o hk _=>h k o hk
theorem Fr.mono {a b:AM} {fp fp':List Nat} (h:Fr a b fp) (hs:∀ k∈fp,k∈fp'):Fr a b fp':=fun k o hk hn=>h k o hk fun h1=>hn (hs k h1)
def obl:Option Addr→List Nat
 | some a=>[a.block]
 | none=>[]

theorem StC_own {B:Nat} {m:AM} {g k:Nat} {c:Array Value} {t:TypeId} {v:Value} {K:AM→Prop} (hg:m g=some (.cells c t (0,0))) (hB:B≤g) (hk:k<c.size) (h:K (m.upd g (.cells (c.setIfInBounds k v) t))):StC B m ⟨g,k,none⟩ v K :=
 ⟨hB,⟨c[k],by rw [cell_of hg]; simp [hk]⟩,frozen_of hg,by rw [set_of hg]; exact h⟩

theorem nilO_some {a:Addr} {K:Addr→Prop}:nilO (some a) K=K a:=rfl
theorem thenS_normal {next:Sg→AM→Prop} {Q:Exit→Sg→AM→Prop} {σ:Sg} {m:AM}:thenS next Q .normal σ m=next σ m:=rfl
end Go.Alog
namespace Go.Alog
open Go Go.RowKit
theorem Own.le {m m':AM} {B:Nat} {e:TypeId} {sz:Nat} {A:Option Addr} {n cp:Nat} {xs:List Value} (h:Own m B e sz A n cp xs) (hl:m.le m'):Own m' B e sz A n cp xs:=by
 obtain ⟨hl1,hn,h | ⟨g,cur,h1,h2,h3,h4,h5⟩⟩:=h
 ·exact ⟨hl1,hn,.inl h⟩
 ·exact ⟨hl1,hn,.inr ⟨g,cur,h1,h2,hl _ _ h3,h4,h5⟩⟩
theorem Cells.le {m m':AM} {a:Addr} {l:List Value} (h:Cells m a l) (hl:m.le m'):Cells m' a l:=fun j u hu=>AM.le_cell hl (h j u hu)
theorem Reads.le {m m':AM} {sz:Nat} {A:Option Addr} {n:Nat} {xs:List Value} (h:Reads m sz A n xs) (hl:m.le m'):Reads m' sz A n xs:=by
 obtain ⟨h1,h2 | ⟨ad,h2,h3⟩⟩:=h
 ·exact ⟨h1,.inl h2⟩
 ·exact ⟨h1,.inr ⟨ad,h2,h3.le hl⟩⟩
theorem Reads.lit {m:AM} {b:Nat} {e:TypeId} {sz n:Nat} {cs:List Value} (h:cs.length=n*sz):Reads (m.upd b (.cells cs.toArray e (0,0))) sz (some ⟨b,0,none⟩) n cs :=
 ⟨h,.inr ⟨_,rfl,fun j u hu=>by rw [addn,Nat.zero_add,cell_upd_same]; simpa using hu⟩⟩
theorem retP_of {R:Value→AM→Prop} {v:Value} {m:AM} (h:R v m):RetP R v m:=⟨m,AM.le_refl m,h⟩
theorem Own.obl_ne {m:AM} {B:Nat} {e:TypeId} {sz:Nat} {A:Option Addr} {n cp:Nat} {xs:List Value} (h:Own m B e sz A n cp xs) {g:Nat} {c:Array Value} {t:TypeId} (hg:m g=some (.cells c t (0,0))) (ht:t≠e):g∉obl A:=by
 intro hm
 obtain ⟨_,_,h | ⟨g',cur,h1,h2,h3,_⟩⟩:=h
 ·rw [h.1] at hm; simp [obl] at hm
 ·rw [h1] at hm
  simp [obl] at hm
  subst hm
  rw [hg] at h3
  injection h3 with h3
  injection h3 with _ h4
  exact ht h4
theorem Own.obl_some {m:AM} {B:Nat} {e:TypeId} {sz:Nat} {A:Option Addr} {n cp:Nat} {xs:List Value} (h:Own m B e sz A n cp xs) {k:Nat} (hk:k∈obl A):B≤k∧∃ cur,m k=some (.cells cur e (0,0)):=by
 obtain ⟨_,_,h | ⟨g',cur,h1,h2,h3,_⟩⟩:=h
 ·rw [h.1] at hk; simp [obl] at hk
 ·rw [h1] at hk
  simp [obl] at hk
  subst hk
  exact ⟨h2,cur,h3⟩
theorem Own.fr {m m':AM} {B:Nat} {e:TypeId} {sz:Nat} {A:Option Addr} {n cp:Nat} {xs:List Value} (h:Own m B e sz A n cp xs) {fp:List Nat} (hf:Fr m m' fp) (hd:∀ k∈obl A,k∉fp):Own m' B e sz A n cp xs:=by
 obtain ⟨hl1,hn,h | ⟨g,cur,h1,h2,h3,h4,h5⟩⟩:=h
 ·exact ⟨hl1,hn,.inl h⟩
 ·exact ⟨hl1,hn,.inr ⟨g,cur,h1,h2,hf _ _ h3 (hd g (by rw [h1]; simp [obl])),h4,h5⟩⟩
end Go.Alog
namespace Go.Alog
open Go Go.RowKit
theorem awp_append_field {P:Program} {B:Nat} {t ty e:TypeId} {sz bs:Nat} {z:List Value} (hel:elOf P t=some (e,sz,bs,z)) {m:AM} {A:Option Addr} {n cp:Nat} {xs:List Value} (hown:Own m B e sz A n cp xs)
  {A2:Option Addr} {k c2:Nat} {news:List Value} (hr:Reads m sz A2 k news) (h1:∀ u∈news,u.oneCell'=true) (hfit:(n+k)*bs≤140737488355328) (hfit2:n+k≤140737488355328) (hpos:0<n+k)
  {g:Nat} {C:Array Value} {T:TypeId} (hg:m g=some (.cells C T (0,0))) (hB:B≤g) (hne:T≠e) {j:Nat} (hj:j<C.size) {K:AM→Prop}
  (h:∀ g2 cp' cur,(A=some ⟨g2,0,none⟩∨m g2=none)→B≤g2→g≠g2 →
   Own ((m.upd g2 (.cells cur e)).upd g (.cells (C.setIfInBounds j (.slice (some ⟨g2,0,none⟩) (n+k) cp')) T)) B e sz (some ⟨g2,0,none⟩) (n+k) cp' (xs ++ news) →
   K ((m.upd g2 (.cells cur e)).upd g (.cells (C.setIfInBounds j (.slice (some ⟨g2,0,none⟩) (n+k) cp')) T))) :
  awp P B (Builtin.append_ #[t,t] ty #[.slice A n cp,.slice A2 k c2]) m fun v m1=>∃ A' n' c',v=.slice A' n' c'∧StC B m1 ⟨g,j,none⟩ (.slice A' n' c') K:=by
 refine awp_append_own hel hown hr h1 hfit hfit2 (fun g2 cp' cur hor hB2 hown2=>?_) (fun h0=>by omega)
 have hgg:g≠g2:=fun e=>by
  subst e
  rcases hor with h' | h'
  ·exact hown.ne_type hg hne 0 h'
  ·rw [hg] at h'; cases h'
 refine ⟨_,_,_,rfl,StC_own (by rw [upd_get_ne hgg]; exact hg) hB hj ?_⟩
 refine h g2 cp' cur hor hB2 hgg (hown2.upd fun off h'=>?_)
 injection h' with h'
 injection h' with h'
 exact hgg h'.symm
end Go.Alog

set_option linter.unusedSimpArgs false
set_option linter.unusedVariables false
namespace Go.Alog
open Go Go.RowKit Go.ChangeShapes Go.WideShapes Go.Deep

def FitK:CK→Value→Prop
 | .int k,v=>∃ n:Int,v=.int k n∧(Lit.int k n).wf=true
 | .bool,v=>∃ b:Bool,v=.bool b
 | .str,v=>∃ s:ByteArray,v=.string s∧s.size≤maxLen
 | _,_=>False

def AllFit (cks:List CK) (cs:List Value):Prop:=cs.length=cks.length∧∀ (i:Nat) (c:CK) (v:Value),cks[i]?=some c→cs[i]?=some v→FitK c v

def fieldsAt (P:Program) (d:Nat):List Field→Nat→Bool
 | [],_=>true
 | f :: r,off=>Nat.beq f.offset off && Nat.beq (P.cellsOf f.type) (flat P d f.type).length && fieldsAt P d r (off+(flat P d f.type).length)

def layOk (P:Program):Nat→TypeId→Bool
 | 0,_=>false
 | d+1,t=>match P.underlying t with
  | some (.struct fs)=>fieldsAt P d fs.toList 0 && (fs.toList.all fun f=>layOk P d f.type) && Nat.beq (P.cellsOf t) (fs.toList.flatMap fun f=>flat P d f.type).length
  | some (.int _) | some .bool | some .string=>true
  | _=>false

theorem AllFit.app {a b:List CK} {x y:List Value} (h:AllFit a x) (h':AllFit b y):AllFit (a ++ b) (x ++ y):=by
 refine ⟨by simp [h.1,h'.1],fun i c v hc hv=>?_⟩
 by_cases hi:i<a.length
 ·rw [List.getElem?_append_left hi] at hc
  rw [List.getElem?_append_left (by rw [h.1]; exact hi)] at hv
  exact h.2 i c v hc hv
 ·rw [List.getElem?_append_right (by omega)] at hc
  rw [List.getElem?_append_right (by rw [h.1]; omega),h.1] at hv
  exact h'.2 _ c v hc hv

section
variable {H:Type} {enc:TypeId × Value→H} {P:Program} {w:World} {base:Nat} {spare:Nat→Bool} {held:Bool}

theorem trod_fit:∀ (d:Nat) {t:TypeId} {fuel:Nat} {cs:List Value} {x:DataW H × List MemPlace},layOk P d t=true→DataW.trod enc P w base spare held fuel t cs=some x→AllFit (flat P d t) cs
 | 0,_,_,_,_,h,_=>by cases h
 | d+1,t,fuel,cs,x,hl,h=>by
  unfold layOk at hl
  unfold flat
  cases hu:P.underlying t with
  | none=>rw [hu] at hl; cases hl
  | some ds =>
   rw [hu] at hl
   cases ds with
   | bool =>
    cases fuel with
    | zero=>cases h
    | succ fuel =>
     unfold DataW.trod at h
     rw [hu] at h
     match cs,h with
     | [.bool b],h=>exact ⟨rfl,fun i c v hc hv=>by
       cases i with
       | zero=>simp at hc hv; subst hc; subst hv; exact ⟨b,rfl⟩
       | succ i=>simp at hc⟩
     | [],h=>simp at h
     | [.int ..],h=>simp at h
     | [.float ..],h=>simp at h
     | [.complex ..],h=>simp at h
     | [.string ..],h=>simp at h
     | [.pointer ..],h=>simp at h
     | [.slice ..],h=>simp at h
     | [.map ..],h=>simp at h
     | [.chan ..],h=>simp at h
     | [.func ..],h=>simp at h
     | [.nilFunc],h=>simp at h
     | [.iface ..],h=>simp at h
     | [.nilIface],h=>simp at h
     | [.agg ..],h=>simp at h
     | [.tuple ..],h=>simp at h
     | _ :: _ :: _,h=>simp at h
   | int k =>
    cases fuel with
    | zero=>cases h
    | succ fuel =>
     unfold DataW.trod at h
     rw [hu] at h
     match cs,h with
     | [.int k' n],h =>
      simp only at h
      split at h
      ·rename_i hk
       obtain ⟨rfl,hw⟩:=hk
       exact ⟨rfl,fun i c v hc hv=>by
        cases i with
        | zero=>simp [ckOf] at hc hv; subst hc; subst hv; exact ⟨n,rfl,hw⟩
        | succ i=>simp at hc⟩
      ·cases h
     | [],h=>simp at h
     | [.bool ..],h=>simp at h
     | [.float ..],h=>simp at h
     | [.complex ..],h=>simp at h
     | [.string ..],h=>simp at h
     | [.pointer ..],h=>simp at h
     | [.slice ..],h=>simp at h
     | [.map ..],h=>simp at h
     | [.chan ..],h=>simp at h
     | [.func ..],h=>simp at h
     | [.nilFunc],h=>simp at h
     | [.iface ..],h=>simp at h
     | [.nilIface],h=>simp at h
     | [.agg ..],h=>simp at h
     | [.tuple ..],h=>simp at h
     | _ :: _ :: _,h=>simp at h
   | string =>
    cases fuel with
    | zero=>cases h
    | succ fuel =>
     unfold DataW.trod at h
     rw [hu] at h
     match cs,h with
     | [.string s],h =>
      simp only at h
      split at h
      ·rename_i hk
       exact ⟨rfl,fun i c v hc hv=>by
        cases i with
        | zero=>simp [ckOf] at hc hv; subst hc; subst hv; exact ⟨s,rfl,hk⟩
        | succ i=>simp at hc⟩
      ·cases h
     | [],h=>simp at h
     | [.bool ..],h=>simp at h
     | [.float ..],h=>simp at h
     | [.complex ..],h=>simp at h
     | [.int ..],h=>simp at h
     | [.pointer ..],h=>simp at h
     | [.slice ..],h=>simp at h
     | [.map ..],h=>simp at h
     | [.chan ..],h=>simp at h
     | [.func ..],h=>simp at h
     | [.nilFunc],h=>simp at h
     | [.iface ..],h=>simp at h
     | [.nilIface],h=>simp at h
     | [.agg ..],h=>simp at h
     | [.tuple ..],h=>simp at h
     | _ :: _ :: _,h=>simp at h
   | struct fs =>
    simp only [Bool.and_eq_true] at hl
    obtain ⟨xs,n,_,_,hlen,_,hf⟩:=DataW.trod_struct hu h
    have key:∀ (l:List Field) (off:Nat),fieldsAt P d l off=true→(∀ f∈l,layOk P d f.type=true)→(∀ f∈l,∃ y,DataW.trod enc P w base spare held n f.type ((cs.drop f.offset).take (P.cellsOf f.type))=some y) →
      off+(l.flatMap fun f=>flat P d f.type).length≤cs.length∧AllFit (l.flatMap fun f=>flat P d f.type) ((cs.drop off).take (l.flatMap fun f=>flat P d f.type).length)∨cs.length<off:=by
     intro l
     induction l with
     | nil =>
      intro off _ _ _
      rcases Nat.lt_or_ge cs.length off with h1 | h1
      ·exact .inr h1
      ·exact .inl ⟨by simpa using h1,⟨by simp,fun i c v hc=>by simp at hc⟩⟩
     | cons f l ih =>
      intro off hat hlay htr
      unfold fieldsAt at hat
      simp only [Bool.and_eq_true] at hat
      obtain ⟨⟨h1,h2⟩,h3⟩:=hat
      have h1:=Nat.eq_of_beq_eq_true h1
      have h2:=Nat.eq_of_beq_eq_true h2
      obtain ⟨y,hy⟩:=htr f (by simp)
      have hfit:=trod_fit d (hlay f (by simp)) hy
      rw [h1,h2] at hfit
      rcases Nat.lt_or_ge cs.length off with hlt | hge
      ·exact .inr hlt
      ·left
       have hl1:((cs.drop off).take (flat P d f.type).length).length=(flat P d f.type).length:=hfit.1
       simp only [List.length_take,List.length_drop] at hl1
       have ho:off+(flat P d f.type).length≤cs.length:=by omega
       rcases ih (off+(flat P d f.type).length) h3 (fun g hg=>hlay g (by simp [hg])) (fun g hg=>htr g (by simp [hg])) with ⟨h4,h5⟩ | h4
       ·simp only [List.flatMap_cons,List.length_append]
        refine ⟨by omega,?_⟩
        have e:(cs.drop off).take ((flat P d f.type).length+(l.flatMap fun f=>flat P d f.type).length)=(cs.drop off).take (flat P d f.type).length ++ ((cs.drop (off+(flat P d f.type).length)).take (l.flatMap fun f=>flat P d f.type).length):=by
         rw [List.take_add,List.drop_drop]
        rw [e]
        exact hfit.app h5
       ·omega
    have htr:∀ f∈fs.toList,∃ y,DataW.trod enc P w base spare held n f.type ((cs.drop f.offset).take (P.cellsOf f.type))=some y:=by
     intro f hfm
     obtain ⟨i,hi,hfi⟩:=List.mem_iff_getElem.1 hfm
     have hi':i<fs.size:=by simpa using hi
     have hfs:fs[i]?=some f:=by
      rw [Array.getElem?_eq_getElem hi']
      have:fs.toList[i]=fs[i]:=by simp
      rw [← this,hfi]
     have:=hf i f hfs
     rename_i hxl _
     have hxi:i<xs.length:=by omega
     exact ⟨xs[i],by rw [this]; simp [hxi]⟩
    rcases key fs.toList 0 hl.1.1 (fun f hfm=>List.all_eq_true.1 hl.1.2 f hfm) htr with ⟨h1,h2⟩ | h1
    ·simp only [List.drop_zero,Nat.zero_add] at h1 h2
     refine ⟨?_,fun i c v hc hv=>?_⟩
     ·rw [hlen]; exact Nat.eq_of_beq_eq_true hl.2
     ·have hi:i<(fs.toList.flatMap fun f=>flat P d f.type).length:=(List.getElem?_eq_some_iff.1 hc).1
      exact h2.2 i c v hc (by rw [List.getElem?_take,if_pos hi]; exact hv)
    ·omega
   | _=>cases hl

theorem open_rows {d:Nat} {t e:TypeId} {a:Option Addr} {len cap:Nat} {dd:DataW H} {ps:List MemPlace} (hu:P.underlying t=some (.slice e)) (hl:layOk P d e=true) (hc:P.cellsOf e=(flat P d e).length)
  (h:DataW.Trod enc P w base spare held t (.slice a len cap) dd ps) :
  ∃ rows:List (List Value),rows.length=len∧(∀ r∈rows,AllFit (flat P d e) r)∧len≤cap∧cap≤maxLen ∧
   ((a=none∧len=0∧cap=0∧dd=.nil)∨∃ ad elems rest,a=some ad∧dd=.slice elems rest∧elems.length=len∧base≤ad.block∧(∀ j u,rows.flatten[j]?=some u→w.cell? (ad.add j)=some u)):=by
 obtain ⟨fuel,hf⟩:=h
 rcases open_slice hu hf with ⟨h1,h2⟩ | ⟨x,l,c,m,n,D,Pl,hcs,hb,hlc,hcm,hm,hx,hel⟩
 ·simp [Value.cells] at h1
  obtain ⟨rfl,rfl,rfl⟩:=h1
  have:=(Prod.mk.inj h2).1
  exact ⟨[],rfl,by simp,Nat.le_refl _,by simp [maxLen],.inl ⟨rfl,rfl,rfl,this⟩⟩
 ·simp [Value.cells] at hcs
  obtain ⟨rfl,rfl,rfl⟩:=hcs
  have hml:len≤m:=by rw [hm]; split <;> omega
  have hrow:∀ i,i<len→∃ cs',AllFit (flat P d e) cs'∧∀ j,j<(flat P d e).length→w.cell? (x.add (i*(flat P d e).length+j))=cs'[j]?:=by
   intro i hi
   obtain ⟨cs',h1,h2⟩:=hel i (by omega)
   obtain ⟨_,h3,h4⟩:=World.cells?_some h1
   refine ⟨cs',trod_fit d hl h2,fun j hj=>?_⟩
   have:=h4 j (by omega)
   rw [hc,Alog.add_add] at this
   exact this
  have hrows:∀ k,k≤len→∃ rows:List (List Value),rows.length=k∧(∀ r∈rows,AllFit (flat P d e) r)∧rows.flatten.length=k*(flat P d e).length∧∀ j u,rows.flatten[j]?=some u→w.cell? (x.add j)=some u:=by
   intro k
   induction k with
   | zero=>intro _; exact ⟨[],rfl,by simp,by simp,fun j u hj=>by simp at hj⟩
   | succ k ih =>
    intro hk
    obtain ⟨rows,h1,h2,h3,h4⟩:=ih (by omega)
    obtain ⟨cs',h5,h6⟩:=hrow k (by omega)
    refine ⟨rows ++ [cs'],by simp [h1],?_,?_,?_⟩
    ·intro r hr
     rcases List.mem_append.1 hr with hr | hr
     ·exact h2 r hr
     ·have:r=cs':=by simpa using hr
      subst this; exact h5
    ·rw [List.flatten_append,List.length_append,h3]; simp [h5.1,Nat.succ_mul]
    ·intro j u hj
     rw [List.flatten_append] at hj
     by_cases hlt:j<rows.flatten.length
     ·rw [List.getElem?_append_left hlt] at hj; exact h4 j u hj
     ·rw [List.getElem?_append_right (by omega)] at hj
      simp only [List.flatten_cons,List.flatten_nil,List.append_nil] at hj
      have hj2:j-rows.flatten.length<(flat P d e).length:=by
       have:=(List.getElem?_eq_some_iff.1 hj).1
       rw [h5.1] at this; exact this
      have:=h6 _ hj2
      rw [hj,h3,show k*(flat P d e).length+(j-k*(flat P d e).length)=j by omega] at this
      exact this
  obtain ⟨rows,h1,h2,_,h4⟩:=hrows len (Nat.le_refl _)
  exact ⟨rows,h1,h2,hlc,hcm,.inr ⟨x,_,_,rfl,(Prod.mk.inj hx).1,by simp,hb,h4⟩⟩

theorem law_walk {P:Program} {n:FuncId} {args:Array Value} {W:World} (h:CallsA P W n args (fun b=>W.heap[b]?) (fun r _=>r=.bool true)):Calls P n args W fun e W'=>e=.returned (.bool true)∧Below W.heap.size W W':=by
 refine (h W ⟨Below.refl _ _,fun b o hb=>hb⟩).mono fun e W' ⟨r,m',he,hh,hr⟩=>⟨by rw [he,hr],hh.below⟩

theorem cell_heap {W:World} {a:Addr} {v:Value} (h:W.cell? a=some v):AM.cell (fun b=>W.heap[b]?) a=some v:=h
end
end Go.Alog

set_option linter.unusedSimpArgs false
set_option linter.unusedVariables false
namespace Go.Alog
open Go Go.RowKit

def InI (n:Int):Prop:=-9223372036854775808≤n∧n≤9223372036854775807
theorem wf_i64 {n:Int} (h:(Lit.int .i64 n).wf=true):InI n:=by
 unfold Lit.wf at h
 simp only [Bool.and_eq_true,decide_eq_true_eq] at h
 exact h

structure Ins where
  op : Int
  a : Int
  b : Int
  c : Int
  imm : Int
 deriving DecidableEq, Inhabited

def Ins.cells (i:Ins):List Value:=[.int .i64 i.op,.int .i64 i.a,.int .i64 i.b,.int .i64 i.c,.int .i64 i.imm]
abbrev Ins.val (i:Ins):Value:=.agg #[.int .i64 i.op,.int .i64 i.a,.int .i64 i.b,.int .i64 i.c,.int .i64 i.imm]
def Ins.wf (i:Ins):Prop:=InI i.op∧InI i.a∧InI i.b∧InI i.c∧InI i.imm
def insCells (l:List Ins):List Value:=l.flatMap Ins.cells
theorem insCells_len (l:List Ins):(insCells l).length=l.length*5:=by
 induction l with
 | nil=>rfl
 | cons i l ih=>simp only [insCells,List.flatMap_cons,List.length_append,List.length_cons] at ih ⊢; rw [ih]; simp [Ins.cells]; omega
theorem insCells_cons (i:Ins) (r:List Ins):insCells (i :: r)=i.cells ++ insCells r:=by simp [insCells]
theorem ins_one (i:Ins):∀ u∈i.cells,u.oneCell'=true:=by intro u hu; simp [Ins.cells] at hu; rcases hu with rfl | rfl | rfl | rfl | rfl <;> rfl
theorem insCells_one (l:List Ins):∀ u∈insCells l,u.oneCell'=true:=by
 intro u hu
 obtain ⟨i,_,hi⟩:=List.mem_flatMap.1 hu
 exact ins_one i u hi

theorem fit_int {k:IntKind} {cks:List CK} {cs:List Value} (h:AllFit cks cs) {i:Nat} (hc:cks[i]?=some (.int k)):∃ n:Int,cs[i]?=some (.int k n)∧(Lit.int k n).wf=true:=by
 have hi:i<cs.length:=by rw [h.1]; exact (List.getElem?_eq_some_iff.1 hc).1
 obtain ⟨n,h1,h2⟩:=h.2 i _ cs[i] hc (List.getElem?_eq_getElem hi)
 exact ⟨n,by rw [List.getElem?_eq_getElem hi,h1],h2⟩

theorem ins_of_fit {cs:List Value} (h:AllFit [.int .i64,.int .i64,.int .i64,.int .i64,.int .i64] cs):∃ i:Ins,cs=i.cells∧i.wf:=by
 obtain ⟨n0,e0,w0⟩:=fit_int h (i:=0) rfl
 obtain ⟨n1,e1,w1⟩:=fit_int h (i:=1) rfl
 obtain ⟨n2,e2,w2⟩:=fit_int h (i:=2) rfl
 obtain ⟨n3,e3,w3⟩:=fit_int h (i:=3) rfl
 obtain ⟨n4,e4,w4⟩:=fit_int h (i:=4) rfl
 refine ⟨⟨n0,n1,n2,n3,n4⟩,?_,wf_i64 w0,wf_i64 w1,wf_i64 w2,wf_i64 w3,wf_i64 w4⟩
 match cs,h.1 with
 | [a,b,c,d,e],_=>simp at e0 e1 e2 e3 e4; simp [Ins.cells,e0,e1,e2,e3,e4]

theorem ins_rows:∀ (rows:List (List Value)),(∀ r∈rows,AllFit [.int .i64,.int .i64,.int .i64,.int .i64,.int .i64] r)→∃ l:List Ins,rows.flatten=insCells l∧l.length=rows.length∧∀ i∈l,i.wf
 | [],_=>⟨[],rfl,rfl,by simp⟩
 | r :: rows,h=>by
  obtain ⟨i,hi,hw⟩:=ins_of_fit (h r (by simp))
  obtain ⟨l,h1,h2,h3⟩:=ins_rows rows (fun r hr=>h r (by simp [hr]))
  exact ⟨i :: l,by rw [List.flatten_cons,h1,hi,insCells_cons],by simp [h2],by simp; exact ⟨hw,h3⟩⟩

def intCells (k:IntKind) (l:List Int):List Value:=l.map (.int k)
theorem int_rows (k:IntKind):∀ (rows:List (List Value)),(∀ r∈rows,AllFit [.int k] r)→∃ l:List Int,rows.flatten=intCells k l∧l.length=rows.length∧∀ i∈l,(Lit.int k i).wf=true
 | [],_=>⟨[],rfl,rfl,by simp⟩
 | r :: rows,h=>by
  obtain ⟨n,hi,hw⟩:=fit_int (h r (by simp)) (i:=0) rfl
  obtain ⟨l,h1,h2,h3⟩:=int_rows k rows (fun r hr=>h r (by simp [hr]))
  have hr:r = [.int k n]:=by
   have:=(h r (by simp)).1
   match r,this with
   | [a],_=>simp at hi; rw [hi]
  exact ⟨n :: l,by rw [List.flatten_cons,h1,hr]; rfl,by simp [h2],by simp; exact ⟨hw,h3⟩⟩

abbrev mOf (W:World):AM:=fun b=>W.heap[b]?

end Go.Alog

set_option linter.unusedSimpArgs false
set_option linter.unusedVariables false
namespace Go.Alog
open Go Go.RowKit

theorem row_at {α:Type} {f:α→List Value} {sz:Nat} (hf:∀ x,(f x).length=sz):∀ (l:List α) (k:Nat) (x:α),l[k]?=some x→∀ j,j<sz→(l.flatMap f)[k*sz+j]?=(f x)[j]?
 | [],k,x,h,_,_=>by simp at h
 | y :: l,0,x,h,j,hj=>by
  simp at h; subst h
  rw [List.flatMap_cons,List.getElem?_append_left (by rw [hf]; omega)]
  simp
 | y :: l,k+1,x,h,j,hj=>by
  have:=row_at hf l k x (by simpa using h) j hj
  rw [List.flatMap_cons,List.getElem?_append_right (by rw [hf,Nat.succ_mul]; omega),← this]
  congr 1
  rw [hf,Nat.succ_mul]; omega

theorem row_set {α:Type} {f:α→List Value} {sz:Nat} (hf:∀ x,(f x).length=sz):∀ (l:List α) (k:Nat) (x:α),k<l.length→(l.set k x).flatMap f=(l.flatMap f).take (k*sz) ++ f x ++ (l.flatMap f).drop (k*sz+sz)
 | [],k,x,h=>by simp at h
 | y :: l,0,x,h=>by
  simp [List.flatMap_cons,← hf y]
 | y :: l,k+1,x,h=>by
  have ih:=row_set hf l k x (by simpa using h)
  rw [List.set_cons_succ,List.flatMap_cons,List.flatMap_cons,ih]
  have h1:(k+1)*sz=(f y).length+k*sz:=by rw [hf,Nat.succ_mul,Nat.add_comm]
  rw [h1,List.take_length_add_append,Nat.add_assoc,List.drop_length_add_append]
  simp [List.append_assoc]

def StL (B:Nat) (a:Addr):Nat→List Value→AM→(AM→Prop)→Prop
 | _,[],m,K=>K m
 | i,v :: vs,m,K=>StC B m (a.add i) v fun m'=>StL B a (i+1) vs m' K

theorem StL_cells {B g:Nat} {e:TypeId} {K:AM→Prop}:∀ (vs:List Value) (i o:Nat) (m:AM) (cur:Array Value),m g=some (.cells cur e (0,0))→B≤g→o+i+vs.length≤cur.size→K (m.upd g (.cells (splice cur (o+i) vs) e))→StL B ⟨g,o,none⟩ i vs m K
 | [],i,o,m,cur,hg,hB,hl,hk=>by
  rw [splice_nil,upd_self hg] at hk
  exact hk
 | v :: vs,i,o,m,cur,hg,hB,hl,hk=>by
  simp only [List.length_cons] at hl
  show StC B m ((⟨g,o,none⟩:Addr).add i) v _
  rw [addn]
  refine StC_own hg hB (by omega) ?_
  refine StL_cells vs (i+1) o _ (cur.setIfInBounds (o+i) v) (by rw [upd_get_same]) hB (by simp; omega) ?_
  rw [upd_upd,← Nat.add_assoc,splice_cons cur (o+i) v vs (by omega)]
  exact hk

theorem take_splice (cur:Array Value) (o n:Nat) (vs:List Value) (h:o+vs.length≤n) (hn:n≤cur.size):(splice cur o vs).toList.take n=(cur.toList.take n).take o ++ vs ++ (cur.toList.take n).drop (o+vs.length):=by
 unfold splice
 apply List.ext_getElem?
 intro i
 simp only [List.getElem?_take,List.getElem?_append,List.getElem?_drop,List.length_take,List.length_append,Array.length_toList]
 by_cases h1:i<n
 ·rw [if_pos h1]
  by_cases h2:i<o
  ·simp [h2,show min o cur.size=o by omega,show min o (min n cur.size)=o by omega,show i<o+vs.length by omega,show o≤n by omega,show o≤cur.size by omega,h1]
  ·by_cases h3:i<o+vs.length
   ·simp [h2,h3,show min o cur.size=o by omega,show min o (min n cur.size)=o by omega]
   ·simp [h2,h3,show min o cur.size=o by omega,show min o (min n cur.size)=o by omega,show o+vs.length+(i-(o+vs.length))=i by omega,h1]
 ·rw [if_neg h1]
  symm
  simp [show ¬ i<o by omega,show min o (min n cur.size)=o by omega,show ¬ i-o<vs.length by omega,show ¬ i<o+vs.length by omega]
  omega

theorem Own.storeL {B:Nat} {m:AM} {e:TypeId} {sz:Nat} {a:Addr} {n cp:Nat} {xs:List Value} (h:Own m B e sz (some a) n cp xs) {o:Nat} {vs:List Value} (ho:o+vs.length≤n*sz) {K:AM→Prop}
  (hK:∀ g cur,a=⟨g,0,none⟩→Own (m.upd g (.cells cur e)) B e sz (some a) n cp (xs.take o ++ vs ++ xs.drop (o+vs.length))→K (m.upd g (.cells cur e))):StL B (a.add o) 0 vs m K:=by
 obtain ⟨hl,hn,h | ⟨g,cur,h1,h2,h3,h4,h5⟩⟩:=h
 ·cases h.1
 ·injection h1 with h1
  subst h1
  have hm:n*sz≤cp*sz:=Nat.mul_le_mul_right _ hn
  rw [addn,Nat.zero_add]
  refine StL_cells vs 0 o m cur h3 h2 (by omega) ?_
  refine hK g _ rfl ⟨?_,hn,.inr ⟨g,_,rfl,h2,upd_get_same,?_,?_⟩⟩
  ·simp [hl]; omega
  ·rw [splice_size _ _ _ (by omega),h4]
  ·rw [Nat.add_zero,take_splice cur o (n*sz) vs ho (by omega),h5]

theorem Own.storeRow {α:Type} {f:α→List Value} {sz:Nat} (hf:∀ x,(f x).length=sz) {B:Nat} {m:AM} {e:TypeId} {a:Addr} {cp:Nat} {l:List α} (h:Own m B e sz (some a) l.length cp (l.flatMap f)) {k:Nat} (hk:k<l.length) (x:α) {K:AM→Prop}
  (hK:∀ g cur,a=⟨g,0,none⟩→Own (m.upd g (.cells cur e)) B e sz (some a) (l.set k x).length cp ((l.set k x).flatMap f)→K (m.upd g (.cells cur e))):StL B (a.add (k*sz)) 0 (f x) m K:=by
 refine h.storeL (by rw [hf]; calc k*sz+sz=(k+1)*sz:=(Nat.succ_mul _ _).symm
  _≤_:=Nat.mul_le_mul_right _ hk) fun g cur ha ho=>hK g cur ha ?_
 rw [row_set hf l k x hk,List.length_set]
 rw [hf] at ho
 exact ho

theorem Cells.at {α:Type} {f:α→List Value} {sz:Nat} (hf:∀ x,(f x).length=sz) {m:AM} {a:Addr} {l:List α} (h:Cells m a (l.flatMap f)) {k:Nat} {x:α} (hk:l[k]?=some x) {j:Nat} (hj:j<sz):m.cell (a.add (k*sz+j))=(f x)[j]?:=by
 have h1:=row_at hf l k x hk j hj
 rw [List.getElem?_eq_getElem (show j<(f x).length by rw [hf]; exact hj)] at h1 ⊢
 exact h _ _ h1

theorem Ins.len (i:Ins):i.cells.length=5:=rfl

theorem Cells.ins {m:AM} {a:Addr} {l:List Ins} (h:Cells m a (insCells l)) {k:Nat} {x:Ins} (hk:l[k]?=some x) :
  m.cell (a.add (k*5))=some (.int .i64 x.op)∧m.cell ((a.add (k*5)).add 1)=some (.int .i64 x.a)∧m.cell ((a.add (k*5)).add 2)=some (.int .i64 x.b)∧m.cell ((a.add (k*5)).add 3)=some (.int .i64 x.c)∧m.cell ((a.add (k*5)).add 4)=some (.int .i64 x.imm):=by
 simp only [add_add]
 exact ⟨Cells.at Ins.len h hk (j:=0) (by omega),Cells.at Ins.len h hk (j:=1) (by omega),Cells.at Ins.len h hk (j:=2) (by omega),Cells.at Ins.len h hk (j:=3) (by omega),Cells.at Ins.len h hk (j:=4) (by omega)⟩

theorem bcase_t {X Y:Prop}:bcase true X Y=X:=rfl
theorem bcase_f {X Y:Prop}:bcase false X Y=Y:=rfl
theorem upd_get {m:AM} {b k:Nat} {o:Obj}:(m.upd b o) k=if k=b then some o else m k:=by simp [AM.upd]

theorem StC_upd {B:Nat} {m:AM} {b k:Nat} {c:Array Value} {t:TypeId} {v:Value} {K:AM→Prop}:StC B (m.upd b (.cells c t)) ⟨b,k,none⟩ v K↔B≤b∧k<c.size∧K (m.upd b (.cells (c.setIfInBounds k v) t)):=by
 unfold StC
 rw [set_upd_same,frozen_upd_same,cell_upd_same]
 constructor
 ·rintro ⟨h1,⟨u,h2⟩,_,h3⟩
  exact ⟨h1,(Array.getElem?_eq_some_iff.1 h2).1,h3⟩
 ·rintro ⟨h1,h2,h3⟩
  exact ⟨h1,⟨_,Array.getElem?_eq_getElem h2⟩,rfl,h3⟩
abbrev KI_:Prop:=IntKind.i64=IntKind.i64
abbrev LI_ (m:AM) (b k:Nat) (K:Int→Prop):Prop:=∃ i:Int,m.cell ⟨b,k,none⟩=some (.int .i64 i)∧K i
abbrev LB_ (m:AM) (b k:Nat) (K:Bool→Prop):Prop:=∃ i:Bool,m.cell ⟨b,k,none⟩=some (.bool i)∧K i
abbrev LA_ (m:AM) (a:Addr) (K:Int→Prop):Prop:=∃ i:Int,m.cell a=some (.int .i64 i)∧K i
abbrev SI_ (B:Nat) (m:AM) (b k:Nat) (x:Int) (K:AM→Prop):Prop:=StC B m ⟨b,k,none⟩ (.int .i64 x) K
abbrev pt_ (b:Nat):Value:=.pointer (some ⟨b,0,none⟩)
theorem std_all :
  (∀ {m:AM} {b:Nat} {c:Array Value} {t:TypeId} {f:Nat × Nat} {k:Nat},(m.upd b (.cells c t f)).cell ⟨b,k,none⟩=c[k]?) ∧
  (∀ {m:AM} {b:Nat} {o:Obj} {a:Addr},a.block≠b→(m.upd b o).cell a=m.cell a) ∧
  (∀ {α:Type} (a b:α),(a≠b)=¬ a=b)∧((¬ False)=True) ∧
  (∀ (l:List Value) (i:Nat),l.toArray[i]?=l[i]?) ∧
  (∀ (a:Value) (l:List Value),(a :: l)[0]?=some a)∧(∀ (a:Value) (l:List Value) (i:Nat),(a :: l)[i+1]?=l[i]?) ∧
  (∀ {α:Type} (a b:α),(some a=some b)=(a=b)) ∧
  (∀ (k k':IntKind) (a b:Int),(Value.int k a=.int k' b)=(k=k'∧a=b)) ∧
  (∀ (A B:Option Addr) (n c n' c':Nat),(Value.slice A n c=.slice B n' c')=(A=B∧n=n'∧c=c')) ∧
  (∀ (a b:Bool),(Value.bool a=.bool b)=(a=b))∧(∀ (a b:Option Addr),(Value.pointer a=.pointer b)=(a=b)) ∧
  (∀ (a b:Array Value),(Value.tuple a=.tuple b)=(a=b))∧(∀ (a b:List Value),(Array.mk a=Array.mk b)=(a=b)) ∧
  (∀ (a b:Value) (l r:List Value),(a :: l=b :: r)=(a=b∧l=r)) ∧
  (∀ (p:Prop),(True∧p)=p)∧(∀ (p:Prop),(p∧True)=p) ∧
  (∀ {α:Type} {p:α→Prop} {a:α},(∃ x,a=x∧p x)↔p a)∧(∀ {α:Type} {a:α},∃ x,a=x)∧(∀ {α:Type} {a:α},∃ x,x=a) ∧
  (∀ {α:Type} {p:α→Prop} {b:Prop},(∃ x,b∧p x)↔b∧∃ x,p x)∧(∀ {α:Type} {p:α→Prop} {b:Prop},(∃ x,p x∧b)↔(∃ x,p x)∧b) ∧
  (∀ {a b c:Prop},(a∧b)∧c↔a∧b∧c) :=
 ⟨cell_upd_same,fun h=>cell_upd_ne h,fun _ _=>rfl,not_false_eq_true,fun _ _=>List.getElem?_toArray,fun _ _=>rfl,fun _ _ _=>rfl,fun a b=>Option.some.injEq a b,fun k k' a b=>Value.int.injEq k a k' b,fun A B n c n' c'=>Value.slice.injEq A n c B n' c',fun a b=>Value.bool.injEq a b,fun a b=>Value.pointer.injEq a b,fun a b=>Value.tuple.injEq a b,fun a b=>Array.mk.injEq a b,fun a b l r=>List.cons.injEq a l b r,true_and,and_true,exists_eq_left',exists_eq',exists_eq,exists_and_left,exists_and_right,and_assoc⟩
theorem sto_all :
  (∀ {X Y:Prop},bcase true X Y=X)∧(∀ {X Y:Prop},bcase false X Y=Y)∧(∀ {α:Type} (a b:α),cond true a b=a)∧(∀ {α:Type} (a b:α),cond false a b=b) ∧
  (∀ {B:Nat} {m:AM} {b k:Nat} {c:Array Value} {t:TypeId} {v:Value} {K:AM→Prop},StC B (m.upd b (.cells c t)) ⟨b,k,none⟩ v K↔B≤b∧k<c.size∧K (m.upd b (.cells (c.setIfInBounds k v) t))) ∧
  (∀ {a:Addr} {K:Addr→Prop},nilO (some a) K=K a) ∧
  (∀ (l:List Value) (i:Nat) (a:Value),l.toArray.setIfInBounds i a=(l.set i a).toArray)∧(∀ (a b:Value) (l:List Value),(a :: l).set 0 b=b :: l)∧(∀ (a b:Value) (l:List Value) (n:Nat),(a :: l).set (n+1) b=a :: l.set n b) ∧
  (∀ (l:List Value),l.toArray.size=l.length)∧(∀ (a:Value) (l:List Value),(a :: l).length=l.length+1)∧(([]:List Value).length=0) :=
 ⟨bcase_t,bcase_f,fun _ _=>rfl,fun _ _=>rfl,StC_upd,nilO_some,fun _ _ _=>List.setIfInBounds_toArray ..,fun _ _ _=>rfl,fun _ _ _ _=>rfl,fun _=>rfl,fun _ _=>rfl,rfl⟩
end Go.Alog

