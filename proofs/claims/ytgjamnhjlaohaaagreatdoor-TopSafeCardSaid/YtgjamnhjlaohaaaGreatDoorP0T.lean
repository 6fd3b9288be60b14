/- YtgjamnhjlaohaaaGreatDoor: a text of our own, by an AI agent -/
import Derived.Test.YtgjamnhjlaohaaaGreatDoorProg
import Derived.Shelf.Strings.Fields
import Derived.Shelf.Small.Strs
import Derived.Shelf.Strings.Prefix
import Derived.Shelf.Slices.Turned
import Derived.Shelf.GgClosure.StringsIndexFuncTop
import Derived.WalkKit
import Derived.ProofKit
import Derived.OpenShut
import Derived.ChangeOld
import Derived.Below
import Derived.SizedLaws
import Derived.Deep.Slices
import Derived.ChangeSame
import Derived.Lib.SmallJoins
import Derived.ChangeSlices
import Derived.KernelRfl
set_option linter.unusedSectionVars false
set_option linter.unusedVariables false
set_option linter.unusedSimpArgs false
namespace Go.Proofs
open Go Go.RowKit Go.Shelf
def Tryz.lFields_ren:Go.Shelf.Ren:=⟨fun | 157=>170 | 229=>194 | 199=>195 | 261=>207 | 311=>211 | 312=>212 | n=>n,fun | 9=>9 | 31=>22 | 3=>3 | 5=>5 | 4=>4 | 119=>240 | 0=>0 | 40=>161 | 152=>252 | 21=>21 | 154=>254 | 51=>233 | 141=>256 | 196=>263 | 193=>260 | 198=>266 | 49=>264 | 194=>261 | 201=>269 | 226=>271 | 46=>206 | 227=>272 | n=>n,fun | 0=>1 | 6=>2 | n=>n⟩
theorem Tryz.lFields:Go.Proofs.Lays.n157 Tryz.prog Tryz.lFields_ren where
 mixed:=by kernel_rfl
 f157:=Tryz.func170.trans (congrArg some (by kernel_rfl))
 f199:=Tryz.func195.trans (congrArg some (by kernel_rfl))
 f229:=Tryz.func194.trans (congrArg some (by kernel_rfl))
 f261:=Tryz.func207.trans (congrArg some (by kernel_rfl))
 f311:=Tryz.func211.trans (congrArg some (by kernel_rfl))
 f312:=Tryz.func212.trans (congrArg some (by kernel_rfl))
 t0:=Tryz.underlying0
 a0:=Tryz.isAgg0
 z0:=Tryz.sizeOf0
 v0:=Tryz.zeroValue0
 t3:=Tryz.underlying3
 a3:=Tryz.isAgg3
 z3:=Tryz.sizeOf3
 v3:=Tryz.zeroValue3
 t4:=Tryz.underlying4
 a4:=Tryz.isAgg4
 z4:=Tryz.sizeOf4
 v4:=Tryz.zeroValue4
 t5:=Tryz.underlying5
 a5:=Tryz.isAgg5
 z5:=Tryz.sizeOf5
 v5:=Tryz.zeroValue5
 t9:=Tryz.underlying9
 a9:=Tryz.isAgg9
 z9:=Tryz.sizeOf9
 v9:=Tryz.zeroValue9
 t21:=Tryz.underlying21
 a21:=Tryz.isAgg21
 z21:=Tryz.sizeOf21
 v21:=Tryz.zeroValue21
 t31:=Tryz.underlying22
 a31:=Tryz.isAgg22
 z31:=Tryz.sizeOf22
 v31:=Tryz.zeroValue22
 t40:=Tryz.underlying161
 a40:=Tryz.isAgg161
 z40:=Tryz.sizeOf161
 v40:=Tryz.zeroValue161
 t46:=Tryz.underlying206
 a46:=Tryz.isAgg206
 z46:=Tryz.sizeOf206
 v46:=Tryz.zeroValue206
 t49:=Tryz.underlying264
 a49:=Tryz.isAgg264
 z49:=Tryz.sizeOf264
 v49:=Tryz.zeroValue264
 t51:=Tryz.underlying233
 a51:=Tryz.isAgg233
 z51:=Tryz.sizeOf233
 v51:=Tryz.zeroValue233
 t119:=Tryz.underlying240
 a119:=Tryz.isAgg240
 z119:=Tryz.sizeOf240
 t141:=Tryz.underlying256
 a141:=Tryz.isAgg256
 z141:=Tryz.sizeOf256
 v141:=Tryz.zeroValue256
 t152:=Tryz.underlying252
 a152:=Tryz.isAgg252
 z152:=Tryz.sizeOf252
 v152:=Tryz.zeroValue252
 t154:=Tryz.underlying254
 a154:=Tryz.isAgg254
 z154:=Tryz.sizeOf254
 v154:=Tryz.zeroValue254
 t193:=Tryz.underlying260
 a193:=Tryz.isAgg260
 z193:=Tryz.sizeOf260
 v193:=Tryz.zeroValue260
 t194:=Tryz.underlying261
 a194:=Tryz.isAgg261
 z194:=Tryz.sizeOf261
 v194:=Tryz.zeroValue261
 t196:=Tryz.underlying263
 a196:=Tryz.isAgg263
 z196:=Tryz.sizeOf263
 v196:=Tryz.zeroValue263
 t198:=Tryz.underlying266
 a198:=Tryz.isAgg266
 z198:=Tryz.sizeOf266
 v198:=Tryz.zeroValue266
 t201:=Tryz.underlying269
 a201:=Tryz.isAgg269
 z201:=Tryz.sizeOf269
 v201:=Tryz.zeroValue269
 t226:=Tryz.underlying271
 a226:=Tryz.isAgg271
 z226:=Tryz.sizeOf271
 v226:=Tryz.zeroValue271
 t227:=Tryz.underlying272
 a227:=Tryz.isAgg272
 z227:=Tryz.sizeOf272
 v227:=Tryz.zeroValue272
 g0:=by kernel_rfl
 g6:=by kernel_rfl
def Tryz.lIndexByte_ren:Go.Shelf.Ren:=⟨fun | 137=>44 | 217=>88 | 266=>136 | n=>n,fun | 9=>9 | 5=>5 | 3=>3 | n=>n,fun | n=>n⟩
theorem Tryz.lIndexByte:Go.Proofs.Lays.n137 Tryz.prog Tryz.lIndexByte_ren where
 mixed:=by kernel_rfl
 f137:=Tryz.func44.trans (congrArg some (by kernel_rfl))
 f217:=Tryz.func88.trans (congrArg some (by kernel_rfl))
 f266:=Tryz.func136.trans (congrArg some (by kernel_rfl))
 t3:=Tryz.underlying3
 a3:=Tryz.isAgg3
 z3:=Tryz.sizeOf3
 v3:=Tryz.zeroValue3
 t5:=Tryz.underlying5
 a5:=Tryz.isAgg5
 z5:=Tryz.sizeOf5
 v5:=Tryz.zeroValue5
 t9:=Tryz.underlying9
 a9:=Tryz.isAgg9
 z9:=Tryz.sizeOf9
 v9:=Tryz.zeroValue9
def Tryz.lHasPrefix_ren:Go.Shelf.Ren:=⟨fun | 99=>137 | 206=>168 | n=>n,fun | 9=>9 | 4=>4 | 3=>3 | n=>n,fun | n=>n⟩
theorem Tryz.lHasPrefix:Go.Proofs.Lays.n99 Tryz.prog Tryz.lHasPrefix_ren where
 mixed:=by kernel_rfl
 f99:=Tryz.func137.trans (congrArg some (by kernel_rfl))
 f206:=Tryz.func168.trans (congrArg some (by kernel_rfl))
 t3:=Tryz.underlying3
 a3:=Tryz.isAgg3
 z3:=Tryz.sizeOf3
 v3:=Tryz.zeroValue3
 t4:=Tryz.underlying4
 a4:=Tryz.isAgg4
 z4:=Tryz.sizeOf4
 v4:=Tryz.zeroValue4
 t9:=Tryz.underlying9
 a9:=Tryz.isAgg9
 z9:=Tryz.sizeOf9
 v9:=Tryz.zeroValue9
def Tryz.lContains_ren:Go.Shelf.Ren:=⟨fun | 110=>138 | 109=>169 | n=>n,fun | 31=>22 | 9=>9 | 4=>4 | 3=>3 | 0=>0 | n=>n,fun | n=>n⟩
theorem Tryz.lContains:Go.Proofs.Lays.n110 Tryz.prog Tryz.lContains_ren where
 mixed:=by kernel_rfl
 f109:=Tryz.func169.trans (congrArg some (by kernel_rfl))
 f110:=Tryz.func138.trans (congrArg some (by kernel_rfl))
 t0:=Tryz.underlying0
 a0:=Tryz.isAgg0
 z0:=Tryz.sizeOf0
 v0:=Tryz.zeroValue0
 t3:=Tryz.underlying3
 a3:=Tryz.isAgg3
 z3:=Tryz.sizeOf3
 v3:=Tryz.zeroValue3
 t4:=Tryz.underlying4
 a4:=Tryz.isAgg4
 z4:=Tryz.sizeOf4
 v4:=Tryz.zeroValue4
 t9:=Tryz.underlying9
 a9:=Tryz.isAgg9
 z9:=Tryz.sizeOf9
 v9:=Tryz.zeroValue9
 t31:=Tryz.underlying22
 a31:=Tryz.isAgg22
 z31:=Tryz.sizeOf22
 v31:=Tryz.zeroValue22
def Tryz.lIndexFunc_ren:Go.Shelf.Ren:=⟨fun | 15=>104 | 20=>156 | n=>n,fun | 9=>9 | 23=>161 | 3=>3 | 4=>4 | 0=>0 | 21=>21 | n=>n,fun | n=>n⟩
theorem Tryz.lIndexFunc:Go.Proofs.LaysGw.n15 Tryz.prog Tryz.lIndexFunc_ren where
 mixed:=by kernel_rfl
 f15:=Tryz.func104.trans (congrArg some (by kernel_rfl))
 f20:=Tryz.func156.trans (congrArg some (by kernel_rfl))
 t0:=Tryz.underlying0
 a0:=Tryz.isAgg0
 z0:=Tryz.sizeOf0
 v0:=Tryz.zeroValue0
 i0:=by kernel_rfl
 t3:=Tryz.underlying3
 a3:=Tryz.isAgg3
 z3:=Tryz.sizeOf3
 v3:=Tryz.zeroValue3
 i3:=by kernel_rfl
 t4:=Tryz.underlying4
 a4:=Tryz.isAgg4
 z4:=Tryz.sizeOf4
 v4:=Tryz.zeroValue4
 i4:=by kernel_rfl
 t9:=Tryz.underlying9
 a9:=Tryz.isAgg9
 z9:=Tryz.sizeOf9
 v9:=Tryz.zeroValue9
 i9:=by kernel_rfl
 t21:=Tryz.underlying21
 a21:=Tryz.isAgg21
 z21:=Tryz.sizeOf21
 v21:=Tryz.zeroValue21
 i21:=by kernel_rfl
 t23:=Tryz.underlying161
 a23:=Tryz.isAgg161
 z23:=Tryz.sizeOf161
 v23:=Tryz.zeroValue161
 i23:=by kernel_rfl
end Go.Proofs
namespace Go.Alog
open Go Go.RowKit
abbrev AM:=Nat->Option Obj
def AM.cell (m:AM) (a:Addr):Option Value :=
 match m a.block with
 | some (.cells c _ _)=>if a.spot.isSome then none else c[a.off]?
 | _=>none
def AM.frozen (m:AM) (a:Addr):Bool :=
 match m a.block with
 | some (.cells _ _ (lo,hi))=>lo<=a.off && a.off<hi
 | _=>false
def AM.upd (m:AM) (b:Nat) (o:Obj):AM:=fun x=>if x=b then some o else m x
def AM.set (m:AM) (a:Addr) (v:Value):AM :=
 match m a.block with
 | some (.cells c t f)=>m.upd a.block (.cells (if a.spot.isSome then c else c.setIfInBounds a.off v) t f)
 | _=>m
def AM.le (m m':AM):Prop:=∀ b o,m b=some o->m' b=some o
def shapeOf:Obj->Option (TypeId × Nat)
 | .cells c e _=>some (e,c.size)
 | _=>none
def notCells:Obj->Prop
 | .cells ..=>False
 | _=>True
structure Holds (w0 w:World) (m:AM):Prop where
 below:Below w0.heap.size w0 w
 has:∀ b o,m b=some o->w.heap[b]?=some o
theorem Holds.mono {w0 w:World} {m m':AM} (h:Holds w0 w m) (hl:m'.le m):Holds w0 w m':=⟨h.below,fun b o hb=>h.has b o (hl b o hb)⟩
theorem Holds.drawn {w0 w:World} {m:AM} (h:Holds w0 w m) (n:Nat):Holds w0 { w with drawn:=n } m:=⟨⟨h.below.os,h.below.tape,h.below.output,h.below.size,h.below.block⟩,h.has⟩
theorem Holds.cell {w0 w:World} {m:AM} (h:Holds w0 w m) {a:Addr} {v:Value} (hc:m.cell a=some v):w.cell? a=some v:=by
 unfold AM.cell at hc
 unfold World.cell?
 cases hm:m a.block with
 | none=>rw [hm] at hc; cases hc
 | some o=>rw [hm] at hc; rw [h.has _ _ hm]; exact hc
theorem Holds.frozen {w0 w:World} {m:AM} (h:Holds w0 w m) {a:Addr} {v:Value} (hc:m.cell a=some v):w.frozen? a=m.frozen a:=by
 unfold AM.cell at hc
 unfold World.frozen? AM.frozen
 cases hm:m a.block with
 | none=>rw [hm] at hc; cases hc
 | some o=>rw [h.has _ _ hm]; cases o <;> rfl
theorem heap_modify_get (w:World) (f:Obj->Obj) (b k:Nat):({ w with heap:=w.heap.modify b f }:World).heap[k]?=if k=b then (w.heap[b]?).map f else w.heap[k]?:=by
 show (w.heap.modify b f)[k]?=_
 rw [Array.getElem?_modify]
 by_cases h:b=k
 .subst h; simp
 .rw [if_neg h,if_neg (Ne.symm h)]
theorem Holds.set {w0 w:World} {m:AM} (h:Holds w0 w m) {a:Addr} (ha:w0.heap.size<=a.block) (v:Value):Holds w0 (w.setCell a v) (m.set a v):=by
 refine ⟨h.below.setCell ha v,fun b o hb=>?_⟩
 unfold AM.set at hb
 unfold World.setCell
 rw [heap_modify_get]
 cases hm:m a.block with
 | none =>
  rw [hm] at hb
  by_cases hba:b=a.block
  .subst hba; exact absurd (hm.symm.trans hb) (by simp)
  .rw [if_neg hba]; exact h.has _ _ hb
 | some o' =>
  rw [hm] at hb
  have hw:=h.has _ _ hm
  by_cases hba:b=a.block
  .subst hba
   rw [if_pos rfl,hw]
   cases o' <;> simp_all [AM.upd]
  .rw [if_neg hba]
   cases o' <;> simp [AM.upd,hba] at hb <;> exact h.has _ _ hb
theorem Holds.new {w0 w:World} {m:AM} (h:Holds w0 w m) (o:Obj):Holds w0 { w with heap:=w.heap.push o } (m.upd w.heap.size o):=by
 refine ⟨h.below.alloc (by exact h.below.size) o,fun b o' hb=>?_⟩
 unfold AM.upd at hb
 show (w.heap.push o)[b]?=_
 rw [Array.getElem?_push]
 by_cases hbs:b=w.heap.size
 .rw [if_pos hbs] at hb; rw [if_pos hbs]; exact hb
 .rw [if_neg hbs] at hb; rw [if_neg hbs]; exact h.has _ _ hb
theorem Holds.free {w0 w:World} {m:AM} (h:Holds w0 w m):m w.heap.size=none:=by
 cases hm:m w.heap.size with
 | none=>rfl
 | some o =>
  have:=h.has _ _ hm
  simp at this
theorem Holds.setObj {w0 w:World} {m:AM} (h:Holds w0 w m) {r:Nat} (hr:w0.heap.size<=r) {o':Obj} (hm:m r=some o') (o:Obj):Holds w0 { w with heap:=w.heap.setIfInBounds r o } (m.upd r o):=by
 have hlt:r<w.heap.size:=by have:=h.has _ _ hm; exact (Array.getElem?_eq_some_iff.1 this).1
 refine ⟨⟨h.below.os,h.below.tape,h.below.output,by simpa using h.below.size,fun k hk=>?_⟩,fun b o1 hb=>?_⟩
 .show (w.heap.setIfInBounds r o)[k]?=_
  rw [Array.getElem?_setIfInBounds_ne (by omega)]
  exact h.below.block k hk
 .show (w.heap.setIfInBounds r o)[b]?=_
  unfold AM.upd at hb
  by_cases hbr:b=r
  .subst hbr
   rw [if_pos rfl] at hb
   injection hb with hb
   subst hb
   simp [hlt]
  .rw [if_neg hbr] at hb
   rw [Array.getElem?_setIfInBounds_ne (Ne.symm hbr)]
   exact h.has _ _ hb
def frzR (f:Nat × Nat) (a:Addr) (n:Nat):Nat × Nat:=if f.1 == f.2 then (a.off,a.off+n) else (min f.1 a.off,max f.2 (a.off+n))
theorem Holds.frz {w0 w:World} {m:AM} (h:Holds w0 w m) {a:Addr} {n:Nat} {c:Array Value} {e:TypeId} {f:Nat × Nat} (hn:n≠0) (ha:w0.heap.size<=a.block) (hm:m a.block=some (.cells c e f)) :
  Holds w0 (w.freeze a n) (m.upd a.block (.cells c e (frzR f a n))):=by
 have hw:=h.has _ _ hm
 unfold World.freeze
 rw [if_neg hn]
 refine ⟨⟨h.below.os,h.below.tape,h.below.output,by simpa using h.below.size,fun k hk=>?_⟩,fun b o hb=>?_⟩
 .rw [heap_modify_get,if_neg (by omega)]
  exact h.below.block k hk
 .rw [heap_modify_get]
  unfold AM.upd at hb
  by_cases e:b=a.block
  .subst e
   rw [if_pos rfl] at hb
   rw [if_pos rfl,hw]
   rw [<- hb]; rfl
  .rw [if_neg e] at hb
   rw [if_neg e]; exact h.has _ _ hb
def awp (P:Program) (B:Nat) {α:Type}:Sem α->AM->(α->AM->Prop)->Prop
 | .pure x,m,K=>K x m
 | .load _ a k,m,K=>∃ v,m.cell a=some v/\awp P B (k v) m K
 | .store _ a v k,m,K=>v.oneCell'=true/\B<=a.block/\(∃ u,m.cell a=some u)/\m.frozen a=false/\awp P B k (m.set a v) K
 | .new o k,m,K=>∀ b,B<=b->m b=none->awp P B (k b) (m.upd b o) K
 | .shape r k,m,K=>∃ o,m r=some o/\awp P B (k (shapeOf o)) m K
 | .getObj r k,m,K=>∃ o,m r=some o/\notCells o/\awp P B (k o) m K
 | .setObj r o k,m,K=>B<=r/\(∃ o',m r=some o'/\notCells o')/\awp P B k (m.upd r o) K
 | .frozen a k,m,K=>(∃ o,m a.block=some o)/\awp P B (k (m.frozen a)) m K
 | .choose q k,m,K=>(q.forced=true->awp P B (k 0) m K)/\(q.forced=false->∀ t,awp P B (k (q.cut t)) m K)
 | .program k,m,K=>awp P B (k P) m K
 | .mark _ k,m,K=>awp P B k m K
 | .freeze a n k,m,K=>n≠0/\B<=a.block/\∃ c e f,m a.block=some (.cells c e f)/\awp P B k (m.upd a.block (.cells c e (frzR f a n))) K
 | .sys ..,_,_=>False
 | .halt _,_,_=>False
theorem oneCell_store {α:Type} (P:Program) (m:Mode) (a:Addr) (v:Value) (k:Sem α) (w:World) (hv:v.oneCell'=true) {u:Value} (hc:w.cell? a=some u) (hf:w.frozen? a=false) :
  (Sem.store m a v k).run P w=k.run P (w.setCell a v):=by
 cases v <;> first | (simp [Value.oneCell'] at hv; done) | simp [Sem.run,hc,hf]
theorem awp_run {P:Program} {w0:World} {α:Type} (s:Sem α):∀ (w:World) (m:AM) (K:α->AM->Prop),Holds w0 w m->awp P w0.heap.size s m K ->
  ∃ x w' m',s.run P w=.ok x w'/\Holds w0 w' m'/\K x m':=by
 induction s with
 | pure x=>intro w m K h hk; exact ⟨x,w,m,rfl,h,hk⟩
 | load md a k ih =>
  intro w m K h hk
  obtain ⟨v,hc,hk⟩:=hk
  obtain ⟨x,w',m',hr,hh,hK⟩:=ih v w m K h hk
  exact ⟨x,w',m',by simp only [Sem.run,h.cell hc]; exact hr,hh,hK⟩
 | store md a v k ih =>
  intro w m K h hk
  obtain ⟨hv,hB,⟨u,hc⟩,hf,hk⟩:=hk
  obtain ⟨x,w',m',hr,hh,hK⟩:=ih _ _ K (h.set hB v) hk
  refine ⟨x,w',m',?_,hh,hK⟩
  rw [oneCell_store P md a v k w hv (h.cell hc) ((h.frozen hc).trans hf)]
  exact hr
 | new o k ih =>
  intro w m K h hk
  obtain ⟨x,w',m',hr,hh,hK⟩:=ih _ _ _ K (h.new o) (hk w.heap.size h.below.size h.free)
  exact ⟨x,w',m',by simp only [Sem.run]; exact hr,hh,hK⟩
 | shape r k ih =>
  intro w m K h hk
  obtain ⟨o,ho,hk⟩:=hk
  obtain ⟨x,w',m',hr,hh,hK⟩:=ih _ w m K h hk
  refine ⟨x,w',m',?_,hh,hK⟩
  have:w.shape? r=shapeOf o:=by unfold World.shape?; rw [h.has _ _ ho]; cases o <;> rfl
  simp only [Sem.run,this]; exact hr
 | freeze a n k ih =>
  intro w m K h hk
  obtain ⟨hn,hB,c,e,f,hm,hk⟩:=hk
  obtain ⟨x,w',m',hr,hh,hK⟩:=ih _ _ K (h.frz hn hB hm) hk
  exact ⟨x,w',m',by simp only [Sem.run]; exact hr,hh,hK⟩
 | frozen a k ih =>
  intro w m K h hk
  obtain ⟨⟨o,ho⟩,hk⟩:=hk
  obtain ⟨x,w',m',hr,hh,hK⟩:=ih _ w m K h hk
  refine ⟨x,w',m',?_,hh,hK⟩
  have:w.frozen? a=m.frozen a:=by unfold World.frozen? AM.frozen; rw [h.has _ _ ho,ho]; cases o <;> rfl
  simp only [Sem.run,this]; exact hr
 | getObj r k ih =>
  intro w m K h hk
  obtain ⟨o,ho,hn,hk⟩:=hk
  obtain ⟨x,w',m',hr,hh,hK⟩:=ih _ w m K h hk
  refine ⟨x,w',m',?_,hh,hK⟩
  simp only [Sem.run,h.has _ _ ho]
  cases o <;> first | exact hr | exact hn.elim
 | setObj r o k ih =>
  intro w m K h hk
  obtain ⟨hB,⟨o',ho,hn⟩,hk⟩:=hk
  obtain ⟨x,w',m',hr,hh,hK⟩:=ih _ _ K (h.setObj hB ho o) hk
  refine ⟨x,w',m',?_,hh,hK⟩
  simp only [Sem.run,h.has _ _ ho]
  cases o' <;> first | exact hr | exact hn.elim
 | choose q k ih =>
  intro w m K h hk
  cases hq:q.forced with
  | true =>
   obtain ⟨x,w',m',hr,hh,hK⟩:=ih _ w m K h (hk.1 hq)
   exact ⟨x,w',m',by simp only [Sem.run,hq,if_true]; exact hr,hh,hK⟩
  | false =>
   obtain ⟨x,w',m',hr,hh,hK⟩:=ih _ { w with drawn:=w.drawn+1 } m K (h.drawn _) (hk.2 hq (w.tape w.drawn q))
   exact ⟨x,w',m',by simp only [Sem.run,hq,Bool.false_eq_true,if_false]; exact hr,hh,hK⟩
 | sys c k ih=>intro w m K h hk; exact hk.elim
 | program k ih =>
  intro w m K h hk
  obtain ⟨x,w',m',hr,hh,hK⟩:=ih _ w m K h hk
  exact ⟨x,w',m',by simp only [Sem.run]; exact hr,hh,hK⟩
 | mark mk k ih =>
  intro w m K h hk
  obtain ⟨x,w',m',hr,hh,hK⟩:=ih w m K h hk
  exact ⟨x,w',m',by simp only [Sem.run]; exact hr,hh,hK⟩
 | halt hh=>intro w m K h hk; exact hk.elim
theorem awp_mono {P:Program} {B:Nat} {α:Type} (s:Sem α):∀ (m:AM) (K K':α->AM->Prop),(∀ x m',K x m'->K' x m')->awp P B s m K->awp P B s m K':=by
 induction s with
 | pure x=>intro m K K' h hk; exact h _ _ hk
 | load md a k ih=>intro m K K' h ⟨v,hc,hk⟩; exact ⟨v,hc,ih v m K K' h hk⟩
 | store md a v k ih=>intro m K K' h ⟨h1,h2,h3,h4,hk⟩; exact ⟨h1,h2,h3,h4,ih _ K K' h hk⟩
 | new o k ih=>intro m K K' h hk b hb hf; exact ih b _ K K' h (hk b hb hf)
 | shape r k ih=>intro m K K' h ⟨o,ho,hk⟩; exact ⟨o,ho,ih _ m K K' h hk⟩
 | freeze a n k ih=>intro m K K' h ⟨h1,h2,c,e,f,h3,hk⟩; exact ⟨h1,h2,c,e,f,h3,ih _ K K' h hk⟩
 | frozen a k ih=>intro m K K' h ⟨ho,hk⟩; exact ⟨ho,ih _ m K K' h hk⟩
 | getObj r k ih=>intro m K K' h ⟨o,ho,hn,hk⟩; exact ⟨o,ho,hn,ih _ m K K' h hk⟩
 | setObj r o k ih=>intro m K K' h ⟨h1,h2,hk⟩; exact ⟨h1,h2,ih _ K K' h hk⟩
 | choose q k ih=>intro m K K' h ⟨h1,h2⟩; exact ⟨fun hq=>ih _ m K K' h (h1 hq),fun hq t=>ih _ m K K' h (h2 hq t)⟩
 | sys c k ih=>intro m K K' h hk; exact hk.elim
 | program k ih=>intro m K K' h hk; exact ih _ m K K' h hk
 | mark mk k ih=>intro m K K' h hk; exact ih m K K' h hk
 | halt hh=>intro m K K' h hk; exact hk.elim
theorem awp_bind {P:Program} {B:Nat} {α β:Type} (s:Sem α) (f:α->Sem β):∀ (m:AM) (K:β->AM->Prop),awp P B (s.bind f) m K↔awp P B s m (fun x m'=>awp P B (f x) m' K):=by
 induction s with
 | pure x=>intro m K; exact Iff.rfl
 | load md a k ih=>intro m K; simp only [Sem.bind,awp,ih]
 | store md a v k ih=>intro m K; simp only [Sem.bind,awp,ih]
 | new o k ih=>intro m K; simp only [Sem.bind,awp,ih]
 | shape r k ih=>intro m K; simp only [Sem.bind,awp,ih]
 | freeze a n k ih=>intro m K; simp only [Sem.bind,awp,ih]
 | frozen a k ih=>intro m K; simp only [Sem.bind,awp,ih]
 | getObj r k ih=>intro m K; simp only [Sem.bind,awp,ih]
 | setObj r o k ih=>intro m K; simp only [Sem.bind,awp,ih]
 | choose q k ih=>intro m K; simp only [Sem.bind,awp,ih]
 | sys c k ih=>intro m K; simp only [Sem.bind,awp]
 | program k ih=>intro m K; simp only [Sem.bind,awp,ih]
 | mark mk k ih=>intro m K; simp only [Sem.bind,awp,ih]
 | halt hh=>intro m K; simp only [Sem.bind,awp]
def pval (P:Program) {α:Type}:Sem α->Option α
 | .pure x=>some x
 | .program k=>pval P (k P)
 | .mark _ k=>pval P k
 | _=>none
def rval (P:Program) (m:AM) {α:Type}:Sem α->Option α
 | .pure x=>some x
 | .program k=>rval P m (k P)
 | .mark _ k=>rval P m k
 | .load _ a k=>match m.cell a with | some v=>rval P m (k v) | none=>none
 | .shape r k=>match m r with | some o=>rval P m (k (shapeOf o)) | none=>none
 | .getObj r k=>match m r with | some (.cells ..)=>none | some o=>rval P m (k o) | none=>none
 | _=>none
theorem pval_run {P:Program} {α:Type} (s:Sem α):∀ {x:α},pval P s=some x->∀ w,s.run P w=.ok x w:=by
 induction s with
 | pure x=>intro y h w; injection h with h; subst h; rfl
 | program k ih=>intro y h w; exact ih _ h w
 | mark mk k ih=>intro y h w; exact ih h w
 | _=>intros; simp_all [pval]
theorem rval_run {P:Program} {w0 w:World} {m:AM} (hh:Holds w0 w m) {α:Type} (s:Sem α):∀ {x:α},rval P m s=some x->s.run P w=.ok x w:=by
 induction s with
 | pure x=>intro y h; injection h with h; subst h; rfl
 | program k ih=>intro y h; exact ih _ h
 | mark mk k ih=>intro y h; exact ih h
 | load md a k ih =>
  intro y h
  unfold rval at h
  cases hc:m.cell a with
  | none=>rw [hc] at h; cases h
  | some v=>rw [hc] at h; simp only [Sem.run,hh.cell hc]; exact ih v h
 | shape r k ih =>
  intro y h
  unfold rval at h
  cases hc:m r with
  | none=>rw [hc] at h; cases h
  | some o =>
   rw [hc] at h
   have:w.shape? r=shapeOf o:=by unfold World.shape?; rw [hh.has _ _ hc]; cases o <;> rfl
   simp only [Sem.run,this]; exact ih _ h
 | getObj r k ih =>
  intro y h
  unfold rval at h
  cases hc:m r with
  | none=>rw [hc] at h; cases h
  | some o =>
   rw [hc] at h
   simp only [Sem.run,hh.has _ _ hc]
   cases o <;> first | exact ih _ h | (simp at h)
 | _=>intros; simp_all [rval]
def Sat (w0:World) (m:AM):Prop:=(∃ N,∀ b,N<=b->m b=none)/\∀ b o,b<w0.heap.size->m b=some o->w0.heap[b]?=some o
theorem Holds.sat {w0 w:World} {m:AM} (h:Holds w0 w m):Sat w0 m:=by
 refine ⟨⟨w.heap.size,fun b hb=>?_⟩,fun b o hb ho=>?_⟩
 .cases hm:m b with
  | none=>rfl
  | some o =>
   have:=h.has _ _ hm
   rw [Array.getElem?_eq_none hb] at this
   cases this
 .rw [<- h.below.block b hb]; exact h.has _ _ ho
theorem Sat.upd {w0:World} {m:AM} (h:Sat w0 m) {b:Nat} (hb:w0.heap.size<=b) (o:Obj):Sat w0 (m.upd b o):=by
 obtain ⟨⟨N,hN⟩,h2⟩:=h
 refine ⟨⟨max N (b+1),fun x hx=>?_⟩,fun x o' hx ho=>?_⟩
 .unfold AM.upd; rw [if_neg (by omega)]; exact hN x (by omega)
 .unfold AM.upd at ho; rw [if_neg (by omega)] at ho; exact h2 x o' hx ho
theorem Sat.set {w0:World} {m:AM} (h:Sat w0 m) {a:Addr} (hb:w0.heap.size<=a.block) (v:Value):Sat w0 (m.set a v):=by
 unfold AM.set
 split
 .exact h.upd hb _
 .exact h
theorem Sat.world {w0:World} {m:AM} (h:Sat w0 m):∃ w,Holds w0 w m:=by
 obtain ⟨⟨N,hN⟩,h2⟩:=h
 let f:Nat->Obj:=fun b=>match m b with | some o=>o | none=>(w0.heap[b]?).getD default
 refine ⟨{ w0 with heap:=((List.range (max N w0.heap.size)).map f).toArray },⟨rfl,rfl,rfl,by simp; omega,fun k hk=>?_⟩,fun b o hb=>?_⟩
 .show (((List.range (max N w0.heap.size)).map f).toArray)[k]?=_
  simp only [List.getElem?_toArray,List.getElem?_map,List.getElem?_range (show k<max N w0.heap.size by omega),Option.map_some]
  have:f k=w0.heap[k]:=by
   show (match m k with | some o=>o | none=>(w0.heap[k]?).getD default)=_
   cases hm:m k with
   | none=>simp [hk]
   | some o=>have:=h2 k o hk hm; simp [hk] at this; exact this.symm
  rw [this]; simp [hk]
 .show (((List.range (max N w0.heap.size)).map f).toArray)[b]?=_
  have hbN:b<N:=by
   rcases Nat.lt_or_ge b N with h | h
   .exact h
   .rw [hN b h] at hb; cases hb
  simp only [List.getElem?_toArray,List.getElem?_map,List.getElem?_range (show b<max N w0.heap.size by omega),Option.map_some]
  show some (match m b with | some o=>o | none=>(w0.heap[b]?).getD default)=_
  rw [hb]
theorem awp_mono_sat {P:Program} {w0:World} {α:Type} (s:Sem α):∀ (m:AM) (K K':α->AM->Prop),Sat w0 m->(∀ x m',Sat w0 m'->K x m'->K' x m')->awp P w0.heap.size s m K->awp P w0.heap.size s m K':=by
 induction s with
 | pure x=>intro m K K' hs h hk; exact h _ _ hs hk
 | load md a k ih=>intro m K K' hs h ⟨v,hc,hk⟩; exact ⟨v,hc,ih v m K K' hs h hk⟩
 | store md a v k ih=>intro m K K' hs h ⟨h1,h2,h3,h4,hk⟩; exact ⟨h1,h2,h3,h4,ih _ K K' (hs.set h2 v) h hk⟩
 | new o k ih=>intro m K K' hs h hk b hb hf; exact ih b _ K K' (hs.upd hb o) h (hk b hb hf)
 | shape r k ih=>intro m K K' hs h ⟨o,ho,hk⟩; exact ⟨o,ho,ih _ m K K' hs h hk⟩
 | freeze a n k ih=>intro m K K' hs h ⟨h1,h2,c,e,f,h3,hk⟩; exact ⟨h1,h2,c,e,f,h3,ih _ K K' (hs.upd h2 _) h hk⟩
 | frozen a k ih=>intro m K K' hs h ⟨ho,hk⟩; exact ⟨ho,ih _ m K K' hs h hk⟩
 | getObj r k ih=>intro m K K' hs h ⟨o,ho,hn,hk⟩; exact ⟨o,ho,hn,ih _ m K K' hs h hk⟩
 | setObj r o k ih=>intro m K K' hs h ⟨h1,h2,hk⟩; exact ⟨h1,h2,ih _ K K' (hs.upd h1 o) h hk⟩
 | choose q k ih=>intro m K K' hs h ⟨h1,h2⟩; exact ⟨fun hq=>ih _ m K K' hs h (h1 hq),fun hq t=>ih _ m K K' hs h (h2 hq t)⟩
 | sys c k ih=>intro m K K' hs h hk; exact hk.elim
 | program k ih=>intro m K K' hs h hk; exact ih _ m K K' hs h hk
 | mark mk k ih=>intro m K K' hs h hk; exact ih m K K' hs h hk
 | halt hh=>intro m K K' hs h hk; exact hk.elim
def CallsA (P:Program) (w0:World) (f:FuncId) (args:Array Value) (m:AM) (R:Value->AM->Prop):Prop :=
 ∀ w,Holds w0 w m->Calls P f args w (fun e w'=>∃ r m',e=.returned r/\Holds w0 w' m'/\R r m')
theorem CallsA.mono_sat {P:Program} {w0:World} {f:FuncId} {args:Array Value} {m:AM} {R R':Value->AM->Prop} (h:CallsA P w0 f args m R) (hr:∀ r m',Sat w0 m'->R r m'->R' r m'):CallsA P w0 f args m R' :=
 fun w hw=>(h w hw).mono fun _ _ ⟨r,m',he,hh,hR⟩=>⟨r,m',he,hh,hr r m' hh.sat hR⟩
theorem CallsA.mono {P:Program} {w0:World} {f:FuncId} {args:Array Value} {m:AM} {R R':Value->AM->Prop} (h:CallsA P w0 f args m R) (hr:∀ r m',R r m'->R' r m'):CallsA P w0 f args m R' :=
 h.mono_sat fun r m' _=>hr r m'
theorem CallsA.nonvac {P:Program} {w0:World} {f:FuncId} {args:Array Value} {m:AM} {C:Prop} (hs:Sat w0 m) (h:CallsA P w0 f args m (fun _ _=>C)):C:=by
 obtain ⟨w,hw⟩:=hs.world
 obtain ⟨e,w',fr,⟨r,m',_,_,hC⟩,_⟩:=h w hw []
 exact hC
def nextVal:Next->Option Value
 | .value v=>some v
 | .skip=>some undef
 | _=>none
def cont (P:Program) (w0:World) (K:Value->AM->Prop):Next->AM->Prop
 | .value v,m=>K v m
 | .skip,m=>K undef m
 | .enter f args,m=>CallsA P w0 f args m K
 | _,_=>False
def Y (P:Program) (w0:World):Nat->Sem Next->AM->Value->Prop
 | 0,s,_,v=>(pval P s).bind nextVal=some v
 | 1,s,m,v=>(rval P m s).bind nextVal=some v
 | _,s,m,v=>(rval P m s).bind nextVal=some v\/∃ f args,rval P m s=some (.enter f args)/\CallsA P w0 f args m (fun r m'=>r=v/\m'=m)
def OpA (P:Program) (w0:World) (c:Nat) (s:Sem Next) (m:AM) (K:Value->AM->Prop):Prop :=
 match c with
 | 0=>∃ v,Y P w0 0 s m v/\K v m
 | 1=>∃ v,Y P w0 1 s m v/\K v m
 | 2=>∃ v,Y P w0 2 s m v/\K v m
 | 3=>awp P w0.heap.size s m (cont P w0 K)
 | _=>awp P w0.heap.size s m (cont P w0 (fun v m'=>m.le m'/\K v m'))
def GOp (P:Program) (w0:World) (c:Nat) (ops:Array Oper) (o:Oper) (a:Act) (m:AM) (K:Value->AM->Prop):Prop :=
 (Region.wanted o (yielded ops a.tmps)=true->OpA P w0 c (execOp a.eval o) m K)/\(Region.wanted o (yielded ops a.tmps)=false->K undef m)
section
variable {P:Program} {w0:World}
theorem cont_mono_sat {K K':Value->AM->Prop} (h:∀ v m',Sat w0 m'->K v m'->K' v m') (n:Next) (m:AM) (hs:Sat w0 m) (hk:cont P w0 K n m):cont P w0 K' n m:=by
 cases n <;> first | exact h _ _ hs hk | exact CallsA.mono_sat hk h | exact hk
theorem OpA_mono_sat {c:Nat} {s:Sem Next} {m:AM} {K K':Value->AM->Prop} (hs:Sat w0 m) (h:∀ v m',Sat w0 m'->K v m'->K' v m') (hk:OpA P w0 c s m K):OpA P w0 c s m K':=by
 match c,hk with
 | 0,⟨v,hy,hK⟩=>exact ⟨v,hy,h _ _ hs hK⟩
 | 1,⟨v,hy,hK⟩=>exact ⟨v,hy,h _ _ hs hK⟩
 | 2,⟨v,hy,hK⟩=>exact ⟨v,hy,h _ _ hs hK⟩
 | 3,hk=>exact awp_mono_sat s m _ _ hs (fun x m' hs' hx=>cont_mono_sat h x m' hs' hx) hk
 | n+4,hk=>exact awp_mono_sat s m _ _ hs (fun x m' hs' hx=>cont_mono_sat (fun v m'' hs'' hv=>⟨hv.1,h v m'' hs'' hv.2⟩) x m' hs' hx) hk
theorem GOp_mono_sat {c:Nat} {ops:Array Oper} {o:Oper} {a:Act} {m:AM} {K K':Value->AM->Prop} (hs:Sat w0 m) (h:∀ v m',Sat w0 m'->K v m'->K' v m') (hk:GOp P w0 c ops o a m K):GOp P w0 c ops o a m K' :=
 ⟨fun hw=>OpA_mono_sat hs h (hk.1 hw),fun hw=>h _ _ hs (hk.2 hw)⟩
theorem cont_mono {K K':Value->AM->Prop} (h:∀ v m',K v m'->K' v m') (n:Next) (m:AM) (hk:cont P w0 K n m):cont P w0 K' n m:=by
 cases n <;> first | exact h _ _ hk | exact CallsA.mono hk h | exact hk
theorem OpA_mono {c:Nat} {s:Sem Next} {m:AM} {K K':Value->AM->Prop} (h:∀ v m',K v m'->K' v m') (hk:OpA P w0 c s m K):OpA P w0 c s m K':=by
 match c,hk with
 | 0,⟨v,hy,hK⟩=>exact ⟨v,hy,h _ _ hK⟩
 | 1,⟨v,hy,hK⟩=>exact ⟨v,hy,h _ _ hK⟩
 | 2,⟨v,hy,hK⟩=>exact ⟨v,hy,h _ _ hK⟩
 | 3,hk=>exact awp_mono s m _ _ (fun x m' hx=>cont_mono h x m' hx) hk
 | n+4,hk=>exact awp_mono s m _ _ (fun x m' hx=>cont_mono (fun v m'' hv=>⟨hv.1,h v m'' hv.2⟩) x m' hx) hk
theorem GOp_mono {c:Nat} {ops:Array Oper} {o:Oper} {a:Act} {m:AM} {K K':Value->AM->Prop} (h:∀ v m',K v m'->K' v m') (hk:GOp P w0 c ops o a m K):GOp P w0 c ops o a m K' :=
 ⟨fun hw=>OpA_mono h (hk.1 hw),fun hw=>h _ _ (hk.2 hw)⟩
theorem awp_nonvac {α:Type} (s:Sem α):∀ {m:AM} {C:Prop} (K:α->AM->Prop),Sat w0 m->(∀ x m',Sat w0 m'->K x m'->C)->awp P w0.heap.size s m K->C:=by
 intro m C K hs h hk
 obtain ⟨w,hw⟩:=hs.world
 obtain ⟨x,w',m',_,hh,hK⟩:=awp_run s w m K hw hk
 exact h x m' hh.sat hK
theorem OpA_nonvac {c:Nat} {s:Sem Next} {m:AM} {C:Prop} (hs:Sat w0 m) (hk:OpA P w0 c s m (fun _ _=>C)):C:=by
 match c,hk with
 | 0,⟨v,hy,hK⟩=>exact hK
 | 1,⟨v,hy,hK⟩=>exact hK
 | 2,⟨v,hy,hK⟩=>exact hK
 | 3,hk =>
  refine awp_nonvac s _ hs (fun x m' hs' hx=>?_) hk
  cases x <;> first | exact hx | exact CallsA.nonvac hs' hx | exact hx.elim
 | n+4,hk =>
  refine awp_nonvac s _ hs (fun x m' hs' hx=>?_) hk
  cases x <;> first | exact hx.2 | exact CallsA.nonvac hs' (CallsA.mono hx fun _ _ h=>h.2) | exact hx.elim
theorem GOp_nonvac {c:Nat} {ops:Array Oper} {o:Oper} {a:Act} {m:AM} {C:Prop} (hs:Sat w0 m) (hk:GOp P w0 c ops o a m (fun _ _=>C)):C:=by
 cases hw:Region.wanted o (yielded ops a.tmps) with
 | true=>exact OpA_nonvac hs (hk.1 hw)
 | false=>exact hk.2 hw
def YG (P:Program) (w0:World) (c:Nat) (ops:Array Oper) (o:Oper) (a:Act) (m:AM) (v:Value):Prop :=
 (Region.wanted o (yielded ops a.tmps)=true->Y P w0 c (execOp a.eval o) m v)/\(Region.wanted o (yielded ops a.tmps)=false->v=undef)
theorem GOp_low {c:Nat} (hc:c<=2) {ops:Array Oper} {o:Oper} {a:Act} {m:AM} {K:Value->AM->Prop}:GOp P w0 c ops o a m K↔∃ v,YG P w0 c ops o a m v/\K v m:=by
 have hO:∀ s,OpA P w0 c s m K↔∃ v,Y P w0 c s m v/\K v m:=fun s=>by
  match c,hc with
  | 0,_=>exact Iff.rfl
  | 1,_=>exact Iff.rfl
  | 2,_=>exact Iff.rfl
 unfold GOp YG
 rw [hO]
 cases Region.wanted o (yielded ops a.tmps) with
 | true=>simp
 | false=>simp
theorem YG_zero_any {ops:Array Oper} {o:Oper} {a:Act} {m m':AM} {v:Value} (h:YG P w0 0 ops o a m v):YG P w0 0 ops o a m' v:=h
theorem YG_zero_det {ops:Array Oper} {o:Oper} {a:Act} {m m':AM} {v v':Value} (h:YG P w0 0 ops o a m v) (h':YG P w0 0 ops o a m' v'):v=v':=by
 cases hw:Region.wanted o (yielded ops a.tmps) with
 | true =>
  have e1:(pval P (execOp a.eval o)).bind nextVal=some v:=h.1 hw
  have e2:(pval P (execOp a.eval o)).bind nextVal=some v':=h'.1 hw
  rw [e1] at e2; injection e2
 | false=>rw [h.2 hw,h'.2 hw]
def classOK (c d:Nat):Bool:=c == 0 || d == 0 || (c<=2 && d<=2) || (c == 1 && d>=4)
theorem rval_mono {m m':AM} (hl:m.le m') {α:Type} (s:Sem α):∀ {x:α},rval P m s=some x->rval P m' s=some x:=by
 induction s with
 | pure x=>intro y h; exact h
 | program k ih=>intro y h; exact ih _ h
 | mark mk k ih=>intro y h; exact ih h
 | load md a k ih =>
  intro y h
  unfold rval at h ⊢
  cases hc:m.cell a with
  | none=>rw [hc] at h; cases h
  | some v =>
   have:m'.cell a=some v:=by
    unfold AM.cell at hc ⊢
    cases hm:m a.block with
    | none=>rw [hm] at hc; cases hc
    | some o=>rw [hm] at hc; rw [hl _ _ hm]; exact hc
   rw [hc] at h; rw [this]; exact ih v h
 | shape r k ih =>
  intro y h
  unfold rval at h ⊢
  cases hc:m r with
  | none=>rw [hc] at h; cases h
  | some o=>rw [hc] at h; rw [hl _ _ hc]; exact ih _ h
 | getObj r k ih =>
  intro y h
  unfold rval at h ⊢
  cases hc:m r with
  | none=>rw [hc] at h; cases h
  | some o =>
   rw [hc] at h; rw [hl _ _ hc]
   cases o <;> first | exact ih _ h | (simp at h)
 | _=>intros; simp_all [rval]
theorem swapA {ck cj:Nat} {ops:Array Oper} {k j:Oper} {a:Act} {m:AM} (hs:Sat w0 m) (hc:classOK ck cj=true) {K:Value->Value->AM->Prop}
  (h:GOp P w0 ck ops k a m (fun vk m1=>GOp P w0 cj ops j a m1 (fun vj m2=>K vk vj m2))) :
  GOp P w0 cj ops j a m (fun vj m1=>GOp P w0 ck ops k a m1 (fun vk m2=>K vk vj m2)):=by
 rcases Nat.lt_or_ge 2 ck with hck | hck
 .
  have hcj:cj=0:=by simp [classOK] at hc; omega
  subst hcj
  have h0:∃ vj,YG P w0 0 ops j a m vj:=by
   refine GOp_nonvac hs (GOp_mono (fun vk m1 h1=>?_) h)
   obtain ⟨vj,hy,_⟩:=(GOp_low (by omega)).1 h1
   exact ⟨vj,YG_zero_any hy⟩
  obtain ⟨vj,hy⟩:=h0
  refine (GOp_low (by omega)).2 ⟨vj,hy,GOp_mono (fun vk m1 h1=>?_) h⟩
  obtain ⟨vj',hy',hK⟩:=(GOp_low (by omega)).1 h1
  have:=YG_zero_det hy hy'
  subst this
  exact hK
 .obtain ⟨vk,hyk,h1⟩:=(GOp_low hck).1 h
  rcases Nat.lt_or_ge 2 cj with hcj | hcj
  .have h3:ck=0\/(ck=1/\4<=cj):=by simp [classOK] at hc; omega
   rcases h3 with rfl | ⟨rfl,hcj4⟩
   .exact GOp_mono (fun vj m1 hK=>(GOp_low (by omega)).2 ⟨vk,YG_zero_any hyk,hK⟩) h1
   .have up:∀ m1,m.le m1->YG P w0 1 ops k a m1 vk:=fun m1 hl=>⟨fun hw=>by
      have e:(rval P m (execOp a.eval k)).bind nextVal=some vk:=hyk.1 hw
      show (rval P m1 (execOp a.eval k)).bind nextVal=some vk
      cases hr:rval P m (execOp a.eval k) with
      | none=>rw [hr] at e; cases e
      | some x=>rw [rval_mono hl _ hr]; rw [hr] at e; exact e,hyk.2⟩
    refine ⟨fun hw=>?_,fun hw=>?_⟩
    .have h2:=h1.1 hw
     obtain ⟨n,rfl⟩:∃ n,cj=n+4:=⟨cj-4,by omega⟩
     refine awp_mono _ _ _ _ (fun x m1 hx=>cont_mono (fun v m2 hv=>⟨hv.1,?_⟩) x m1 hx) h2
     exact (GOp_low (by omega)).2 ⟨vk,up m2 hv.1,hv.2⟩
    .exact (GOp_low (by omega)).2 ⟨vk,hyk,h1.2 hw⟩
  .obtain ⟨vj,hyj,hK⟩:=(GOp_low hcj).1 h1
   exact (GOp_low hcj).2 ⟨vj,hyj,(GOp_low hck).2 ⟨vk,hyk,hK⟩⟩
theorem GOp_put {c:Nat} {ops:Array Oper} {o:Oper} (hs:∀ cs b,o.op≠.select cs b) {a:Act} {d:Option Tmp} {u:Value} (hd:∀ t,d=some t->t∉o.looksAt ops) {m:AM} {K:Value->AM->Prop} :
  GOp P w0 c ops o (a.put d u) m K=GOp P w0 c ops o a m K:=by
 unfold GOp
 rw [execOp_put o hs a d u hd,wanted_put o a d u hd]
def VAny (P:Program) (w0:World) (cls:Nat->Nat) (md:Region.Mode) (ops:Array Oper) (Q:Act->AM->Prop):Nat->Array Bool->Act->AM->Prop
 | 0,listed,a,m=>Region.ready md ops listed = []/\Q a m
 | fuel+1,listed,a,m =>
  (Region.ready md ops listed = []->Q a m) /\
  ∀ i o,i∈Region.ready md ops listed->ops[i]?=some o->GOp P w0 (cls i) ops o a m (fun v m'=>VAny P w0 cls md ops Q fuel (listed.setIfInBounds i true) (a.put o.dst v) m')
theorem upon_of_awp {o:Oper} {a:Act} {w:World} {m:AM} (hh:Holds w0 w m) {K:Value->AM->Prop} {K':Act->World->Prop} {Q:Exit->Act->World->Prop}
  (hK:∀ v m' w',Holds w0 w' m'->K v m'->K' (a.put o.dst v) w') (h:awp P w0.heap.size (execOp a.eval o) m (cont P w0 K)):o.wp P a w K' Q:=by
 obtain ⟨x,w',m',hr,hh',hc⟩:=awp_run _ w m _ hh h
 unfold Oper.wp
 rw [hr]
 cases x <;> first
  | exact hK _ _ _ hh' hc
  | exact hc.elim
  | (simp only [Oper.upon]; exact (hc w' hh').mono fun e w'' ⟨r,m'',he,hh'',hR⟩=>by subst he; exact hK _ _ _ hh'' hR)
theorem wp_of_GOp {c:Nat} {ops:Array Oper} {i:Nat} {o:Oper} (hi:ops[i]?=some o) {a:Act} {w:World} {m:AM} (hh:Holds w0 w m) {K:Value->AM->Prop} {K':Act->World->Prop} {Q:Exit->Act->World->Prop}
  (hK:∀ v m' w',Holds w0 w' m'->K v m'->K' (a.put o.dst v) w') (h:GOp P w0 c ops o a m K):wpOp P ops Q i K' a w:=by
 unfold wpOp
 simp only [hi]
 cases hw:Region.wanted o (yielded ops a.tmps) with
 | false=>simp only [Bool.false_eq_true,if_false]; exact hK _ _ _ hh (h.2 hw)
 | true =>
  simp only [if_true]
  refine .inl ?_
  have h1:=h.1 hw
  match c,h1 with
  | 0,⟨v,hy,hk⟩ =>
   have hy:(pval P (execOp a.eval o)).bind nextVal=some v:=hy
   unfold Oper.wp
   cases hp:pval P (execOp a.eval o) with
   | none=>rw [hp] at hy; cases hy
   | some x =>
    rw [hp] at hy
    rw [pval_run _ hp w]
    cases x <;> simp [nextVal] at hy <;> (subst hy; exact hK _ _ _ hh hk)
  | 1,⟨v,hy,hk⟩ =>
   have hy:(rval P m (execOp a.eval o)).bind nextVal=some v:=hy
   unfold Oper.wp
   cases hp:rval P m (execOp a.eval o) with
   | none=>rw [hp] at hy; cases hy
   | some x =>
    rw [hp] at hy
    rw [rval_run hh _ hp]
    cases x <;> simp [nextVal] at hy <;> (subst hy; exact hK _ _ _ hh hk)
  | 2,⟨v,hy,hk⟩ =>
   unfold Oper.wp
   rcases hy with hy | ⟨f,args,hr,hcall⟩
   .cases hp:rval P m (execOp a.eval o) with
    | none=>rw [hp] at hy; cases hy
    | some x =>
     rw [hp] at hy
     rw [rval_run hh _ hp]
     cases x <;> simp [nextVal] at hy <;> (subst hy; exact hK _ _ _ hh hk)
   .rw [rval_run hh _ hr]
    simp only [Oper.upon]
    exact (hcall w hh).mono fun e w'' ⟨r,m'',he,hh'',hr,hm⟩=>by subst he; subst hr; subst hm; exact hK _ _ _ hh'' hk
  | 3,h1=>exact upon_of_awp hh hK h1
  | n+4,h1=>exact upon_of_awp hh (fun v m' w' hh' hv=>hK v m' w' hh' hv.2) h1
theorem wpAny_of_VAny {cls:Nat->Nat} {md:Region.Mode} {ops:Array Oper} {Q:Act->AM->Prop} {Q':Exit->Act->World->Prop} (hQ:∀ a m w,Holds w0 w m->Q a m->Q' .normal a w) :
  ∀ (fuel:Nat) (listed:Array Bool) (a:Act) (w:World) (m:AM),Holds w0 w m->VAny P w0 cls md ops Q fuel listed a m->wpAny P md ops Q' fuel listed a w
 | 0,_,_,_,_,hh,h=>⟨h.1,hQ _ _ _ hh h.2⟩
 | fuel+1,listed,a,w,m,hh,h=>⟨fun h0=>hQ _ _ _ hh (h.1 h0),fun i hi=>by
   obtain ⟨_,o,ho,_⟩:=mem_ready.1 hi
   exact wp_of_GOp ho hh (fun v m' w' hh' hv=>wpAny_of_VAny hQ fuel _ _ _ _ hh' hv) (h.2 i o hi ho)⟩
theorem getD_both {listed:Array Bool} {i:Nat} (h:listed.getD i true=false):listed.getD i false=false:=by
 rcases Nat.lt_or_ge i listed.size with h' | h'
 .simp [h'] at h ⊢; exact h
 .simp [Array.getElem?_eq_none h'] at h
def Closed (md:Region.Mode) (ops:Array Oper) (listed:Array Bool):Prop :=
 ∀ j oj,ops[j]?=some oj->listed.getD j false=true->∀ e∈oj.after,Region.binds md e=true->listed.getD e.on false=true
def predsOf (md:Region.Mode) (o:Oper):List Nat:=o.after.toList.filterMap fun e=>if Region.binds md e then some e.on else none
def depOk (md:Region.Mode) (ops:Array Oper) (D:List (List Nat)):Bool :=
 (List.range ops.size).all fun j=>(D.getD j []).all fun x =>
  match ops[j]? with
  | some o=>(predsOf md o).contains x || (predsOf md o).any fun p=>decide (p<j) && (D.getD p []).contains x
  | none=>false
theorem mem_predsOf {md:Region.Mode} {o:Oper} {x:Nat} (h:x∈predsOf md o):∃ e∈o.after,Region.binds md e=true/\e.on=x:=by
 unfold predsOf at h
 obtain ⟨e,he,h2⟩:=List.mem_filterMap.1 h
 refine ⟨e,by simpa using he,?_⟩
 by_cases hb:Region.binds md e=true
 .rw [if_pos hb] at h2; injection h2 with h2; exact ⟨hb,h2⟩
 .rw [if_neg hb] at h2; cases h2
theorem dep_listed {md:Region.Mode} {ops:Array Oper} {D:List (List Nat)} (hD:depOk md ops D=true) {listed:Array Bool} (hc:Closed md ops listed) :
  ∀ (n j:Nat),j=n->j<ops.size->(∀ oj,ops[j]?=some oj->∀ e∈oj.after,Region.binds md e=true->listed.getD e.on false=true)->∀ x∈D.getD j [],listed.getD x false=true:=by
 intro n
 induction n using Nat.strongRecOn with
 | _ n ih =>
  intro j hj hlt hall x hx
  subst hj
  have h1:=List.all_eq_true.1 hD j (List.mem_range.2 hlt)
  have h2:=List.all_eq_true.1 h1 x hx
  cases ho:ops[j]? with
  | none=>rw [ho] at h2; cases h2
  | some o =>
   rw [ho] at h2
   simp only [Bool.or_eq_true] at h2
   rcases h2 with h2 | h2
   .obtain ⟨e,he,hb,hon⟩:=mem_predsOf (List.contains_iff_mem.1 h2)
    have:=hall o ho e he hb
    rw [hon] at this
    exact this
   .obtain ⟨p,hp,h3⟩:=List.any_eq_true.1 h2
    simp only [Bool.and_eq_true,decide_eq_true_eq] at h3
    obtain ⟨e,he,hb,hon⟩:=mem_predsOf hp
    have hpl:=hall o ho e he hb
    rw [hon] at hpl
    exact ih p h3.1 p rfl (by omega) (fun op hop e' he' hb'=>hc p op hop hpl e' he' hb') x (List.contains_iff_mem.1 h3.2)
theorem Closed.set {md:Region.Mode} {ops:Array Oper} {listed:Array Bool} (hc:Closed md ops listed) {i:Nat} (hi:i∈Region.ready md ops listed):Closed md ops (listed.setIfInBounds i true):=by
 obtain ⟨_,oi,hoi,hall⟩:=mem_ready.1 hi
 intro j oj hj hl e he hb
 by_cases hij:i=j
 .subst hij
  have:oj=oi:=Option.some.inj (hj.symm.trans hoi)
  subst this
  exact getD_set_true (hall e he hb)
 .rw [getD_set_ne false hij] at hl
  exact getD_set_true (hc j oj hj hl e he hb)
theorem VAny_first {cls:Nat->Nat} {md:Region.Mode} {ops:Array Oper} {Q:Act->AM->Prop} {D:List (List Nat)} (hD:depOk md ops D=true) {k:Nat} {ok:Oper} (hk:ops[k]?=some ok)
  (hsel:∀ (j:Nat) (o:Oper) cs b,ops[j]?=some o->o.op≠.select cs b) :
  ∀ (fuel:Nat) (listed:Array Bool) (a:Act) (m:AM),Sat w0 m->Closed md ops listed ->
   (∀ j oj,ops[j]?=some oj->j≠k->listed.getD j true=false->k∈D.getD j []\/(ok.apart ops oj=true/\classOK (cls k) (cls j)=true)) ->
   k∈Region.ready md ops listed->GOp P w0 (cls k) ops ok a m (fun v m1=>VAny P w0 cls md ops Q fuel (listed.setIfInBounds k true) (a.put ok.dst v) m1) ->
   VAny P w0 cls md ops Q (fuel+1) listed a m:=by
 intro fuel
 induction fuel with
 | zero =>
  intro listed a m hs hc hfree hr H
  refine ⟨fun h=>(by rw [h] at hr; cases hr),fun j oj hj hoj=>?_⟩
  by_cases hjk:j=k
  .subst hjk
   have:oj=ok:=Option.some.inj (hoj.symm.trans hk)
   subst this
   exact H
  .have h0:Region.ready md ops (listed.setIfInBounds k true) = []:=GOp_nonvac hs (GOp_mono (fun v m1 h1=>h1.1) H)
   have:=ready_mono hj hjk
   rw [h0] at this
   cases this
 | succ fuel ih =>
  intro listed a m hs hc hfree hr H
  refine ⟨fun h=>(by rw [h] at hr; cases hr),fun j oj hj hoj=>?_⟩
  by_cases hjk:j=k
  .subst hjk
   have:oj=ok:=Option.some.inj (hoj.symm.trans hk)
   subst this
   exact H
  .obtain ⟨hjun,oj',hoj',hall⟩:=mem_ready.1 hj
   have:oj'=oj:=Option.some.inj (hoj'.symm.trans hoj)
   subst this
   have hjlt:j<ops.size:=(Array.getElem?_eq_some_iff.1 hoj).1
   have hkun:=(mem_ready.1 hr).1
   have hnot:k∉D.getD j []:=fun hin=>by
    have h1:=dep_listed hD hc j j rfl hjlt (fun o' ho' e he hb=>by
     have:o'=oj':=Option.some.inj (ho'.symm.trans hoj)
     subst this
     exact hall e he hb) k hin
    rw [getD_both hkun] at h1
    cases h1
   obtain ⟨hap,hcl⟩:=(hfree j oj' hoj hjk hjun).resolve_left hnot
   obtain ⟨h1,h2,h3⟩:=Oper.apart_spec hap
   have step:GOp P w0 (cls k) ops ok a m (fun vk m1=>GOp P w0 (cls j) ops oj' a m1 (fun vj m2 =>
     VAny P w0 cls md ops Q fuel ((listed.setIfInBounds k true).setIfInBounds j true) ((a.put ok.dst vk).put oj'.dst vj) m2)):=by
    refine GOp_mono (fun vk m1 hv=>?_) H
    have h4:=hv.2 j oj' (ready_mono hj hjk) hoj
    rw [GOp_put (fun cs b=>hsel j oj' cs b hoj) h1] at h4
    exact h4
   refine GOp_mono_sat hs (fun vj m1 hs1 hv=>?_) (swapA hs hcl step)
   refine ih (listed.setIfInBounds j true) (a.put oj'.dst vj) m1 hs1 (hc.set hj) (fun i oi hoi hik hun=>?_) (ready_mono hr (Ne.symm hjk)) ?_
   .refine hfree i oi hoi hik ?_
    by_cases hji:j=i
    .subst hji; exact hjun
    .rw [getD_set_ne true hji] at hun; exact hun
   .rw [GOp_put (fun cs b=>hsel k ok cs b hk) h3]
    refine GOp_mono (fun vk m2 hq=>?_) hv
    rw [Act.put_comm a vk vj h2,Array.setIfInBounds_comm _ _ (Ne.symm hjk)] at hq
    exact hq
def AL (P:Program) (w0:World) (cls:Nat->Nat) (ops:Array Oper):List Oper->Nat->Act->AM->(Act->AM->Prop)->Prop
 | [],_,a,m,Q=>Q a m
 | o :: rest,k,a,m,Q=>GOp P w0 (cls k) ops o a m (fun v m'=>AL P w0 cls ops rest (k+1) (a.put o.dst v) m' Q)
def regOk (md:Region.Mode) (ops:Array Oper) (cls:Nat->Nat) (D:List (List Nat)):Bool :=
 Region.noSelect ops && depOk md ops D && (List.range ops.size).all fun k =>
  match ops[k]? with
  | some ok=>(predsOf md ok).all (fun p=>decide (p<k)) && (List.range ops.size).all fun j=>decide (j<=k) || (D.getD j []).contains k ||
    (match ops[j]? with
    | some oj=>ok.apart ops oj && classOK (cls k) (cls j)
    | none=>true)
  | none=>true
theorem VAny_lex {cls:Nat->Nat} {md:Region.Mode} {ops:Array Oper} {Q:Act->AM->Prop} {D:List (List Nat)} (hB:regOk md ops cls D=true) :
  ∀ (l:List Oper) (k:Nat) (listed:Array Bool) (a:Act) (m:AM),(∀ j,l[j]?=ops[k+j]?)->k+l.length=ops.size->listed.size=ops.size->(∀ j,j<k->listed.getD j false=true)->(∀ j,k<=j->j<ops.size->listed.getD j true=false) ->
   Sat w0 m->Closed md ops listed->AL P w0 cls ops l k a m Q->VAny P w0 cls md ops Q l.length listed a m
 | [],k,listed,a,m,hl,hlen,hsz,hlow,hhigh,hs,hc,h=>by
  refine ⟨?_,h⟩
  have hk:k=ops.size:=by simpa using hlen
  cases hr:Region.ready md ops listed with
  | nil=>rfl
  | cons j js =>
   have hj:j∈Region.ready md ops listed:=by rw [hr]; simp
   obtain ⟨hun,oj,hoj,_⟩:=mem_ready.1 hj
   have hlt:j<ops.size:=(Array.getElem?_eq_some_iff.1 hoj).1
   have:=hlow j (by omega)
   rw [getD_both hun] at this
   cases this
 | o :: l,k,listed,a,m,hl,hlen,hsz,hlow,hhigh,hs,hc,h=>by
  have h0:ops[k]?=some o:=by simpa using (hl 0).symm
  have hklt:k<ops.size:=(Array.getElem?_eq_some_iff.1 h0).1
  simp only [regOk,Bool.and_eq_true] at hB
  obtain ⟨⟨hsel,hD⟩,hall⟩:=hB
  have hB':regOk md ops cls D=true:=by simp only [regOk,Bool.and_eq_true]; exact ⟨⟨hsel,hD⟩,hall⟩
  have hk:=List.all_eq_true.1 hall k (List.mem_range.2 hklt)
  rw [h0] at hk
  simp only [Bool.and_eq_true] at hk
  have hr:k∈Region.ready md ops listed:=by
   refine mem_ready.2 ⟨hhigh k (Nat.le_refl _) hklt,o,h0,fun e he hb=>?_⟩
   have hm:e.on∈predsOf md o:=by
    unfold predsOf
    exact List.mem_filterMap.2 ⟨e,by simpa using he,by rw [if_pos hb]⟩
   exact hlow _ (by simpa using List.all_eq_true.1 hk.1 _ hm)
  refine VAny_first hD h0 (Region.noSelect_spec hsel) l.length listed a m hs hc (fun j oj hoj hjk hun=>?_) hr ?_
  .have hjlt:j<ops.size:=(Array.getElem?_eq_some_iff.1 hoj).1
   have h2:=List.all_eq_true.1 hk.2 j (List.mem_range.2 hjlt)
   rw [hoj] at h2
   simp only [Bool.or_eq_true,decide_eq_true_eq,Bool.and_eq_true] at h2
   rcases h2 with (h2 | h2) | h2
   .have:=hlow j (by omega)
    rw [getD_both hun] at this
    cases this
   .exact .inl (List.contains_iff_mem.1 h2)
   .exact .inr h2
  .refine GOp_mono_sat hs (fun v m1 hs1 hv=>?_) h
   exact VAny_lex hB' l (k+1) _ _ _ (fun j=>by have:=hl (j+1); simpa [Nat.add_assoc,Nat.add_comm 1 j] using this) (by simp only [List.length_cons] at hlen; omega) (by simp [hsz])
    (fun j hj=>by
     by_cases hjk:k=j
     .subst hjk; simp [hsz,hklt]
     .rw [getD_set_ne false hjk]; exact hlow j (by omega))
    (fun j hj hjl=>by rw [getD_set_ne true (by omega)]; exact hhigh j (by omega) hjl) hs1 (hc.set hr) hv
theorem VAny_text {cls:Nat->Nat} {md:Region.Mode} {ops:Array Oper} {Q:Act->AM->Prop} {D:List (List Nat)} (hB:regOk md ops cls D=true) {a:Act} {m:AM} (hs:Sat w0 m) (h:AL P w0 cls ops ops.toList 0 a m Q) :
  VAny P w0 cls md ops Q ops.size (Array.replicate ops.size false) a m:=by
 have:=VAny_lex hB ops.toList 0 (Array.replicate ops.size false) a m (by simp) (by simp) (by simp) (fun j hj=>absurd hj (by omega)) (fun j _ hj=>by simp [hj]) hs (fun j oj _ hl=>by exfalso; rcases Nat.lt_or_ge j ops.size with h' | h' <;> simp [h'] at hl) h
 simpa using this
def goodB (ops:Array Oper) (cls:Nat->Nat) (D:List (List Nat)) (listed:Array Bool) (k:Nat):Bool :=
 match ops[k]? with
 | some ok=>(List.range ops.size).all fun j=>decide (j=k) || listed.getD j true || (D.getD j []).contains k ||
   (match ops[j]? with
   | some oj=>ok.apart ops oj && classOK (cls k) (cls j)
   | none=>true)
 | none=>false
def pickF (ops:Array Oper) (cls:Nat->Nat) (D:List (List Nat)) (listed:Array Bool):List Nat :=
 let r:=Region.ready .any ops listed
 match r.find? (goodB ops cls D listed) with
 | some k=>[k]
 | none=>r
theorem VAny_pick {cls:Nat->Nat} {ops:Array Oper} {Q:Act->AM->Prop} {D:List (List Nat)} (hsel:Region.noSelect ops=true) (hD:depOk .any ops D=true) {fuel:Nat} {listed:Array Bool} {a:Act} {m:AM} (hs:Sat w0 m) (hc:Closed .any ops listed)
  (h0:pickF ops cls D listed = []->Q a m)
  (h:∀ k o,k∈pickF ops cls D listed->ops[k]?=some o->k∈Region.ready .any ops listed->GOp P w0 (cls k) ops o a m (fun v m'=>VAny P w0 cls .any ops Q fuel (listed.setIfInBounds k true) (a.put o.dst v) m')) :
  VAny P w0 cls .any ops Q (fuel+1) listed a m:=by
 unfold pickF at h0 h
 simp only at h0 h
 cases hf:(Region.ready .any ops listed).find? (goodB ops cls D listed) with
 | none =>
  rw [hf] at h0 h
  exact ⟨h0,fun i o hi ho=>h i o hi ho hi⟩
 | some k =>
  rw [hf] at h
  have hk:=List.mem_of_find?_eq_some hf
  have hg:=List.find?_some hf
  obtain ⟨_,ok,hok,_⟩:=mem_ready.1 hk
  refine VAny_first hD hok (Region.noSelect_spec hsel) fuel listed a m hs hc (fun j oj hoj hjk hun=>?_) hk (h k ok (by simp) hok hk)
  unfold goodB at hg
  rw [hok] at hg
  have hjlt:j<ops.size:=(Array.getElem?_eq_some_iff.1 hoj).1
  have h2:=List.all_eq_true.1 hg j (List.mem_range.2 hjlt)
  rw [hoj,hun] at h2
  simp only [Bool.or_eq_true,decide_eq_true_eq,Bool.and_eq_true] at h2
  rcases h2 with ((h2 | h2) | h2) | h2
  .exact absurd h2 hjk
  .cases h2
  .exact .inl (List.contains_iff_mem.1 h2)
  .exact .inr h2
theorem wpList_of_AL {ops:Array Oper} {Q:Act->AM->Prop} {Q':Exit->Act->World->Prop} (hQ:∀ a m w,Holds w0 w m->Q a m->Q' .normal a w) (cls:Nat->Nat) :
  ∀ (l:List Oper) (k:Nat) (a:Act) (w:World) (m:AM),(∀ j,l[j]?=ops[k+j]?)->Holds w0 w m->AL P w0 cls ops l k a m Q->wpList P ops Q' l a w
 | [],_,_,_,_,_,hh,h=>hQ _ _ _ hh h
 | o :: l,k,a,w,m,hl,hh,h=>by
  have h0:ops[k]?=some o:=by simpa using (hl 0).symm
  have h1:=wp_of_GOp (Q:=Q') h0 hh (K':=wpList P ops Q' l) (fun v m' w' hh' hv=>wpList_of_AL hQ cls l (k+1) _ _ _ (fun j=>by have:=hl (j+1); simpa [Nat.add_assoc,Nat.add_comm 1 j] using this) hh' hv) h
  unfold wpOp at h1
  simp only [h0] at h1
  exact h1
def dep1 (md:Region.Mode) (acc:List (List Nat)) (o:Oper):List Nat :=
 ((predsOf md o) ++ (predsOf md o).flatMap (fun p=>acc.getD p [])).eraseDups
def deps (md:Region.Mode) (ops:List Oper):List (List Nat):=ops.foldl (fun acc o=>acc ++ [dep1 md acc o]) []
def baseClass:Op->Nat
 | .move _ | .assign _ | .pick .. | .nilCheck _ | .binOp .. | .unOp .. | .convert .. | .fieldAddr .. | .field .. | .indexAddr .. | .index .. | .extract .. | .makeFunc .. | .makeInterface .. | .slice .. | .build ..=>0
 | .load .. | .lookup ..=>1
 | .call { callee:=.builtin .len,.. } | .call { callee:=.builtin .cap,.. } | .call { callee:=.builtin .min,.. } | .call { callee:=.builtin .max,.. }=>0
 | .alloc _ | .box .. | .buildSlice .. | .makeSlice .. | .makeMap ..=>4
 | _=>3
def cl (qs:List (Nat × Nat)) (k:Nat) (op:Op):Nat :=
 match qs.find? (fun p=>p.1 == k) with
 | some p=>max p.2 2
 | none=>baseClass op
def clsOf (qs:List (Nat × Nat)) (ops:Array Oper) (k:Nat):Nat :=
 match ops[k]? with
 | some o=>cl qs k o.op
 | none=>3
def iterA (body:Act->AM->(Exit->Act->AM->Prop)->Prop):Nat->Act->AM->(Exit->Act->AM->Prop)->Prop
 | 0,_,_,_=>False
 | n+1,a,m,Q=>body a m fun e a' m'=>match e with
  | .normal=>iterA body n a' m' Q
  | e=>Q e a' m'
def vc (P:Program) (w0:World):Code->Act->AM->(Exit->Act->AM->Prop)->Prop
 | .skip,a,m,Q=>Q .normal a m
 | .label _,a,m,Q=>Q .normal a m
 | .region _ ops false,a,m,Q=>AL P w0 (fun _=>3) ops ops.toList 0 a m (Q .normal)
 | .region _ ops true,a,m,Q=>∃ cls:Nat->Nat,Sat w0 m->VAny P w0 cls .any ops (Q .normal) ops.size (Array.replicate ops.size false) a m
 | .seq x y,a,m,Q=>vc P w0 x a m fun e a' m'=>match e with
  | .normal=>vc P w0 y a' m' Q
  | e=>Q e a' m'
 | .cond c x y,a,m,Q=>∃ t,a.eval c=.bool t/\(t=true->vc P w0 x a m Q)/\(t=false->vc P w0 y a m Q)
 | .block id c,a,m,Q=>vc P w0 c a m fun e a' m'=>match e with
  | .exit id'=>if id'=id then Q .normal a' m' else Q (.exit id') a' m'
  | e=>Q e a' m'
 | .loop c,a,m,Q=>∃ n,iterA (fun a m Q=>vc P w0 c a m Q) n a m Q
 | .exit id,a,m,Q=>Q (.exit id) a m
 | .ret,a,m,Q=>Q .ret a m
 | _,_,_,_=>False
theorem vc_sound (hm:P.follows .mixedOrders=true) (c:Code):∀ (a:Act) (m:AM) (Q:Exit->Act->AM->Prop) (w:World),Holds w0 w m->vc P w0 c a m Q ->
  c.wp P (fun e a' w'=>∃ m',Holds w0 w' m'/\Q e a' m') a w:=by
 induction c with
 | skip=>intro a m Q w hh h; exact wp_skip ⟨m,hh,h⟩
 | label l=>intro a m Q w hh h; exact wp_label ⟨m,hh,h⟩
 | region id ops draw =>
  intro a m Q w hh h
  cases draw with
  | false=>exact wp_region_list (wpList_of_AL (Q:=Q .normal) (fun a m w hh hq=>⟨m,hh,hq⟩) (fun _=>3) ops.toList 0 a w m (by simp) hh h)
  | true =>
   obtain ⟨cls,h⟩:=h
   refine wp_region_any hm ?_
   have hh1:Holds w0 { w with drawn:=w.drawn+1 } m:=hh.drawn _
   exact wpAny_of_VAny (P:=P) (Q':=fun e a' w'=>∃ m',Holds w0 w' m'/\Q e a' m') (Q:=Q .normal) (fun a m w hh hq=>⟨m,hh,hq⟩) ops.size (Array.replicate ops.size false) a _ m hh1 (h hh.sat)
 | seq x y ihx ihy =>
  intro a m Q w hh h
  refine wp_seq (Code.wp_mono (fun e a' w' hq=>?_) (ihx a m _ w hh h))
  obtain ⟨m',hh',hq⟩:=hq
  cases e <;> first | exact ihy _ _ _ _ hh' hq | exact ⟨m',hh',hq⟩
 | cond c x y ihx ihy =>
  intro a m Q w hh h
  obtain ⟨t,ht,h1,h2⟩:=h
  exact wp_cond_split ht (fun e=>ihx a m Q w hh (h1 e)) (fun e=>ihy a m Q w hh (h2 e))
 | block id c ih =>
  intro a m Q w hh h
  refine wp_block (Code.wp_mono (fun e a' w' hq=>?_) (ih a m _ w hh h))
  obtain ⟨m',hh',hq⟩:=hq
  cases e <;> first | exact ⟨m',hh',hq⟩ | skip
  rename_i id'
  show Exit.inBlock id _ (.exit id') a' w'
  simp only [Exit.inBlock]
  by_cases hid:id'=id
  .rw [if_pos hid]; simp only [if_pos hid] at hq; exact ⟨m',hh',hq⟩
  .rw [if_neg hid]; simp only [if_neg hid] at hq; exact ⟨m',hh',hq⟩
 | loop c ih =>
  intro a m Q w hh h
  obtain ⟨n,h⟩:=h
  refine wp_loop_rounds n ?_
  induction n generalizing a m w with
  | zero=>exact h.elim
  | succ n ihn =>
   rw [rounds_succ]
   refine Code.wp_mono (fun e a' w' hq=>?_) (ih a m _ w hh h)
   obtain ⟨m',hh',hq⟩:=hq
   cases e <;> first | exact ihn _ _ _ hh' hq | exact ⟨m',hh',hq⟩
 | exit id=>intro a m Q w hh h; exact wp_exit ⟨m,hh,h⟩
 | ret=>intro a m Q w hh h; exact wp_ret ⟨m,hh,h⟩
 | _=>intro a m Q w hh h; exact h.elim
end
def isAggD:TypeDesc->Bool
 | .struct _ | .array _ _=>true
 | _=>false
section lemmas
variable {P:Program} {w0:World}
theorem pval_bind {α β:Type} (s:Sem α) (f:α->Sem β):pval P (s.bind f)=(pval P s).bind fun x=>pval P (f x):=by
 induction s with
 | pure x=>rfl
 | program k ih=>simp only [Sem.bind,pval,ih]
 | mark mk k ih=>simp only [Sem.bind,pval,ih]
 | _=>rfl
theorem rval_bind {m:AM} {α β:Type} (s:Sem α) (f:α->Sem β):rval P m (s.bind f)=(rval P m s).bind fun x=>rval P m (f x):=by
 induction s with
 | pure x=>rfl
 | program k ih=>simp only [Sem.bind,rval,ih]
 | mark mk k ih=>simp only [Sem.bind,rval,ih]
 | load md a k ih=>simp only [Sem.bind,rval]; cases m.cell a <;> simp [ih]
 | shape r k ih=>simp only [Sem.bind,rval]; cases m r <;> simp [ih]
 | getObj r k ih=>simp only [Sem.bind,rval]; cases hm:m r with
  | none=>rfl
  | some o=>cases o <;> simp [ih]
 | _=>rfl
theorem pval_bind' {α β:Type} (s:Sem α) (f:α->Sem β):pval P (s >>= f)=(pval P s).bind fun x=>pval P (f x):=pval_bind s f
theorem rval_bind' {m:AM} {α β:Type} (s:Sem α) (f:α->Sem β):rval P m (s >>= f)=(rval P m s).bind fun x=>rval P m (f x):=rval_bind s f
theorem pval_pure {α:Type} (x:α):pval P (pure x:Sem α)=some x:=rfl
theorem rval_pure {m:AM} {α:Type} (x:α):rval P m (pure x:Sem α)=some x:=rfl
theorem awp_bind' {B:Nat} {α β:Type} (s:Sem α) (f:α->Sem β) (m:AM) (K:β->AM->Prop):awp P B (s >>= f) m K↔awp P B s m (fun x m'=>awp P B (f x) m' K):=awp_bind s f m K
theorem rval_of_pval {m:AM} {α:Type} (s:Sem α):∀ {x:α},pval P s=some x->rval P m s=some x:=by
 induction s with
 | pure x=>intro y h; exact h
 | program k ih=>intro y h; exact ih _ h
 | mark mk k ih=>intro y h; exact ih h
 | _=>intros; simp_all [pval]
theorem awp_of_rval {B:Nat} {m:AM} {α:Type} (s:Sem α):∀ {x:α} {K:α->AM->Prop},rval P m s=some x->K x m->awp P B s m K:=by
 induction s with
 | pure x=>intro y K h hk; injection h with h; subst h; exact hk
 | program k ih=>intro y K h hk; exact ih _ h hk
 | mark mk k ih=>intro y K h hk; exact ih h hk
 | load md a k ih =>
  intro y K h hk
  unfold rval at h
  cases hc:m.cell a with
  | none=>rw [hc] at h; cases h
  | some v=>rw [hc] at h; exact ⟨v,hc,ih v h hk⟩
 | shape r k ih =>
  intro y K h hk
  unfold rval at h
  cases hc:m r with
  | none=>rw [hc] at h; cases h
  | some o=>rw [hc] at h; exact ⟨o,hc,ih _ h hk⟩
 | getObj r k ih =>
  intro y K h hk
  unfold rval at h
  cases hc:m r with
  | none=>rw [hc] at h; cases h
  | some o =>
   rw [hc] at h
   refine ⟨o,hc,?_⟩
   cases o <;> first | exact ⟨trivial,ih _ h hk⟩ | (simp at h)
 | _=>intros; simp_all [rval]
theorem OpA_of_pval {s:Sem Next} {v:Value} (h:pval P s=some (.value v)) (c:Nat) {m:AM} {K:Value->AM->Prop} (hk:K v m):OpA P w0 c s m K:=by
 match c with
 | 0=>exact ⟨v,by show (pval P s).bind nextVal=_; rw [h]; rfl,hk⟩
 | 1=>exact ⟨v,by show (rval P m s).bind nextVal=_; rw [rval_of_pval s h]; rfl,hk⟩
 | 2=>exact ⟨v,.inl (by rw [rval_of_pval s h]; rfl),hk⟩
 | 3=>exact awp_of_rval s (rval_of_pval s h) hk
 | n+4=>exact awp_of_rval s (rval_of_pval s h) ⟨fun _ _ h=>h,hk⟩
theorem OpA_of_rval {s:Sem Next} {v:Value} {m:AM} (h:rval P m s=some (.value v)) {c:Nat} (hc:1<=c) {K:Value->AM->Prop} (hk:K v m):OpA P w0 c s m K:=by
 match c,hc with
 | 1,_=>exact ⟨v,by show (rval P m s).bind nextVal=_; rw [h]; rfl,hk⟩
 | 2,_=>exact ⟨v,.inl (by rw [h]; rfl),hk⟩
 | 3,_=>exact awp_of_rval s h hk
 | n+4,_=>exact awp_of_rval s h ⟨fun _ _ h=>h,hk⟩
theorem OpA_of_awp {s:Sem Next} {m:AM} {K:Value->AM->Prop} {c:Nat} (hc:c=3) (h:awp P w0.heap.size s m (cont P w0 K)):OpA P w0 c s m K:=by
 subst hc; exact h
theorem OpA_of_ext {s:Sem Next} {m:AM} {K:Value->AM->Prop} {c:Nat} (hc:3<=c) (h:awp P w0.heap.size s m (cont P w0 (fun v m'=>m.le m'/\K v m'))):OpA P w0 c s m K:=by
 match c,hc with
 | 3,_=>exact awp_mono s m _ _ (fun x m' hx=>cont_mono (fun v m'' hv=>hv.2) x m' hx) h
 | n+4,_=>exact h
theorem le_new {m:AM} {b:Nat} (hm:m b=none) (o:Obj):m.le (m.upd b o):=fun x o' hx=>by
 have:x≠b:=fun e=>by subst e; rw [hm] at hx; cases hx
 unfold AM.upd; rw [if_neg this]; exact hx
theorem pval_underlying (t:TypeId):pval P (underlying t)=P.underlying t:=by
 unfold underlying program
 show pval P (match P.underlying t with | some d => (pure d : Sem TypeDesc) | none => stuck "no such type") = _
 cases P.underlying t <;> rfl
theorem pval_typeInfo (t:TypeId):pval P (typeInfo t)=P.info? t:=by
 unfold typeInfo program
 show pval P (match P.info? t with | some i => (pure i : Sem TypeInfo) | none => stuck "no such type") = _
 cases P.info? t <;> rfl
theorem pval_sizeOf (t:TypeId):pval P (sizeOf t)=(P.info? t).map (·.size):=by
 unfold sizeOf
 rw [pval_bind',pval_typeInfo]
 cases P.info? t <;> rfl
theorem pval_isAgg (t:TypeId):pval P (isAgg t)=(P.underlying t).map isAggD:=by
 unfold isAgg
 rw [pval_bind',pval_underlying]
 cases P.underlying t with
 | none=>rfl
 | some d=>cases d <;> rfl
theorem pval_zeroValue (t:TypeId):pval P (zeroValue t)=(P.info? t).bind (·.zero):=by
 unfold zeroValue
 rw [pval_bind',pval_typeInfo]
 cases P.info? t with
 | none=>rfl
 | some i=>simp only [Option.bind_some]; cases i.zero <;> rfl
theorem rv_isAgg {t:TypeId} {d:TypeDesc} {m:AM} (h:P.underlying t=some d):rval P m (isAgg t)=some (isAggD d):=rval_of_pval _ (by rw [pval_isAgg,h]; rfl)
theorem rv_sizeOf {t:TypeId} {i:TypeInfo} {m:AM} (h:P.info? t=some i):rval P m (sizeOf t)=some i.size:=rval_of_pval _ (by rw [pval_sizeOf,h]; rfl)
theorem pv_sizeOf {t:TypeId} {i:TypeInfo} (h:P.info? t=some i):pval P (sizeOf t)=some i.size:=by rw [pval_sizeOf,h]; rfl
theorem pv_isAgg {t:TypeId} {d:TypeDesc} (h:P.underlying t=some d):pval P (isAgg t)=some (isAggD d):=by rw [pval_isAgg,h]; rfl
theorem pv_underlying {t:TypeId} {d:TypeDesc} (h:P.underlying t=some d):pval P (underlying t)=some d:=by rw [pval_underlying,h]
theorem pv_zeroValue {t:TypeId} {i:TypeInfo} {z:Value} (h:P.info? t=some i) (hz:i.zero=some z):pval P (zeroValue t)=some z:=by rw [pval_zeroValue,h]; exact hz
theorem pv_typeInfo {t:TypeId} {i:TypeInfo} (h:P.info? t=some i):pval P (typeInfo t)=some i:=by rw [pval_typeInfo,h]
theorem awp_p {α:Type} {s:Sem α} {m:AM} {x:α} {B:Nat} {K:α->AM->Prop} (h:pval P s=some x) (hk:K x m):awp P B s m K:=awp_of_rval s (rval_of_pval s h) hk
end lemmas
inductive CK where
 | int (k:IntKind)
 | bool | str | ptr | slice | map | any
 deriving DecidableEq,Repr
structure TI where
 agg:Bool
 cks:List CK
 zero:List Value
def ckOf:TypeDesc->CK
 | .int k=>.int k
 | .bool=>.bool
 | .string=>.str
 | .pointer _=>.ptr
 | .slice _=>.slice
 | .map ..=>.map
 | _=>.any
def flat (P:Program):Nat->TypeId->List CK
 | 0,_=>[]
 | d+1,t=>match P.underlying t with
  | some (.struct fs)=>fs.toList.flatMap fun f=>flat P d f.type
  | some (.array n e)=>(List.replicate n (flat P d e)).flatten
  | some x=>[ckOf x]
  | none=>[]
def tyOf (P:Program) (t:TypeId):Option TI :=
 match P.underlying t,P.info? t with
 | some d,some i=>match i.zero with
  | some z=>if (flat P 12 t).length=i.size then some ⟨isAggD d,flat P 12 t,z.cells.toList⟩ else none
  | none=>none
 | _,_=>none
def elOf (P:Program) (t:TypeId):Option (TypeId × Nat × Nat × List Value) :=
 match P.underlying t with
 | some (.slice e)=>match P.info? e with
  | some i=>match i.zero with
   | some z=>if z.cells.size=i.size then some (e,i.size,i.bytes,z.cells.toList) else none
   | none=>none
  | none=>none
 | _=>none
def bldOf (P:Program) (t:TypeId):Option (List (Nat × Nat) × List Value) :=
 match P.info? t with
 | some i=>match i.zero with
  | some z=>match P.underlying t with
   | some (.struct fs)=>match fs.toList.mapM (fun f=>(P.info? f.type).map fun j=>(f.offset,j.size)) with
    | some l=>some (l,z.cells.toList)
    | none=>none
   | _=>none
  | none=>none
 | none=>none
def arOf (P:Program) (t:TypeId):Option (Nat × Nat) :=
 match P.underlying t with
 | some (.array n e)=>match P.info? e with
  | some i=>some (n,i.size)
  | none=>none
 | _=>none
def fldOf (P:Program) (t:TypeId) (k:Nat):Option (Nat × Bool × Nat) :=
 match P.underlying t with
 | some (.struct fs)=>match fs[k]? with
  | some f=>match P.underlying f.type,P.info? f.type with
   | some d,some i=>if i.size=0 then none else some (f.offset,isAggD d,i.size)
   | _,_=>none
  | none=>none
 | _=>none
def sigOf (P:Program) (g:FuncId):Option (List TI) :=
 match P.funcs[g]? with
 | some fn => if fn.name == "runtime.NumGoroutine" then none else if fn.body.isNone then none else (fn.resultTypes.toList.mapM (tyOf P))
 | none=>none
def CK.ex (c:CK) (K:Value->Prop):Prop :=
 match c with
 | .int k=>∃ n:Int,K (.int k n)
 | .bool=>∃ b:Bool,K (.bool b)
 | .str=>∃ s:ByteArray,K (.string s)
 | .ptr=>∃ p:Option Addr,K (.pointer p)
 | .slice=>∃ A n c,K (.slice A n c)
 | .map=>∃ r,K (.map r)
 | .any=>∃ v,K v
theorem CK.ex_some {c:CK} {K:Value->Prop} (h:c.ex K):∃ v,K v:=by
 cases c <;> first | exact h | (obtain ⟨_,h⟩:=h; first | exact ⟨_,h⟩ | (obtain ⟨_,_,h⟩:=h; exact ⟨_,h⟩))
def cksEx:List CK->List Value->(List Value->Prop)->Prop
 | [],acc,K=>K acc
 | c :: r,acc,K=>c.ex fun v=>cksEx r (acc ++ [v]) K
def TI.ex (t:TI) (K:Value->Prop):Prop :=
 if t.agg then cksEx t.cks [] fun l=>K (.agg l.toArray) else match t.cks with
  | [c]=>c.ex K
  | _=>False
def tupEx:List TI->List Value->(List Value->Prop)->Prop
 | [],acc,K=>K acc
 | t :: r,acc,K=>t.ex fun v=>tupEx r (acc ++ [v]) K
def resEx (ts:List TI) (K:Value->Prop):Prop :=
 match ts with
 | [t]=>t.ex K
 | ts=>tupEx ts [] fun l=>K (.tuple l.toArray)
theorem cksEx_some:∀ {l:List CK} {acc:List Value} {K:List Value->Prop},cksEx l acc K->∃ r,K r
 | [],_,_,h=>⟨_,h⟩
 | _ :: _,_,_,h=>by obtain ⟨v,h⟩:=CK.ex_some h; exact cksEx_some h
theorem TI.ex_some {t:TI} {K:Value->Prop} (h:t.ex K):∃ v,K v:=by
 unfold TI.ex at h
 split at h
 .obtain ⟨l,h⟩:=cksEx_some h; exact ⟨_,h⟩
 .split at h
  .exact CK.ex_some h
  .exact h.elim
theorem tupEx_some:∀ {l:List TI} {acc:List Value} {K:List Value->Prop},tupEx l acc K->∃ r,K r
 | [],_,_,h=>⟨_,h⟩
 | _ :: _,_,_,h=>by obtain ⟨v,h⟩:=TI.ex_some h; exact tupEx_some h
theorem resEx_some {ts:List TI} {K:Value->Prop} (h:resEx ts K):∃ v,K v:=by
 unfold resEx at h
 split at h
 .exact TI.ex_some h
 .obtain ⟨l,h⟩:=tupEx_some h; exact ⟨_,h⟩
def ldCells (m:AM) (a:Addr):List CK->Nat->List Value->(List Value->Prop)->Prop
 | [],_,acc,K=>K acc
 | c :: r,i,acc,K=>c.ex fun v=>m.cell (a.add i)=some v/\ldCells m a r (i+1) (acc ++ [v]) K
theorem ldCells_rval {P:Program} {m:AM} {a:Addr}:∀ {cks:List CK} {i:Nat} {acc:List Value} {K:List Value->Prop},ldCells m a cks i acc K ->
  ∃ l,rval P m (loadCellsFrom a i cks.length acc.toArray)=some l.toArray/\K l
 | [],i,acc,K,h=>⟨acc,rfl,h⟩
 | c :: r,i,acc,K,h=>by
  obtain ⟨v,hc,h⟩:=CK.ex_some h
  obtain ⟨l,hl,hK⟩:=ldCells_rval (P:=P) h
  refine ⟨l,?_,hK⟩
  show rval P m (load (a.add i) >>= fun v=>loadCellsFrom a (i+1) r.length (acc.toArray.push v))=_
  rw [rval_bind']
  have:rval P m (load (a.add i))=some v:=by unfold load; simp only [rval,hc]
  rw [this]
  simpa using hl
def ldS (P:Program) (t:TypeId) (m:AM) (a:Addr) (K:Value->Prop):Prop :=
 match tyOf P t with
 | some ti=>if ti.agg then ldCells m a ti.cks 0 [] fun l=>K (.agg l.toArray) else match ti.cks with
  | [c]=>c.ex fun v=>m.cell a=some v/\K v
  | _=>False
 | none=>False
theorem tyOf_spec {P:Program} {t:TypeId} {ti:TI} (h:tyOf P t=some ti):∃ d i z,P.underlying t=some d/\P.info? t=some i/\i.zero=some z/\ti.agg=isAggD d/\ti.cks.length=i.size/\ti.zero=z.cells.toList:=by
 unfold tyOf at h
 split at h
 .rename_i d i hd hi
  split at h
  .rename_i z hz
   split at h
   .rename_i hl
    injection h with h
    subst h
    exact ⟨d,i,z,hd,hi,hz,rfl,hl,rfl⟩
   .cases h
  .cases h
 .cases h
theorem ldS_rval {P:Program} {t:TypeId} {m:AM} {a:Addr} {K:Value->Prop} (h:ldS P t m a K):∃ v,rval P m (loadVar t a)=some v/\K v:=by
 unfold ldS at h
 split at h
 .rename_i ti hti
  obtain ⟨d,i,z,hd,hi,hz,hag,hlen,hzz⟩:=tyOf_spec hti
  unfold loadVar
  rw [rval_bind',rv_isAgg hd,<- hag]
  by_cases hg:ti.agg=true
  .rw [if_pos hg] at h
   obtain ⟨l,hl,hK⟩:=ldCells_rval (P:=P) h
   refine ⟨_,?_,hK⟩
   simp only [Option.bind_some,hg,if_true]
   rw [rval_bind',rv_sizeOf hi,<- hlen]
   have hl':rval P m (loadCells a ti.cks.length)=some l.toArray:=hl
   simp only [Option.bind_some]
   rw [rval_bind',hl']
   rfl
  .rw [if_neg hg] at h
   split at h
   .obtain ⟨v,hc,hK⟩:=CK.ex_some h
    refine ⟨v,?_,hK⟩
    have hg':ti.agg=false:=by simpa using hg
    simp only [Option.bind_some,hg',Bool.false_eq_true,if_false]
    unfold load
    simp only [rval,hc]
   .exact h.elim
 .exact h.elim
def StC (B:Nat) (m:AM) (a:Addr) (v:Value) (K:AM->Prop):Prop :=
 B<=a.block/\(∃ u,m.cell a=some u)/\m.frozen a=false/\K (m.set a v)
def one1 (v:Value) (X:Prop):Prop :=
 match v with
 | .agg _=>False
 | .tuple _=>False
 | _=>X
def stCells (B:Nat) (a:Addr):List Value->List CK->Nat->AM->(AM->Prop)->Prop
 | [],[],_,m,K=>K m
 | v :: r,_ :: cs,i,m,K=>one1 v (StC B m (a.add i) v fun m'=>stCells B a r cs (i+1) m' K)
 | _,_,_,_,_=>False
theorem one1_spec {v:Value} {X:Prop} (h:one1 v X):v.oneCell'=true/\X:=by
 cases v <;> first | exact h.elim | exact ⟨rfl,h⟩
theorem stCells_len {B:Nat} {a:Addr}:∀ {l:List Value} {cs:List CK} {i:Nat} {m:AM} {K:AM->Prop},stCells B a l cs i m K->l.length=cs.length
 | [],[],_,_,_,_=>rfl
 | v :: r,c :: cs,i,m,K,h=>by
  obtain ⟨_,_,_,_,h⟩:=one1_spec h
  simp [stCells_len h]
 | [],_ :: _,_,_,_,h=>h.elim
 | _ :: _,[],_,_,_,h=>h.elim
theorem stCells_awp {P:Program} {B:Nat} {a:Addr}:∀ {l:List Value} {cs:List CK} {i:Nat} {m:AM} {K:AM->Prop},stCells B a l cs i m K->awp P B (storeCells a l i) m (fun _ m'=>K m')
 | [],[],i,m,K,h=>h
 | v :: r,c :: cs,i,m,K,h=>by
  obtain ⟨h1,h2,h3,h4,h5⟩:=one1_spec h
  show awp P B (store (a.add i) v >>= fun _=>storeCells a r (i+1)) m _
  rw [awp_bind']
  exact ⟨h1,h2,h3,h4,stCells_awp h5⟩
 | [],_ :: _,_,_,_,h=>h.elim
 | _ :: _,[],_,_,_,h=>h.elim
def stS (P:Program) (B:Nat) (t:TypeId) (m:AM) (a:Addr) (v:Value) (K:AM->Prop):Prop :=
 match tyOf P t with
 | some ti=>stCells B a v.cells.toList ti.cks 0 m K
 | none=>False
theorem stS_awp {P:Program} {B:Nat} {t:TypeId} {m:AM} {a:Addr} {v:Value} {K:AM->Prop} (h:stS P B t m a v K):awp P B (storeVar t a v) m (fun _ m'=>K m'):=by
 unfold stS at h
 split at h
 .rename_i ti hti
  obtain ⟨d,i,z,hd,hi,hz,hag,hlen,hzz⟩:=tyOf_spec hti
  have hl:=stCells_len h
  unfold storeVar
  rw [awp_bind']
  refine awp_p (pv_sizeOf hi) ?_
  have e:¬ v.cells.size≠i.size:=by
   have:v.cells.toList.length=v.cells.size:=by simp
   omega
  simp only [e,if_false]
  exact stCells_awp h
 .exact h.elim
def mpOf (P:Program) (t:TypeId):Option TI :=
 match P.underlying t with
 | some (.map _ e)=>tyOf P e
 | _=>none
abbrev Sg:=Nat->Value
def upd (σ:Sg) (d:Nat) (v:Value):Sg:=fun t=>if t=d then v else σ t
def putS (σ:Sg) (d:Option Tmp) (v:Value):Sg :=
 match d with
 | some d=>upd σ d v
 | none=>σ
def evS (σ:Sg) (x:Operand):Value :=
 match x with
 | .tmp t=>σ t
 | .const v=>v
 | .global g=>.pointer (some ⟨g,0,none⟩)
 | .func f=>.func (.func f) #[] #[]
def binS (op : BinOp) (x y : Value) (K : Value -> Prop) : Prop :=
  match op, x, y with
  | .add, .int k a, .int k' b => k = k' /\ K (.int k (k.wrap (a + b)))
  | .sub, .int k a, .int k' b => k = k' /\ K (.int k (k.wrap (a - b)))
  | .mul, .int k a, .int k' b => k = k' /\ K (.int k (k.wrap (a * b)))
  | .quo, .int k a, .int k' b => k = k' /\ b ≠ 0 /\ K (.int k (k.wrap (a.tdiv b)))
  | .rem, .int k a, .int k' b => k = k' /\ b ≠ 0 /\ K (.int k (a.tmod b))
  | .and, .int k a, .int k' b => k = k' /\ K (bitsV .and k a b)
  | .or, .int k a, .int k' b => k = k' /\ K (bitsV .or k a b)
  | .eql, .int k a, .int k' b => k = k' /\ K (.bool (a == b))
  | .neq, .int k a, .int k' b => k = k' /\ K (.bool (a != b))
  | .lss, .int k a, .int k' b => k = k' /\ K (.bool (decide (a < b)))
  | .leq, .int k a, .int k' b => k = k' /\ K (.bool (decide (a <= b)))
  | .gtr, .int k a, .int k' b => k = k' /\ K (.bool (decide (a > b)))
  | .geq, .int k a, .int k' b => k = k' /\ K (.bool (decide (a >= b)))
  | .shl, .int k a, .int _ b => 0 <= b /\ K (.int k (k.wrap (a * 2 ^ (min b.toNat k.bits))))
  | .shr, .int k a, .int _ b => 0 <= b /\ K (.int k (a.fdiv (2 ^ (min b.toNat k.bits))))
  | _, _, _ => False
 where bitsV (op : BinOp) (k : IntKind) (a b : Int) : Value :=
  match op with
  | .and => .int k (k.wrap (BitVec.ofInt k.bits a &&& BitVec.ofInt k.bits b).toNat)
  | _ => .int k (k.wrap (BitVec.ofInt k.bits a ||| BitVec.ofInt k.bits b).toNat)
theorem eqGuard_int {P:Program} (op:BinOp) (t:TypeId) (x y:Operand) {k k':IntKind} (a b:Int):pval P (eqGuard op t x y (.int k a) (.int k' b))=some ():=by
 unfold eqGuard; cases op <;> rfl
theorem binS_pval {P : Program} {op : BinOp} {t : TypeId} {x y : Operand} {u v : Value} {K : Value -> Prop} (h : binS op u v K) :
    ∃ r, pval P (do eqGuard op t x y u v; binOp op t u v) = some r /\ K r := by
  unfold binS at h
  split at h <;> first
    | exact h.elim
    | (obtain ⟨rfl, hb, h⟩ := h
       refine ⟨_, ?_, h⟩
       rw [pval_bind', eqGuard_int]
       simp [binOp, Op.intDiv, hb, pval_pure])
    | (obtain ⟨rfl, h⟩ := h
       refine ⟨_, ?_, h⟩
       rw [pval_bind', eqGuard_int]
       simp [binOp, Op.intArith, Op.intCmp, Op.intBits, binS.bitsV, pval_pure])
    | (obtain ⟨h0, h⟩ := h
       refine ⟨_, ?_, h⟩
       rw [pval_bind', eqGuard_int]
       have hb : ¬ (_ : Int) < 0 := Int.not_lt.2 h0
       simp [binOp, Op.shift, hb, pval_pure])
def spl (place:Nat->Option (Nat × Nat)):List Value->List (Nat × Value)->List Value
 | cells,[]=>cells
 | cells,(i,v) :: r=>match place i with
  | some (off,_)=>spl place (cells.take off ++ v.cells.toList ++ cells.drop (off+v.cells.toList.length)) r
  | none=>cells
def splOk (place:Nat->Option (Nat × Nat)) (n:Nat) (parts:List (Nat × Value)):Bool :=
 parts.all fun p=>match place p.1 with
  | some (off,size)=>Nat.beq p.2.cells.toList.length size && Nat.ble (off+size) n
  | none=>false
theorem fold_splice (cs:List Value):∀ (cells:Array Value) (off k:Nat),off+k+cs.length<=cells.size ->
  (cs.zipIdx k).foldl (fun a (x:Value × Nat)=>a.setIfInBounds (off+x.2) x.1) cells=(cells.toList.take (off+k) ++ cs ++ cells.toList.drop (off+k+cs.length)).toArray:=by
 induction cs with
 | nil=>intro cells off k h; simp
 | cons c cs ih =>
  intro cells off k h
  simp only [List.length_cons] at h
  rw [List.zipIdx_cons,List.foldl_cons,ih _ off (k+1) (by simp; omega)]
  apply Array.ext'
  simp only [Array.toList_setIfInBounds,List.length_cons]
  apply List.ext_getElem?
  intro i
  simp only [List.getElem?_append,List.getElem?_take,List.getElem?_drop,List.getElem?_set,List.length_append,List.length_take,List.length_set,List.length_cons,List.getElem?_cons,Array.length_toList]
  have e1:min (off+(k+1)) cells.size=off+k+1:=by omega
  have e2:min (off+k) cells.size=off+k:=by omega
  rw [e1,e2]
  by_cases h1:i<off+k
  .simp [h1,show i<off+k+1 by omega,show i<off+(k+1) by omega,show ¬ off+k=i by omega,show i<off+k+1+cs.length by omega,show i<off+k+(cs.length+1) by omega]
  .by_cases h2:i=off+k
   .subst h2
    simp [show off+k<off+(k+1) by omega,show off+k<cells.size by omega,show off+k<off+k+1+cs.length by omega]
   .by_cases h3:i<off+k+1+cs.length
    .simp [h1,h3,show ¬ i<off+k+1 by omega,show i<off+k+(cs.length+1) by omega,show ¬ i-(off+k)=0 by omega]
     congr 1
    .simp [h1,h3,show ¬ i<off+k+1 by omega,show ¬ i<off+k+(cs.length+1) by omega]
     rw [show off+(k+1)+cs.length+(i-(off+k+1+cs.length))=i by omega,show off+k+(cs.length+1)+(i-(off+k+(cs.length+1)))=i by omega]
     rw [if_neg (by omega)]
theorem fill_spl (place:Nat->Option (Nat × Nat)):∀ (parts:List (Nat × Value)) (cells:Array Value),splOk place cells.size parts=true ->
  Instr.fill place cells parts=some (spl place cells.toList parts).toArray
 | [],cells,_=>by simp [Instr.fill,spl]
 | (i,v) :: r,cells,h=>by
  unfold splOk at h
  rw [List.all_cons,Bool.and_eq_true] at h
  obtain ⟨h1,h2⟩:=h
  simp only at h1
  unfold Instr.fill spl
  cases hp:place i with
  | none=>rw [hp] at h1; cases h1
  | some os =>
   obtain ⟨off,size⟩:=os
   rw [hp] at h1
   simp only [Bool.and_eq_true] at h1
   have hs:v.cells.size=size:=by have:=Nat.eq_of_beq_eq_true h1.1; simpa using this
   have hb:off+size<=cells.size:=Nat.le_of_ble_eq_true h1.2
   simp only
   have hn:¬ ((decide (v.cells.size≠size) || decide (off+v.cells.size>cells.size))=true):=by
    simp only [Bool.or_eq_true,decide_eq_true_eq]; omega
   rw [if_neg hn]
   have hf:v.cells.zipIdx.foldl (fun cs x=>match x with | (c,j)=>cs.setIfInBounds (off+j) c) cells=(cells.toList.take off ++ v.cells.toList ++ cells.toList.drop (off+v.cells.toList.length)).toArray:=by
    have:=fold_splice v.cells.toList cells off 0 (by simp; omega)
    simp only [Nat.add_zero] at this
    rw [<- this,<- Array.foldl_toList,Array.toList_zipIdx]
   rw [hf,fill_spl place r _ (by
    have hsz:(cells.toList.take off ++ v.cells.toList ++ cells.toList.drop (off+v.cells.toList.length)).toArray.size=cells.size:=by simp; omega
    rw [hsz]; exact h2)]
section
variable (P:Program) (w0:World) (c:Nat) (ev:Operand->Value)
def rawS (op : Op) (ty : TypeId) (m : AM) (K : Value → AM → Prop) : Prop := OpA P w0 c (execOp ev ⟨none, op, ty, "", #[], none⟩) m K
def nilO (p:Option Addr) (K:Addr->Prop):Prop :=
 match p with
 | some a=>K a
 | none=>False
theorem nilO_spec {p:Option Addr} {K:Addr->Prop} (h:nilO p K):∃ a,p=some a/\K a:=by
 cases p with
 | none=>exact h.elim
 | some a=>exact ⟨a,rfl,h⟩
def pickS (t x y:Value) (K:Value->Prop):Prop :=
 match t,x,y with
 | .bool t,.bool x,.bool y=>K (.bool (bif t then x else y))
 | .bool t,.bool x,.tuple _=>t=true/\K (.bool x)
 | .bool t,.tuple _,.bool y=>t=false/\K (.bool y)
 | _,_,_=>False
def nilS (v:Value) (m:AM) (K:Value->AM->Prop):Prop :=
 match v with
 | .pointer p=>nilO p fun a=>K (.pointer (some a)) m
 | .func (.func g) f cs=>K (.func (.func g) f cs) m
 | _=>False
def eqS (t:TypeId) (x y:Value) (K:Bool->Prop):Prop :=
 match P.underlying t,x,y with
 | some .bool,.bool a,.bool b=>K (a == b)
 | some (.slice _),.slice A _ _,.slice none _ _=>K A.isNone
 | some (.slice _),.slice none _ _,.slice (some _) _ _=>K false
 | some (.pointer _),.pointer A,.pointer none=>K A.isNone
 | some (.map _ _),.map A,.map none=>K A.isNone
 | _,_,_=>False
def eqOp (op:BinOp) (t:TypeId) (x y:Value) (K:Value->Prop):Prop :=
 match op with
 | .eql=>eqS P t x y (fun b=>K (.bool b))
 | .neq=>eqS P t x y (fun b=>K (.bool !b))
 | _=>False
def binX (op:BinOp) (t:TypeId) (x y:Value) (m:AM) (K:Value->AM->Prop) (raw:Prop):Prop :=
 match x,y with
 | .int k a,.int k' b=>binS op (.int k a) (.int k' b) (fun v=>K v m)
 | .agg xs,.agg ys=>∃ b:Bool,pval P (eqGuard op t (.const undef) (.const undef) (.agg xs) (.agg ys) >>= fun _=>binOp op t (.agg xs) (.agg ys))=some (.bool b)/\K (.bool b) m
 | .string a,.string b=>match op with
  | .eql=>K (.bool (a.toList == b.toList)) m
  | .neq=>K (.bool (!(a.toList == b.toList))) m
  | .add=>raw
  | _=>raw
 | x,y=>eqOp P op t x y (fun v=>K v m)
def unS (op:UnOp) (x:Value) (K:Value->Prop):Prop :=
 match op,x with
 | .not,.bool b=>K (.bool !b)
 | .neg,.int k n=>K (.int k (k.wrap (0-n)))
 | _,_=>False
def fldS (s:TypeId) (v:Value) (k:Nat) (K:Value->Prop):Prop :=
 match v,fldOf P s k with
 | .pointer (some a),some (off,_,_)=>K (.pointer (some (a.add off)))
 | _,_=>False
def partS (s:TypeId) (v:Value) (k:Nat) (K:Value->Prop):Prop :=
 match v,fldOf P s k with
 | .agg cs,some (off,true,n)=>K (.agg (cs.extract off (off+n)))
 | .agg cs,some (off,false,_)=>match cs[off]? with
  | some u=>K u
  | none=>False
 | _,_=>False
def idxS (t:TypeId) (x i:Value) (K:Value->Prop):Prop :=
 match x,i with
 | .slice A n _,.int _ i=>match elOf P t with
  | some (_,sz,_,_)=>(0<=i/\i<n)/\nilO A fun a=>K (.pointer (some (a.add (i.toNat*sz))))
  | none=>False
 | .pointer (some a),.int _ i=>match arOf P t with
  | some (n,sz)=>(0<=i/\i<n)/\K (.pointer (some (a.add (i.toNat*sz))))
  | none=>False
 | _,_=>False
def extS (v:Value) (k:Nat) (K:Value->Prop):Prop :=
 match v with
 | .tuple vs=>match vs[k]? with
  | some u=>K u
  | none=>False
 | _=>False
def cvtS (src dst:TypeId) (x:Value) (m:AM) (K:Value->AM->Prop) (raw:Prop):Prop :=
 match x with
 | .int _ n=>match P.underlying src,P.underlying dst with
  | some _,some (.int k)=>K (.int k (k.wrap n)) m
  | _,_=>raw
 | .string s=>if c≠3 then raw else awp P w0.heap.size (convert src dst (.string s)) m fun v m'=>∃ A n cp,v=.slice A n cp/\K (.slice A n cp) m'
 | .slice A n cp=>if c≠3 then raw else awp P w0.heap.size (convert src dst (.slice A n cp)) m fun v m'=>∃ s,v=.string s/\K (.string s) m'
 | _=>raw
def bndS (v:Option Value) (dflt:Nat) (K:Nat->Prop):Prop :=
 match v with
 | none=>K dflt
 | some (.int _ i)=>0<=i/\K i.toNat
 | some _=>False
def sliS (t:TypeId) (x:Value) (lo hi:Option Value) (K:Value->Prop):Prop :=
 match x with
 | .slice A n cp=>match elOf P t with
  | some (_,sz,_,_)=>bndS hi n fun h=>bndS lo 0 fun l=>h<=cp/\l<=h/\K (.slice (if cp=l then A else A.map (·.add (l*sz))) (h-l) (cp-l))
  | none=>False
 | .string s=>match P.underlying t with
  | some .string=>bndS hi s.size fun h=>bndS lo 0 fun l=>h<=s.size/\l<=h/\K (.string (s.extract l h))
  | _=>False
 | _=>False
def lenS (t:TypeId) (x:Value) (K:Value->Prop):Prop :=
 match x,P.underlying t with
 | .slice _ n _,some (.slice _)=>K (.int .i64 n)
 | .string s,some .string=>K (.int .i64 s.size)
 | _,_=>False
def capS (t:TypeId) (x:Value) (K:Value->Prop):Prop :=
 match x,P.underlying t with
 | .slice _ _ n,some (.slice _)=>K (.int .i64 n)
 | _,_=>False
def mnS (x y:Value) (K:Value->Prop):Prop :=
 match x,y with
 | .int k a,.int k' b=>k=k'/\K (.int k (if b<a then b else a))
 | _,_=>False
def mxS (x y:Value) (K:Value->Prop):Prop :=
 match x,y with
 | .int k a,.int k' b=>k=k'/\K (.int k (if b>a then b else a))
 | _,_=>False
def callS (g:FuncId) (args:Array Value) (m:AM) (K:Value->AM->Prop):Prop :=
 match sigOf P g with
 | some ts=>if c<=2 then resEx ts (fun v=>CallsA P w0 g args m (fun r m'=>r=v/\m'=m)/\K v m) else if c=3 then CallsA P w0 g args m (fun r m'=>resEx ts (fun v=>r=v/\K v m')) else CallsA P w0 g args m (fun r m'=>m.le m'/\resEx ts (fun v=>r=v/\K v m'))
 | none=>False
def fnS (f:Value) (args:Array Value) (m:AM) (K:Value->AM->Prop):Prop :=
 match f with
 | .func (.func g) first captured=>callS P w0 c g (first ++ args ++ captured) m K
 | _=>False
def bltS (b:Builtin) (argTypes:Array TypeId) (ty:TypeId) (args:Array Value) (m:AM) (K:Value->AM->Prop) (raw:Prop):Prop :=
 match b,args.toList,argTypes.toList with
 | .len,[x],[t]=>lenS P t x (fun v=>K v m)
 | .cap,[x],[t]=>capS P t x (fun v=>K v m)
 | .min,[x,y],_=>mnS x y (fun v=>K v m)
 | .max,[x,y],_=>mxS x y (fun v=>K v m)
 | .append,_,_=>if c≠3 then False else awp P w0.heap.size (Builtin.append_ argTypes ty args) m fun v m'=>∃ A n cp,v=.slice A n cp/\K (.slice A n cp) m'
 | .copy,_,_=>if c≠3 then False else awp P w0.heap.size (Builtin.copy_ argTypes ty args) m fun v m'=>∃ n,v=.int .i64 n/\K (.int .i64 n) m'
 | .clear,_,_=>if c≠3 then False else awp P w0.heap.size (Builtin.clear_ argTypes ty args) m fun v m'=>v=.tuple #[]/\K (.tuple #[]) m'
 | _,_,_=>raw
def newS (t:TypeId) (cells:List Value) (m:AM) (K:Value->AM->Prop):Prop :=
 ∀ b,w0.heap.size<=b->m b=none->K (.pointer (some ⟨b,0,none⟩)) (m.upd b (.cells cells.toArray t))
def allocS (t:TypeId) (m:AM) (K:Value->AM->Prop):Prop :=
 match tyOf P t with
 | some ti=>newS w0 t ti.zero m K
 | none=>False
def zeros (z:List Value) (n:Nat):List Value:=(List.replicate n z).flatten
def mkS (t:TypeId) (l cp:Value) (m:AM) (K:Value->AM->Prop):Prop :=
 match l,cp,elOf P t with
 | .int _ l,.int _ cp,some (e,_,by_,z)=>(0<=l/\l<=cp/\cp<=9223372036854775807/\by_*cp<=281474976710656) /\
   ∀ b,w0.heap.size<=b->m b=none->K (.slice (some ⟨b,0,none⟩) l.toNat cp.toNat) (m.upd b (.cells (zeros z cp.toNat).toArray e))
 | _,_,_=>False
def EqP (P:Program) (op:BinOp) (t:TypeId) (x y:Value) (b:Bool):Prop :=
 pval P (eqGuard op t (.const undef) (.const undef) x y >>= fun _=>binOp op t x y)=some (.bool b)
def rowP (sz:Nat) (i:Nat):Option (Nat × Nat):=some (i*sz,sz)
def bslS (t:TypeId) (len:Nat) (parts:List (Nat × Value)) (m:AM) (K:Value->AM->Prop):Prop :=
 match elOf P t with
 | some (e,sz,_,z)=>(Nat.ble (len*sz) 16777216 && splOk (rowP sz) (zeros z len).length parts)=true /\
   ∀ b,w0.heap.size<=b->m b=none->K (.slice (some ⟨b,0,none⟩) len len) (m.upd b (.cells (spl (rowP sz) (zeros z len) parts).toArray e))
 | none=>False
def bldS (t:TypeId) (parts:List (Nat × Value)) (K:Value->Prop):Prop :=
 match bldOf P t with
 | some (l,z)=>splOk (fun i=>l[i]?) z.length parts=true/\K (.agg (spl (fun i=>l[i]?) z parts).toArray)
 | none=>False
def byteAt (s:ByteArray) (i:Nat):Int:=match s[i]? with
 | some b=>b.toNat
 | none=>0
def inxS (t:TypeId) (x i:Value) (K:Value->Prop) (raw:Prop):Prop :=
 match x,i with
 | .string s,.int _ i=>match P.underlying t with
  | some .string=>(0<=i/\i<s.size)/\K (.int .u8 (byteAt s i.toNat))
  | _=>raw
 | _,_=>raw
def opS (op:Op) (ty:TypeId) (m:AM) (K:Value->AM->Prop):Prop :=
 match op with
 | .move x=>K (ev x) m
 | .assign x=>K (ev x) m
 | .pick cd a b=>pickS (ev cd) (ev a) (ev b) (fun v=>K v m)
 | .nilCheck x=>nilS (ev x) m K
 | .binOp bo t x y _=>binX P bo t (ev x) (ev y) m K (rawS P w0 c ev op ty m K)
 | .unOp uo _ x=>unS uo (ev x) (fun v=>K v m)
 | .convert s d x=>cvtS P w0 c s d (ev x) m K (rawS P w0 c ev op ty m K)
 | .fieldAddr s x k=>fldS P s (ev x) k (fun v=>K v m)
 | .field s x k=>partS P s (ev x) k (fun v=>K v m)
 | .indexAddr t x i=>idxS P t (ev x) (ev i) (fun v=>K v m)
 | .extract x k=>extS (ev x) k (fun v=>K v m)
 | .makeFunc fn first captured=>K (.func fn (first.map ev) (captured.map ev)) m
 | .slice t x lo hi none=>sliS P t (ev x) (lo.map ev) (hi.map ev) (fun v=>K v m)
 | .load t a=>match ev a with
  | .pointer (some ad)=>ldS P t m ad (fun v=>K v m)
  | _=>False
 | .store t a x=>if c≠3 then False else match ev a with
  | .pointer (some ad)=>stS P w0.heap.size t m ad (ev x) (K undef)
  | _=>False
 | .alloc t=>if c<=2 then False else allocS P w0 t m K
 | .box t x=>if c<=2 then False else newS w0 t (ev x).cells.toList m K
 | .makeSlice t l cp=>if c<=2 then False else mkS P w0 t (ev l) (ev cp) m K
 | .buildSlice t len parts=>if c<=2 then False else bslS P w0 t len (parts.toList.map fun p=>(p.1,ev p.2)) m K
 | .build t parts=>bldS P t (parts.toList.map fun p=>(p.1,ev p.2)) (fun v=>K v m)
 | .makeMap t none=>if c<=2 then False else ∀ b,w0.heap.size<=b->m b=none->K (.map (some b)) (m.upd b (.map #[] 0))
 | .lookup t x i true=>match mpOf P t with
  | some te=>te.ex fun v=>∃ ok:Bool,rval P m (Instr.lookup t (ev x) (ev i) true)=some (.tuple #[v,.bool ok])/\K (.tuple #[v,.bool ok]) m
  | none=>False
 | .lookup t x i false=>match mpOf P t with
  | some te=>te.ex fun v=>rval P m (Instr.lookup t (ev x) (ev i) false)=some v/\K v m
  | none=>False
 | .mapUpdate t mp k v=>if c≠3 then False else awp P w0.heap.size (Instr.mapUpdate t (ev mp) (ev k) (ev v)) m fun _ m'=>K undef m'
 | .insert t mp k v=>if c≠3 then False else awp P w0.heap.size (Instr.mapUpdate t (ev mp) (ev k) (ev v)) m fun _ m'=>K undef m'
 | .index t (.tmp x) i=>inxS P t (ev (.tmp x)) (ev i) (fun v=>K v m) (rawS P w0 c ev op ty m K)
 | .call { callee:=.value f,args,.. }=>fnS P w0 c (ev f) (args.map ev) m K
 | .call { callee:=.builtin b,args,argTypes }=>bltS P w0 c b argTypes ty (args.map ev) m K (rawS P w0 c ev op ty m K)
 | op=>rawS P w0 c ev op ty m K
end
def okClass (c:Nat) (op:Op):Prop:=baseClass op<=c\/2<=c
section sound
variable {P:Program} {w0:World} {c:Nat} {ev:Operand->Value} {m:AM} {K:Value->AM->Prop} {ty:TypeId}
theorem exec_value {s:Sem Value} {v:Value} (h:pval P s=some v):pval P (do pure (Next.value (<- s)):Sem Next)=some (.value v):=by
 rw [pval_bind',h]; rfl
theorem execr_value {s:Sem Value} {v:Value} (h:rval P m s=some v):rval P m (do pure (Next.value (<- s)):Sem Next)=some (.value v):=by
 rw [rval_bind',h]; rfl
theorem fldOf_spec {s:TypeId} {k off n:Nat} {g:Bool} (h:fldOf P s k=some (off,g,n)) :
  ∃ fs f d i,P.underlying s=some (.struct fs)/\fs[k]?=some f/\P.underlying f.type=some d/\P.info? f.type=some i/\i.size≠0/\f.offset=off/\isAggD d=g/\i.size=n:=by
 unfold fldOf at h
 split at h
 .rename_i fs hs
  split at h
  .rename_i f hf
   split at h
   .rename_i d i hd hi
    by_cases h0:i.size=0
    .rw [if_pos h0] at h; cases h
    .rw [if_neg h0] at h
     injection h with h; injection h with h1 h; injection h with h2 h3
     exact ⟨fs,f,d,i,hs,hf,hd,hi,h0,h1,h2,h3⟩
   .cases h
  .cases h
 .cases h
theorem pv_fieldAt {s:TypeId} {k off n:Nat} {g:Bool} {a:Addr} (h:fldOf P s k=some (off,g,n)):pval P (Instr.fieldAt s (.pointer (some a)) k)=some (.pointer (some (a.add off))):=by
 obtain ⟨fs,f,d,i,hs,hf,hd,hi,h0,h1,h2,h3⟩:=fldOf_spec h
 unfold Instr.fieldAt
 rw [pval_bind',pv_underlying hs]
 simp only [Option.bind_some,hf]
 rw [pval_bind']
 simp only [Instr.sureAddr,pval_pure,Option.bind_some]
 rw [pval_bind']
 unfold fieldPlace
 rw [pval_bind',pv_sizeOf hi]
 simp only [Option.bind_some,if_neg h0,pval_pure,h1]
theorem pv_part {t:TypeId} {d:TypeDesc} {i:TypeInfo} {cs:Array Value} {off:Nat} (hd:P.underlying t=some d) (hi:P.info? t=some i) :
  pval P (part t cs off)=if isAggD d then some (.agg (cs.extract off (off+i.size))) else cs[off]?:=by
 unfold part
 rw [pval_bind',pv_isAgg hd]
 simp only [Option.bind_some]
 cases isAggD d with
 | true=>simp only [if_true]; rw [pval_bind',pv_sizeOf hi]; rfl
 | false=>simp only [Bool.false_eq_true,if_false]; cases cs[off]? <;> rfl
theorem elOf_spec {t e:TypeId} {sz bs:Nat} {zl:List Value} (h:elOf P t=some (e,sz,bs,zl)):∃ i z,P.underlying t=some (.slice e)/\P.info? e=some i/\i.zero=some z/\z.cells.size=i.size/\i.size=sz/\i.bytes=bs/\z.cells.toList=zl:=by
 unfold elOf at h
 split at h
 .rename_i e' he
  split at h
  .rename_i i hi
   split at h
   .rename_i z hz
    split at h
    .rename_i hs
     injection h with h; injection h with h1 h; injection h with h2 h; injection h with h3 h4
     subst h1
     exact ⟨i,z,he,hi,hz,hs,h2,h3,h4⟩
    .cases h
   .cases h
  .cases h
 .cases h
theorem arOf_spec {t:TypeId} {n sz:Nat} (h:arOf P t=some (n,sz)):∃ e i,P.underlying t=some (.array n e)/\P.info? e=some i/\i.size=sz:=by
 unfold arOf at h
 split at h
 .rename_i n' e he
  split at h
  .rename_i i hi
   injection h with h; injection h with h1 h2
   subst h1
   exact ⟨e,i,he,hi,h2⟩
  .cases h
 .cases h
theorem idxS_pval {t:TypeId} {x i:Value} {K:Value->Prop} (h:idxS P t x i K):∃ v,pval P (Instr.indexAt t x i)=some v/\K v:=by
 unfold idxS at h
 split at h
 .rename_i A n cp k i
  split at h
  .rename_i e sz bs zl hel
   obtain ⟨hb,h⟩:=h
   obtain ⟨a,rfl,hK⟩:=nilO_spec h
   obtain ⟨inf,z,hu,hi,_,_,hsz,_,_⟩:=elOf_spec hel
   refine ⟨_,?_,hK⟩
   unfold Instr.indexAt
   rw [pval_bind']
   simp only [asIntOf,pval_pure,Option.bind_some]
   rw [pval_bind',pv_underlying hu]
   simp only [Option.bind_some]
   rw [pval_bind']
   simp only [pval_pure,Option.bind_some]
   rw [pval_bind',pv_underlying hu]
   simp only [Option.bind_some,if_pos hb]
   rw [pval_bind',pv_sizeOf hi]
   simp only [Option.bind_some,pval_pure,hsz]
  .exact h.elim
 .rename_i a k i
  split at h
  .rename_i n sz har
   obtain ⟨hb,hK⟩:=h
   obtain ⟨e,inf,hu,hi,hsz⟩:=arOf_spec har
   refine ⟨_,?_,hK⟩
   unfold Instr.indexAt
   rw [pval_bind']
   simp only [asIntOf,pval_pure,Option.bind_some]
   rw [pval_bind',pv_underlying hu]
   simp only [Option.bind_some]
   rw [pval_bind']
   simp only [Instr.sureAddr,pval_pure,Option.bind_some]
   rw [pval_bind']
   simp only [pval_pure,Option.bind_some]
   rw [pval_bind',pv_underlying hu]
   simp only [Option.bind_some,if_pos hb]
   rw [pval_bind',pv_sizeOf hi]
   simp only [Option.bind_some,pval_pure,hsz]
  .exact h.elim
 .exact h.elim
theorem partS_pval {s:TypeId} {v:Value} {k:Nat} {K:Value->Prop} (h:partS P s v k K):∃ u,pval P (Instr.field s v k)=some u/\K u:=by
 unfold partS at h
 split at h
 .rename_i cs off n hf
  obtain ⟨fs,f,d,i,hs,hfk,hd,hi,h0,h1,h2,h3⟩:=fldOf_spec hf
  refine ⟨_,?_,h⟩
  unfold Instr.field
  rw [pval_bind',pv_underlying hs]
  simp only [Option.bind_some,hfk]
  rw [pval_bind']
  simp only [asAgg,pval_pure,Option.bind_some]
  rw [pv_part hd hi,h2,h1,h3]; rfl
 .rename_i cs off n hf
  obtain ⟨fs,f,d,i,hs,hfk,hd,hi,h0,h1,h2,h3⟩:=fldOf_spec hf
  cases hu:cs[off]? with
  | none=>rw [hu] at h; exact h.elim
  | some u =>
  rw [hu] at h
  refine ⟨u,?_,h⟩
  unfold Instr.field
  rw [pval_bind',pv_underlying hs]
  simp only [Option.bind_some,hfk]
  rw [pval_bind']
  simp only [asAgg,pval_pure,Option.bind_some]
  rw [pv_part hd hi,h2,h1]
  simpa using hu
 .exact h.elim
theorem eqS_pval {t:TypeId} {x y:Value} {K:Bool->Prop} (h:eqS P t x y K):∃ b,pval P (Op.equal t x y)=some b/\K b:=by
 have key:∀ (d:Nat),∃ b,pval P (Op.equalIn (d+1) t x y)=some b/\K b:=by
  intro d
  unfold eqS at h
  split at h
  .rename_i a b hu
   refine ⟨_,?_,h⟩
   unfold Op.equalIn
   rw [pval_bind',pv_underlying hu]; rfl
  .rename_i A _ _ _ _ hu
   refine ⟨_,?_,h⟩
   unfold Op.equalIn
   rw [pval_bind',pv_underlying hu]
   cases A <;> rfl
  .rename_i hu
   refine ⟨_,?_,h⟩
   unfold Op.equalIn
   rw [pval_bind',pv_underlying hu]; rfl
  .rename_i A hu
   refine ⟨_,?_,h⟩
   unfold Op.equalIn
   rw [pval_bind',pv_underlying hu]
   cases A <;> rfl
  .rename_i A hu
   refine ⟨_,?_,h⟩
   unfold Op.equalIn
   rw [pval_bind',pv_underlying hu]
   cases A <;> rfl
  .exact h.elim
 exact key 9999
theorem eqGuard_other {op:BinOp} {t:TypeId} {x y:Operand} {u v:Value} (h1:∀ c,u≠.agg c) (h2:u≠.nilIface):pval P (eqGuard op t x y u v)=some ():=by
 unfold eqGuard
 cases op <;> first | rfl | (cases u <;> first | rfl | exact absurd rfl h2 | exact absurd rfl (h1 _))
theorem bin_eq {op : BinOp} {t : TypeId} {x y : Operand} {u v : Value} {K : Value -> Prop} (h1 : ∀ c, u ≠ .agg c) (h2 : u ≠ .nilIface)
    (hb : ∀ r, pval P (Op.equal t u v) = some r -> (op = .eql -> pval P (binOp op t u v) = some (.bool r)) /\ (op = .neq -> pval P (binOp op t u v) = some (.bool !r)))
    (h : eqOp P op t u v K) :
    ∃ r, pval P (do eqGuard op t x y u v; binOp op t u v) = some r /\ K r := by
  unfold eqOp at h
  cases op <;> first
    | exact h.elim
    | (obtain ⟨b, he, hK⟩ := eqS_pval h
       refine ⟨_, ?_, hK⟩
       rw [pval_bind', eqGuard_other h1 h2]
       first | exact (hb b he).1 rfl | exact (hb b he).2 rfl)
theorem eqS_shape {t:TypeId} {u v:Value} {K:Bool->Prop} (h:eqS P t u v K):(∃ a b,u=.bool a/\v=.bool b)\/(∃ A n c B n' c',u=.slice A n c/\v=.slice B n' c')\/(∃ A,u=.pointer A/\v=.pointer none)\/(∃ A,u=.map A/\v=.map none):=by
 unfold eqS at h
 split at h
 .exact .inl ⟨_,_,rfl,rfl⟩
 .exact .inr (.inl ⟨_,_,_,_,_,_,rfl,rfl⟩)
 .exact .inr (.inl ⟨_,_,_,_,_,_,rfl,rfl⟩)
 .exact .inr (.inr (.inl ⟨_,rfl,rfl⟩))
 .exact .inr (.inr (.inr ⟨_,rfl,rfl⟩))
 .exact h.elim
theorem binX_sound {op:BinOp} {t yt:TypeId} {x y:Operand} (h:binX P op t (ev x) (ev y) m K (rawS P w0 c ev (.binOp op t x y yt) ty m K)):rawS P w0 c ev (.binOp op t x y yt) ty m K:=by
 have fin:(∃ r,pval P (do eqGuard op t x y (ev x) (ev y); binOp op t (ev x) (ev y))=some r/\K r m)->rawS P w0 c ev (.binOp op t x y yt) ty m K:=fun ⟨r,hr,hK⟩=>OpA_of_pval (exec_value hr) c hK
 have gen:∀ u v,ev x=u->ev y=v->eqOp P op t u v (fun v=>K v m)->rawS P w0 c ev (.binOp op t x y yt) ty m K:=by
  intro u v hu hv hh
  have hs:(∃ a b,u=.bool a/\v=.bool b)\/(∃ A n c B n' c',u=.slice A n c/\v=.slice B n' c')\/(∃ A,u=.pointer A/\v=.pointer none)\/(∃ A,u=.map A/\v=.map none):=by
   unfold eqOp at hh
   cases op <;> first | exact hh.elim | exact eqS_shape hh
  refine fin ?_
  rw [hu,hv]
  rcases hs with ⟨a,b,rfl,rfl⟩ | ⟨A,n,c',B,n',c'',rfl,rfl⟩ | ⟨A,rfl,rfl⟩ | ⟨A,rfl,rfl⟩
  all_goals
   refine bin_eq (K:=fun r=>K r m) (by simp) (by simp) (fun r hr=>⟨fun e=>?_,fun e=>?_⟩) hh
   all_goals
    subst e
    simp only [binOp]
    rw [pval_bind',hr]
    rfl
 unfold binX at h
 split at h
 .rename_i k a k' b hx hy
  rw [<- hx,<- hy] at h
  exact fin (binS_pval h)
 .rename_i xs ys hx hy
  obtain ⟨b,hb,hK⟩:=h
  refine fin ⟨_,?_,hK⟩
  rw [hx,hy]
  exact hb
 .rename_i a b hx hy
  split at h
  .refine fin ⟨_,?_,h⟩
   rw [pval_bind',eqGuard_other (by rw [hx]; simp) (by rw [hx]; simp),hx,hy]
   simp [binOp,Op.stringOp,pval_pure]
  .refine fin ⟨_,?_,h⟩
   rw [pval_bind',eqGuard_other (by rw [hx]; simp) (by rw [hx]; simp),hx,hy]
   simp [binOp,Op.stringOp,pval_pure]
  .exact h
  .exact h
 .exact gen _ _ rfl rfl h
theorem unS_pval {op:UnOp} {x:Value} {K:Value->Prop} (h:unS op x K):∃ v,pval P (Op.unary op x)=some v/\K v:=by
 unfold unS at h
 split at h
 .exact ⟨_,rfl,h⟩
 .exact ⟨_,rfl,h⟩
 .exact h.elim
theorem bnd_pval {v:Option Value} {cap:Nat} {code:BoundsCode} {dflt:Nat} {K:Nat->Prop} (h:bndS v dflt K) (hle:∀ n,K n->n<=cap):∃ n,(match v with | some v=>pval P (Instr.sliceBound v cap code) | none=>some dflt)=some n/\K n:=by
 unfold bndS at h
 split at h
 .exact ⟨_,rfl,h⟩
 .rename_i i
  obtain ⟨h0,hK⟩:=h
  refine ⟨_,?_,hK⟩
  have:=hle _ hK
  simp only [Instr.sliceBound]
  rw [pval_bind']
  simp only [asIntOf,pval_pure,Option.bind_some]
  rw [if_pos ⟨h0,by omega⟩]; rfl
 .exact h.elim
theorem bounds_pval {isS:Bool} {len cap:Nat} {lo hi:Option Value} {K:Nat->Nat->Prop} (h:bndS hi len fun h=>bndS lo 0 fun l=>h<=cap/\l<=h/\K h l) (hlc:len<=cap\/hi≠none) :
  ∃ l h,pval P (Instr.sliceBounds isS len cap lo hi none)=some (l,h,cap)/\h<=cap/\l<=h/\K h l:=by
 have hh:∃ hv,(match hi with | some v=>pval P (Instr.sliceBound v cap (if isS then .sliceAcap else .sliceAlen)) | none=>some len)=some hv/\bndS lo 0 fun l=>hv<=cap/\l<=hv/\K hv l :=
  bnd_pval h (fun n hn=>by
   unfold bndS at hn
   split at hn
   .exact hn.1
   .exact hn.2.1
   .exact hn.elim)
 obtain ⟨hv,e1,h2⟩:=hh
 obtain ⟨lv,e2,h3,h4,h5⟩:=bnd_pval (P:=P) (code:=.sliceB) (cap:=hv) h2 (fun n hn=>hn.2.1)
 refine ⟨lv,hv,?_,h3,h4,h5⟩
 unfold Instr.sliceBounds
 rw [pval_bind']
 simp only [pval_pure,Option.bind_some]
 cases hi with
 | none =>
  simp only at e1
  injection e1 with e1
  subst e1
  simp only
  rw [pval_bind']
  simp only [pval_pure,Option.bind_some]
  cases lo with
  | none=>simp only at e2; injection e2 with e2; subst e2; rfl
  | some v=>simp only at e2; simp only [Option.isSome_none,Bool.false_eq_true,if_false]; rw [pval_bind',e2]; rfl
 | some v1 =>
  simp only at e1
  simp only
  rw [pval_bind',e1]
  simp only [Option.bind_some]
  cases lo with
  | none=>simp only at e2; injection e2 with e2; subst e2; rfl
  | some v=>simp only at e2; simp only [Option.isSome_none,Bool.false_eq_true,if_false]; rw [pval_bind',e2]; rfl
theorem sliS_pval {t:TypeId} {x:Value} {lo hi:Option Value} {K:Value->Prop} (h:sliS P t x lo hi K):∃ v,pval P (Instr.sliceAt t x lo hi none)=some v/\K v:=by
 unfold sliS at h
 split at h
 .rename_i A n cp
  split at h
  .rename_i e sz bs zl hel
   obtain ⟨inf,z,hu,hinf,_,_,hsz,_,_⟩:=elOf_spec hel
   obtain ⟨l,hh,hb,h1,h2,hK⟩:=bounds_pval (P:=P) (isS:=true) (K:=fun h l=>K (.slice (if cp=l then A else A.map (·.add (l*sz))) (h-l) (cp-l))) h (by
    by_cases hn:hi=none
    .left
     subst hn
     unfold bndS at h
     simp only at h
     split at h
     .exact h.1
     .exact h.2.1
     .exact h.elim
    .exact .inr hn)
   refine ⟨_,?_,hK⟩
   unfold Instr.sliceAt
   rw [pval_bind',pv_underlying hu]
   simp only [Option.bind_some]
   unfold Instr.slice
   rw [pval_bind',pv_underlying hu]
   simp only [Option.bind_some]
   rw [pval_bind',hb]
   simp only [Option.bind_some]
   rw [pval_bind',pv_sizeOf hinf]
   simp only [Option.bind_some,pval_pure,hsz]
  .exact h.elim
 .rename_i s
  split at h
  .rename_i hu
   obtain ⟨l,hh,hb,h1,h2,hK⟩:=bounds_pval (P:=P) (isS:=false) (K:=fun h l=>K (.string (s.extract l h))) h (.inl (Nat.le_refl _))
   refine ⟨_,?_,hK⟩
   unfold Instr.sliceAt
   rw [pval_bind',pv_underlying hu]
   simp only [Option.bind_some]
   unfold Instr.slice
   rw [pval_bind',pv_underlying hu]
   simp only [Option.bind_some,Option.isSome_none,Bool.false_eq_true,if_false]
   first
    | (rw [pval_bind',hb]; rfl)
    | (rw [pval_bind']; simp only [pval_pure,Option.bind_some]; rw [pval_bind',hb]; rfl)
  .exact h.elim
 .exact h.elim
theorem nilS_pval {v:Value} {o:Oper} {x:Operand} (ho:o.op=.nilCheck x) (hx:ev x=v) (h:nilS v m K):∃ u,pval P (execOp ev o)=some (.value u)/\K u m:=by
 unfold nilS at h
 split at h
 .obtain ⟨a,rfl,hK⟩:=nilO_spec h
  refine ⟨_,?_,hK⟩
  simp [execOp,ho,hx,pval_pure]
 .refine ⟨_,?_,h⟩
  simp [execOp,ho,hx,pval_pure]
 .exact h.elim
theorem lenS_pval {t ty':TypeId} {x:Value} {K:Value->Prop} (h:lenS P t x K):∃ v,pval P (Builtin.len_ #[t] ty' #[x])=some v/\K v:=by
 unfold lenS at h
 split at h
 .rename_i A n cp e hu
  refine ⟨_,?_,h⟩
  show pval P (underlying t >>= _)=_
  rw [pval_bind',pv_underlying hu]; rfl
 .rename_i s hu
  refine ⟨_,?_,h⟩
  show pval P (underlying t >>= _)=_
  rw [pval_bind',pv_underlying hu]; rfl
 .exact h.elim
theorem capS_pval {t ty':TypeId} {x:Value} {K:Value->Prop} (h:capS P t x K):∃ v,pval P (Builtin.cap_ #[t] ty' #[x])=some v/\K v:=by
 unfold capS at h
 split at h
 .rename_i A n cp e hu
  refine ⟨_,?_,h⟩
  show pval P (underlying t >>= _)=_
  rw [pval_bind',pv_underlying hu]; rfl
 .exact h.elim
theorem mnS_pval {at':Array TypeId} {ty':TypeId} {x y:Value} {K:Value->Prop} (h:mnS x y K):∃ v,pval P (Builtin.min_ at' ty' #[x,y])=some v/\K v:=by
 unfold mnS at h
 split at h
 .obtain ⟨rfl,h⟩:=h
  exact ⟨_,rfl,h⟩
 .exact h.elim
theorem mxS_pval {at':Array TypeId} {ty':TypeId} {x y:Value} {K:Value->Prop} (h:mxS x y K):∃ v,pval P (Builtin.max_ at' ty' #[x,y])=some v/\K v:=by
 unfold mxS at h
 split at h
 .obtain ⟨rfl,h⟩:=h
  exact ⟨_,rfl,h⟩
 .exact h.elim
theorem extS_pval {v:Value} {k:Nat} {K:Value->Prop} (h:extS v k K):∃ u,pval P (Instr.extract v k)=some u/\K u:=by
 unfold extS at h
 split at h
 .rename_i vs
  cases hu:vs[k]? with
  | none=>rw [hu] at h; exact h.elim
  | some u =>
  rw [hu] at h
  exact ⟨u,by simp [Instr.extract,hu,pval_pure],h⟩
 .exact h.elim
theorem cvt_sound {s d:TypeId} {x:Operand} (h:cvtS P w0 c s d (ev x) m K (rawS P w0 c ev (.convert s d x) ty m K)):rawS P w0 c ev (.convert s d x) ty m K:=by
 unfold cvtS at h
 split at h
 .rename_i k n hx
  split at h
  .rename_i ds k' hs hd
   refine OpA_of_pval (v:=.int k' (k'.wrap n)) (exec_value ?_) c h
   unfold convert
   rw [pval_bind',pv_underlying hs]
   simp only [Option.bind_some]
   rw [pval_bind',pv_underlying hd,hx]
   simp [Conv.intToInt,pval_pure]
  .exact h
 .rename_i str hx
  split at h
  .exact h
  .rename_i hc
   refine OpA_of_awp (by omega) ?_
   show awp P w0.heap.size (convert s d (ev x) >>= fun v=>pure (Next.value v)) m _
   rw [hx]
   refine (awp_bind _ _ _ _).2 (awp_mono _ _ _ _ (fun v m' hv=>?_) h)
   obtain ⟨A,n,cp,rfl,hk⟩:=hv
   exact hk
 .rename_i A n cp hx
  split at h
  .exact h
  .rename_i hc
   refine OpA_of_awp (by omega) ?_
   show awp P w0.heap.size (convert s d (ev x) >>= fun v=>pure (Next.value v)) m _
   rw [hx]
   refine (awp_bind _ _ _ _).2 (awp_mono _ _ _ _ (fun v m' hv=>?_) h)
   obtain ⟨str,rfl,hk⟩:=hv
   exact hk
 .exact h
theorem sigOf_spec {g : FuncId} {ts : List TI} (h : sigOf P g = some ts) : ∃ fn, P.funcs[g]? = some fn ∧ (fn.name == "runtime.NumGoroutine") = false ∧ fn.body.isNone = false := by
 unfold sigOf at h
 split at h
 .rename_i fn hf
  refine ⟨fn,hf,?_,?_⟩
  ·cases hn : fn.name == "runtime.NumGoroutine" with
   | false=>rfl
   | true=>rw [if_pos hn] at h; cases h
  ·cases hn : fn.name == "runtime.NumGoroutine" with
   | true=>rw [if_pos hn] at h; cases h
   | false =>
    rw [if_neg (by simp [hn])] at h
    cases hb:fn.body.isNone with
    | false=>rfl
    | true=>rw [if_pos hb] at h; cases h
 .cases h
theorem pv_callFunc {g:FuncId} {ts:List TI} (h:sigOf P g=some ts) (args:Array Value):pval P (callFunc g args)=some (.enter g args):=by
 obtain ⟨fn,hf,h1,h2⟩:=sigOf_spec h
 unfold callFunc program
 show pval P (match P.funcs[g]? with | none => stuck "call: no such function" | some fn => _) = _
 rw [hf]
 simp [h1,h2,pval_pure]
theorem OpA_of_enter {s:Sem Next} {g:FuncId} {args:Array Value} (hs:pval P s=some (.enter g args)) {ts:List TI} (hc:2<=c) (h:if c<=2 then resEx ts (fun v=>CallsA P w0 g args m (fun r m'=>r=v/\m'=m)/\K v m) else if c=3 then CallsA P w0 g args m (fun r m'=>resEx ts (fun v=>r=v/\K v m')) else CallsA P w0 g args m (fun r m'=>m.le m'/\resEx ts (fun v=>r=v/\K v m'))):OpA P w0 c s m K:=by
 match c,hc with
 | 2,_ =>
  simp only [Nat.le_refl,if_true] at h
  obtain ⟨v,h1,h2⟩:=resEx_some h
  exact ⟨v,.inr ⟨g,args,rval_of_pval s hs,h1⟩,h2⟩
 | 3,_ =>
  rw [if_neg (by omega),if_pos rfl] at h
  refine awp_of_rval s (rval_of_pval s hs) ?_
  refine CallsA.mono h fun r m' hr=>?_
  obtain ⟨v,rfl,hK⟩:=resEx_some hr
  exact hK
 | n+4,_ =>
  rw [if_neg (by omega),if_neg (by omega)] at h
  refine awp_of_rval s (rval_of_pval s hs) ?_
  refine CallsA.mono h fun r m' hr=>?_
  obtain ⟨v,rfl,hK⟩:=resEx_some hr.2
  exact ⟨hr.1,hK⟩
theorem fn_sound {f:Operand} {args:Array Operand} {at':Array TypeId} (hc:2<=c) (h:fnS P w0 c (ev f) (args.map ev) m K):rawS P w0 c ev (.call { callee:=.value f,args,argTypes:=at' }) ty m K:=by
 unfold fnS at h
 split at h
 .rename_i g first captured hf
  unfold callS at h
  split at h
  .rename_i ts hts
   refine OpA_of_enter (g:=g) (args:=first ++ args.map ev ++ captured) ?_ hc h
   show pval P (resolve ev _ ty >>= fun d=>invoke d.target d.args)=_
   rw [pval_bind']
   have:pval P (resolve ev { callee:=.value f,args,argTypes:=at' } ty)=some { target:=.fn (.func g) captured,args:=first ++ args.map ev }:=by
    simp [resolve,Deferred.ofValue,hf,pval_pure]
   rw [this]
   exact pv_callFunc hts _
  .exact h.elim
 .exact h.elim
theorem new_sound {t:TypeId} {cells:Array Value} {s:Sem Value} (hs:s=(do pure (.pointer (some (<- newRow t cells))):Sem Value)) (hc:3<=c) (h:newS w0 t cells.toList m K):OpA P w0 c (do pure (Next.value (<- s)):Sem Next) m K:=by
 refine OpA_of_ext hc ?_
 subst hs
 intro b hb hm
 have:=h b hb hm
 rw [Array.toArray_toList] at this
 exact ⟨le_new hm _,this⟩
theorem alloc_sound {t:TypeId} (hc:3<=c) (h:allocS P w0 t m K):rawS P w0 c ev (.alloc t) ty m K:=by
 unfold allocS at h
 split at h
 .rename_i ti hti
  obtain ⟨d,i,z,hd,hi,hz,hag,hlen,hzz⟩:=tyOf_spec hti
  refine OpA_of_ext hc ?_
  show awp P _ (Instr.alloc t true (.tuple #[]) >>= fun v=>pure (Next.value v)) m _
  rw [awp_bind']
  unfold Instr.alloc
  rw [awp_bind']
  refine awp_p (pv_zeroValue hi hz) ?_
  intro b hb hm
  have:=h b hb hm
  rw [hzz,Array.toArray_toList] at this
  exact ⟨le_new hm _,this⟩
 .exact h.elim
theorem zeros_eq (z:Array Value) (n:Nat) (_hz:0<z.size):((Array.range (n*z.size)).map (z[· % z.size]!))=(zeros z.toList n).toArray:=by
 apply Array.ext'
 simp only [Array.toList_map,Array.toList_range]
 induction n with
 | zero=>simp [zeros]
 | succ n ih =>
  have e:(List.range ((n+1)*z.size))=List.range (n*z.size) ++ (List.range z.size).map (fun x=>n*z.size+x):=by
   rw [Nat.succ_mul,List.range_add]
  rw [e,List.map_append,ih]
  have e2:zeros z.toList (n+1)=zeros z.toList n ++ z.toList:=by
   simp [zeros,List.replicate_succ',List.flatten_append]
  rw [e2]
  congr 1
  apply List.ext_getElem
  .simp
  .intro i h1 h2
   simp only [List.length_map,List.length_range] at h1
   simp [Nat.mul_add_mod_self_right,Nat.mod_eq_of_lt h1,h1]
theorem mk_sound {t:TypeId} {l cp:Operand} (hc:3<=c) (h:mkS P w0 t (ev l) (ev cp) m K):rawS P w0 c ev (.makeSlice t l cp) ty m K:=by
 unfold mkS at h
 split at h
 .rename_i kl l' kc cp' e sz bs zl hl hcp hel
  obtain ⟨⟨h0,h1,h2,h3⟩,h⟩:=h
  obtain ⟨i,z,hu,hi,hz,hzs,hsz,hbs,hzl⟩:=elOf_spec hel
  refine OpA_of_ext hc ?_
  show awp P _ (Instr.makeSlice t (ev l) (ev cp) >>= fun v=>pure (Next.value v)) m _
  rw [awp_bind',hl,hcp]
  have wl:IntKind.i64.wrap l'=l':=by rw [IntKind.wrap_i64]; omega
  have wc:IntKind.i64.wrap cp'=cp':=by rw [IntKind.wrap_i64]; omega
  have t1:¬ (cp'<0\/(i.bytes:Int)*cp'>2 ^ 48):=by rw [hbs]; omega
  unfold Instr.makeSlice
  rw [awp_bind']
  refine awp_p (pv_underlying hu) ?_
  simp only
  rw [awp_bind']
  refine awp_p (x:=l') rfl ?_
  rw [awp_bind']
  refine awp_p (x:=cp') rfl ?_
  rw [awp_bind']
  refine awp_p (pv_typeInfo hi) ?_
  simp only [wl,wc]
  have t2:(decide (cp'<0) || decide ((i.bytes:Int)*cp'>2 ^ 48) || decide (l'<0) || decide (l'>cp'))=false:=by
   simp only [Bool.or_eq_false_iff,decide_eq_false_iff_not]
   refine ⟨⟨⟨?_,?_⟩,?_⟩,?_⟩ <;> omega
  simp only [Bool.or_eq_true,decide_eq_true_eq]
  rw [if_neg (by omega)]
  rw [awp_bind']
  have ask:∀ (b:Nat) (K':Unit->AM->Prop),K' () m->awp P w0.heap.size (askRoom b) m K':=fun b K' hK=>by
   unfold askRoom
   by_cases hb:b>roomBytes
   .rw [if_pos hb]; exact hK
   .rw [if_neg hb]; exact hK
  refine ask _ _ ?_
  rw [awp_bind']
  refine awp_p (pv_sizeOf hi) ?_
  have fin:∀ (za:Array Value),((Array.range (cp'.toNat*i.size)).map (za[· % za.size]!))=(zeros zl cp'.toNat).toArray ->
    awp P w0.heap.size (do let a <- newRow e ((Array.range (cp'.toNat*i.size)).map (za[· % za.size]!)); pure (Value.slice (some a) l'.toNat cp'.toNat)) m (fun x m'=>awp P w0.heap.size (pure (Next.value x)) m' (cont P w0 (fun v m'=>m.le m'/\K v m'))):=fun za hza=>by
   rw [hza]
   intro b hb hm
   exact ⟨le_new hm _,h b hb hm⟩
  by_cases hn:cp'.toNat*i.size=0
  .rw [if_pos hn]
   refine fin #[] ?_
   rw [hn]
   have:(zeros zl cp'.toNat).length=0:=by
    simp only [zeros,List.length_flatten,List.map_replicate,List.sum_replicate_nat]
    rw [<- hzl,Array.length_toList,hzs]; exact hn
   rw [List.eq_nil_of_length_eq_zero this]; simp
  .rw [if_neg hn,awp_bind']
   refine awp_p (pv_zeroValue hi hz) ?_
   refine fin z.cells ?_
   rw [<- hzl,<- hzs]
   refine zeros_eq _ _ ?_
   rw [hzs]
   rcases Nat.eq_zero_or_pos i.size with h0 | h0
   .rw [h0] at hn; omega
   .exact h0
 .exact h.elim
theorem bsl_sound {t:TypeId} {len:Nat} {parts:Array (Nat × Operand)} (hc:3<=c) (h:bslS P w0 t len (parts.toList.map fun p=>(p.1,ev p.2)) m K):rawS P w0 c ev (.buildSlice t len parts) ty m K:=by
 unfold bslS at h
 split at h
 .rename_i e sz bs zl hel
  obtain ⟨hle,h⟩:=h
  simp only [Bool.and_eq_true] at hle
  have hle1:=Nat.le_of_ble_eq_true hle.1
  obtain ⟨i,z,hu,hi,hz,hzs,hsz,hbs,hzl⟩:=elOf_spec hel
  refine OpA_of_ext hc ?_
  have e0 : execOp ev ⟨none, .buildSlice t len parts, ty, "", #[], none⟩ = (Instr.buildSlice t len (parts.map fun (i, x) => (i, ev x)) >>= fun v => pure (Next.value v)) := rfl
  rw [e0,awp_bind']
  unfold Instr.buildSlice
  rw [awp_bind']
  refine awp_p (pv_underlying hu) ?_
  simp only
  rw [awp_bind']
  refine awp_p (pv_sizeOf hi) ?_
  rw [hsz,if_neg (by omega)]
  have hf:Instr.fill (fun i=>some (i*sz,sz)) (zeros zl len).toArray (parts.toList.map fun p=>(p.1,ev p.2))=some (spl (rowP sz) (zeros zl len) (parts.toList.map fun p=>(p.1,ev p.2))).toArray :=
   fill_spl (rowP sz) _ (zeros zl len).toArray (by simpa using hle.2)
  have hp:(parts.map fun (i,x)=>(i,ev x)).toList=parts.toList.map fun p=>(p.1,ev p.2):=by simp
  by_cases hn:len*sz=0
  .simp only [if_pos hn]
   rw [awp_bind']
   refine awp_p (x:=#[]) rfl ?_
   have hza:((Array.range (len*sz)).map fun x=>(#[]:Array Value)[x % (#[]:Array Value).size]!)=(zeros zl len).toArray:=by
    rw [hn]
    have:(zeros zl len).length=0:=by
     simp only [zeros,List.length_flatten,List.map_replicate,List.sum_replicate_nat]
     rw [<- hzl,Array.length_toList,hzs,hsz]; exact hn
    rw [List.eq_nil_of_length_eq_zero this]; simp
   rw [hza,hp,hf]
   intro b hb hm
   exact ⟨le_new hm _,h b hb hm⟩
  .simp only [if_neg hn]
   rw [awp_bind']
   refine awp_p (pv_zeroValue hi hz) ?_
   rw [awp_bind']
   refine awp_p (x:=z.cells) rfl ?_
   have hza:((Array.range (len*sz)).map fun x=>z.cells[x % z.cells.size]!)=(zeros zl len).toArray:=by
    rw [<- hzl,<- hsz,<- hzs]
    refine zeros_eq _ _ ?_
    rw [hzs,hsz]
    rcases Nat.eq_zero_or_pos sz with h0 | h0
    .rw [h0] at hn; omega
    .exact h0
   rw [hza,hp,hf]
   intro b hb hm
   exact ⟨le_new hm _,h b hb hm⟩
 .exact h.elim
theorem inx_sound {t:TypeId} {x i:Operand} (h:inxS P t (ev x) (ev i) (fun v=>K v m) (rawS P w0 c ev (.index t x i) ty m K)):rawS P w0 c ev (.index t x i) ty m K:=by
 unfold inxS at h
 split at h
 .rename_i s k n hx hi
  split at h
  .rename_i hu
   obtain ⟨⟨h0,h1⟩,hK⟩:=h
   refine OpA_of_pval (v:=.int .u8 (byteAt s n.toNat)) (exec_value ?_) c hK
   have hn:n.toNat<s.size:=by omega
   have e:s[n.toNat]?=some s[n.toNat]:=by simp [hn]
   unfold Instr.index
   rw [hi,pval_bind']
   simp only [asIntOf,pval_pure,Option.bind_some]
   rw [pval_bind',pv_underlying hu,hx]
   simp only [Option.bind_some,if_pos h0,e,pval_pure,byteAt]
  .exact h
 .exact h
theorem opS_sound {op:Op} (hc:okClass c op) (h:opS P w0 c ev op ty m K):rawS P w0 c ev op ty m K:=by
 have h1:1<=baseClass op->1<=c:=fun hb=>by rcases hc with hc | hc <;> omega
 have h2:2<=baseClass op->2<=c:=fun hb=>by rcases hc with hc | hc <;> omega
 cases op <;> first
  | exact h
  | (exact OpA_of_pval (v:=_) rfl c h)
  | skip
 case pick cd a b =>
  have h:pickS (ev cd) (ev a) (ev b) (fun v=>K v m):=h
  have key:∀ t,ev cd=.bool t->K (if t then ev a else ev b) m->rawS P w0 c ev (.pick cd a b) ty m K:=fun t ht hK=>by
   refine OpA_of_pval (v:=if t then ev a else ev b) ?_ c hK
   show pval P (asBool (ev cd) >>= _)=_
   rw [pval_bind',ht]; rfl
  unfold pickS at h
  split at h
  .rename_i t x y h1 h2 h3
   refine key t h1 ?_
   rw [h2,h3]
   cases t <;> exact h
  .rename_i t x y h1 h2 h3
   obtain ⟨rfl,h⟩:=h
   refine key true h1 ?_
   rw [h2]; exact h
  .rename_i t x y h1 h2 h3
   obtain ⟨rfl,h⟩:=h
   refine key false h1 ?_
   rw [h3]; exact h
  .exact h.elim
 case nilCheck x =>
  obtain ⟨u, hu, hK⟩ := nilS_pval (P := P) (ev := ev) (o := ⟨none, .nilCheck x, ty, "", #[], none⟩) rfl rfl h
  exact OpA_of_pval hu c hK
 case binOp bo t x y yt=>exact binX_sound h
 case unOp uo t x =>
  obtain ⟨v,hv,hK⟩:=unS_pval (P:=P) (show unS uo (ev x) (fun v=>K v m) from h)
  exact OpA_of_pval (exec_value hv) c hK
 case convert s d x=>exact cvt_sound h
 case fieldAddr s x k =>
  unfold opS fldS at h
  simp only at h
  split at h
  .rename_i a off g n hx hf
   refine OpA_of_pval (exec_value (v:=.pointer (some (a.add off))) ?_) c h
   rw [hx]; exact pv_fieldAt hf
  .exact h.elim
 case field s x k =>
  obtain ⟨v,hv,hK⟩:=partS_pval (show partS P s (ev x) k (fun v=>K v m) from h)
  exact OpA_of_pval (exec_value hv) c hK
 case indexAddr t x i =>
  obtain ⟨v,hv,hK⟩:=idxS_pval (show idxS P t (ev x) (ev i) (fun v=>K v m) from h)
  exact OpA_of_pval (exec_value hv) c hK
 case extract x k =>
  obtain ⟨v,hv,hK⟩:=extS_pval (P:=P) h
  exact OpA_of_pval (exec_value hv) c hK
 case slice t x lo hi mx =>
  cases mx with
  | some _=>exact h
  | none =>
   obtain ⟨v,hv,hK⟩:=sliS_pval (show sliS P t (ev x) (lo.map ev) (hi.map ev) (fun v=>K v m) from h)
   exact OpA_of_pval (exec_value hv) c hK
 case load t a =>
  unfold opS at h
  simp only at h
  split at h
  .rename_i ad ha
   obtain ⟨v,hv,hK⟩:=ldS_rval h
   refine OpA_of_rval (execr_value (v:=v) ?_) (h1 (by simp [baseClass])) hK
   rw [ha]
   unfold Instr.loadAt
   rw [rval_bind']
   exact hv
  .exact h.elim
 case store t a x =>
  unfold opS at h
  simp only at h
  split at h
  .exact h.elim
  .rename_i hc1
   split at h
   .rename_i ad ha
    refine OpA_of_awp (by omega) ?_
    show awp P _ (Instr.storeAt t (ev a) (ev x) >>= fun _=>pure Next.skip) m _
    rw [awp_bind',ha]
    unfold Instr.storeAt
    rw [awp_bind']
    exact stS_awp h
   .exact h.elim
 case alloc t =>
  unfold opS at h
  simp only at h
  split at h
  .exact h.elim
  .exact alloc_sound (by omega) h
 case box t x =>
  unfold opS at h
  simp only at h
  split at h
  .exact h.elim
  .exact new_sound (s:=Instr.box t (ev x)) rfl (by omega) h
 case makeSlice t l cp =>
  unfold opS at h
  simp only at h
  split at h
  .exact h.elim
  .exact mk_sound (by omega) h
 case buildSlice t len parts =>
  unfold opS at h
  simp only at h
  split at h
  .exact h.elim
  .exact bsl_sound (by omega) h
 case call cl =>
  obtain ⟨callee,args,argTypes⟩:=cl
  cases callee with
  | value f=>exact fn_sound (h2 (by simp [baseClass])) h
  | invoke r n=>exact h
  | builtin b =>
   replace h:bltS P w0 c b argTypes ty (args.map ev) m K (rawS P w0 c ev (.call ⟨.builtin b,args,argTypes⟩) ty m K):=h
   have fin:∀ (v:Value),pval P (builtin b argTypes ty (args.map fun | .const _=>true | _=>false) (args.map ev))=some (.value v)->K v m->rawS P w0 c ev (.call ⟨.builtin b,args,argTypes⟩) ty m K:=fun v hv hK=>by
    refine OpA_of_pval (v:=v) ?_ c hK
    show pval P (resolve ev _ ty >>= fun d=>invoke d.target d.args)=_
    rw [pval_bind']
    exact hv
   have finw:c=3->(∀ s:Sem Value,builtin b argTypes ty (args.map fun | .const _=>true | _=>false) (args.map ev)=(do pure (Next.value (<- s)))->awp P w0.heap.size s m K->rawS P w0 c ev (.call ⟨.builtin b,args,argTypes⟩) ty m K):=fun hc2 s hs hk=>by
    have e0 : execOp ev ⟨none, .call ⟨.builtin b, args, argTypes⟩, ty, "", #[], none⟩ = builtin b argTypes ty (args.map fun | .const _ => true | _ => false) (args.map ev) := rfl
    refine OpA_of_awp hc2 ?_
    rw [e0,hs,awp_bind']
    exact hk
   have arr:∀ {α:Type} {a:Array α} {l:List α},a.toList=l->a=l.toArray:=fun h=>by rw [<- h]
   unfold bltS at h
   split at h
   .rename_i x t hx ht
    obtain ⟨v,hv,hK⟩:=lenS_pval (ty':=ty) h
    refine fin v ?_ hK
    rw [arr hx,arr ht]
    exact exec_value hv
   .rename_i x t hx ht
    obtain ⟨v,hv,hK⟩:=capS_pval (ty':=ty) h
    refine fin v ?_ hK
    rw [arr hx,arr ht]
    exact exec_value hv
   .rename_i x y hx
    obtain ⟨v,hv,hK⟩:=mnS_pval (P:=P) (at':=argTypes) (ty':=ty) h
    refine fin v ?_ hK
    rw [arr hx]
    refine exec_value ?_
    exact hv
   .rename_i x y hx
    obtain ⟨v,hv,hK⟩:=mxS_pval (P:=P) (at':=argTypes) (ty':=ty) h
    refine fin v ?_ hK
    rw [arr hx]
    refine exec_value ?_
    exact hv
   .split at h
    .exact h.elim
    .exact finw (by omega) _ rfl (awp_mono _ _ _ _ (fun v m' hv=>by obtain ⟨A,n,cp,rfl,hK⟩:=hv; exact hK) h)
   .split at h
    .exact h.elim
    .exact finw (by omega) _ rfl (awp_mono _ _ _ _ (fun v m' hv=>by obtain ⟨n,rfl,hK⟩:=hv; exact hK) h)
   .split at h
    .exact h.elim
    .exact finw (by omega) _ rfl (awp_mono _ _ _ _ (fun v m' hv=>by obtain ⟨rfl,hK⟩:=hv; exact hK) h)
   .exact h
 case build t parts =>
  have h:bldS P t (parts.toList.map fun p=>(p.1,ev p.2)) (fun v=>K v m):=h
  unfold bldS at h
  split at h
  .rename_i l z hb
   obtain ⟨hok,hK⟩:=h
   unfold bldOf at hb
   split at hb
   .rename_i i hi
    split at hb
    .rename_i zv hz
     split at hb
     .rename_i fs hs
      split at hb
      .rename_i l' hl
       injection hb with hb
       injection hb with h1 h2
       subst h1
       subst h2
       refine OpA_of_pval (exec_value (v:=.agg (spl (fun i=>l'[i]?) zv.cells.toList (parts.toList.map fun p=>(p.1,ev p.2))).toArray) ?_) c hK
       unfold Instr.build
       rw [pval_bind',pv_zeroValue hi hz]
       simp only [Option.bind_some]
       rw [pval_bind',pv_underlying hs]
       simp only [Option.bind_some]
       rw [pval_bind']
       have hm:∀ (fl:List Field) (r:List (Nat × Nat)),fl.mapM (fun f=>(P.info? f.type).map fun j=>(f.offset,j.size))=some r ->
         pval P (fl.mapM fun f=>(do pure (f.offset,<- sizeOf f.type):Sem (Nat × Nat)))=some r:=by
        intro fl
        induction fl with
        | nil=>intro r hr; exact hr
        | cons f fl ih =>
         intro r hr
         rw [List.mapM_cons] at hr ⊢
         cases hj:P.info? f.type with
         | none=>rw [hj] at hr; cases hr
         | some j =>
          rw [hj] at hr
          cases hr2:fl.mapM (fun f=>(P.info? f.type).map fun j=>(f.offset,j.size)) with
          | none=>rw [hr2] at hr; cases hr
          | some r2 =>
           rw [hr2] at hr
           rw [pval_bind',pval_bind',pv_sizeOf hj]
           simp only [Option.bind_some,pval_pure]
           rw [pval_bind',ih r2 hr2]
           exact hr
       have hm2:pval P (fs.mapM fun f=>(do pure (f.offset,<- sizeOf f.type):Sem (Nat × Nat)))=some l'.toArray:=by
        rw [Array.mapM_eq_mapM_toList,<- bind_pure_comp,pval_bind',hm fs.toList l' hl]; rfl
       rw [hm2]
       simp only [Option.bind_some]
       have hp:(parts.map fun (i,x)=>(i,ev x)).toList=parts.toList.map fun p=>(p.1,ev p.2):=by simp
       have hf:=fill_spl (fun i=>l'[i]?) (parts.toList.map fun p=>(p.1,ev p.2)) zv.cells (by simpa using hok)
       have hpl:(fun i:Nat=>l'.toArray[i]?)=(fun i:Nat=>l'[i]?):=by funext i; simp
       rw [hp,hpl,hf]; rfl
      .cases hb
     .cases hb
    .cases hb
   .cases hb
  .exact h.elim
 case makeMap t r =>
  cases r with
  | some _=>exact h
  | none =>
   unfold opS at h
   simp only at h
   split at h
   .exact h.elim
   .refine OpA_of_ext (by omega) ?_
    intro b hb hm
    exact ⟨le_new hm _,h b hb hm⟩
 case lookup t x i ok =>
  cases ok with
  | true =>
   unfold opS at h
   simp only at h
   split at h
   .obtain ⟨v,ok,hr,hK⟩:=TI.ex_some h
    exact OpA_of_rval (execr_value hr) (h1 (by simp [baseClass])) hK
   .exact h.elim
  | false =>
   unfold opS at h
   simp only at h
   split at h
   .obtain ⟨v,hr,hK⟩:=TI.ex_some h
    exact OpA_of_rval (execr_value hr) (h1 (by simp [baseClass])) hK
   .exact h.elim
 case mapUpdate t mp k v =>
  unfold opS at h
  simp only at h
  split at h
  .exact h.elim
  .refine OpA_of_awp (by omega) ?_
   have e0 : execOp ev ⟨none, .mapUpdate t mp k v, ty, "", #[], none⟩ = (Instr.mapUpdate t (ev mp) (ev k) (ev v) >>= fun _ => pure Next.skip) := rfl
   rw [e0,awp_bind']
   exact h
 case insert t mp k v =>
  unfold opS at h
  simp only at h
  split at h
  .exact h.elim
  .refine OpA_of_awp (by omega) ?_
   have e0 : execOp ev ⟨none, .insert t mp k v, ty, "", #[], none⟩ = (Instr.mapUpdate t (ev mp) (ev k) (ev v) >>= fun _ => pure Next.skip) := rfl
   rw [e0,awp_bind']
   exact h
 case index t x i =>
  cases x with
  | tmp x=>exact inx_sound h
  | const _=>exact h
  | global _=>exact h
  | func _=>exact h
end sound
section
variable (P:Program) (w0:World)
def bcase (b:Bool) (A B:Prop):Prop :=
 match b with
 | true=>A
 | false=>B
theorem bcase_iff {b:Bool} {A B:Prop}:bcase b A B↔(b=true->A)/\(b=false->B):=by cases b <;> simp [bcase]
def gslot (ops:Array Oper) (g:Nat × Bool):Option Tmp:=(ops[g.1]?).bind (·.dst)
def gmet (ops:Array Oper) (σ:Sg) (g:Nat × Bool):Bool :=
 match gslot ops g with
 | some d=>match σ d with
  | .bool b=>b == g.2
  | _=>false
 | none=>false
def keepG (ops:Array Oper) (known:List ((Nat × Bool) × Bool)) (d:Option Tmp):List ((Nat × Bool) × Bool) :=
 match d with
 | none=>known
 | some d=>known.filter fun x=>match gslot ops x.1 with | some e=>e != d | none=>true
def lookG (known:List ((Nat × Bool) × Bool)) (g:Nat × Bool):Option Bool :=
 match known with
 | []=>none
 | (h,b) :: r=>if h.1 == g.1 && h.2 == g.2 then some b else lookG r g
def alS (ops:Array Oper) (cf:Nat->Op->Nat):List Oper->List ((Nat × Bool) × Bool)->Nat->Sg->AM->(Sg->AM->Prop)->Prop
 | [],_,_,σ,m,Q=>Q σ m
 | o :: rest,known,k,σ,m,Q =>
  match o.guard with
  | none=>opS P w0 (cf k o.op) (evS σ) o.op o.type m fun v m'=>alS ops cf rest (keepG ops known o.dst) (k+1) (putS σ o.dst v) m' Q
  | some g=>match lookG known g with
   | some true=>opS P w0 (cf k o.op) (evS σ) o.op o.type m fun v m'=>alS ops cf rest (keepG ops known o.dst) (k+1) (putS σ o.dst v) m' Q
   | some false=>alS ops cf rest (keepG ops known o.dst) (k+1) (putS σ o.dst undef) m Q
   | none=>match gslot ops g with
    | some d=>match σ d with
     | .bool b=>match g.2 with
      | true=>bcase b (opS P w0 (cf k o.op) (evS σ) o.op o.type m fun v m'=>alS ops cf rest (keepG ops ((g,true) :: known) o.dst) (k+1) (putS σ o.dst v) m' Q)
        (alS ops cf rest (keepG ops ((g,false) :: known) o.dst) (k+1) (putS σ o.dst undef) m Q)
      | false=>bcase b (alS ops cf rest (keepG ops ((g,false) :: known) o.dst) (k+1) (putS σ o.dst undef) m Q)
        (opS P w0 (cf k o.op) (evS σ) o.op o.type m fun v m'=>alS ops cf rest (keepG ops ((g,true) :: known) o.dst) (k+1) (putS σ o.dst v) m' Q)
     | _=>alS ops cf rest (keepG ops ((g,false) :: known) o.dst) (k+1) (putS σ o.dst undef) m Q
    | none=>alS ops cf rest (keepG ops ((g,false) :: known) o.dst) (k+1) (putS σ o.dst undef) m Q
def thenS (next:Sg->AM->Prop) (Q:Exit->Sg->AM->Prop) (e:Exit) (σ:Sg) (m:AM):Prop :=
 match e with
 | .normal=>next σ m
 | e=>Q e σ m
def condS (v:Value) (A B:Prop):Prop :=
 match v with
 | .bool t=>bcase t A B
 | _=>False
def blockS (id:Nat) (Q:Exit->Sg->AM->Prop) (e:Exit) (σ:Sg) (m:AM):Prop :=
 match e with
 | .exit id'=>if id'=id then Q .normal σ m else Q (.exit id') σ m
 | e=>Q e σ m
def stepK (ops:Array Oper) (c:Nat) (o:Oper) (known:List ((Nat × Bool) × Bool)) (σ:Sg) (m:AM) (K:List ((Nat × Bool) × Bool)->Sg->AM->Prop):Prop :=
 match o.guard with
 | none=>opS P w0 c (evS σ) o.op o.type m fun v m'=>K (keepG ops known o.dst) (putS σ o.dst v) m'
 | some g=>match lookG known g with
  | some true=>opS P w0 c (evS σ) o.op o.type m fun v m'=>K (keepG ops known o.dst) (putS σ o.dst v) m'
  | some false=>K (keepG ops known o.dst) (putS σ o.dst undef) m
  | none=>match gslot ops g with
   | some d=>match σ d with
    | .bool b=>match g.2 with
     | true=>bcase b (opS P w0 c (evS σ) o.op o.type m fun v m'=>K (keepG ops ((g,true) :: known) o.dst) (putS σ o.dst v) m')
       (K (keepG ops ((g,false) :: known) o.dst) (putS σ o.dst undef) m)
     | false=>bcase b (K (keepG ops ((g,false) :: known) o.dst) (putS σ o.dst undef) m)
       (opS P w0 c (evS σ) o.op o.type m fun v m'=>K (keepG ops ((g,true) :: known) o.dst) (putS σ o.dst v) m')
    | _=>K (keepG ops ((g,false) :: known) o.dst) (putS σ o.dst undef) m
   | none=>K (keepG ops ((g,false) :: known) o.dst) (putS σ o.dst undef) m
def stepS (ops:Array Oper) (qsr:List (Nat × Nat)) (known:List ((Nat × Bool) × Bool)) (k:Nat) (σ:Sg) (m:AM) (K:List ((Nat × Bool) × Bool)->Sg->AM->Prop):Prop :=
 match ops[k]? with
 | some o=>stepK P w0 ops (cl qsr k o.op) o known σ m K
 | none=>False
def conjL (f:Nat->Prop):List Nat->Prop
 | []=>True
 | [k]=>f k
 | k :: k' :: l=>f k/\conjL f (k' :: l)
def trS (ops:Array Oper) (qsr:List (Nat × Nat)) (Q:Sg->AM->Prop):Nat->Array Bool->List ((Nat × Bool) × Bool)->Sg->AM->Prop
 | 0,listed,_,σ,m=>(Region.ready .any ops listed).isEmpty=true/\Q σ m
 | f+1,listed,known,σ,m=>match pickF ops (clsOf qsr ops) (deps .any ops.toList) listed with
  | []=>Q σ m
  | k :: l=>conjL (fun k=>stepS P w0 ops qsr known k σ m fun kn' σ' m'=>trS ops qsr Q f (listed.setIfInBounds k true) kn' σ' m') (k :: l)
def vcS (qs:Nat->List (Nat × Nat)):Code->Sg->AM->(Exit->Sg->AM->Prop)->Prop
 | .skip,σ,m,Q=>Q .normal σ m
 | .label _,σ,m,Q=>Q .normal σ m
 | .region id ops draw,σ,m,Q=>match draw && !(qs (1000000+id)).isEmpty with
  | true=>∃ Q0:Sg->AM->Prop,(∀ σ m,Q0 σ m->Q .normal σ m)/\trS P w0 ops (qs id) Q0 ops.size (Array.replicate ops.size false) [] σ m
  | false=>alS P w0 ops (fun k op=>if draw then cl (qs id) k op else 3) ops.toList [] 0 σ m (Q .normal)
 | .seq x y,σ,m,Q=>vcS qs x σ m (thenS (fun σ' m'=>vcS qs y σ' m' Q) Q)
 | .cond c x y,σ,m,Q=>condS (evS σ c) (vcS qs x σ m Q) (vcS qs y σ m Q)
 | .block id c,σ,m,Q=>vcS qs c σ m (blockS id Q)
 | .loop c,σ,m,Q=>∃ (I:Nat->Sg->AM->Prop) (N:Nat),I N σ m/\∀ n σ m,I n σ m->∃ Q0:Exit->Sg->AM->Prop,(∀ e σ m,Q0 e σ m->thenS (fun σ' m'=>∃ n',n'<n/\I n' σ' m') Q e σ m)/\vcS qs c σ m Q0
 | .exit id,σ,m,Q=>Q (.exit id) σ m
 | .ret,σ,m,Q=>Q .ret σ m
 | _,_,_,_=>False
end
def dstsOk (n:Nat) (ops:Array Oper):Bool:=ops.all fun o=>match o.dst with | some d=>decide (d<n) | none=>true
def codeOk (qs:Nat->List (Nat × Nat)) (n:Nat):Code->Bool
 | .region id ops draw=>dstsOk n ops && (!draw || (bif (qs (1000000+id)).isEmpty then regOk .any ops (clsOf (qs id) ops) (deps .any ops.toList) else Region.noSelect ops && depOk .any ops (deps .any ops.toList)))
 | .seq x y=>codeOk qs n x && codeOk qs n y
 | .cond _ x y=>codeOk qs n x && codeOk qs n y
 | .block _ c=>codeOk qs n c
 | .loop c=>codeOk qs n c
 | .rangeFunc ..=>false
 | .scope _=>false
 | _=>true
section
variable {P:Program} {w0:World}
structure Fits (ds:List Deferred) (n:Nat) (a:Act) (σ:Sg):Prop where
 defers:a.defers=ds
 size:a.tmps.size=n
 eq:∀ t,t<n->a.tmps.getD t undef=σ t
 out:∀ t,n<=t->σ t=undef
variable {ds:List Deferred}
theorem Fits.eval {n:Nat} {a:Act} {σ:Sg} (h:Fits ds n a σ) (x:Operand):a.eval x=evS σ x:=by
 cases x with
 | tmp t =>
  show a.tmps.getD t undef=σ t
  rcases Nat.lt_or_ge t n with hl | hl
  .exact h.eq t hl
  .rw [h.out t hl]
   have:a.tmps.size<=t:=by rw [h.size]; exact hl
   simp [Array.getElem?_eq_none this]
 | const v=>rfl
 | global g=>rfl
 | func f=>rfl
theorem Fits.evalF {n:Nat} {a:Act} {σ:Sg} (h:Fits ds n a σ):a.eval=evS σ:=funext h.eval
theorem Fits.put {n:Nat} {a:Act} {σ:Sg} (h:Fits ds n a σ) {d:Option Tmp} (hd:∀ t,d=some t->t<n) (v:Value):Fits ds n (a.put d v) (putS σ d v):=by
 cases d with
 | none=>exact h
 | some d =>
  have hdn:(d:Nat)<n:=hd d rfl
  refine ⟨h.defers,by simp [Act.put,h.size],fun t ht=>?_,fun t ht=>?_⟩
  .show (a.tmps.setIfInBounds d v).getD t undef=upd σ d v t
   unfold upd
   by_cases htd:t=d
   .subst htd
    rw [if_pos rfl]
    simp [h.size,ht]
   .rw [if_neg htd,<- h.eq t ht]
    simp [Array.getElem?_setIfInBounds_ne (Ne.symm htd)]
  .show upd σ d v t=undef
   unfold upd
   rw [if_neg (fun e=>by subst e; exact absurd hdn (Nat.not_lt.2 ht))]
   exact h.out t ht
theorem Fits.wanted {n:Nat} {a:Act} {σ:Sg} (h:Fits ds n a σ) (ops:Array Oper) (j:Nat):yielded ops a.tmps j=match (ops[j]?).bind (·.dst) with
  | some d=>match σ d with
   | .bool b=>some b
   | _=>none
  | none=>none:=by
 unfold yielded
 cases hd:(ops[j]?).bind (·.dst) with
 | none=>simp
 | some d =>
  simp only [Option.bind_some]
  rcases Nat.lt_or_ge d n with hl | hl
  .have he:=h.eq d hl
   have hs:d<a.tmps.size:=by rw [h.size]; exact hl
   have:a.tmps[d]?=some (σ d):=by
    rw [<- he]; simp [hs]
   rw [this]
   cases σ d <;> rfl
  .rw [h.out d hl]
   have:a.tmps[d]?=none:=Array.getElem?_eq_none (by rw [h.size]; exact hl)
   rw [this]; rfl
theorem Fits.met {n:Nat} {a:Act} {σ:Sg} (h:Fits ds n a σ) (ops:Array Oper) (o:Oper) (g:Nat × Bool) (hg:o.guard=some g):Region.wanted o (yielded ops a.tmps)=gmet ops σ g:=by
 obtain ⟨j,want⟩:=g
 unfold Region.wanted gmet gslot
 rw [hg]
 simp only [h.wanted ops j]
 cases (ops[j]?).bind (·.dst) with
 | none=>rfl
 | some d=>cases hv:σ d <;> simp [hv]
def KnowsG (ops:Array Oper) (σ:Sg) (known:List ((Nat × Bool) × Bool)):Prop:=∀ x∈known,gmet ops σ x.1=x.2
theorem KnowsG.keep {ops:Array Oper} {σ:Sg} {known:List ((Nat × Bool) × Bool)} (h:KnowsG ops σ known) (d:Option Tmp) (v:Value):KnowsG ops (putS σ d v) (keepG ops known d):=by
 intro x hx
 cases d with
 | none=>exact h x hx
 | some d =>
  obtain ⟨h1,h2⟩:=List.mem_filter.1 hx
  rw [<- h x h1]
  unfold gmet
  cases hs:gslot ops x.1 with
  | none=>rfl
  | some e =>
   rw [hs] at h2
   have hne:e≠d:=by simpa using h2
   have:putS σ (some d) v e=σ e:=by show upd σ d v e=_; unfold upd; rw [if_neg hne]
   simp only [this]
theorem lookG_mem:∀ {known:List ((Nat × Bool) × Bool)} {g:Nat × Bool} {b:Bool},lookG known g=some b->(g,b)∈known
 | [],_,_,h=>by cases h
 | (h0,b0) :: r,g,b,h=>by
  unfold lookG at h
  split at h
  .rename_i he
   injection h with h
   subst h
   simp only [Bool.and_eq_true,beq_iff_eq] at he
   obtain ⟨h1,h2⟩:=h0
   obtain ⟨g1,g2⟩:=g
   simp only at he
   rw [he.1,he.2]; simp
  .exact List.mem_cons_of_mem _ (lookG_mem h)
theorem alS_sound {n : Nat} {ops : Array Oper} {cf : Nat -> Op -> Nat} {cls : Nat -> Nat} {Q : Sg -> AM -> Prop} {Q' : Act -> AM -> Prop} (hd : dstsOk n ops = true) (hQ : ∀ a σ m, Fits ds n a σ -> Q σ m -> Q' a m) :
    ∀ (l : List Oper) (known : List ((Nat × Bool) × Bool)) (k : Nat) (a : Act) (σ : Sg) (m : AM), (∀ j o, l[j]? = some o -> ops[k + j]? = some o) -> (∀ j o, ops[j]? = some o -> cls j = cf j o.op /\ okClass (cls j) o.op) -> Fits ds n a σ -> KnowsG ops σ known ->
      alS P w0 ops cf l known k σ m Q -> AL P w0 cls ops l k a m Q'
  | [], _, _, _, _, _, _, _, hf, _, h => hQ _ _ _ hf h
  | o :: l, known, k, a, σ, m, hl, hc, hf, hkn, h => by
    have h0 : ops[k]? = some o := by simpa using hl 0 o rfl
    obtain ⟨h1, h2⟩ := hc k o h0
    have hdo : ∀ t, o.dst = some t -> t < n := fun t ht => by
      have := Array.all_eq_true.1 hd k (Array.getElem?_eq_some_iff.1 h0).1
      have e : ops[k]'((Array.getElem?_eq_some_iff.1 h0).1) = o := (Array.getElem?_eq_some_iff.1 h0).2
      rw [e, ht] at this
      simpa using this
    have hl' : ∀ j o, l[j]? = some o -> ops[k + 1 + j]? = some o := fun j o ho => by have := hl (j + 1) o (by simpa using ho); simpa [Nat.add_assoc, Nat.add_comm 1 j] using this
    have rec_ : ∀ (kn : List ((Nat × Bool) × Bool)), KnowsG ops σ kn -> ∀ v m', alS P w0 ops cf l (keepG ops kn o.dst) (k + 1) (putS σ o.dst v) m' Q -> AL P w0 cls ops l (k + 1) (a.put o.dst v) m' Q' :=
      fun kn hk v m' hv => alS_sound hd hQ l _ (k + 1) _ _ _ hl' hc (hf.put hdo v) (hk.keep o.dst v) hv
    have run : ∀ (kn : List ((Nat × Bool) × Bool)), KnowsG ops σ kn -> (opS P w0 (cf k o.op) (evS σ) o.op o.type m fun v m' => alS P w0 ops cf l (keepG ops kn o.dst) (k + 1) (putS σ o.dst v) m' Q) ->
        OpA P w0 (cls k) (execOp a.eval o) m (fun v m' => AL P w0 cls ops l (k + 1) (a.put o.dst v) m' Q') := fun kn hk ho => by
      rw [hf.evalF]
      rw [<- h1] at ho
      exact OpA_mono (rec_ kn hk) (opS_sound (ty := o.type) h2 ho)
    unfold alS at h
    show GOp P w0 (cls k) ops o a m (fun v m' => AL P w0 cls ops l (k + 1) (a.put o.dst v) m' Q')
    cases hg : o.guard with
    | none =>
      rw [hg] at h
      refine ⟨fun _ => run known hkn h, fun hw => ?_⟩
      unfold Region.wanted at hw
      rw [hg] at hw
      cases hw
    | some g =>
      rw [hg] at h
      simp only at h
      have hm := hf.met ops o g hg
      have mk : ∀ b, gmet ops σ g = b -> KnowsG ops σ ((g, b) :: known) := fun b hb x hx => by
        rcases List.mem_cons.1 hx with rfl | hx
        . exact hb
        . exact hkn x hx
      unfold GOp
      rw [hm]
      cases hlk : lookG known g with
      | some b =>
        rw [hlk] at h
        have hb := hkn _ (lookG_mem hlk)
        simp only at hb
        rw [hb]
        cases b with
        | true => exact ⟨fun _ => run known hkn h, fun hw => (by cases hw)⟩
        | false => exact ⟨fun hw => (by cases hw), fun _ => rec_ known hkn _ _ h⟩
      | none =>
        rw [hlk] at h
        simp only at h
        have hmet : gmet ops σ g = match gslot ops g with
          | some d => match σ d with
            | .bool b => b == g.2
            | _ => false
          | none => false := rfl
        cases hs : gslot ops g with
        | none =>
          rw [hs] at h hmet
          exact ⟨fun hw => (by rw [hmet] at hw; cases hw), fun _ => rec_ _ (mk false hmet) _ _ h⟩
        | some d =>
          rw [hs] at h hmet
          simp only at h hmet
          cases hv : σ d <;> simp only [hv] at h hmet <;> first
            | exact ⟨fun hw => (by rw [hmet] at hw; cases hw), fun _ => rec_ _ (mk false hmet) _ _ h⟩
            | (rename_i b
               cases hg2 : g.2 with
               | true =>
                 rw [hg2] at h hmet
                 have h := bcase_iff.1 h
                 refine ⟨fun hw => ?_, fun hw => ?_⟩
                 . exact run _ (mk true hw) (h.1 (by rw [hw] at hmet; simpa using hmet.symm))
                 . exact rec_ _ (mk false hw) _ _ (h.2 (by rw [hw] at hmet; simpa using hmet.symm))
               | false =>
                 rw [hg2] at h hmet
                 have h := bcase_iff.1 h
                 refine ⟨fun hw => ?_, fun hw => ?_⟩
                 . exact run _ (mk true hw) (h.2 (by rw [hw] at hmet; simpa using hmet.symm))
                 . exact rec_ _ (mk false hw) _ _ (h.1 (by rw [hw] at hmet; simpa using hmet.symm)))
theorem conjL_mem {f:Nat->Prop}:∀ {l:List Nat},conjL f l->∀ k∈l,f k
 | [],_,k,hk=>by cases hk
 | [x],h,k,hk=>by simp at hk; subst hk; exact h
 | x :: y :: l,h,k,hk=>by
  rcases List.mem_cons.1 hk with rfl | hk
  .exact h.1
  .exact conjL_mem h.2 k hk
theorem stepK_sound {n : Nat} {ops : Array Oper} {c : Nat} {o : Oper} {k : Nat} (hd : dstsOk n ops = true) (h0 : ops[k]? = some o) (h2 : okClass c o.op) {K : List ((Nat × Bool) × Bool) -> Sg -> AM -> Prop} {K' : Act -> AM -> Prop} {known : List ((Nat × Bool) × Bool)} {a : Act} {σ : Sg} {m : AM} (hf : Fits ds n a σ) (hkn : KnowsG ops σ known)
    (hK : ∀ kn a' σ' m', Fits ds n a' σ' -> KnowsG ops σ' kn -> K kn σ' m' -> K' a' m') (h : stepK P w0 ops c o known σ m K) : GOp P w0 c ops o a m (fun v m' => K' (a.put o.dst v) m') := by
  have hdo : ∀ t, o.dst = some t -> t < n := fun t ht => by
    have := Array.all_eq_true.1 hd k (Array.getElem?_eq_some_iff.1 h0).1
    have e : ops[k]'((Array.getElem?_eq_some_iff.1 h0).1) = o := (Array.getElem?_eq_some_iff.1 h0).2
    rw [e, ht] at this
    simpa using this
  have rec_ : ∀ (kn : List ((Nat × Bool) × Bool)), KnowsG ops σ kn -> ∀ v m', K (keepG ops kn o.dst) (putS σ o.dst v) m' -> K' (a.put o.dst v) m' :=
    fun kn hk v m' hv => hK _ _ _ _ (hf.put hdo v) (hk.keep o.dst v) hv
  have run : ∀ (kn : List ((Nat × Bool) × Bool)), KnowsG ops σ kn -> (opS P w0 c (evS σ) o.op o.type m fun v m' => K (keepG ops kn o.dst) (putS σ o.dst v) m') ->
      OpA P w0 c (execOp a.eval o) m (fun v m' => K' (a.put o.dst v) m') := fun kn hk ho => by
    rw [hf.evalF]
    exact OpA_mono (rec_ kn hk) (opS_sound (ty := o.type) h2 ho)
  unfold stepK at h
  cases hg : o.guard with
  | none =>
    rw [hg] at h
    refine ⟨fun _ => run known hkn h, fun hw => ?_⟩
    unfold Region.wanted at hw
    rw [hg] at hw
    cases hw
  | some g =>
    rw [hg] at h
    simp only at h
    have hm := hf.met ops o g hg
    have mk : ∀ b, gmet ops σ g = b -> KnowsG ops σ ((g, b) :: known) := fun b hb x hx => by
      rcases List.mem_cons.1 hx with rfl | hx
      . exact hb
      . exact hkn x hx
    unfold GOp
    rw [hm]
    cases hlk : lookG known g with
    | some b =>
      rw [hlk] at h
      have hb := hkn _ (lookG_mem hlk)
      simp only at hb
      rw [hb]
      cases b with
      | true => exact ⟨fun _ => run known hkn h, fun hw => (by cases hw)⟩
      | false => exact ⟨fun hw => (by cases hw), fun _ => rec_ known hkn _ _ h⟩
    | none =>
      rw [hlk] at h
      simp only at h
      have hmet : gmet ops σ g = match gslot ops g with
        | some d => match σ d with
          | .bool b => b == g.2
          | _ => false
        | none => false := rfl
      cases hs : gslot ops g with
      | none =>
        rw [hs] at h hmet
        exact ⟨fun hw => (by rw [hmet] at hw; cases hw), fun _ => rec_ _ (mk false hmet) _ _ h⟩
      | some d =>
        rw [hs] at h hmet
        simp only at h hmet
        cases hv : σ d <;> simp only [hv] at h hmet <;> first
          | exact ⟨fun hw => (by rw [hmet] at hw; cases hw), fun _ => rec_ _ (mk false hmet) _ _ h⟩
          | (rename_i b
             cases hg2 : g.2 with
             | true =>
               rw [hg2] at h hmet
               have h := bcase_iff.1 h
               refine ⟨fun hw => ?_, fun hw => ?_⟩
               . exact run _ (mk true hw) (h.1 (by rw [hw] at hmet; simpa using hmet.symm))
               . exact rec_ _ (mk false hw) _ _ (h.2 (by rw [hw] at hmet; simpa using hmet.symm))
             | false =>
               rw [hg2] at h hmet
               have h := bcase_iff.1 h
               refine ⟨fun hw => ?_, fun hw => ?_⟩
               . exact run _ (mk true hw) (h.2 (by rw [hw] at hmet; simpa using hmet.symm))
               . exact rec_ _ (mk false hw) _ _ (h.1 (by rw [hw] at hmet; simpa using hmet.symm)))
theorem trS_sound {n:Nat} {ops:Array Oper} {qsr:List (Nat × Nat)} {Q:Sg->AM->Prop} {Q':Act->AM->Prop} (hd:dstsOk n ops=true) (hQ:∀ a σ m,Fits ds n a σ->Q σ m->Q' a m) (hsel:Region.noSelect ops=true) (hD:depOk .any ops (deps .any ops.toList)=true)
  (hcls:∀ j o,ops[j]?=some o->clsOf qsr ops j=cl qsr j o.op/\okClass (clsOf qsr ops j) o.op) :
  ∀ (f:Nat) (listed:Array Bool) (known:List ((Nat × Bool) × Bool)) (a:Act) (σ:Sg) (m:AM),Sat w0 m->Closed .any ops listed->Fits ds n a σ->KnowsG ops σ known->trS P w0 ops qsr Q f listed known σ m->VAny P w0 (clsOf qsr ops) .any ops Q' f listed a m
 | 0,listed,known,a,σ,m,hs,hc,hf,hkn,h=>⟨List.isEmpty_iff.1 h.1,hQ _ _ _ hf h.2⟩
 | f+1,listed,known,a,σ,m,hs,hc,hf,hkn,h=>by
  unfold trS at h
  refine VAny_pick hsel hD hs hc (fun h0=>?_) (fun k o hk ho hr=>?_)
  .rw [h0] at h; exact hQ _ _ _ hf h
  .have h1:stepS P w0 ops qsr known k σ m fun kn' σ' m'=>trS P w0 ops qsr Q f (listed.setIfInBounds k true) kn' σ' m':=by
    cases hp:pickF ops (clsOf qsr ops) (deps .any ops.toList) listed with
    | nil=>rw [hp] at hk; cases hk
    | cons x l=>rw [hp] at h hk; exact conjL_mem h k hk
   unfold stepS at h1
   rw [ho] at h1
   obtain ⟨e1,e2⟩:=hcls k o ho
   simp only [<- e1] at h1
   have h2:=stepK_sound (K':=fun a m=>Sat w0 m->VAny P w0 (clsOf qsr ops) .any ops Q' f (listed.setIfInBounds k true) a m) hd ho e2 hf hkn (fun kn a' σ' m' hf' hk' hq' hs'=>trS_sound hd hQ hsel hD hcls f _ kn a' σ' m' hs' (hc.set hr) hf' hk' hq') h1
   exact GOp_mono_sat hs (fun v m' hs' hv=>hv hs') h2
theorem okClass_three (op:Op):okClass 3 op:=.inr (by omega)
theorem vcS_sound {qs:Nat->List (Nat × Nat)} {n:Nat} (c:Code):∀ {a:Act} {σ:Sg} {m:AM} {Q:Exit->Sg->AM->Prop} {Q':Exit->Act->AM->Prop},codeOk qs n c=true->Fits ds n a σ ->
  (∀ e a σ m,Fits ds n a σ->Q e σ m->Q' e a m)->vcS P w0 qs c σ m Q->vc P w0 c a m Q':=by
 induction c with
 | skip=>intro a σ m Q Q' ho hf hq h; exact hq _ _ _ _ hf h
 | label l=>intro a σ m Q Q' ho hf hq h; exact hq _ _ _ _ hf h
 | region id ops draw =>
  intro a σ m Q Q' ho hf hq h
  simp only [codeOk,Bool.and_eq_true] at ho
  cases draw with
  | false =>
   exact alS_sound (Q':=Q' .normal) ho.1 (fun a σ m hf hQ=>hq _ _ _ _ hf hQ) ops.toList [] 0 a σ m (by simp) (fun j o hj=>⟨rfl,okClass_three _⟩) hf (fun x hx=>by cases hx) h
  | true =>
   have hcl:∀ j o,ops[j]?=some o->clsOf (qs id) ops j=cl (qs id) j o.op/\okClass (clsOf (qs id) ops j) o.op:=fun j o hj=>by
    unfold clsOf
    rw [hj]
    refine ⟨rfl,?_⟩
    show okClass (cl (qs id) j o.op) o.op
    unfold cl
    split
    .exact .inr (Nat.le_max_right _ _)
    .exact .inl (Nat.le_refl _)
   refine ⟨clsOf (qs id) ops,fun hs=>?_⟩
   cases hm:(qs (1000000+id)).isEmpty with
   | true =>
    simp only [hm,Bool.not_true,Bool.false_or,cond_true] at ho
    have h:alS P w0 ops (fun k op=>if true then cl (qs id) k op else 3) ops.toList [] 0 σ m (Q .normal):=by
     simpa only [vcS,hm,Bool.not_true,Bool.and_false] using h
    refine VAny_text ho.2 hs ?_
    exact alS_sound (Q':=Q' .normal) ho.1 (fun a σ m hf hQ=>hq _ _ _ _ hf hQ) ops.toList [] 0 a σ m (by simp) hcl hf (fun x hx=>by cases hx) h
   | false =>
    simp only [hm,Bool.not_true,Bool.false_or,cond_false,Bool.and_eq_true] at ho
    obtain ⟨Q0,hq0,h⟩:∃ Q0:Sg->AM->Prop,(∀ σ m,Q0 σ m->Q .normal σ m)/\trS P w0 ops (qs id) Q0 ops.size (Array.replicate ops.size false) [] σ m:=by
     simpa only [vcS,hm,Bool.not_false,Bool.and_true] using h
    exact trS_sound (Q':=Q' .normal) ho.1 (fun a σ m hf hQ=>hq _ _ _ _ hf (hq0 _ _ hQ)) ho.2.1 ho.2.2 hcl ops.size _ [] a σ m hs (fun j oj _ hl=>by exfalso; rcases Nat.lt_or_ge j ops.size with h' | h' <;> simp [h'] at hl) hf (fun x hx=>by cases hx) h
 | seq x y ihx ihy =>
  intro a σ m Q Q' ho hf hq h
  simp only [codeOk,Bool.and_eq_true] at ho
  refine ihx ho.1 hf (fun e a' σ' m' hf' he=>?_) h
  cases e <;> first | exact ihy ho.2 hf' hq he | exact hq _ _ _ _ hf' he
 | cond c x y ihx ihy =>
  intro a σ m Q Q' ho hf hq h
  simp only [codeOk,Bool.and_eq_true] at ho
  have h:condS (evS σ c) (vcS P w0 qs x σ m Q) (vcS P w0 qs y σ m Q):=h
  unfold condS at h
  split at h
  .rename_i t ht
   have h:=bcase_iff.1 h
   exact ⟨t,(hf.eval c).trans ht,fun e=>ihx ho.1 hf hq (h.1 e),fun e=>ihy ho.2 hf hq (h.2 e)⟩
  .exact h.elim
 | block id c ih =>
  intro a σ m Q Q' ho hf hq h
  refine ih ho hf (fun e a' σ' m' hf' he=>?_) h
  cases e <;> first | exact hq _ _ _ _ hf' he | skip
  rename_i id'
  simp only [blockS] at he ⊢
  by_cases hid:id'=id
  .rw [if_pos hid] at he ⊢; exact hq _ _ _ _ hf' he
  .rw [if_neg hid] at he ⊢; exact hq _ _ _ _ hf' he
 | loop c ih =>
  intro a σ m Q Q' ho hf hq h
  obtain ⟨I,N,h0,hr⟩:=h
  refine ⟨N+1,?_⟩
  have key:∀ k j,j<k->∀ a σ m,Fits ds n a σ->I j σ m->iterA (fun a m Q=>vc P w0 c a m Q) k a m Q':=by
   intro k
   induction k with
   | zero=>intro j hj; omega
   | succ k ihk =>
    intro j hn a σ m hf hI
    obtain ⟨Q0,hle,hv⟩:=hr j σ m hI
    refine ih ho hf (fun e a' σ' m' hf' he=>?_) hv
    have he:=hle _ _ _ he
    cases e <;> first
     | (obtain ⟨n',hn',hI'⟩:=he; exact ihk n' (by omega) a' σ' m' hf' hI')
     | exact hq _ _ _ _ hf' he
  exact key (N+1) N (by omega) a σ m hf h0
 | exit id=>intro a σ m Q Q' ho hf hq h; exact hq _ _ _ _ hf h
 | ret=>intro a σ m Q Q' ho hf hq h; exact hq _ _ _ _ hf h
 | _=>intro a σ m Q Q' ho hf hq h; exact h.elim
def retS (P:Program) (σ:Sg) (m:AM):List ResultVar->List Value->(List Value->Prop)->Prop
 | [],acc,K=>K acc
 | .tmp t :: r,acc,K=>retS P σ m r (acc ++ [σ t]) K
 | .cell x t :: r,acc,K=>match σ x with
  | .pointer (some ad)=>ldS P t m ad fun v=>retS P σ m r (acc ++ [v]) K
  | _=>False
def packS:List Value->Value
 | [v]=>v
 | l=>.tuple l.toArray
def argS (args:List Value):Sg:=fun t=>args.getD t undef
theorem retS_rval {n:Nat} {a:Act} {σ:Sg} (hf:Fits ds n a σ) {m:AM}:∀ {l:List ResultVar} {acc:List Value} {K:List Value->Prop},retS P σ m l acc K ->
  ∃ vs,rval P m (l.mapM fun | .tmp t=>(pure (a.tmps.getD t undef):Sem Value) | .cell x t=>do loadVar t (<- asAddr (a.tmps.getD x undef)))=some vs/\K (acc ++ vs)
 | [],acc,K,h=>⟨[],rfl,by rw [List.append_nil]; exact h⟩
 | .tmp t :: r,acc,K,h=>by
  obtain ⟨vs,h1,h2⟩:=retS_rval hf (l:=r) h
  refine ⟨σ t :: vs,?_,by simpa using h2⟩
  rw [List.mapM_cons,rval_bind']
  have e:a.tmps.getD t undef=σ t:=hf.eval (.tmp t)
  simp only [e,rval_pure,Option.bind_some]
  rw [rval_bind',h1]; rfl
 | .cell x t :: r,acc,K,h=>by
  unfold retS at h
  split at h
  .rename_i ad hx
   obtain ⟨v,hv,h⟩:=ldS_rval h
   obtain ⟨vs,h1,h2⟩:=retS_rval hf (l:=r) h
   refine ⟨v :: vs,?_,by simpa using h2⟩
   rw [List.mapM_cons,rval_bind']
   have e:a.tmps.getD x undef=σ x:=hf.eval (.tmp x)
   have e2:rval P m (do loadVar t (<- asAddr (a.tmps.getD x undef)))=some v:=by
    rw [rval_bind',e,hx]
    exact hv
   rw [e2]
   simp only [Option.bind_some]
   rw [rval_bind',h1]; rfl
  .exact h.elim
def RetP (R:Value->AM->Prop) (v:Value) (m':AM):Prop:=∃ m2,m2.le m'/\R v m2
def retQ (P:Program) (fn:Func) (R:Value->AM->Prop) (e:Exit) (σ:Sg) (m':AM):Prop :=
 match e with
 | .normal=>retS P σ m' fn.results.toList [] fun l=>RetP R (packS l) m'
 | .ret=>retS P σ m' fn.results.toList [] fun l=>RetP R (packS l) m'
 | _=>False
theorem callsA_of {f : FuncId} {fn : Func} {c : Code} {args : List Value} {m : AM} {R : Value -> AM -> Prop} (hm : P.follows .mixedOrders = true) (hf : P.funcs[f]? = some fn) (hb : fn.body = some c) (qs : Nat -> List (Nat × Nat))
    (hn : Nat.ble args.length fn.ntmps = true) (hok : codeOk qs fn.ntmps c = true)
    (h : vcS P w0 qs c (argS args) m (retQ P fn R)) : CallsA P w0 f args.toArray m R := by
  have hn := Nat.le_of_ble_eq_true hn
  intro w hw
  refine calls_of_wp hf hb ?_
  have hfit : Fits [] fn.ntmps { tmps := args.toArray ++ Array.replicate (fn.ntmps - args.toArray.size) undef, defers := [] } (argS args) := by
    refine ⟨rfl, by simp; omega, fun t ht => ?_, fun t ht => ?_⟩
    . unfold argS
      rcases Nat.lt_or_ge t args.length with hl | hl
      . simp [Array.getElem?_append, hl]
      . simp [Array.getElem?_append, Nat.not_lt.2 hl]
        rw [Array.getElem?_replicate]
        split <;> rfl
    . unfold argS
      simp [List.getElem?_eq_none (show args.length <= t by omega)]
  have res : ∀ (a : Act) (σ : Sg) (m' : AM), Fits [] fn.ntmps a σ -> (retS P σ m' fn.results.toList [] fun l => ∃ m2, m2.le m' /\ R (packS l) m2) -> ∃ v, rval P m' (results fn a.tmps) = some v /\ ∃ m2, m2.le m' /\ R v m2 := by
    intro a σ m' hf' he
    obtain ⟨vs, h1, m2, h2, h3⟩ := retS_rval (P := P) hf' he
    refine ⟨packS vs, ?_, m2, h2, by simpa using h3⟩
    unfold results
    rw [rval_bind', Array.mapM_eq_mapM_toList, <- bind_pure_comp, rval_bind']
    erw [h1]
    simp only [Option.bind_some, rval_pure]
    match vs with
    | [] => rfl
    | [v] => rfl
    | v :: u :: r => simp [packS]
  have hv := vcS_sound c hok hfit (Q' := fun e a' m' => match e with
      | .normal | .ret => a'.defers = [] /\ ∃ v, rval P m' (results fn a'.tmps) = some v /\ ∃ m2, m2.le m' /\ R v m2
      | _ => False) (fun e a σ m' hf' he => by
        cases e <;> first
          | exact ⟨hf'.defers, res a σ m' hf' he⟩
          | exact he) h
  refine Code.wp_mono (fun e a' w' hq => ?_) (vc_sound hm c _ m _ w hw hv)
  obtain ⟨m', hh, hq⟩ := hq
  cases e <;> first
    | (obtain ⟨hd, v, hr, m2, hle, hR⟩ := hq
       exact ⟨hd, v, rval_run hh _ hr, v, m2, rfl, hh.mono hle, hR⟩)
    | exact hq.elim
def sub:Code->List Nat->Code
 | c,[]=>c
 | .seq x _,0 :: p=>sub x p
 | .seq _ y,1 :: p=>sub y p
 | .cond _ x _,0 :: p=>sub x p
 | .cond _ _ y,1 :: p=>sub y p
 | .block _ c,0 :: p=>sub c p
 | .loop c,0 :: p=>sub c p
 | .rangeFunc _ _ x _,0 :: p=>sub x p
 | .rangeFunc _ _ _ y,1 :: p=>sub y p
 | c,_=>c
def bodyOf (fn:Func):Code :=
 match fn.body with
 | some c=>c
 | none=>.skip
end
def vI:Value->Int
 | .int _ n=>n
 | _=>0
def okI (k:IntKind):Value->Bool
 | .int k' _=>decide (k'=k)
 | _=>false
def vB:Value->Bool
 | .bool b=>b
 | _=>false
def okB:Value->Bool
 | .bool _=>true
 | _=>false
def vSA:Value->Option Addr
 | .slice a _ _=>a
 | _=>none
def vSN:Value->Nat
 | .slice _ n _=>n
 | _=>0
def vSC:Value->Nat
 | .slice _ _ c=>c
 | _=>0
def okS:Value->Bool
 | .slice ..=>true
 | _=>false
def vPO:Value->Option Addr
 | .pointer a=>a
 | _=>none
def vP (v:Value):Nat:=match vPO v with
 | some a=>a.block
 | none=>0
theorem ok_int {k:IntKind} {v:Value} (h:okI k v=true):v=.int k (vI v):=by
 cases v <;> simp_all [okI,vI]
theorem ok_bool {v:Value} (h:okB v=true):v=.bool (vB v):=by cases v <;> simp_all [okB,vB]
theorem ok_slice {v:Value} (h:okS v=true):v=.slice (vSA v) (vSN v) (vSC v):=by cases v <;> simp_all [okS,vSA,vSN,vSC]
def trC (P:Program) (w0:World) (qs:Nat->List (Nat × Nat)):Code->Sg->AM->(Sg->AM->Prop)->Prop
 | .region id ops _,σ,m,Q0=>trS P w0 ops (qs id) Q0 ops.size (Array.replicate ops.size false) [] σ m
 | _,_,_,_=>False
def markB (qs:Nat->List (Nat × Nat)):Code->Bool
 | .region id _ draw=>draw && !(qs (1000000+id)).isEmpty
 | _=>false
theorem vcS_cut {P:Program} {w0:World} {qs:Nat->List (Nat × Nat)} {c:Code} {σ:Sg} {m:AM} {Q:Exit->Sg->AM->Prop} {Q0:Sg->AM->Prop} (hm:markB qs c=true) (h:trC P w0 qs c σ m Q0) (hq:∀ σ m,Q0 σ m->Q .normal σ m):vcS P w0 qs c σ m Q:=by
 cases c <;> first | cases hm | skip
 rename_i id ops draw
 have hm:(draw && !(qs (1000000+id)).isEmpty)=true:=hm
 unfold vcS
 rw [hm]
 exact ⟨Q0,hq,h⟩
theorem upd_id {σ:Sg} {k:Nat} {v:Value} (h:σ k=v):upd σ k v=σ:=by
 funext i
 unfold upd
 by_cases e:i=k
 .subst e; simp [h]
 .simp [e]
theorem cell_upd_same {m:AM} {b:Nat} {c:Array Value} {t:TypeId} {f:Nat × Nat} {k:Nat}:(m.upd b (.cells c t f)).cell ⟨b,k,none⟩=c[k]?:=by
 unfold AM.cell AM.upd; simp
theorem cell_upd_ne {m:AM} {b:Nat} {o:Obj} {a:Addr} (h:a.block≠b):(m.upd b o).cell a=m.cell a:=by
 unfold AM.cell AM.upd; simp [h]
theorem frozen_upd_same {m:AM} {b:Nat} {c:Array Value} {t:TypeId} {k:Nat}:(m.upd b (.cells c t (0,0))).frozen ⟨b,k,none⟩=false:=by
 unfold AM.frozen AM.upd; simp
theorem set_upd_same {m:AM} {b:Nat} {c:Array Value} {t:TypeId} {f:Nat × Nat} {k:Nat} {v:Value}:(m.upd b (.cells c t f)).set ⟨b,k,none⟩ v=m.upd b (.cells (c.setIfInBounds k v) t f):=by
 unfold AM.set
 have:m.upd b (.cells c t f) b=some (.cells c t f):=by simp [AM.upd]
 simp only [this]
 funext x
 by_cases h:x=b <;> simp [AM.upd,h]
theorem upd_upd {m:AM} {b:Nat} {o o':Obj}:(m.upd b o).upd b o'=m.upd b o':=by
 funext x; by_cases h:x=b <;> simp [AM.upd,h]
theorem upd_self {m:AM} {b:Nat} {o:Obj} (h:m b=some o):m.upd b o=m:=by
 funext x; by_cases hx:x=b <;> simp [AM.upd,hx,h]
theorem upd_get_same {m:AM} {b:Nat} {o:Obj}:(m.upd b o) b=some o:=by simp [AM.upd]
theorem upd_get_ne {m:AM} {b x:Nat} {o:Obj} (h:x≠b):(m.upd b o) x=m x:=by simp [AM.upd,h]
theorem AM.le_refl (m:AM):m.le m:=fun _ _ h=>h
theorem AM.le_trans {a b c:AM} (h:a.le b) (k:b.le c):a.le c:=fun x o hx=>k x o (h x o hx)
theorem AM.le_upd {m m':AM} {b:Nat} {o:Obj} (h:m.le m') (hb:m' b=none):m.le (m'.upd b o):=fun x o' hx=>by
 have h1:=h x o' hx
 have:x≠b:=fun e=>by subst e; rw [hb] at h1; cases h1
 rw [upd_get_ne this]; exact h1
theorem AM.le_none {m m':AM} (h:m.le m') {b:Nat} (hb:m' b=none):m b=none:=by
 cases hm:m b with
 | none=>rfl
 | some o=>rw [h b o hm] at hb; cases hb
theorem cell_of {m:AM} {b k:Nat} {c:Array Value} {t:TypeId} {f:Nat × Nat} (h:m b=some (.cells c t f)):m.cell ⟨b,k,none⟩=c[k]?:=by
 unfold AM.cell; simp [h]
theorem frozen_of {m:AM} {b k:Nat} {c:Array Value} {t:TypeId} (h:m b=some (.cells c t (0,0))):m.frozen ⟨b,k,none⟩=false:=by
 unfold AM.frozen; simp [h]
theorem set_of {m:AM} {b k:Nat} {c:Array Value} {t:TypeId} {f:Nat × Nat} {v:Value} (h:m b=some (.cells c t f)):m.set ⟨b,k,none⟩ v=m.upd b (.cells (c.setIfInBounds k v) t f):=by
 unfold AM.set; simp [h]
theorem AM.le_cell {m m':AM} (h:m.le m') {a:Addr} {v:Value} (hc:m.cell a=some v):m'.cell a=some v:=by
 unfold AM.cell at hc ⊢
 cases hm:m a.block with
 | none=>rw [hm] at hc; cases hc
 | some o=>rw [hm] at hc; rw [h _ _ hm]; exact hc
theorem addn (b o n:Nat):(⟨b,o,none⟩:Addr).add n=⟨b,o+n,none⟩:=by unfold Addr.add; by_cases h:n=0 <;> simp [h]
theorem add_block (a:Addr) (n:Nat):(a.add n).block=a.block:=by unfold Addr.add; split <;> rfl
theorem add_add (a:Addr) (i j:Nat):(a.add i).add j=a.add (i+j):=by
 unfold Addr.add
 by_cases hi:i=0 <;> by_cases hj:j=0 <;> simp [hi,hj,Nat.add_assoc]
theorem loopQ {P:Program} {w0:World} {qs:Nat->List (Nat × Nat)} {c:Code} {σ:Sg} {m:AM} {Q:Exit->Sg->AM->Prop} (I:Nat->Sg->AM->Prop) (N:Nat) (Q0:Nat->Exit->Sg->AM->Prop) (h0:I N σ m)
  (hn:∀ n σ m,Q0 n .normal σ m->∃ n',n'<n/\I n' σ m) (hq:∀ n e σ m,e≠.normal->Q0 n e σ m->Q e σ m)
  (hr:∀ n σ m,I n σ m->vcS P w0 qs c σ m (Q0 n)):vcS P w0 qs (.loop c) σ m Q :=
 ⟨I,N,h0,fun n σ m h=>⟨Q0 n,fun e σ m h=>by
  cases e <;> first | exact hn n σ m h | exact hq n _ σ m (by intro h; cases h) h,hr n σ m h⟩⟩
section
variable {P:Program} {B:Nat}
def Cells (m:AM) (a:Addr) (l:List Value):Prop:=∀ j u,l[j]?=some u->m.cell (a.add j)=some u
theorem Cells.load {m:AM} {a:Addr} {l:List Value} (h:Cells m a l):rval P m (loadCells a l.length)=some l.toArray:=by
 have key:∀ (r:List Value) (i:Nat) (acc:Array Value),(∀ j u,r[j]?=some u->m.cell (a.add (i+j))=some u)->rval P m (loadCellsFrom a i r.length acc)=some (acc ++ r.toArray):=by
  intro r
  induction r with
  | nil=>intro i acc _; simp [loadCellsFrom,rval_pure]
  | cons v r ih =>
   intro i acc hr
   show rval P m (Go.load (a.add i) >>= fun v=>loadCellsFrom a (i+1) r.length (acc.push v))=_
   rw [rval_bind']
   have h0:rval P m (Go.load (a.add i))=some v:=by
    unfold Go.load
    have:=hr 0 v (by simp)
    simp only [Nat.add_zero] at this
    simp only [rval,this]
   rw [h0]
   simp only [Option.bind_some]
   rw [ih (i+1) _ (fun j u hu=>by have:=hr (j+1) u (by simpa using hu); rwa [show i+(j+1)=i+1+j by omega] at this)]
   simp
 have:=key l 0 #[] (fun j u hu=>by simpa using h j u hu)
 unfold loadCells
 simpa using this
def splice (cur:Array Value) (o:Nat) (l:List Value):Array Value:=(cur.toList.take o ++ l ++ cur.toList.drop (o+l.length)).toArray
theorem splice_nil (cur:Array Value) (o:Nat):splice cur o []=cur:=by simp [splice]
theorem splice_size (cur:Array Value) (o:Nat) (l:List Value) (h:o+l.length<=cur.size):(splice cur o l).size=cur.size:=by
 simp [splice]; omega
theorem splice_cons (cur:Array Value) (o:Nat) (v:Value) (l:List Value) (h:o+(l.length+1)<=cur.size):splice (cur.setIfInBounds o v) (o+1) l=splice cur o (v :: l):=by
 unfold splice
 congr 1
 simp only [Array.toList_setIfInBounds,List.length_cons]
 apply List.ext_getElem?
 intro i
 simp only [List.getElem?_append,List.getElem?_take,List.getElem?_drop,List.getElem?_set,List.length_append,List.length_take,List.length_set,List.length_cons,List.getElem?_cons,Array.length_toList]
 have e1:min (o+1) cur.size=o+1:=by omega
 have e2:min o cur.size=o:=by omega
 rw [e1,e2]
 by_cases h1:i<o
 .simp [h1,show i<o+1 by omega,show ¬ o=i by omega,show i<o+1+l.length by omega,show i<o+(l.length+1) by omega]
 .by_cases h2:i=o
  .subst h2
   simp [show i<cur.size by omega,show i<i+1+l.length by omega]
  .by_cases h3:i<o+1+l.length
   .simp [h1,h3,show ¬ i<o+1 by omega,show i<o+(l.length+1) by omega,show ¬ i-o=0 by omega]
    congr 1
   .simp [h1,h3,show ¬ i<o+1 by omega,show ¬ i<o+(l.length+1) by omega]
    rw [show o+1+l.length+(i-(o+1+l.length))=i by omega,show o+(l.length+1)+(i-(o+(l.length+1)))=i by omega]
    rw [if_neg (by omega)]
theorem store_list {g:Nat} {e:TypeId}:∀ (l:List Value) (i o:Nat) (m:AM) (cur:Array Value) (K:Unit->AM->Prop),m g=some (.cells cur e (0,0))->B<=g->(∀ v∈l,v.oneCell'=true)->o+i+l.length<=cur.size ->
  K () (m.upd g (.cells (splice cur (o+i) l) e))->awp P B (storeCells ⟨g,o,none⟩ l i) m K
 | [],i,o,m,cur,K,hg,hB,h1,hl,hk=>by
  rw [splice_nil,upd_self hg] at hk
  exact hk
 | v :: l,i,o,m,cur,K,hg,hB,h1,hl,hk=>by
  show awp P B (store ((⟨g,o,none⟩:Addr).add i) v >>= fun _=>storeCells ⟨g,o,none⟩ l (i+1)) m K
  rw [awp_bind',addn]
  simp only [List.length_cons] at hl
  refine ⟨h1 v (by simp),hB,?_,frozen_of hg,?_⟩
  .rw [cell_of hg]; exact ⟨cur[o+i]'(by omega),by simp [show o+i<cur.size by omega]⟩
  .rw [set_of hg]
   show awp P B (storeCells ⟨g,o,none⟩ l (i+1)) _ K
   refine store_list l (i+1) o _ (cur.setIfInBounds (o+i) v) K (by rw [upd_get_same]) hB (fun u hu=>h1 u (by simp [hu])) (by simp; omega) ?_
   rw [upd_upd,<- Nat.add_assoc,splice_cons cur (o+i) v l (by omega)]
   exact hk
def Own (m:AM) (B:Nat) (e:TypeId) (sz:Nat) (A:Option Addr) (n cp:Nat) (xs:List Value):Prop :=
 xs.length=n*sz/\n<=cp/\((A=none/\cp=0)\/∃ g cur,A=some ⟨g,0,none⟩/\B<=g/\m g=some (.cells cur e (0,0))/\cur.size=cp*sz/\cur.toList.take (n*sz)=xs)
theorem Own.nil (m:AM) (B:Nat) (e:TypeId) (sz:Nat):Own m B e sz none 0 0 []:=⟨by simp,Nat.le_refl _,.inl ⟨rfl,rfl⟩⟩
theorem Own.new (m:AM) {B g:Nat} (hB:B<=g) (e:TypeId) (sz n:Nat) (xs:List Value) (hl:xs.length=n*sz):Own (m.upd g (.cells xs.toArray e)) B e sz (some ⟨g,0,none⟩) n n xs :=
 ⟨hl,Nat.le_refl _,.inr ⟨g,xs.toArray,rfl,hB,upd_get_same,by simp [hl],by simp [<- hl]⟩⟩
theorem Own.cells {m:AM} {e:TypeId} {sz:Nat} {A:Option Addr} {n cp:Nat} {xs:List Value} (h:Own m B e sz A n cp xs) {ad:Addr} (hA:A=some ad):Cells m ad xs:=by
 obtain ⟨hl,hn,h | ⟨g,cur,h1,h2,h3,h4,h5⟩⟩:=h
 .rw [h.1] at hA; cases hA
 .rw [h1] at hA
  injection hA with hA
  subst hA
  intro j u hu
  rw [addn,cell_of h3,Nat.zero_add]
  rw [<- h5,List.getElem?_take] at hu
  split at hu
  .simpa using hu
  .cases hu
theorem Own.keep {m m':AM} {e:TypeId} {sz:Nat} {A:Option Addr} {n cp:Nat} {xs:List Value} (h:Own m B e sz A n cp xs) (hk:∀ g,A=some ⟨g,0,none⟩->m' g=m g):Own m' B e sz A n cp xs:=by
 obtain ⟨hl,hn,h | ⟨g,cur,h1,h2,h3,h4,h5⟩⟩:=h
 .exact ⟨hl,hn,.inl h⟩
 .exact ⟨hl,hn,.inr ⟨g,cur,h1,h2,by rw [hk g h1]; exact h3,h4,h5⟩⟩
theorem Own.upd {m:AM} {e:TypeId} {sz:Nat} {A:Option Addr} {n cp:Nat} {xs:List Value} (h:Own m B e sz A n cp xs) {b:Nat} {o:Obj} (hb:∀ off,A≠some ⟨b,off,none⟩):Own (m.upd b o) B e sz A n cp xs :=
 h.keep fun g hg=>upd_get_ne (fun e=>hb 0 (by rw [hg,e]))
theorem Own.ne_none {m:AM} {e:TypeId} {sz:Nat} {A:Option Addr} {n cp:Nat} {xs:List Value} (h:Own m B e sz A n cp xs) {b:Nat} (hb:m b=none):∀ off,A≠some ⟨b,off,none⟩:=by
 intro off hA
 obtain ⟨_,_,h | ⟨g,cur,h1,h2,h3,_⟩⟩:=h
 .rw [h.1] at hA; cases hA
 .rw [h1] at hA
  injection hA with hA
  injection hA with hg
  subst hg
  rw [hb] at h3; cases h3
theorem Own.ne_type {m:AM} {e:TypeId} {sz:Nat} {A:Option Addr} {n cp:Nat} {xs:List Value} (h:Own m B e sz A n cp xs) {b:Nat} {c:Array Value} {t:TypeId} (hb:m b=some (.cells c t (0,0))) (ht:t≠e):∀ off,A≠some ⟨b,off,none⟩:=by
 intro off hA
 obtain ⟨_,_,h | ⟨g,cur,h1,h2,h3,_⟩⟩:=h
 .rw [h.1] at hA; cases hA
 .rw [h1] at hA
  injection hA with hA
  injection hA with hg
  subst hg
  rw [hb] at h3
  injection h3 with h3
  injection h3 with _ h4
  exact ht h4
def Reads (m:AM) (sz:Nat) (A:Option Addr) (n:Nat) (xs:List Value):Prop:=xs.length=n*sz/\((A=none/\n=0)\/∃ ad,A=some ad/\Cells m ad xs)
theorem Own.reads {m:AM} {e:TypeId} {sz:Nat} {A:Option Addr} {n cp:Nat} {xs:List Value} (h:Own m B e sz A n cp xs):Reads m sz A n xs:=by
 refine ⟨h.1,?_⟩
 cases hA:A with
 | none =>
  obtain ⟨_,hn,h1 | ⟨g,cur,h1,_⟩⟩:=h
  .exact .inl ⟨rfl,by omega⟩
  .rw [hA] at h1; cases h1
 | some ad=>exact .inr ⟨ad,rfl,h.cells hA⟩
theorem Reads.first {m:AM} {sz:Nat} {A:Option Addr} {n c:Nat} {xs:List Value} (h:Reads m sz A n xs):rval P m (Builtin.firstCells sz n (.slice A n c))=some xs.toArray:=by
 obtain ⟨hl,⟨rfl,rfl⟩ | ⟨ad,rfl,hc⟩⟩:=h
 .have:xs = []:=List.eq_nil_of_length_eq_zero (by simpa using hl)
  subst this
  rfl
 .show rval P m (loadCells ad (n*sz))=_
  rw [<- hl]
  exact hc.load
theorem awp_ask {m:AM} {b:Nat} {K:Unit->AM->Prop} (h:K () m):awp P B (askRoom b) m K:=by
 unfold askRoom
 by_cases hb:b>roomBytes
 .rw [if_pos hb]; exact h
 .rw [if_neg hb]; exact h
theorem awp_append {t ty e : TypeId} {sz bs : Nat} {z : List Value} (hel : elOf P t = some (e, sz, bs, z)) {m : AM} {A : Option Addr} {n cp : Nat} {xs : List Value} (hown : Own m B e sz A n cp xs)
    {A2 : Option Addr} {k c2 : Nat} {news : List Value} (hr : Reads m sz A2 k news) (h1 : ∀ u ∈ news, u.oneCell' = true) (hfit : (n + k) * bs <= 140737488355328) (hfit2 : n + k <= 140737488355328) {K : Value -> AM -> Prop}
    (hroom : n + k <= cp -> ∀ g cur, A = some ⟨g, 0, none⟩ -> m g = some (.cells cur e (0, 0)) -> K (.slice A (n + k) cp) (m.upd g (.cells (splice cur (n * sz) news) e)))
    (hnil : n + k <= cp -> A = none -> K (.slice A (n + k) cp) m)
    (hgrow : cp < n + k -> ∀ b cp', B <= b -> m b = none -> n + k <= cp' -> ∀ rest : List Value, rest.length = (cp' - (n + k)) * sz -> K (.slice (some ⟨b, 0, none⟩) (n + k) cp') (m.upd b (.cells (xs ++ news ++ rest).toArray e))) :
    awp P B (Builtin.append_ #[t, t] ty #[.slice A n cp, .slice A2 k c2]) m K := by
  obtain ⟨i, zv, hu, hi, hz, hzs, hsz, hbs, hzl⟩ := elOf_spec hel
  subst hsz
  subst hbs
  show awp P B (underlying t >>= _) m K
  rw [awp_bind']
  refine awp_p (pv_underlying hu) ?_
  simp only [List.getElem_toArray, List.getElem_cons_zero, List.getElem_cons_succ]
  rw [awp_bind']
  refine awp_p (pv_sizeOf hi) ?_
  simp only [List.getElem?_toArray, List.getElem?_cons_succ, List.getElem?_cons_zero]
  rw [awp_bind']
  refine awp_p (pv_underlying hu) ?_
  rw [awp_bind']
  refine awp_p (x := false) rfl ?_
  simp only [Bool.false_eq_true, if_false, Bool.not_false, if_true]
  rw [awp_bind']
  refine awp_p (x := k) rfl ?_
  by_cases hc : n + k <= cp
  . rw [if_pos hc, awp_bind']
    refine awp_of_rval _ hr.first ?_
    cases A with
    | none =>
      simp only
      exact hnil hc rfl
    | some a =>
      simp only
      rw [awp_bind']
      have hown' := hown
      obtain ⟨hl, hn, h | ⟨g, cur, h1', h2, h3, h4, h5⟩⟩ := hown
      . cases h.1
      . injection h1' with h1'
        subst h1'
        have hmul : (n + k) * i.size <= cp * i.size := Nat.mul_le_mul_right _ hc
        rw [Nat.add_mul] at hmul
        rw [addn]
        refine store_list news 0 _ m cur _ h3 h2 h1 (by rw [hr.1]; omega) ?_
        have := hroom hc g cur rfl h3
        simp only [Nat.zero_add, Nat.add_zero]
        exact this
  . rw [if_neg hc, awp_bind']
    refine awp_p (pv_typeInfo hi) ?_
    have emax : IntKind.i64.max = 9223372036854775807 := rfl
    rw [if_neg (fun h => by have := h.1; rw [emax] at this; omega), awp_bind']
    refine awp_p (pv_typeInfo hi) ?_
    have hgf := growslice_fits (old := cp) (show cp < n + k by omega) hfit
    rw [if_neg (by have : (2 : Nat) ^ 48 = 281474976710656 := by decide
                   omega), awp_bind']
    refine ⟨fun hf => (by cases hf), fun _ t => ?_⟩
    show awp P B _ m K
    have hge : n + k <= (Question.appendCap (n + k) cp e).cut t := by simp [Question.cut]
    generalize (Question.appendCap (n + k) cp e).cut t = cp' at hge
    rw [awp_bind']
    refine awp_p (pv_typeInfo hi) ?_
    rw [awp_bind']
    refine awp_ask ?_
    rw [awp_bind']
    refine awp_of_rval _ hown.reads.first ?_
    rw [awp_bind']
    refine awp_of_rval _ hr.first ?_
    rw [awp_bind']
    refine awp_p (pv_zeroValue hi hz) ?_
    rw [awp_bind']
    intro b hb hm
    have hk := hgrow (by omega) b cp' hb hm hge (Builtin.zeroCells zv.cells (cp' - (n + k))).toList (by simp [Builtin.zeroCells, hzs])
    have e2 : (xs ++ news ++ (Builtin.zeroCells zv.cells (cp' - (n + k))).toList).toArray = xs.toArray ++ news.toArray ++ Builtin.zeroCells zv.cells (cp' - (n + k)) := by
      apply Array.ext'; simp
    rw [e2] at hk
    exact hk
theorem awp_append_own {t ty e:TypeId} {sz bs:Nat} {z:List Value} (hel:elOf P t=some (e,sz,bs,z)) {m:AM} {A:Option Addr} {n cp:Nat} {xs:List Value} (hown:Own m B e sz A n cp xs)
  {A2:Option Addr} {k c2:Nat} {news:List Value} (hr:Reads m sz A2 k news) (h1:∀ u∈news,u.oneCell'=true) (hfit:(n+k)*bs<=140737488355328) (hfit2:n+k<=140737488355328) {K:Value->AM->Prop}
  (h:∀ g cp' cur,(A=some ⟨g,0,none⟩\/m g=none)->B<=g->Own (m.upd g (.cells cur e)) B e sz (some ⟨g,0,none⟩) (n+k) cp' (xs ++ news)->K (.slice (some ⟨g,0,none⟩) (n+k) cp') (m.upd g (.cells cur e)))
  (hn:n+k=0->A=none->K (.slice none 0 0) m) :
  awp P B (Builtin.append_ #[t,t] ty #[.slice A n cp,.slice A2 k c2]) m K:=by
 have hlen:(xs ++ news).length=(n+k)*sz:=by rw [List.length_append,hown.1,hr.1,Nat.add_mul]
 refine awp_append hel hown hr h1 hfit hfit2 (fun hc g cur hA hg=>?_) (fun hc hA=>?_) (fun hc b cp' hb hm hge rest hrest=>?_)
 .have hown':=hown
  obtain ⟨hl,hn',h' | ⟨g',cur',h1',h2,h3,h4,h5⟩⟩:=hown'
  .rw [h'.1] at hA; cases hA
  .rw [hA] at h1'
   injection h1' with h1'
   injection h1' with h1'
   subst h1'
   rw [hg] at h3
   injection h3 with h3
   injection h3 with h3
   subst h3
   have hmul:(n+k)*sz<=cp*sz:=Nat.mul_le_mul_right _ hc
   have hb1:n*sz+news.length<=cur.size:=by rw [hr.1,h4]; rw [Nat.add_mul] at hmul; exact hmul
   rw [hA]
   refine h g cp _ (.inl hA) h2 ⟨hlen,hc,.inr ⟨g,_,rfl,h2,upd_get_same,?_,?_⟩⟩
   .rw [splice_size _ _ _ hb1,h4]
   .unfold splice
    rw [h5,<- hlen,List.toList_toArray]
    exact List.take_left
 .obtain ⟨hl,hn',h' | ⟨g',cur',h1',_⟩⟩:=hown
  .have h0:n+k=0:=by omega
   rw [h0,hA,h'.2]
   exact hn h0 hA
  .rw [hA] at h1'; cases h1'
 .refine h b cp' _ (.inr hm) hb ⟨hlen,hge,.inr ⟨b,_,rfl,hb,upd_get_same,?_,?_⟩⟩
  .simp only [List.size_toArray,List.length_append,hown.1,hr.1,hrest]
   rw [<- Nat.add_mul,<- Nat.add_mul]
   congr 1
   omega
  .rw [<- hlen]
   simp only [List.take_left]
end
def Fr (m m':AM) (fp:List Nat):Prop:=∀ k o,m k=some o->k∉fp->m' k=some o
theorem Fr.refl (m:AM) (fp:List Nat):Fr m m fp:=fun _ _ h _=>h
theorem Fr.trans {a b c:AM} {fp fp':List Nat} (h:Fr a b fp) (h':Fr b c fp') (hs:∀ k,k∈fp'->k∈fp\/a k=none):Fr a c fp:=fun k o hk hn =>
 h' k o (h k o hk hn) fun hk'=>by
  rcases hs k hk' with h1 | h1
  .exact hn h1
  .rw [hk] at h1; cases h1
theorem Fr.upd {a b:AM} {fp:List Nat} (h:Fr a b fp) {g:Nat} (hg:g∈fp\/a g=none) (o:Obj):Fr a (b.upd g o) fp:=fun k o' hk hn=>by
 have:k≠g:=fun e=>by
  subst e
  rcases hg with h1 | h1
  .exact hn h1
  .rw [hk] at h1; cases h1
 rw [upd_get_ne this]; exact h k o' hk hn
theorem Fr.of_le {a b:AM} (h:a.le b) (fp:List Nat):Fr a b fp:=fun k o hk _=>h k o hk
theorem Fr.mono {a b:AM} {fp fp':List Nat} (h:Fr a b fp) (hs:∀ k∈fp,k∈fp'):Fr a b fp':=fun k o hk hn=>h k o hk fun h1=>hn (hs k h1)
def obl:Option Addr->List Nat
 | some a=>[a.block]
 | none=>[]
theorem StC_own {B:Nat} {m:AM} {g k:Nat} {c:Array Value} {t:TypeId} {v:Value} {K:AM->Prop} (hg:m g=some (.cells c t (0,0))) (hB:B<=g) (hk:k<c.size) (h:K (m.upd g (.cells (c.setIfInBounds k v) t))):StC B m ⟨g,k,none⟩ v K :=
 ⟨hB,⟨c[k],by rw [cell_of hg]; simp [hk]⟩,frozen_of hg,by rw [set_of hg]; exact h⟩
theorem nilO_some {a:Addr} {K:Addr->Prop}:nilO (some a) K=K a:=rfl
theorem thenS_normal {next:Sg->AM->Prop} {Q:Exit->Sg->AM->Prop} {σ:Sg} {m:AM}:thenS next Q .normal σ m=next σ m:=rfl
theorem Own.le {m m':AM} {B:Nat} {e:TypeId} {sz:Nat} {A:Option Addr} {n cp:Nat} {xs:List Value} (h:Own m B e sz A n cp xs) (hl:m.le m'):Own m' B e sz A n cp xs:=by
 obtain ⟨hl1,hn,h | ⟨g,cur,h1,h2,h3,h4,h5⟩⟩:=h
 .exact ⟨hl1,hn,.inl h⟩
 .exact ⟨hl1,hn,.inr ⟨g,cur,h1,h2,hl _ _ h3,h4,h5⟩⟩
theorem Cells.le {m m':AM} {a:Addr} {l:List Value} (h:Cells m a l) (hl:m.le m'):Cells m' a l:=fun j u hu=>AM.le_cell hl (h j u hu)
theorem Reads.le {m m':AM} {sz:Nat} {A:Option Addr} {n:Nat} {xs:List Value} (h:Reads m sz A n xs) (hl:m.le m'):Reads m' sz A n xs:=by
 obtain ⟨h1,h2 | ⟨ad,h2,h3⟩⟩:=h
 .exact ⟨h1,.inl h2⟩
 .exact ⟨h1,.inr ⟨ad,h2,h3.le hl⟩⟩
theorem Reads.lit {m:AM} {b:Nat} {e:TypeId} {sz n:Nat} {cs:List Value} (h:cs.length=n*sz):Reads (m.upd b (.cells cs.toArray e (0,0))) sz (some ⟨b,0,none⟩) n cs :=
 ⟨h,.inr ⟨_,rfl,fun j u hu=>by rw [addn,Nat.zero_add,cell_upd_same]; simpa using hu⟩⟩
theorem Reads.nil (m:AM) (sz:Nat):Reads m sz none 0 []:=⟨by simp,.inl ⟨rfl,rfl⟩⟩
theorem retP_of {R:Value->AM->Prop} {v:Value} {m:AM} (h:R v m):RetP R v m:=⟨m,AM.le_refl m,h⟩
theorem Own.obl_ne {m:AM} {B:Nat} {e:TypeId} {sz:Nat} {A:Option Addr} {n cp:Nat} {xs:List Value} (h:Own m B e sz A n cp xs) {g:Nat} {c:Array Value} {t:TypeId} (hg:m g=some (.cells c t (0,0))) (ht:t≠e):g∉obl A:=by
 intro hm
 obtain ⟨_,_,h | ⟨g',cur,h1,h2,h3,_⟩⟩:=h
 .rw [h.1] at hm; simp [obl] at hm
 .rw [h1] at hm
  simp [obl] at hm
  subst hm
  rw [hg] at h3
  injection h3 with h3
  injection h3 with _ h4
  exact ht h4
theorem Own.obl_some {m:AM} {B:Nat} {e:TypeId} {sz:Nat} {A:Option Addr} {n cp:Nat} {xs:List Value} (h:Own m B e sz A n cp xs) {k:Nat} (hk:k∈obl A):B<=k/\∃ cur,m k=some (.cells cur e (0,0)):=by
 obtain ⟨_,_,h | ⟨g',cur,h1,h2,h3,_⟩⟩:=h
 .rw [h.1] at hk; simp [obl] at hk
 .rw [h1] at hk
  simp [obl] at hk
  subst hk
  exact ⟨h2,cur,h3⟩
theorem Own.fr {m m':AM} {B:Nat} {e:TypeId} {sz:Nat} {A:Option Addr} {n cp:Nat} {xs:List Value} (h:Own m B e sz A n cp xs) {fp:List Nat} (hf:Fr m m' fp) (hd:∀ k∈obl A,k∉fp):Own m' B e sz A n cp xs:=by
 obtain ⟨hl1,hn,h | ⟨g,cur,h1,h2,h3,h4,h5⟩⟩:=h
 .exact ⟨hl1,hn,.inl h⟩
 .exact ⟨hl1,hn,.inr ⟨g,cur,h1,h2,hf _ _ h3 (hd g (by rw [h1]; simp [obl])),h4,h5⟩⟩
theorem awp_append_field {P:Program} {B:Nat} {t ty e:TypeId} {sz bs:Nat} {z:List Value} (hel:elOf P t=some (e,sz,bs,z)) {m:AM} {A:Option Addr} {n cp:Nat} {xs:List Value} (hown:Own m B e sz A n cp xs)
  {A2:Option Addr} {k c2:Nat} {news:List Value} (hr:Reads m sz A2 k news) (h1:∀ u∈news,u.oneCell'=true) (hfit:(n+k)*bs<=140737488355328) (hfit2:n+k<=140737488355328) (hpos:0<n+k)
  {g:Nat} {C:Array Value} {T:TypeId} (hg:m g=some (.cells C T (0,0))) (hB:B<=g) (hne:T≠e) {j:Nat} (hj:j<C.size) {K:AM->Prop}
  (h:∀ g2 cp' cur,(A=some ⟨g2,0,none⟩\/m g2=none)->B<=g2->g≠g2 ->
   Own ((m.upd g2 (.cells cur e)).upd g (.cells (C.setIfInBounds j (.slice (some ⟨g2,0,none⟩) (n+k) cp')) T)) B e sz (some ⟨g2,0,none⟩) (n+k) cp' (xs ++ news) ->
   K ((m.upd g2 (.cells cur e)).upd g (.cells (C.setIfInBounds j (.slice (some ⟨g2,0,none⟩) (n+k) cp')) T))) :
  awp P B (Builtin.append_ #[t,t] ty #[.slice A n cp,.slice A2 k c2]) m fun v m1=>∃ A' n' c',v=.slice A' n' c'/\StC B m1 ⟨g,j,none⟩ (.slice A' n' c') K:=by
 refine awp_append_own hel hown hr h1 hfit hfit2 (fun g2 cp' cur hor hB2 hown2=>?_) (fun h0=>by omega)
 have hgg:g≠g2:=fun e=>by
  subst e
  rcases hor with h' | h'
  .exact hown.ne_type hg hne 0 h'
  .rw [hg] at h'; cases h'
 refine ⟨_,_,_,rfl,StC_own (by rw [upd_get_ne hgg]; exact hg) hB hj ?_⟩
 refine h g2 cp' cur hor hB2 hgg (hown2.upd fun off h'=>?_)
 injection h' with h'
 injection h' with h'
 exact hgg h'.symm
end Go.Alog
namespace Go.Alog
open Go Go.RowKit Go.ChangeShapes Go.WideShapes Go.Deep
section
variable {H:Type} {enc:TypeId × Value->H} {P:Program} {w:World} {base:Nat} {spare:Nat->Bool} {held:Bool}
theorem law_walk {P:Program} {n:FuncId} {args:Array Value} {W:World} (h:CallsA P W n args (fun b=>W.heap[b]?) (fun r _=>r=.bool true)):Calls P n args W fun e W'=>e=.returned (.bool true)/\Below W.heap.size W W':=by
 refine (h W ⟨Below.refl _ _,fun b o hb=>hb⟩).mono fun e W' ⟨r,m',he,hh,hr⟩=>⟨by rw [he,hr],hh.below⟩
theorem cell_heap {W:World} {a:Addr} {v:Value} (h:W.cell? a=some v):AM.cell (fun b=>W.heap[b]?) a=some v:=h
end
end Go.Alog
namespace Go.Alog
open Go Go.RowKit
def InI (n:Int):Prop:=-9223372036854775808<=n/\n<=9223372036854775807
structure Ins where
  op : Int
  a : Int
  b : Int
  c : Int
  imm : Int
 deriving DecidableEq, Inhabited
def Ins.cells (i:Ins):List Value:=[.int .i64 i.op,.int .i64 i.a,.int .i64 i.b,.int .i64 i.c,.int .i64 i.imm]
abbrev Ins.val (i:Ins):Value:=.agg #[.int .i64 i.op,.int .i64 i.a,.int .i64 i.b,.int .i64 i.c,.int .i64 i.imm]
def insCells (l:List Ins):List Value:=l.flatMap Ins.cells
theorem insCells_len (l:List Ins):(insCells l).length=l.length*5:=by
 induction l with
 | nil=>rfl
 | cons i l ih=>simp only [insCells,List.flatMap_cons,List.length_append,List.length_cons] at ih ⊢; rw [ih]; simp [Ins.cells]; omega
theorem insCells_app (l r:List Ins):insCells (l ++ r)=insCells l ++ insCells r:=by simp [insCells]
theorem insCells_cons (i:Ins) (r:List Ins):insCells (i :: r)=i.cells ++ insCells r:=by simp [insCells]
theorem ins_one (i:Ins):∀ u∈i.cells,u.oneCell'=true:=by intro u hu; simp [Ins.cells] at hu; rcases hu with rfl | rfl | rfl | rfl | rfl <;> rfl
theorem insCells_one (l:List Ins):∀ u∈insCells l,u.oneCell'=true:=by
 intro u hu
 obtain ⟨i,_,hi⟩:=List.mem_flatMap.1 hu
 exact ins_one i u hi
def intCells (k:IntKind) (l:List Int):List Value:=l.map (.int k)
theorem row_at {α:Type} {f:α->List Value} {sz:Nat} (hf:∀ x,(f x).length=sz):∀ (l:List α) (k:Nat) (x:α),l[k]?=some x->∀ j,j<sz->(l.flatMap f)[k*sz+j]?=(f x)[j]?
 | [],k,x,h,_,_=>by simp at h
 | y :: l,0,x,h,j,hj=>by
  simp at h; subst h
  rw [List.flatMap_cons,List.getElem?_append_left (by rw [hf]; omega)]
  simp
 | y :: l,k+1,x,h,j,hj=>by
  have:=row_at hf l k x (by simpa using h) j hj
  rw [List.flatMap_cons,List.getElem?_append_right (by rw [hf,Nat.succ_mul]; omega),<- this]
  congr 1
  rw [hf,Nat.succ_mul]; omega
theorem row_set {α:Type} {f:α->List Value} {sz:Nat} (hf:∀ x,(f x).length=sz):∀ (l:List α) (k:Nat) (x:α),k<l.length->(l.set k x).flatMap f=(l.flatMap f).take (k*sz) ++ f x ++ (l.flatMap f).drop (k*sz+sz)
 | [],k,x,h=>by simp at h
 | y :: l,0,x,h=>by
  simp [List.flatMap_cons,<- hf y]
 | y :: l,k+1,x,h=>by
  have ih:=row_set hf l k x (by simpa using h)
  rw [List.set_cons_succ,List.flatMap_cons,List.flatMap_cons,ih]
  have h1:(k+1)*sz=(f y).length+k*sz:=by rw [hf,Nat.succ_mul,Nat.add_comm]
  rw [h1,List.take_length_add_append,Nat.add_assoc,List.drop_length_add_append]
  simp [List.append_assoc]
def StL (B:Nat) (a:Addr):Nat->List Value->AM->(AM->Prop)->Prop
 | _,[],m,K=>K m
 | i,v :: vs,m,K=>StC B m (a.add i) v fun m'=>StL B a (i+1) vs m' K
theorem StL_cells {B g:Nat} {e:TypeId} {K:AM->Prop}:∀ (vs:List Value) (i o:Nat) (m:AM) (cur:Array Value),m g=some (.cells cur e (0,0))->B<=g->o+i+vs.length<=cur.size->K (m.upd g (.cells (splice cur (o+i) vs) e))->StL B ⟨g,o,none⟩ i vs m K
 | [],i,o,m,cur,hg,hB,hl,hk=>by
  rw [splice_nil,upd_self hg] at hk
  exact hk
 | v :: vs,i,o,m,cur,hg,hB,hl,hk=>by
  simp only [List.length_cons] at hl
  show StC B m ((⟨g,o,none⟩:Addr).add i) v _
  rw [addn]
  refine StC_own hg hB (by omega) ?_
  refine StL_cells vs (i+1) o _ (cur.setIfInBounds (o+i) v) (by rw [upd_get_same]) hB (by simp; omega) ?_
  rw [upd_upd,<- Nat.add_assoc,splice_cons cur (o+i) v vs (by omega)]
  exact hk
theorem take_splice (cur:Array Value) (o n:Nat) (vs:List Value) (h:o+vs.length<=n) (hn:n<=cur.size):(splice cur o vs).toList.take n=(cur.toList.take n).take o ++ vs ++ (cur.toList.take n).drop (o+vs.length):=by
 unfold splice
 apply List.ext_getElem?
 intro i
 simp only [List.getElem?_take,List.getElem?_append,List.getElem?_drop,List.length_take,List.length_append,Array.length_toList]
 by_cases h1:i<n
 .rw [if_pos h1]
  by_cases h2:i<o
  .simp [h2,show min o cur.size=o by omega,show min o (min n cur.size)=o by omega,show i<o+vs.length by omega,show o<=n by omega,show o<=cur.size by omega,h1]
  .by_cases h3:i<o+vs.length
   .simp [h2,h3,show min o cur.size=o by omega,show min o (min n cur.size)=o by omega]
   .simp [h2,h3,show min o cur.size=o by omega,show min o (min n cur.size)=o by omega,show o+vs.length+(i-(o+vs.length))=i by omega,h1]
 .rw [if_neg h1]
  symm
  simp [show ¬ i<o by omega,show min o (min n cur.size)=o by omega,show ¬ i-o<vs.length by omega,show ¬ i<o+vs.length by omega]
  omega
theorem Own.storeL {B:Nat} {m:AM} {e:TypeId} {sz:Nat} {a:Addr} {n cp:Nat} {xs:List Value} (h:Own m B e sz (some a) n cp xs) {o:Nat} {vs:List Value} (ho:o+vs.length<=n*sz) {K:AM->Prop}
  (hK:∀ g cur,a=⟨g,0,none⟩->Own (m.upd g (.cells cur e)) B e sz (some a) n cp (xs.take o ++ vs ++ xs.drop (o+vs.length))->K (m.upd g (.cells cur e))):StL B (a.add o) 0 vs m K:=by
 obtain ⟨hl,hn,h | ⟨g,cur,h1,h2,h3,h4,h5⟩⟩:=h
 .cases h.1
 .injection h1 with h1
  subst h1
  have hm:n*sz<=cp*sz:=Nat.mul_le_mul_right _ hn
  rw [addn,Nat.zero_add]
  refine StL_cells vs 0 o m cur h3 h2 (by omega) ?_
  refine hK g _ rfl ⟨?_,hn,.inr ⟨g,_,rfl,h2,upd_get_same,?_,?_⟩⟩
  .simp [hl]; omega
  .rw [splice_size _ _ _ (by omega),h4]
  .rw [Nat.add_zero,take_splice cur o (n*sz) vs ho (by omega),h5]
theorem Own.storeRow {α:Type} {f:α->List Value} {sz:Nat} (hf:∀ x,(f x).length=sz) {B:Nat} {m:AM} {e:TypeId} {a:Addr} {cp:Nat} {l:List α} (h:Own m B e sz (some a) l.length cp (l.flatMap f)) {k:Nat} (hk:k<l.length) (x:α) {K:AM->Prop}
  (hK:∀ g cur,a=⟨g,0,none⟩->Own (m.upd g (.cells cur e)) B e sz (some a) (l.set k x).length cp ((l.set k x).flatMap f)->K (m.upd g (.cells cur e))):StL B (a.add (k*sz)) 0 (f x) m K:=by
 refine h.storeL (by rw [hf]; calc k*sz+sz=(k+1)*sz:=(Nat.succ_mul _ _).symm
  _<=_:=Nat.mul_le_mul_right _ hk) fun g cur ha ho=>hK g cur ha ?_
 rw [row_set hf l k x hk,List.length_set]
 rw [hf] at ho
 exact ho
theorem Cells.at {α:Type} {f:α->List Value} {sz:Nat} (hf:∀ x,(f x).length=sz) {m:AM} {a:Addr} {l:List α} (h:Cells m a (l.flatMap f)) {k:Nat} {x:α} (hk:l[k]?=some x) {j:Nat} (hj:j<sz):m.cell (a.add (k*sz+j))=(f x)[j]?:=by
 have h1:=row_at hf l k x hk j hj
 rw [List.getElem?_eq_getElem (show j<(f x).length by rw [hf]; exact hj)] at h1 ⊢
 exact h _ _ h1
theorem Ins.len (i:Ins):i.cells.length=5:=rfl
theorem Cells.ins {m:AM} {a:Addr} {l:List Ins} (h:Cells m a (insCells l)) {k:Nat} {x:Ins} (hk:l[k]?=some x) :
  m.cell (a.add (k*5))=some (.int .i64 x.op)/\m.cell ((a.add (k*5)).add 1)=some (.int .i64 x.a)/\m.cell ((a.add (k*5)).add 2)=some (.int .i64 x.b)/\m.cell ((a.add (k*5)).add 3)=some (.int .i64 x.c)/\m.cell ((a.add (k*5)).add 4)=some (.int .i64 x.imm):=by
 simp only [add_add]
 exact ⟨Cells.at Ins.len h hk (j:=0) (by omega),Cells.at Ins.len h hk (j:=1) (by omega),Cells.at Ins.len h hk (j:=2) (by omega),Cells.at Ins.len h hk (j:=3) (by omega),Cells.at Ins.len h hk (j:=4) (by omega)⟩
theorem bcase_t {X Y:Prop}:bcase true X Y=X:=rfl
theorem bcase_f {X Y:Prop}:bcase false X Y=Y:=rfl
theorem upd_get {m:AM} {b k:Nat} {o:Obj}:(m.upd b o) k=if k=b then some o else m k:=by simp [AM.upd]
theorem StC_upd {B:Nat} {m:AM} {b k:Nat} {c:Array Value} {t:TypeId} {v:Value} {K:AM->Prop}:StC B (m.upd b (.cells c t)) ⟨b,k,none⟩ v K↔B<=b/\k<c.size/\K (m.upd b (.cells (c.setIfInBounds k v) t)):=by
 unfold StC
 rw [set_upd_same,frozen_upd_same,cell_upd_same]
 constructor
 .rintro ⟨h1,⟨u,h2⟩,_,h3⟩
  exact ⟨h1,(Array.getElem?_eq_some_iff.1 h2).1,h3⟩
 .rintro ⟨h1,h2,h3⟩
  exact ⟨h1,⟨_,Array.getElem?_eq_getElem h2⟩,rfl,h3⟩
abbrev KI_:Prop:=IntKind.i64=IntKind.i64
abbrev LI_ (m:AM) (b k:Nat) (K:Int->Prop):Prop:=∃ i:Int,m.cell ⟨b,k,none⟩=some (.int .i64 i)/\K i
abbrev LB_ (m:AM) (b k:Nat) (K:Bool->Prop):Prop:=∃ i:Bool,m.cell ⟨b,k,none⟩=some (.bool i)/\K i
abbrev LA_ (m:AM) (a:Addr) (K:Int->Prop):Prop:=∃ i:Int,m.cell a=some (.int .i64 i)/\K i
abbrev SI_ (B:Nat) (m:AM) (b k:Nat) (x:Int) (K:AM->Prop):Prop:=StC B m ⟨b,k,none⟩ (.int .i64 x) K
abbrev pt_ (b:Nat):Value:=.pointer (some ⟨b,0,none⟩)
abbrev I_ (x:Int):Value:=.int .i64 x
abbrev SJ_ (w0:World) (m:AM) (b k:Nat) (x:Int) (K:AM->Prop):Prop:=StC w0.heap.size m ⟨b,k,none⟩ (.int .i64 x) K
abbrev S_ (w0:World) (m:AM) (b k:Nat) (v:Value) (K:AM->Prop):Prop:=StC w0.heap.size m ⟨b,k,none⟩ v K
abbrev LT_ (m:AM) (b k:Nat) (K:ByteArray->Prop):Prop:=∃ s:ByteArray,m.cell ⟨b,k,none⟩=some (.string s)/\K s
abbrev LS_ (m:AM) (b k:Nat) (K:Option Addr->Nat->Nat->Prop):Prop:=∃ (A:Option Addr) (n c:Nat),m.cell ⟨b,k,none⟩=some (.slice A n c)/\K A n c
abbrev LC_ (m:AM) (a:Addr) (K:Bool->Prop):Prop:=∃ t:Bool,m.cell a=some (.bool t)/\K t
abbrev LU_ (m:AM) (a:Addr) (K:ByteArray->Prop):Prop:=∃ s:ByteArray,m.cell a=some (.string s)/\K s
abbrev LV_ (m:AM) (a:Addr) (K:Option Addr->Nat->Nat->Prop):Prop:=∃ (A:Option Addr) (n c:Nat),m.cell a=some (.slice A n c)/\K A n c
abbrev RB_ (r:Value) (K:Bool->Prop):Prop:=∃ t:Bool,r=.bool t/\K t
abbrev RI_ (r:Value) (K:Int->Prop):Prop:=∃ i:Int,r=.int .i64 i/\K i
abbrev RS_ (r:Value) (K:Option Addr->Nat->Nat->Prop):Prop:=∃ (A:Option Addr) (n c:Nat),r=.slice A n c/\K A n c
abbrev N_ (w0:World) (m:AM) (o:Obj) (K:Nat->AM->Prop):Prop:=∀ b:Nat,w0.heap.size<=b->m b=none->let m':=AM.upd m b o; K b m'
abbrev T_:Prop:=true=true
abbrev SE_ (v:Value):Prop:=v=v
def q0_:Nat->List (Nat × Nat):=fun i=>match i with | _=>[]
theorem C_of {P:Program} {w0:World} {f:FuncId} {fn:Func} {args:List Value} {m:AM} {R:Value->AM->Prop} (hf:P.funcs[f]?=some fn) (qs:Nat->List (Nat × Nat))
  (hok:(P.follows .mixedOrders && (fn.body.isSome && (Nat.ble args.length fn.ntmps && codeOk qs fn.ntmps (bodyOf fn))))=true) (h:vcS P w0 qs (bodyOf fn) (argS args) m (retQ P fn R)):CallsA P w0 f args.toArray m R:=by
 simp only [Bool.and_eq_true] at hok
 obtain ⟨h1,h2,h3,h4⟩:=hok
 refine callsA_of h1 hf ?_ qs h3 h4 h
 obtain ⟨c,hc⟩:=Option.isSome_iff_exists.1 h2
 unfold bodyOf
 rw [hc]
theorem std_all :
  (∀ {m:AM} {b:Nat} {c:Array Value} {t:TypeId} {f:Nat × Nat} {k:Nat},(m.upd b (.cells c t f)).cell ⟨b,k,none⟩=c[k]?) /\
  (∀ {m:AM} {b:Nat} {o:Obj} {a:Addr},a.block≠b->(m.upd b o).cell a=m.cell a) /\
  (∀ {α:Type} (a b:α),(a≠b)=¬ a=b)/\((¬ False)=True) /\
  (∀ (l:List Value) (i:Nat),l.toArray[i]?=l[i]?) /\
  (∀ (a:Value) (l:List Value),(a :: l)[0]?=some a)/\(∀ (a:Value) (l:List Value) (i:Nat),(a :: l)[i+1]?=l[i]?) /\
  (∀ {α:Type} (a b:α),(some a=some b)=(a=b)) /\
  (∀ (k k':IntKind) (a b:Int),(Value.int k a=.int k' b)=(k=k'/\a=b)) /\
  (∀ (A B:Option Addr) (n c n' c':Nat),(Value.slice A n c=.slice B n' c')=(A=B/\n=n'/\c=c')) /\
  (∀ (a b:Bool),(Value.bool a=.bool b)=(a=b))/\(∀ (a b:Option Addr),(Value.pointer a=.pointer b)=(a=b)) /\
  (∀ (a b:Array Value),(Value.tuple a=.tuple b)=(a=b))/\(∀ (a b:List Value),(Array.mk a=Array.mk b)=(a=b)) /\
  (∀ (a b:Value) (l r:List Value),(a :: l=b :: r)=(a=b/\l=r)) /\
  (∀ (p:Prop),(True/\p)=p)/\(∀ (p:Prop),(p/\True)=p) /\
  (∀ {α:Type} {p:α->Prop} {a:α},(∃ x,a=x/\p x)↔p a)/\(∀ {α:Type} {a:α},∃ x,a=x)/\(∀ {α:Type} {a:α},∃ x,x=a) /\
  (∀ {α:Type} {p:α->Prop} {b:Prop},(∃ x,b/\p x)↔b/\∃ x,p x)/\(∀ {α:Type} {p:α->Prop} {b:Prop},(∃ x,p x/\b)↔(∃ x,p x)/\b) /\
  (∀ {a b c:Prop},(a/\b)/\c↔a/\b/\c) :=
 ⟨cell_upd_same,fun h=>cell_upd_ne h,fun _ _=>rfl,not_false_eq_true,fun _ _=>List.getElem?_toArray,fun _ _=>rfl,fun _ _ _=>rfl,fun a b=>Option.some.injEq a b,fun k k' a b=>Value.int.injEq k a k' b,fun A B n c n' c'=>Value.slice.injEq A n c B n' c',fun a b=>Value.bool.injEq a b,fun a b=>Value.pointer.injEq a b,fun a b=>Value.tuple.injEq a b,fun a b=>Array.mk.injEq a b,fun a b l r=>List.cons.injEq a l b r,true_and,and_true,exists_eq_left',exists_eq',exists_eq,exists_and_left,exists_and_right,and_assoc⟩
theorem sto_all :
  (∀ {X Y:Prop},bcase true X Y=X)/\(∀ {X Y:Prop},bcase false X Y=Y)/\(∀ {α:Type} (a b:α),cond true a b=a)/\(∀ {α:Type} (a b:α),cond false a b=b) /\
  (∀ {B:Nat} {m:AM} {b k:Nat} {c:Array Value} {t:TypeId} {v:Value} {K:AM->Prop},StC B (m.upd b (.cells c t)) ⟨b,k,none⟩ v K↔B<=b/\k<c.size/\K (m.upd b (.cells (c.setIfInBounds k v) t))) /\
  (∀ {a:Addr} {K:Addr->Prop},nilO (some a) K=K a) /\
  (∀ (l:List Value) (i:Nat) (a:Value),l.toArray.setIfInBounds i a=(l.set i a).toArray)/\(∀ (a b:Value) (l:List Value),(a :: l).set 0 b=b :: l)/\(∀ (a b:Value) (l:List Value) (n:Nat),(a :: l).set (n+1) b=a :: l.set n b) /\
  (∀ (l:List Value),l.toArray.size=l.length)/\(∀ (a:Value) (l:List Value),(a :: l).length=l.length+1)/\(([]:List Value).length=0) :=
 ⟨bcase_t,bcase_f,fun _ _=>rfl,fun _ _=>rfl,StC_upd,nilO_some,fun _ _ _=>List.setIfInBounds_toArray ..,fun _ _ _=>rfl,fun _ _ _ _=>rfl,fun _=>rfl,fun _ _=>rfl,rfl⟩
abbrev Sl:=List (Nat × Value)
abbrev RT:=Value->AM->Prop
structure TD where
 agg:Bool
 cks:List CK
 fs:List (Nat × Nat)
 el:Nat
 by_:Nat
inductive Bk
 | top
 | seq (y:Code) (p:Nat) (k:Bk)
 | blk (id:Nat) (k:Bk)
inductive Kc | i | b | s | p
abbrev Cu:List (Nat × Kc)->Type
 | []=>AM->Prop
 | (_,.i) :: l=>Int->Cu l
 | (_,.b) :: l=>Bool->Cu l
 | (_,.s) :: l=>Option Addr->Nat->Nat->Cu l
 | (_,.p) :: l=>Nat->Cu l
def apC:(l:List (Nat × Kc))->Cu l->Sg->AM->Prop
 | [],f,_,m=>f m
 | (d,.i) :: l,f,σ,m=>apC l (f (vI (σ d))) σ m
 | (d,.b) :: l,f,σ,m=>apC l (f (vB (σ d))) σ m
 | (d,.s) :: l,f,σ,m=>apC l (f (vSA (σ d)) (vSN (σ d)) (vSC (σ d))) σ m
 | (d,.p) :: l,f,σ,m=>apC l (f (vP (σ d))) σ m
def alC:(l:List (Nat × Kc))->Cu l->(Sl->AM->Prop)->Prop
 | [],f,K=>∀ m:AM,f m->K [] m
 | (d,.i) :: l,f,K=>∀ x:Int,alC l (f x) fun s m=>K ((d,.int .i64 x) :: s) m
 | (d,.b) :: l,f,K=>∀ x:Bool,alC l (f x) fun s m=>K ((d,.bool x) :: s) m
 | (d,.s) :: l,f,K=>∀ (x:Option Addr) (n c:Nat),alC l (f x n c) fun s m=>K ((d,.slice x n c) :: s) m
 | (d,.p) :: l,f,K=>∀ x:Nat,alC l (f x) fun s m=>K ((d,.pointer (some ⟨x,0,none⟩)) :: s) m
structure Ek where
 ks:List (Nat × Kc)
 G:Cu ks
inductive Fz
 | fn (R:RT)
 | lp (cs:Sl) (ks:List (Nat × Kc)) (I:Nat->Cu ks) (n:Nat) (es:List (Nat × Ek)) (R:RT)
inductive Tr
 | z
 | e
 | o (k:Nat) (t:Tr)
 | a (x y:Tr)
structure Cx where
 P:Program
 w0:World
 W:Nat->Sg->AM->Prop
 W2:Sl->AM->Prop
 cuts:List Nat
 base:Sg
 ini:Sl
 qs:Nat->List (Nat × Nat)
 fz:Fz
 rs:List ResultVar
 ty:Unit->List (Nat × TD)
 sg:Unit->List (Nat × List Nat)
structure Kn where
 j:Nat
 w:Bool
 d:Option Nat
 b:Bool
inductive Dt
 | op (d:Option Tmp) (r:List Oper) (ops:List (Option Nat)) (kn:List Kn) (i:Nat) (q:Option (List (Nat × Nat))) (k:Bk) (σ:Sl)
 | tr (d:Option Tmp) (t:Tr) (opl:List Oper) (ops:List (Option Nat)) (kn:List Kn) (q:Option (List (Nat × Nat))) (σ:Sl)
 | fr (rs:List ResultVar) (acc:List Value) (R:RT) (σ:Sl)
structure At where
 r:List Oper
 ops:List (Option Nat)
 opl:List Oper
 i:Nat
 q:Option (List (Nat × Nat))
 k:Bk
 σ:Sl
 tr:Option Tr
inductive Cf
 | go (c:Code) (p:Nat) (k:Bk) (σ:Sl) (m:AM)
 | gu (b:Bool) (o:Oper) (A:At) (kn:List Kn) (m:AM)
 | rt (k:Bk) (σ:Sl) (m:AM)
 | xt (id:Nat) (k:Bk) (σ:Sl) (m:AM)
 | re (k:Bk) (σ:Sl) (m:AM)
 | al (r:List Oper) (ops:List (Option Nat)) (kn:List Kn) (i:Nat) (q:Option (List (Nat × Nat))) (k:Bk) (σ:Sl) (m:AM)
 | tr (t:Tr) (opl:List Oper) (ops:List (Option Nat)) (kn:List Kn) (q:Option (List (Nat × Nat))) (σ:Sl) (m:AM)
 | nx (D:Dt) (v:Value) (m:AM)
 | fr (rs:List ResultVar) (acc:List Value) (R:RT) (σ:Sl) (m:AM)
namespace N
def gtvK:Bool->Value->Sl->Nat->Value->Value
 | true,v,[],_,_=>v
 | true,v,_ :: _,_,_=>v
 | false,_,[],_,z=>z
 | false,_,(d,v) :: l,t,z=>gtvK (d == t) v l t z
def gtv (l:Sl) (t:Nat) (z:Value):Value:=gtvK false undef l t z
def gtlK {α:Type} (z:α):Bool->α->List (Nat × α)->Nat->α
 | true,v,[],_=>v
 | true,v,_ :: _,_=>v
 | false,_,[],_=>z
 | false,_,(d,v) :: l,t=>gtlK z (d == t) v l t
def gtl {α:Type} (z:α) (l:List (Nat × α)) (t:Nat):α:=gtlK z false z l t
def chn (s:Sg):Sl->Sg
 | []=>s
 | (d,v) :: l=>upd (chn s l) d v
def orK:Bool->Bool->Bool
 | true,_=>true
 | false,b=>b
def andK:Bool->Bool->Bool
 | true,b=>b
 | false,_=>false
def inL:Nat->List Nat->Bool
 | _,[]=>false
 | p,a :: l=>orK (p == a) (inL p l)
def ev (σ ini:Sl):Operand->Value
 | .tmp t=>gtv σ t (gtv ini t undef)
 | .const v=>v
 | .global g=>.pointer (some ⟨g,0,none⟩)
 | .func f=>.func (.func f) #[] #[]
def evs (σ ini:Sl):List Operand->List Value
 | []=>[]
 | x :: l=>ev σ ini x :: evs σ ini l
def evp (σ ini:Sl):List (Nat × Operand)->List (Nat × Value)
 | []=>[]
 | (n,x) :: l=>(n,ev σ ini x) :: evp σ ini l
def evo (σ ini:Sl):Option Operand->Option Value
 | none=>none
 | some x=>some (ev σ ini x)
def nth {α:Type} (z:α):List α->Nat->α
 | [],_=>z
 | x :: _,0=>x
 | _ :: l,n+1=>nth z l n
def zc:CK->Value
 | .int k=>.int k 0
 | .bool=>.bool false
 | .str=>.string ByteArray.empty
 | .ptr=>.pointer none
 | .slice=>.slice none 0 0
 | .map=>.map none
 | .any=>.nilFunc
def zcs:List CK->List Value
 | []=>[]
 | c :: l=>zc c :: zcs l
def vcl:Value->List Value
 | .agg a=>a.toList
 | .int k i=>[.int k i]
 | .bool b=>[.bool b]
 | .string s=>[.string s]
 | .pointer p=>[.pointer p]
 | .slice a n c=>[.slice a n c]
 | .map r=>[.map r]
 | .func f a b=>[.func f a b]
 | .nilFunc=>[.nilFunc]
 | v=>[v]
def ovr:List Value->List Value->List Value
 | [],z=>z
 | v :: vs,_ :: z=>v :: ovr vs z
 | v :: vs,[]=>v :: vs
def putl:Nat->List Value->List Value->List Value
 | 0,vs,z=>ovr vs z
 | n+1,vs,x :: z=>x :: putl n vs z
 | _+1,_,[]=>[]
def rep (l:List Value):Nat->List Value
 | 0=>[]
 | n+1=>l ++ rep l n
def len:List CK->Nat
 | []=>0
 | _ :: l=>len l+1
def mulN:Nat->Nat->Nat
 | 0,_=>0
 | n+1,k=>mulN n k+k
def spz (sz:Nat):List (Nat × Value)->List Value->List Value
 | [],z=>z
 | (i,v) :: l,z=>spz sz l (putl (mulN i sz) (vcl v) z)
def spf (fs:List (Nat × Nat)):List (Nat × Value)->List Value->List Value
 | [],z=>z
 | (i,v) :: l,z=>spf fs l (putl (nth (0,0) fs i).1 (vcl v) z)
def takl:Nat->List Value->List Value
 | 0,_=>[]
 | n+1,x :: l=>x :: takl n l
 | _+1,[]=>[]
def drl:Nat->List Value->List Value
 | 0,l=>l
 | n+1,_ :: l=>drl n l
 | _+1,[]=>[]
def z0:TD:=⟨false,[],[],0,0⟩
end N
open N
section
variable (X:Cx) (rec:Cf->Prop)
def Cx.t (t:Nat):TD:=gtl z0 (X.ty ()) t
def Cx.sz (t:Nat):Nat:=len (X.t t).cks
def lkC (σ:Sl):Sl->Prop->Prop
 | [],Y=>Y
 | (d,v) :: l,Y=>gtv σ d undef=v/\lkC σ l Y
def apl (σ:Sl) (m:AM):(l:List (Nat × Kc))->Cu l->Prop
 | [],f=>f m
 | (d,.i) :: l,f=>apl σ m l (f (vI (gtv σ d undef)))
 | (d,.b) :: l,f=>apl σ m l (f (vB (gtv σ d undef)))
 | (d,.s) :: l,f=>apl σ m l (f (vSA (gtv σ d undef)) (vSN (gtv σ d undef)) (vSC (gtv σ d undef)))
 | (d,.p) :: l,f=>apl σ m l (f (vP (gtv σ d undef)))
def lkT:List (Nat × Kc)->Prop->Prop
 | [],Y=>Y
 | _ :: l,Y=>true=true/\lkT l Y
def finN (σ:Sl) (m:AM) (cs:Sl) (ks:List (Nat × Kc)) (I:Nat->Cu ks) (n:Nat):Prop:=lkC σ cs (lkT ks (∃ n':Nat,n'<n/\apl σ m ks (I n')))
def finE (σ:Sl) (m:AM) (cs:Sl):Ek->Prop
 | ⟨ks,G⟩=>lkC σ cs (lkT ks (apl σ m ks G))
def fzN (σ:Sl) (m:AM):Fz->Prop
 | .fn R=>rec (.fr X.rs [] R σ m)
 | .lp cs ks I n _ _=>finN σ m cs ks I n
def fzR (σ:Sl) (m:AM):Fz->Prop
 | .fn R=>rec (.fr X.rs [] R σ m)
 | .lp _ _ _ _ _ R=>rec (.fr X.rs [] R σ m)
def lkFK (σ:Sl) (m:AM) (cs:Sl):Bool->Ek->List (Nat × Ek)->Nat->Prop
 | true,k,[],_=>finE σ m cs k
 | true,k,_ :: _,_=>finE σ m cs k
 | false,_,[],_=>False
 | false,_,(j,k) :: l,i=>lkFK σ m cs (j == i) k l i
def fzX (id:Nat) (σ:Sl) (m:AM):Fz->Prop
 | .fn _=>False
 | .lp cs _ _ _ es _=>lkFK σ m cs false ⟨[],fun _=>False⟩ es id
def pks:List Value->Value
 | []=>.tuple #[]
 | [v]=>v
 | a :: b :: l=>.tuple (List.toArray (a :: b :: l))
def ld1 (D:Dt) (ad:Addr) (m:AM):CK->Prop
 | .int k=>∃ i:Int,m.cell ad=some (.int k i)/\rec (.nx D (.int k i) m)
 | .bool=>∃ t:Bool,m.cell ad=some (.bool t)/\rec (.nx D (.bool t) m)
 | .str=>∃ s:ByteArray,m.cell ad=some (.string s)/\rec (.nx D (.string s) m)
 | .ptr=>∃ p:Option Addr,m.cell ad=some (.pointer p)/\rec (.nx D (.pointer p) m)
 | .slice=>∃ (A:Option Addr) (n c:Nat),m.cell ad=some (.slice A n c)/\rec (.nx D (.slice A n c) m)
 | .map=>∃ r:Option Nat,m.cell ad=some (.map r)/\rec (.nx D (.map r) m)
 | .any=>∃ v:Value,m.cell ad=some v/\rec (.nx D v m)
def ldC (D:Dt) (ad:Addr) (m:AM):List CK->Nat->List Value->Prop
 | [],_,acc=>rec (.nx D (.agg (List.toArray acc)) m)
 | .int k :: r,j,acc=>∃ i:Int,m.cell (ad.add j)=some (.int k i)/\ldC D ad m r (j+1) (acc ++ [.int k i])
 | .bool :: r,j,acc=>∃ i:Bool,m.cell (ad.add j)=some (.bool i)/\ldC D ad m r (j+1) (acc ++ [.bool i])
 | .str :: r,j,acc=>∃ i:ByteArray,m.cell (ad.add j)=some (.string i)/\ldC D ad m r (j+1) (acc ++ [.string i])
 | .ptr :: r,j,acc=>∃ i:Option Addr,m.cell (ad.add j)=some (.pointer i)/\ldC D ad m r (j+1) (acc ++ [.pointer i])
 | .slice :: r,j,acc=>∃ (A:Option Addr) (n c:Nat),m.cell (ad.add j)=some (.slice A n c)/\ldC D ad m r (j+1) (acc ++ [.slice A n c])
 | .map :: r,j,acc=>∃ i:Option Nat,m.cell (ad.add j)=some (.map i)/\ldC D ad m r (j+1) (acc ++ [.map i])
 | .any :: r,j,acc=>∃ v:Value,m.cell (ad.add j)=some v/\ldC D ad m r (j+1) (acc ++ [v])
def ldB (D:Dt) (ad:Addr) (m:AM):TD->Prop
 | ⟨true,cks,_,_,_⟩=>ldC rec D ad m cks 0 []
 | ⟨false,[c],_,_,_⟩=>ld1 rec D ad m c
 | _=>False
def ldA (t:TD) (D:Dt) (m:AM):Value->Prop
 | .pointer (some ad)=>ldB rec D ad m t
 | _=>False
def stC (w0:World) (D:Dt) (ad:Addr):List Value->Nat->AM->Prop
 | [],_,m=>rec (.nx D undef m)
 | v :: r,j,m=>StC w0.heap.size m (ad.add j) v fun m'=>stC w0 D ad r (j+1) m'
def stA (w0:World) (vs:List Value) (D:Dt) (m:AM):Value->Prop
 | .pointer (some ad)=>stC rec w0 D ad vs 0 m
 | _=>False
def nlA (D:Dt) (m:AM):Value->Prop
 | .pointer p=>nilO p fun a=>rec (.nx D (.pointer (some a)) m)
 | .func (.func g) f c=>rec (.nx D (.func (.func g) f c) m)
 | _=>False
def adE (a:Addr):Option Nat->Addr
 | none=>a
 | some n=>a.add n
def nlP (D:Dt) (m:AM) (e:Option Nat) (p:Option Addr):Prop:=nilO p fun a=>rec (.nx D (.pointer (some (adE a e))) m)
theorem nlA_p (D:Dt) (m:AM) (p:Option Addr):nlA rec D m (.pointer p)=nlP rec D m none p:=rfl
theorem u3 (D:Dt) (m:AM) (e:Option Nat) (a:Addr):nlP rec D m e (some a)=rec (.nx D (.pointer (some (adE a e))) m):=rfl
theorem nlP_g (D:Dt) (m:AM) (e:Option Nat) (p:Option Addr):nlP rec D m e p=nilO p fun a=>rec (.nx D (.pointer (some (adE a e))) m):=rfl
theorem nlA_f (D:Dt) (m:AM) (g:FuncId) (f c:Array Value):nlA rec D m (.func (.func g) f c)=rec (.nx D (.func (.func g) f c) m):=rfl
def ixA (sz n:Nat) (D:Dt) (m:AM):Value->Value->Prop
 | .slice A n _,.int _ i=>((0:Int)<=i/\i<(n:Int))/\nlP rec D m (some (i.toNat*sz)) A
 | .pointer (some a),.int _ i=>((0:Int)<=i/\i<(n:Int))/\rec (.nx D (.pointer (some (a.add (i.toNat*sz)))) m)
 | _,_=>False
def inA (D:Dt) (m:AM):Value->Value->Prop
 | .string s,.int _ i=>((0:Int)<=i/\i<(s.size:Int))/\rec (.nx D (.int .u8 (byteAt s i.toNat)) m)
 | _,_=>False
def faA (o:Nat) (D:Dt) (m:AM):Value->Prop
 | .pointer (some a)=>rec (.nx D (.pointer (some (a.add o))) m)
 | _=>False
def fdB (D:Dt) (m:AM) (o n:Nat) (l:List Value):Bool->Prop
 | true=>rec (.nx D (.agg (List.toArray (takl n (drl o l)))) m)
 | false=>rec (.nx D (nth undef l o) m)
def fdA (o n:Nat) (g:Bool) (D:Dt) (m:AM):Value->Prop
 | .agg c=>fdB rec D m o n c.toList g
 | _=>False
def exA (k:Nat) (D:Dt) (m:AM):Value->Prop
 | .tuple c=>rec (.nx D (nth undef c.toList k) m)
 | _=>False
def pkA (D:Dt) (m:AM):Value->Value->Value->Prop
 | .bool t,.bool x,.bool y=>rec (.nx D (.bool (bif t then x else y)) m)
 | .bool t,.bool x,.tuple _=>t=true/\rec (.nx D (.bool x) m)
 | .bool t,.tuple _,.bool y=>t=false/\rec (.nx D (.bool y) m)
 | _,_,_=>False
def biI (D:Dt) (m:AM) (k k':IntKind) (a b:Int):BinOp->Prop
 | .add=>k=k'/\rec (.nx D (.int k (k.wrap (a+b))) m)
 | .sub=>k=k'/\rec (.nx D (.int k (k.wrap (a-b))) m)
 | .mul=>k=k'/\rec (.nx D (.int k (k.wrap (a*b))) m)
 | .quo=>k=k'/\b≠0/\rec (.nx D (.int k (k.wrap (a.tdiv b))) m)
 | .rem=>k=k'/\b≠0/\rec (.nx D (.int k (a.tmod b)) m)
 | .and=>k=k'/\rec (.nx D (.int k (k.wrap (BitVec.ofInt k.bits a &&& BitVec.ofInt k.bits b).toNat)) m)
 | .or=>k=k'/\rec (.nx D (.int k (k.wrap (BitVec.ofInt k.bits a ||| BitVec.ofInt k.bits b).toNat)) m)
 | .eql=>k=k'/\rec (.nx D (.bool (a == b)) m)
 | .neq=>k=k'/\rec (.nx D (.bool (a != b)) m)
 | .lss=>k=k'/\rec (.nx D (.bool (decide (a<b))) m)
 | .leq=>k=k'/\rec (.nx D (.bool (decide (a<=b))) m)
 | .gtr=>k=k'/\rec (.nx D (.bool (decide (a>b))) m)
 | .geq=>k=k'/\rec (.nx D (.bool (decide (a>=b))) m)
 | .shl=>0<=b/\rec (.nx D (.int k (k.wrap (a*2 ^ (min b.toNat k.bits)))) m)
 | .shr=>0<=b/\rec (.nx D (.int k (a.fdiv (2 ^ (min b.toNat k.bits)))) m)
 | _=>False
def biB (D:Dt) (m:AM) (b:Bool):BinOp->Prop
 | .eql=>rec (.nx D (.bool b) m)
 | .neq=>rec (.nx D (.bool !b) m)
 | _=>False
def biA (P:Program) (bo:BinOp) (t:Nat) (D:Dt) (m:AM):Value->Value->Prop
 | .int k a,.int k' b=>biI rec D m k k' a b bo
 | .agg x,.agg y=>∃ b:Bool,EqP P bo t (.agg x) (.agg y) b/\rec (.nx D (.bool b) m)
 | .string a,.string b=>biB rec D m (a.toList == b.toList) bo
 | .bool a,.bool b=>biB rec D m (a == b) bo
 | .slice A _ _,.slice none _ _=>biB rec D m A.isNone bo
 | .pointer A,.pointer none=>biB rec D m A.isNone bo
 | .map A,.map none=>biB rec D m A.isNone bo
 | _,_=>False
def unA (D:Dt) (m:AM):UnOp->Value->Prop
 | .not,.bool b=>rec (.nx D (.bool !b) m)
 | .neg,.int k n=>rec (.nx D (.int k (k.wrap (0-n))) m)
 | _,_=>False
def cvI (D:Dt) (m:AM) (n:Int):List CK->Prop
 | [.int k]=>rec (.nx D (.int k (k.wrap n)) m)
 | _=>False
def cvA (P:Program) (w0:World) (s d:Nat) (D:Dt) (m:AM) (cks:List CK):Value->Prop
 | .int _ n=>cvI rec D m n cks
 | .string s'=>awp P w0.heap.size (convert s d (.string s')) m fun v m'=>∃ A n c,v=.slice A n c/\rec (.nx D (.slice A n c) m')
 | .slice A n c=>awp P w0.heap.size (convert s d (.slice A n c)) m fun v m'=>∃ s,v=.string s/\rec (.nx D (.string s) m')
 | _=>False
def slL (sz:Nat) (D:Dt) (m:AM) (A:Option Addr) (cp h l:Nat):Prop:=h<=cp/\l<=h/\rec (.nx D (.slice (if cp=l then A else A.map (·.add (l*sz))) (h-l) (cp-l)) m)
def slT (D:Dt) (m:AM) (s:ByteArray) (h l:Nat):Prop:=h<=s.size/\l<=h/\rec (.nx D (.string (s.extract l h)) m)
def slA (sz:Nat) (D:Dt) (m:AM):Value->Option Value->Option Value->Prop
 | .slice A n cp,none,none=>slL rec sz D m A cp n 0
 | .slice A n cp,some (.int _ l),none=>(0:Int)<=l/\slL rec sz D m A cp n l.toNat
 | .slice A _ cp,none,some (.int _ h)=>(0:Int)<=h/\slL rec sz D m A cp h.toNat 0
 | .slice A _ cp,some (.int _ l),some (.int _ h)=>(0:Int)<=h/\(0:Int)<=l/\slL rec sz D m A cp h.toNat l.toNat
 | .string s,none,none=>slT rec D m s s.size 0
 | .string s,some (.int _ l),none=>(0:Int)<=l/\slT rec D m s s.size l.toNat
 | .string s,none,some (.int _ h)=>(0:Int)<=h/\slT rec D m s h.toNat 0
 | .string s,some (.int _ l),some (.int _ h)=>(0:Int)<=h/\(0:Int)<=l/\slT rec D m s h.toNat l.toNat
 | _,_,_=>False
def nwA (w0:World) (t:Nat) (cs:List Value) (D:Dt) (m:AM):Prop:=N_ w0 m (.cells (List.toArray cs) t) fun b m'=>rec (.nx D (.pointer (some ⟨b,0,none⟩)) m')
def mkA (w0:World) (e by_:Nat) (z:List Value) (D:Dt) (m:AM):Value->Value->Prop
 | .int _ l,.int _ cp=>((0:Int)<=l/\l<=cp/\cp<=9223372036854775807/\((by_:Nat):Int)*cp<=281474976710656) /\
   N_ w0 m (.cells (zeros z cp.toNat).toArray e) fun b m'=>rec (.nx D (.slice (some ⟨b,0,none⟩) l.toNat cp.toNat) m')
 | _,_=>False
def bsA (w0:World) (e ln:Nat) (cs:List Value) (D:Dt) (m:AM):Prop:=true=true/\N_ w0 m (.cells (List.toArray cs) e) fun b m'=>rec (.nx D (.slice (some ⟨b,0,none⟩) ln ln) m')
def mmA (w0:World) (D:Dt) (m:AM):Prop:=N_ w0 m (.map #[] 0) fun b m'=>rec (.nx D (.map (some b)) m')
def luT (P:Program) (t:Nat) (x i:Value) (D:Dt) (m:AM):List CK->Prop
 | [.int k]=>∃ v:Int,∃ ok:Bool,rval P m (Instr.lookup t x i true)=some (.tuple #[.int k v,.bool ok])/\rec (.nx D (.tuple #[.int k v,.bool ok]) m)
 | [.bool]=>∃ v:Bool,∃ ok:Bool,rval P m (Instr.lookup t x i true)=some (.tuple #[.bool v,.bool ok])/\rec (.nx D (.tuple #[.bool v,.bool ok]) m)
 | _=>False
def luF (P:Program) (t:Nat) (x i:Value) (D:Dt) (m:AM):List CK->Prop
 | [.int k]=>∃ v:Int,rval P m (Instr.lookup t x i false)=some (.int k v)/\rec (.nx D (.int k v) m)
 | [.bool]=>∃ v:Bool,rval P m (Instr.lookup t x i false)=some (.bool v)/\rec (.nx D (.bool v) m)
 | _=>False
def muA (P:Program) (w0:World) (t:Nat) (x k v:Value) (D:Dt) (m:AM):Prop:=awp P w0.heap.size (Instr.mapUpdate t x k v) m fun _ m'=>rec (.nx D undef m')
inductive Tk | s (k:CK) | i (k:CK) | e
inductive Lf | q (g:FuncId) (az:Array Value) (m:AM) | r (r:Value)
def tki:List CK->List Tk->List Tk
 | [],l=>.e :: l
 | c :: r,l=>.i c :: tki r l
def tk1:TD->List Tk->List Tk
 | ⟨true,cks,_,_,_⟩,l=>tki cks l
 | ⟨false,[c],_,_,_⟩,l=>.s c :: l
 | _,l=>l
def tks (X:Cx):List Nat->List Tk
 | []=>[]
 | t :: l=>tk1 (X.t t) (tks X l)
def lfA (P:Program) (w0:World) (D:Dt) (m:AM) (v:Value):Lf->Prop
 | .q g az m0=>CallsA P w0 g az m0 (fun r m'=>r=v/\m'=m0)/\rec (.nx D v m)
 | .r r=>r=v/\rec (.nx D v m)
def rsv (P:Program) (w0:World) (D:Dt) (m:AM) (f:Lf):List Tk->List Value->List Value->Prop
 | [],_,acc=>lfA rec P w0 D m (pks acc) f
 | .e :: l,cur,acc=>rsv P w0 D m f l [] (acc ++ [.agg (List.toArray cur)])
 | .s (.int k) :: l,cur,acc=>∃ i:Int,rsv P w0 D m f l cur (acc ++ [.int k i])
 | .s .bool :: l,cur,acc=>∃ i:Bool,rsv P w0 D m f l cur (acc ++ [.bool i])
 | .s .str :: l,cur,acc=>∃ i:ByteArray,rsv P w0 D m f l cur (acc ++ [.string i])
 | .s .ptr :: l,cur,acc=>∃ i:Option Addr,rsv P w0 D m f l cur (acc ++ [.pointer i])
 | .s .slice :: l,cur,acc=>∃ (A:Option Addr) (n c:Nat),rsv P w0 D m f l cur (acc ++ [.slice A n c])
 | .s .map :: l,cur,acc=>∃ i:Option Nat,rsv P w0 D m f l cur (acc ++ [.map i])
 | .s .any :: l,cur,acc=>∃ v:Value,rsv P w0 D m f l cur (acc ++ [v])
 | .i (.int k) :: l,cur,acc=>∃ i:Int,rsv P w0 D m f l (cur ++ [.int k i]) acc
 | .i .bool :: l,cur,acc=>∃ i:Bool,rsv P w0 D m f l (cur ++ [.bool i]) acc
 | .i .str :: l,cur,acc=>∃ i:ByteArray,rsv P w0 D m f l (cur ++ [.string i]) acc
 | .i .ptr :: l,cur,acc=>∃ i:Option Addr,rsv P w0 D m f l (cur ++ [.pointer i]) acc
 | .i .slice :: l,cur,acc=>∃ (A:Option Addr) (n c:Nat),rsv P w0 D m f l (cur ++ [.slice A n c]) acc
 | .i .map :: l,cur,acc=>∃ i:Option Nat,rsv P w0 D m f l (cur ++ [.map i]) acc
 | .i .any :: l,cur,acc=>∃ v:Value,rsv P w0 D m f l (cur ++ [v]) acc
def clC (P:Program) (w0:World) (tk:List Tk) (g:FuncId) (az:List Value) (D:Dt) (m:AM):Nat->Prop
 | 2=>rsv rec P w0 D m (.q g (List.toArray az) m) tk [] []
 | 3=>CallsA P w0 g (List.toArray az) m fun r m'=>rsv rec P w0 D m' (.r r) tk [] []
 | 4=>CallsA P w0 g (List.toArray az) m fun r m'=>m.le m'/\rsv rec P w0 D m' (.r r) tk [] []
 | _=>False
theorem clC_2 (P:Program) (w0:World) (tk:List Tk) (g:FuncId) (az:List Value) (D:Dt) (m:AM):clC rec P w0 tk g az D m 2=rsv rec P w0 D m (.q g (List.toArray az) m) tk [] []:=rfl
theorem clC_3 (P:Program) (w0:World) (tk:List Tk) (g:FuncId) (az:List Value) (D:Dt) (m:AM):clC rec P w0 tk g az D m 3=CallsA P w0 g (List.toArray az) m fun r m'=>rsv rec P w0 D m' (.r r) tk [] []:=rfl
theorem clC_4 (P:Program) (w0:World) (tk:List Tk) (g:FuncId) (az:List Value) (D:Dt) (m:AM):clC rec P w0 tk g az D m 4=CallsA P w0 g (List.toArray az) m fun r m'=>m.le m'/\rsv rec P w0 D m' (.r r) tk [] []:=rfl
def clV (az:List Value) (c:Nat) (D:Dt) (m:AM):Value->Prop
 | .func (.func g) f b=>clC rec X.P X.w0 (tks X (gtl [] (X.sg ()) g)) g (f.toList ++ az ++ b.toList) D m c
 | _=>False
def blA (P:Program) (w0:World) (at_:Array TypeId) (ty:TypeId) (D:Dt) (m:AM):Builtin->List Value->Prop
 | .len,[.slice _ n _]=>rec (.nx D (.int .i64 (n:Int)) m)
 | .len,[.string s]=>rec (.nx D (.int .i64 (s.size:Int)) m)
 | .cap,[.slice _ _ n]=>rec (.nx D (.int .i64 (n:Int)) m)
 | .min,[.int k a,.int k' b]=>k=k'/\rec (.nx D (.int k (if b<a then b else a)) m)
 | .max,[.int k a,.int k' b]=>k=k'/\rec (.nx D (.int k (if b>a then b else a)) m)
 | .append,az=>awp P w0.heap.size (Builtin.append_ at_ ty (List.toArray az)) m fun v m'=>∃ (A:Option Addr) (n c:Nat),v=.slice A n c/\rec (.nx D (.slice A n c) m')
 | .copy,az=>awp P w0.heap.size (Builtin.copy_ at_ ty (List.toArray az)) m fun v m'=>∃ n:Int,v=.int .i64 n/\rec (.nx D (.int .i64 n) m')
 | .clear,az=>awp P w0.heap.size (Builtin.clear_ at_ ty (List.toArray az)) m fun v m'=>v=.tuple #[]/\rec (.nx D (.tuple #[]) m')
 | _,_=>False
def cls:Option (List (Nat × Nat))->Nat->Nat
 | none,_=>3
 | some q,i=>gtl 3 q i
def opA (σ:Sl) (ty:TypeId) (i:Nat) (q:Option (List (Nat × Nat))) (D:Dt) (m:AM):Op->Prop
 | .move x=>rec (.nx D (ev σ X.ini x) m)
 | .assign x=>rec (.nx D (ev σ X.ini x) m)
 | .pick a b c=>pkA rec D m (ev σ X.ini a) (ev σ X.ini b) (ev σ X.ini c)
 | .nilCheck x=>nlA rec D m (ev σ X.ini x)
 | .binOp bo t x y _=>biA rec X.P bo t D m (ev σ X.ini x) (ev σ X.ini y)
 | .unOp uo _ x=>unA rec D m uo (ev σ X.ini x)
 | .convert s d x=>cvA rec X.P X.w0 s d D m (X.t d).cks (ev σ X.ini x)
 | .fieldAddr s x k=>faA rec (nth (0,0) (X.t s).fs k).1 D m (ev σ X.ini x)
 | .field s x k=>fdA rec (nth (0,0) (X.t s).fs k).1 (X.sz (nth (0,0) (X.t s).fs k).2) (X.t (nth (0,0) (X.t s).fs k).2).agg D m (ev σ X.ini x)
 | .indexAddr t x i=>ixA rec (X.sz (X.t t).el) (X.t t).by_ D m (ev σ X.ini x) (ev σ X.ini i)
 | .index _ x i=>inA rec D m (ev σ X.ini x) (ev σ X.ini i)
 | .extract x k=>exA rec k D m (ev σ X.ini x)
 | .makeFunc g f c=>rec (.nx D (.func g (List.toArray (evs σ X.ini f.toList)) (List.toArray (evs σ X.ini c.toList))) m)
 | .slice t x lo hi none=>slA rec (X.sz (X.t t).el) D m (ev σ X.ini x) (evo σ X.ini lo) (evo σ X.ini hi)
 | .load t a=>ldA rec (X.t t) D m (ev σ X.ini a)
 | .store _ a x=>stA rec X.w0 (vcl (ev σ X.ini x)) D m (ev σ X.ini a)
 | .alloc t=>nwA rec X.w0 t (zcs (X.t t).cks) D m
 | .box t x=>nwA rec X.w0 t (vcl (ev σ X.ini x)) D m
 | .makeSlice t l cp=>mkA rec X.w0 (X.t t).el (X.t (X.t t).el).by_ (zcs (X.t (X.t t).el).cks) D m (ev σ X.ini l) (ev σ X.ini cp)
 | .buildSlice t ln ps=>bsA rec X.w0 (X.t t).el ln (spz (X.sz (X.t t).el) (evp σ X.ini ps.toList) (rep (zcs (X.t (X.t t).el).cks) ln)) D m
 | .build t ps=>true=true/\rec (.nx D (.agg (List.toArray (spf (X.t t).fs (evp σ X.ini ps.toList) (zcs (X.t t).cks)))) m)
 | .makeMap _ none=>mmA rec X.w0 D m
 | .lookup t x i true=>luT rec X.P t (ev σ X.ini x) (ev σ X.ini i) D m (X.t (X.t t).el).cks
 | .lookup t x i false=>luF rec X.P t (ev σ X.ini x) (ev σ X.ini i) D m (X.t (X.t t).el).cks
 | .mapUpdate t mp k v=>muA rec X.P X.w0 t (ev σ X.ini mp) (ev σ X.ini k) (ev σ X.ini v) D m
 | .insert t mp k v=>muA rec X.P X.w0 t (ev σ X.ini mp) (ev σ X.ini k) (ev σ X.ini v) D m
 | .call ⟨.value f,az,_⟩=>clV X rec (evs σ X.ini az.toList) (cls q i) D m (ev σ X.ini f)
 | .call ⟨.builtin b,az,at_⟩=>blA rec X.P X.w0 at_ ty D m b (evs σ X.ini az.toList)
 | _=>False
def putd (σ:Sl) (v:Value):Option Tmp->Sl
 | none=>σ
 | some d=>(d,v) :: σ
def kfK:Bool->Kn->List Kn->List Kn
 | true,_,l=>l
 | false,k,l=>k :: l
def eqo:Option Nat->Nat->Bool
 | none,_=>false
 | some a,b=>a == b
def kf:List Kn->Nat->List Kn
 | [],_=>[]
 | k :: l,d=>kfK (eqo k.d d) k (kf l d)
def keepK (kn:List Kn):Option Tmp->List Kn
 | none=>kn
 | some d=>kf kn d
def lgK:Bool->Option Bool->Option Bool->Option Bool
 | true,x,_=>x
 | false,_,y=>y
def beqb:Bool->Bool->Bool
 | true,b=>b
 | false,true=>false
 | false,false=>true
def lg (j:Nat) (w:Bool):List Kn->Option Bool
 | []=>none
 | k :: l=>lgK (andK (k.j == j) (beqb k.w w)) (some k.b) (lg j w l)
def slm:List Oper->List Oper
 | []=>[]
 | ⟨d, o, t, _, _, g⟩ :: l => ⟨d, o, t, "", #[], g⟩ :: slm l
def dss:List Oper->List (Option Nat)
 | []=>[]
 | ⟨d,_,_,_,_,_⟩ :: l=>d :: dss l
def nop : Oper := ⟨none, .panic (.tmp 0), 0, "", #[], none⟩
def dtA (o:Oper) (A:At) (kn:List Kn):Option Tr->Dt
 | none=>.op o.dst A.r A.ops kn (A.i+1) A.q A.k A.σ
 | some t=>.tr o.dst t A.opl A.ops kn A.q A.σ
def rnA (o:Oper) (A:At) (kn:List Kn) (m:AM):Prop:=opA X rec A.σ o.type A.i A.q (dtA o A kn A.tr) m o.op
def skA (o:Oper) (A:At) (kn:List Kn) (m:AM):Prop:=rec (.nx (dtA o A kn A.tr) undef m)
def cnB (b:Bool) (x y:Cf):Prop:=bcase b (rec x) (rec y)
theorem u1 (x y:Cf):cnB rec true x y=rec x:=rfl
theorem u2 (x y:Cf):cnB rec false x y=rec y:=rfl
theorem cnB_g (x y:Cf) (b:Bool):cnB rec b x y=bcase b (rec x) (rec y):=rfl
def bcA (o:Oper) (A:At) (kn:List Kn) (m:AM) (j:Nat) (d:Option Nat) (b:Bool):Bool->Prop
 | true=>cnB rec b (.gu true o A (⟨j,true,d,true⟩ :: kn) m) (.gu false o A (⟨j,true,d,false⟩ :: kn) m)
 | false=>cnB rec b (.gu false o A (⟨j,false,d,false⟩ :: kn) m) (.gu true o A (⟨j,false,d,true⟩ :: kn) m)
def gdV (o:Oper) (A:At) (kn:List Kn) (m:AM) (j:Nat) (w:Bool) (d:Option Nat):Value->Prop
 | .bool b=>bcA rec o A kn m j d b w
 | _=>skA rec o A (⟨j,w,d,false⟩ :: kn) m
theorem gdV_b (o:Oper) (A:At) (kn:List Kn) (m:AM) (j:Nat) (w:Bool) (d:Option Nat) (b:Bool):gdV rec o A kn m j w d (.bool b)=bcA rec o A kn m j d b w:=rfl
theorem gdV_t (o:Oper) (A:At) (kn:List Kn) (m:AM) (j:Nat) (w:Bool) (d:Option Nat) (b:Array Value):gdV rec o A kn m j w d (.tuple b)=skA rec o A (⟨j,w,d,false⟩ :: kn) m:=rfl
def gdD (o:Oper) (A:At) (kn:List Kn) (m:AM) (j:Nat) (w:Bool):Option Nat->Prop
 | none=>skA rec o A (⟨j,w,none,false⟩ :: kn) m
 | some d=>gdV rec o A kn m j w (some d) (gtv A.σ d (gtv X.ini d undef))
def gdA (o:Oper) (A:At) (kn:List Kn) (m:AM) (j:Nat) (w:Bool):Option Bool->Prop
 | some true=>rnA X rec o A kn m
 | some false=>skA rec o A kn m
 | none=>gdD X rec o A kn m j w (nth none A.ops j)
def goG (o:Oper) (A:At) (kn:List Kn) (m:AM):Option (Nat × Bool)->Prop
 | none=>rnA X rec o A kn m
 | some (j,w)=>gdA X rec o A kn m j w (lg j w kn)
def cnV (x y:Code) (p:Nat) (k:Bk) (σ:Sl) (m:AM):Value->Prop
 | .bool b=>cnB rec b (.go x (p+p) k σ m) (.go y (p+p+1) k σ m)
 | _=>False
theorem cnV_b (x y:Code) (p:Nat) (k:Bk) (σ:Sl) (m:AM) (b:Bool):cnV rec x y p k σ m (.bool b)=cnB rec b (.go x (p+p) k σ m) (.go y (p+p+1) k σ m):=rfl
def qof (id:Nat):Bool->Option (List (Nat × Nat))
 | true=>some (X.qs id)
 | false=>none
def goC (p:Nat) (k:Bk) (σ:Sl) (m:AM):Code->Prop
 | .skip=>rec (.rt k σ m)
 | .label _=>rec (.rt k σ m)
 | .region id ops draw=>rec (.al (slm ops.toList) (dss ops.toList) [] 0 (qof X id draw) k σ m)
 | .seq x y=>rec (.go x (p+p) (.seq y (p+p+1) k) σ m)
 | .cond c x y=>cnV rec x y p k σ m (ev σ X.ini c)
 | .block id c=>rec (.go c (p+p) (.blk id k) σ m)
 | .exit id=>rec (.xt id k σ m)
 | .ret=>rec (.re k σ m)
 | _=>False
def goK (c:Code) (p:Nat) (k:Bk) (σ:Sl) (m:AM):Bool->Prop
 | true=>X.W p (chn X.base σ) m
 | false=>goC X rec p k σ m c
def xtK (k:Bk) (id:Nat) (σ:Sl) (m:AM):Bool->Prop
 | true=>rec (.rt k σ m)
 | false=>rec (.xt id k σ m)
def frC (r:List ResultVar) (acc:List Value) (R:RT) (σ:Sl) (m:AM) (t:TD) (v:Value):Prop:=ldA rec t (.fr r acc R σ) m v
def trG (o:Oper) (k:Nat) (t:Tr) (opl:List Oper) (ops:List (Option Nat)) (kn:List Kn) (q:Option (List (Nat × Nat))) (σ:Sl) (m:AM):Prop:=goG X rec o ⟨[],ops,opl,k,q,.top,σ,some t⟩ kn m o.guard
def stp:Cf->Prop
 | .go c p k σ m=>goK X rec c p k σ m (inL p X.cuts)
 | .gu true o A kn m=>rnA X rec o A kn m
 | .gu false o A kn m=>skA rec o A kn m
 | .rt .top σ m=>fzN X rec σ m X.fz
 | .rt (.seq y p k) σ m=>rec (.go y p k σ m)
 | .rt (.blk _ k) σ m=>rec (.rt k σ m)
 | .xt id .top σ m=>fzX id σ m X.fz
 | .xt id (.seq _ _ k) σ m=>rec (.xt id k σ m)
 | .xt id (.blk j k) σ m=>xtK rec k id σ m (id == j)
 | .re .top σ m=>fzR X rec σ m X.fz
 | .re (.seq _ _ k) σ m=>rec (.re k σ m)
 | .re (.blk _ k) σ m=>rec (.re k σ m)
 | .al [] _ _ _ _ k σ m=>rec (.rt k σ m)
 | .al (o :: r) ops kn i q k σ m=>goG X rec o ⟨r,ops,[],i,q,k,σ,none⟩ kn m o.guard
 | .nx (.op d r ops kn i q k σ) v m=>rec (.al r ops (keepK kn d) i q k (putd σ v d) m)
 | .tr .z _ _ _ _ σ m=>true=true/\X.W2 σ m
 | .tr .e _ _ _ _ σ m=>X.W2 σ m
 | .tr (.o k t) opl ops kn q σ m=>trG X rec (nth nop opl k) k t opl ops kn q σ m
 | .tr (.a x y) opl ops kn q σ m=>rec (.tr x opl ops kn q σ m)/\rec (.tr y opl ops kn q σ m)
 | .nx (.tr d t opl ops kn q σ) v m=>rec (.tr t opl ops (keepK kn d) q (putd σ v d) m)
 | .nx (.fr r acc R σ) v m=>rec (.fr r (acc ++ [v]) R σ m)
 | .fr [] acc R _ m=>RetP R (pks acc) m
 | .fr (.tmp t :: r) acc R σ m=>rec (.fr r (acc ++ [ev σ X.ini (.tmp t)]) R σ m)
 | .fr (.cell x t :: r) acc R σ m=>frC rec r acc R σ m (X.t t) (ev σ X.ini (.tmp x))
end
def run (X:Cx):Nat->Cf->Prop
 | 0,_=>False
 | n+1,c=>stp X (run X n) c
theorem run_s (X:Cx) (n:Nat) (c:Cf):run X (n+1) c=stp X (run X n) c:=rfl
def pthF:Nat->Bool->Nat->List Nat->List Nat
 | 0,_,_,l=>l
 | _+1,true,_,l=>l
 | f+1,false,n,l=>pthF f (n / 2 == 1) (n / 2) (n % 2 :: l)
def pth (n:Nat):List Nat:=pthF 100 (n == 1) n []
inductive Gm | go | xt (id:Nat) | rt | tr (t:Tr)
def dwE (X:Cx) (p:Nat) (k:Bk) (σ:Sl) (m:AM) (c:Code):Gm->Prop
 | .go=>goC X (run X 4000) p k σ m c
 | .xt id=>run X 4000 (.xt id k σ m)
 | .rt=>run X 4000 (.rt k σ m)
 | .tr t=>match c with
  | .region id ops _=>run X 4000 (.tr t (slm ops.toList) (dss ops.toList) [] (some (X.qs id)) σ m)
  | _=>False
def dwn (X:Cx) (g:Gm) (σ:Sl) (m:AM) (p:Nat) (k:Bk):Code->List Nat->Prop
 | c,[]=>dwE X p k σ m c g
 | .seq x y,0 :: l=>dwn X g σ m (p+p) (.seq y (p+p+1) k) x l
 | .seq _ y,1 :: l=>dwn X g σ m (p+p+1) k y l
 | .cond _ x _,0 :: l=>dwn X g σ m (p+p) k x l
 | .cond _ _ y,1 :: l=>dwn X g σ m (p+p+1) k y l
 | .block id c,_ :: l=>dwn X g σ m (p+p) (.blk id k) c l
 | .loop c,_ :: l=>dwn X g σ m (p+p) .top c l
 | _,_ :: _=>False
section
variable (X:Cx) (g:Gm) (σ:Sl) (m:AM) (p:Nat) (k:Bk) (l:List Nat)
theorem dwn_s0 (x y:Code):dwn X g σ m p k (.seq x y) (0 :: l)=dwn X g σ m (p+p) (.seq y (p+p+1) k) x l:=rfl
theorem dwn_s1 (x y:Code):dwn X g σ m p k (.seq x y) (1 :: l)=dwn X g σ m (p+p+1) k y l:=rfl
theorem dwn_c0 (c:Operand) (x y:Code):dwn X g σ m p k (.cond c x y) (0 :: l)=dwn X g σ m (p+p) k x l:=rfl
theorem dwn_c1 (c:Operand) (x y:Code):dwn X g σ m p k (.cond c x y) (1 :: l)=dwn X g σ m (p+p+1) k y l:=rfl
theorem dwn_b (id:Nat) (c:Code):dwn X g σ m p k (.block id c) (0 :: l)=dwn X g σ m (p+p) (.blk id k) c l:=rfl
theorem dwn_l (c:Code):dwn X g σ m p k (.loop c) (0 :: l)=dwn X g σ m (p+p) .top c l:=rfl
theorem dwn_zr (id:Nat) (ops:Array Oper) (d:Bool):dwn X g σ m p k (.region id ops d) []=dwE X p k σ m (.region id ops d) g:=rfl
theorem dwn_zs (x y:Code):dwn X g σ m p k (.seq x y) []=dwE X p k σ m (.seq x y) g:=rfl
theorem dwn_zc (c:Operand) (x y:Code):dwn X g σ m p k (.cond c x y) []=dwE X p k σ m (.cond c x y) g:=rfl
theorem dwn_zb (id:Nat) (c:Code):dwn X g σ m p k (.block id c) []=dwE X p k σ m (.block id c) g:=rfl
theorem dwn_zl (c:Code):dwn X g σ m p k (.loop c) []=dwE X p k σ m (.loop c) g:=rfl
theorem dwn_ze (id:Nat):dwn X g σ m p k (.exit id) []=dwE X p k σ m (.exit id) g:=rfl
theorem dwn_zt:dwn X g σ m p k .ret []=dwE X p k σ m .ret g:=rfl
theorem dwn_zk:dwn X g σ m p k .skip []=dwE X p k σ m .skip g:=rfl
theorem dwE_g (c:Code):dwE X p k σ m c .go=goC X (run X 4000) p k σ m c:=rfl
theorem dwE_x (c:Code) (id:Nat):dwE X p k σ m c (.xt id)=run X 4000 (.xt id k σ m):=rfl
theorem dwE_r (c:Code):dwE X p k σ m c .rt=run X 4000 (.rt k σ m):=rfl
theorem dwE_t (id:Nat) (ops:Array Oper) (d:Bool) (t:Tr):dwE X p k σ m (.region id ops d) (.tr t)=run X 4000 (.tr t (slm ops.toList) (dss ops.toList) [] (some (X.qs id)) σ m):=rfl
end
def ix:Nat->List Value->Sl
 | _,[]=>[]
 | n,v :: l=>(n,v) :: ix (n+1) l
def qsf (l:List (Nat × List (Nat × Nat))) (i:Nat):List (Nat × Nat):=gtl [] l i
structure Nfd where
 n:FuncId
 fn:Func
 qs:Nat->List (Nat × Nat)
 cuts:List Nat
def UIr (σ:Sg):Sl->Prop->Prop
 | [],Y=>Y
 | (d,v) :: l,Y=>σ d=v/\UIr σ l Y
def okP0:Value->Bool
 | .pointer (some ⟨_,0,none⟩)=>true
 | _=>false
theorem ok_p {v:Value} (h:okP0 v=true):v=.pointer (some ⟨vP v,0,none⟩):=by
 unfold okP0 at h
 split at h
 .rfl
 .cases h
theorem vP_p (b:Nat):vP (.pointer (some ⟨b,0,none⟩))=b:=rfl
def okc:Kc->Value->Bool
 | .i=>okI .i64
 | .b=>okB
 | .s=>okS
 | .p=>okP0
def kdr (σ:Sg):List (Nat × Kc)->Prop->Prop
 | [],Y=>Y
 | (d,c) :: l,Y=>okc c (σ d)=true/\kdr σ l Y
def exq (cs:Sl):List (Nat × Ek)->Nat->Sg->AM->Prop
 | [],_,_,_=>False
 | (j,⟨ks,G⟩) :: l,i,σ,m=>if i=j then UIr σ cs (kdr σ ks (apC ks G σ m)) else exq cs l i σ m
def qz (P:Program) (fn:Func):Fz->Exit->Sg->AM->Prop
 | .fn R,e,σ,m=>retQ P fn R e σ m
 | .lp cs ks I n _ _,.normal,σ,m=>UIr σ cs (kdr σ ks (∃ n':Nat,n'<n/\apC ks (I n') σ m))
 | .lp cs _ _ _ es _,.exit id,σ,m=>exq cs es id σ m
 | .lp _ _ _ _ _ R,.ret,σ,m=>retQ P fn R .ret σ m
 | .lp ..,_,_,_=>False
section
variable (P:Program) (w0:World) (qs:Nat->List (Nat × Nat)) (Q0:Exit->Sg->AM->Prop)
def kOf:Code->List Nat->(Exit->Sg->AM->Prop)->Exit->Sg->AM->Prop
 | .seq x y,0 :: l,Q=>kOf x l (thenS (fun σ m=>vcS P w0 qs y σ m Q) Q)
 | .seq _ y,1 :: l,Q=>kOf y l Q
 | .cond _ x _,0 :: l,Q=>kOf x l Q
 | .cond _ _ y,1 :: l,Q=>kOf y l Q
 | .block id c,_ :: l,Q=>kOf c l (blockS id Q)
 | .loop c,_ :: l,_=>kOf c l Q0
 | _,_,Q=>Q
end
section
variable (P:Program) (F:Unit->Nfd) (w0:World) (z:Unit->Fz) (p:Nat)
def XE_ (e:Exit) (σ:Sg) (m:AM):Prop:=kOf P w0 (F ()).qs (qz P (F ()).fn (z ())) (bodyOf (F ()).fn) (pth p) (qz P (F ()).fn (z ())) e σ m
def XG_ (σ:Sg) (m:AM):Prop:=vcS P w0 (F ()).qs (sub (bodyOf (F ()).fn) (pth p)) σ m (XE_ P F w0 z p)
def Tz (R:RT):Unit->Fz
 | _=>.fn R
def UIc (σ:Sg):Sl->Prop
 | []=>True
 | (d,v) :: l=>σ d=v/\UIc σ l
theorem chn_id {σ:Sg}:∀ {l:Sl},UIc σ l->chn σ l=σ
 | [],_=>rfl
 | (d,v) :: l,h=>by
  show upd (chn σ l) d v=σ
  rw [chn_id h.2]; exact upd_id h.1
theorem nl {σ:Sg}:UIc σ []:=trivial
theorem cs {σ:Sg} {d:Nat} {v:Value} {l:Sl} (h:σ d=v) (k:UIc σ l):UIc σ ((d,v) :: l):=⟨h,k⟩
def app:Sl->Sl->Sl
 | [],l=>l
 | x :: r,l=>x :: app r l
theorem UIc_app {σ:Sg} {l':Sl} (k:UIc σ l'):∀ {l:Sl},UIc σ l->UIc σ (app l l')
 | [],_=>k
 | _ :: _,h=>⟨h.1,UIc_app k h.2⟩
theorem UIr_iff {σ:Sg} {Y:Prop}:∀ {l:Sl},UIr σ l Y↔UIc σ l/\Y
 | []=>by simp [UIr,UIc]
 | (d,v) :: l=>by
  show (σ d=v/\UIr σ l Y)↔(σ d=v/\UIc σ l)/\Y
  rw [UIr_iff,and_assoc]
def kdc (σ:Sg):List (Nat × Kc)->Prop
 | []=>True
 | (d,c) :: l=>okc c (σ d)=true/\kdc σ l
theorem kdr_iff {σ:Sg} {Y:Prop}:∀ {l:List (Nat × Kc)},kdr σ l Y↔kdc σ l/\Y
 | []=>by simp [kdr,kdc]
 | (d,c) :: l=>by
  show (okc c (σ d)=true/\kdr σ l Y)↔(okc c (σ d)=true/\kdc σ l)/\Y
  rw [kdr_iff,and_assoc]
def kdb:List (Nat × Kc)->Sg->Bool
 | [],_=>true
 | (d,c) :: l,σ=>okc c (σ d) && kdb l σ
theorem kdb_kdc {σ:Sg}:∀ {l:List (Nat × Kc)},kdb l σ=true->kdc σ l
 | [],_=>trivial
 | (d,c) :: l,h=>by
  have h:(okc c (σ d) && kdb l σ)=true:=h
  rw [Bool.and_eq_true] at h
  exact ⟨h.1,kdb_kdc h.2⟩
theorem alC_at {σ:Sg} {m:AM}:∀ {l:List (Nat × Kc)} {f:Cu l} {K:Sl->AM->Prop},alC l f K->kdc σ l->apC l f σ m->∃ s,UIc σ s/\K s m
 | [],_,_,h,_,ha=>⟨[],trivial,h m ha⟩
 | (d,.i) :: l,f,K,h,hk,ha=>by
  obtain ⟨s,h1,h2⟩:=alC_at (h (vI (σ d))) hk.2 ha
  exact ⟨_,cs (ok_int hk.1) h1,h2⟩
 | (d,.b) :: l,f,K,h,hk,ha=>by
  obtain ⟨s,h1,h2⟩:=alC_at (h (vB (σ d))) hk.2 ha
  exact ⟨_,cs (ok_bool hk.1) h1,h2⟩
 | (d,.s) :: l,f,K,h,hk,ha=>by
  obtain ⟨s,h1,h2⟩:=alC_at (h (vSA (σ d)) (vSN (σ d)) (vSC (σ d))) hk.2 ha
  exact ⟨_,cs (ok_slice hk.1) h1,h2⟩
 | (d,.p) :: l,f,K,h,hk,ha=>by
  obtain ⟨s,h1,h2⟩:=alC_at (h (vP (σ d))) hk.2 ha
  exact ⟨_,cs (ok_p hk.1) h1,h2⟩
def sel:List Nat->Sl->Sl
 | [],_=>[]
 | d :: r,l=>(d,gtv l d undef) :: sel r l
variable (ty:Unit->List (Nat × TD)) (sg:Unit->List (Nat × List Nat))
def stF (args:List Value) (m:AM) (R:RT):Prop :=
 run ⟨P,w0,XG_ P F w0 (Tz R),fun _ _=>True,(F ()).cuts,argS args,ix 0 args,(F ()).qs,.fn R,(F ()).fn.results.toList,ty,sg⟩ 4000 (.go (bodyOf (F ()).fn) 1 .top [] m)
def stK (g:Gm) (l:Sl) (σ:Sg) (m:AM):Prop :=
 dwn ⟨P,w0,XG_ P F w0 z,fun _ _=>True,(F ()).cuts,σ,[],(F ()).qs,z (),(F ()).fn.results.toList,ty,sg⟩ g l m 1 .top (bodyOf (F ()).fn) (pth p)
def lkq (cs:Sl) (ks:List (Nat × Kc)) (G:Cu ks) (σ:Sl) (m:AM):Prop:=lkC σ cs (lkT ks (apl σ m ks G))
def stT (t:Tr) (cs:Sl) (ks:List (Nat × Kc)) (G:Cu ks) (l:Sl) (σ:Sg) (m:AM):Prop :=
 dwn ⟨P,w0,XG_ P F w0 z,lkq cs ks G,(F ()).cuts,σ,[],(F ()).qs,z (),(F ()).fn.results.toList,ty,sg⟩ (.tr t) l m 1 .top (bodyOf (F ()).fn) (pth p)
end
theorem tlA {α:Type} (l:List α):(List.toArray l).toList=l:=rfl
theorem add0' (a:Addr):a.add 0=a:=rfl
theorem adds (b o n:Nat):(⟨b,o,none⟩:Addr).add (n+1)=⟨b,o+(n+1),none⟩:=rfl
section
variable (P:Program) (F:Unit->Nfd) (w0:World) (z:Unit->Fz) (p:Nat)
def AllE (cs:Sl):List (Nat × Ek)->Prop
 | []=>True
 | (j,k) :: l=>(∀ σ m,UIr σ cs (kdr σ k.ks (apC k.ks k.G σ m))->XE_ P F w0 z p (.exit j) σ m)/\AllE cs l
end
section
variable {P:Program} {F:Unit->Nfd} {w0:World} {z:Unit->Fz} {p:Nat} {σ:Sg} {m:AM} {R:RT}
theorem gK {l:Sl} (hu:UIc σ l) {q:Prop} (hk:q=XG_ P F w0 z p (chn σ l) m) (h:q):XG_ P F w0 z p σ m:=by
 have:=cast hk h
 rw [chn_id hu] at this
 exact this
theorem gE {e:Exit} {cs:Sl} {ks:List (Nat × Kc)} {G:Cu ks} (h:∀ σ,alC ks G fun s m=>XE_ P F w0 z p e (chn σ (app s cs)) m):∀ σ m,UIr σ cs (kdr σ ks (apC ks G σ m))->XE_ P F w0 z p e σ m:=by
 intro σ m hh
 obtain ⟨h1,h2⟩:=UIr_iff.1 hh
 obtain ⟨h2,h3⟩:=kdr_iff.1 h2
 obtain ⟨s,h4,h5⟩:=alC_at (h σ) h2 h3
 have h5:XE_ P F w0 z p e (chn σ (app s cs)) m:=h5
 rw [chn_id (UIc_app h1 h4)] at h5
 exact h5
theorem exq_at {cs:Sl}:∀ {es:List (Nat × Ek)},AllE P F w0 z p cs es->∀ {i σ m},exq cs es i σ m->XE_ P F w0 z p (.exit i) σ m
 | [],_,_,_,_,h=>h.elim
 | (j,⟨ks,G⟩) :: l,ha,i,σ,m,h=>by
  by_cases e:i=j
  .subst e; exact ha.1 σ m ((if_pos rfl:(if i=i then UIr σ cs (kdr σ ks (apC ks G σ m)) else exq cs l i σ m)=_).mp h)
  .exact exq_at ha.2 ((if_neg e:(if i=j then UIr σ cs (kdr σ ks (apC ks G σ m)) else exq cs l i σ m)=_).mp h)
theorem gL {zq:Nat->Unit->Fz} {cs lk:Sl} {ks:List (Nat × Kc)} {I:Nat->Cu ks} {es:List (Nat × Ek)} (hz:∀ n,zq n ()=.lp cs ks I n es R) (N:Nat) (hc:UIc σ cs) (hl:UIc σ lk) (hk:kdc (chn σ lk) ks) (h0:apC ks (I N) (chn σ lk) m)
  (e1:sub (bodyOf (F ()).fn) (pth p)=.loop (sub (bodyOf (F ()).fn) (pth (p+p)))) (e2:(fun Q=>kOf P w0 (F ()).qs Q (bodyOf (F ()).fn) (pth (p+p)) Q)=fun Q=>Q)
  (e3:(fun σ m=>XE_ P F w0 z p .ret σ m)=fun σ m=>retQ P (F ()).fn R .ret σ m)
  (hs:∀ n σ,alC ks (I n) fun s m=>XG_ P F w0 (zq n) (p+p) (chn σ (app s cs)) m) (he:AllE P F w0 z p cs es):XG_ P F w0 z p σ m:=by
 rw [chn_id hl] at hk h0
 unfold XG_
 rw [e1]
 refine loopQ (fun n σ m=>UIc σ cs/\kdc σ ks/\apC ks (I n) σ m) N (fun n=>qz P (F ()).fn (zq n ())) ⟨hc,hk,h0⟩ ?_ ?_ ?_
 .intro n σ m h
  rw [hz] at h
  obtain ⟨h1,h2⟩:=UIr_iff.1 h
  obtain ⟨h2,n',hn,h3⟩:=kdr_iff.1 h2
  exact ⟨n',hn,h1,h2,h3⟩
 .intro n e σ m hne h
  rw [hz] at h
  cases e with
  | normal=>exact absurd rfl hne
  | ret=>exact cast (congrFun (congrFun e3 σ) m).symm h
  | exit id=>exact exq_at he h
  | _=>exact h.elim
 .rintro n σ m ⟨h1,h2,h3⟩
  obtain ⟨s,h4,h5⟩:=alC_at (hs n σ) h2 h3
  have h5:XG_ P F w0 (zq n) (p+p) (chn σ (app s cs)) m:=h5
  rw [chn_id (UIc_app h1 h4)] at h5
  unfold XG_ XE_ at h5
  rw [congrFun e2 _] at h5
  exact h5
theorem gR {l cs:Sl} {ks:List (Nat × Kc)} {G:Cu ks} (hu:UIc σ l) (hm:markB (F ()).qs (sub (bodyOf (F ()).fn) (pth p))=true) {q:Prop} (hk:q=trC P w0 (F ()).qs (sub (bodyOf (F ()).fn) (pth p)) (chn σ l) m fun σ m=>UIr σ cs (kdr σ ks (apC ks G σ m)))
  (hq:∀ σ,alC ks G fun s m=>XE_ P F w0 z p .normal (chn σ (app s cs)) m) (h:q):XG_ P F w0 z p σ m:=by
 have h:=cast hk h
 rw [chn_id hu] at h
 exact vcS_cut hm h (gE hq)
end
structure Vn (C:Sort _) where
 p:Prop
 f:p->C
instance (C:Sort _):CoeFun (Vn C) (fun n=>n.p->C):=⟨Vn.f⟩
end Go.Alog
namespace Go.Alog
open Go
section
variable (cg0:Type)
variable (a0:Program)
variable (b0:Unit->Nfd)
variable (c0:World)
variable (d0:Unit->List (Nat × TD))
variable (e0:Unit->List (Nat × List Nat))
variable (f0 f1:List Value)
variable (g0 g1:AM)
variable (h0:RT)
variable (i0:Unit->Fz)
variable (j0 j1 j2 j3 j4:Nat)
variable (k0:Gm)
variable (l0 l1:Sl)
variable (n0:Sg)
variable (o0 o1:Tr)
variable (p0:List (Nat × Kc))
variable (r0:List Nat)
variable (s0:Nat × Value)
variable (t0:List (Nat × Value))
variable (u0:Sl->AM->Prop)
variable (v0:Cu [])
variable (aa0 aa1 aa2:Bool)
variable (ab0:Unit)
variable (ac0:List (Nat × List (Nat × Nat)))
variable (ad0:Func)
variable (ae0 ae1 ae2:Value)
variable (af0:Cx)
variable (ag0:Cf->Prop)
variable (ah0 ah1:Code)
variable (ai0:Bk)
variable (aj0:Oper)
variable (ak0:At)
variable (al0:List Kn)
variable (am0:List (Option Nat))
variable (an0:Option (List (Nat × Nat)))
variable (ao0:List Oper)
variable (ap0:Option Tmp)
variable (aq0:List ResultVar)
variable (ar0:Tmp)
variable (as0 as1 as2:TypeId)
variable (au0:Array Oper)
variable (av0 av1 av2:Operand)
variable (aw0:TD)
variable (ax0:Option Nat)
variable (ay0:Op)
variable (az0:String)
variable (ba0:Array Edge)
variable (bb0:Option (Nat × Bool))
variable (bc0:Kn)
variable (bd0 bd1:Option Bool)
variable (be0:Dt)
variable (bf0:BinOp)
variable (bg0:UnOp)
variable (bh0:Fn)
variable (bi0 bi1:Array Operand)
variable (bj0 bj1:Option Operand)
variable (bk0:Array (Nat × Operand))
variable (bl0:Array TypeId)
variable (bm0:Builtin)
variable (bn0:List (Nat × Nat))
variable (bo0:Option Addr)
variable (bp0 bp1:ByteArray)
variable (bq0 bq1:IntKind)
variable (br0 br1:Int)
variable (bs0:FuncId)
variable (bt0 bt1:Array Value)
variable (bu0:Lf)
variable (bv0:List Tk)
variable (bw0:List CK)
variable (bx0:CK)
variable (bz0:Addr)
variable (cb0:List (Nat × Ek))
variable (cc0 cc1:Ek)
variable (cd0:Nat × Ek)
variable (ce0:Prop)
variable (cf0:Nat × Kc)
variable (ck0:List Operand)
variable (cl0:List (Nat × Operand))
variable (q0:Cu p0)
variable (w0:Cu ((j0,Kc.i) :: p0))
variable (x0:Cu ((j0,Kc.b) :: p0))
variable (y0:Cu ((j0,Kc.s) :: p0))
variable (z0:Cu ((j0,Kc.p) :: p0))
variable (ca0:Nat->Cu p0)
variable (ch0 ch1 ch2:cg0)
variable (ci0:List (Nat × cg0))
variable (cj0:Nat × cg0)
variable (cm0:List cg0)
theorem qe1:stF a0 b0 c0 d0 e0 f0 g0 h0=run (Cx.mk a0 c0 (XG_ a0 b0 c0 (Tz h0)) (fun (x:Sl) (x_1:AM)=>True) (Nfd.cuts (b0 ())) (argS f0) (ix 0 f0) (Nfd.qs (b0 ())) (Fz.fn h0) (Array.toList (Func.results (Nfd.fn (b0 ())))) d0 e0) 4000 (Cf.go (bodyOf (Nfd.fn (b0 ()))) 1 Bk.top [] g0):=rfl
theorem qe2:stK a0 b0 c0 i0 j0 d0 e0 k0 l0 n0 g0=dwn (Cx.mk a0 c0 (XG_ a0 b0 c0 i0) (fun (x:Sl) (x_1:AM)=>True) (Nfd.cuts (b0 ())) n0 [] (Nfd.qs (b0 ())) (i0 ()) (Array.toList (Func.results (Nfd.fn (b0 ())))) d0 e0) k0 l0 g0 1 Bk.top (bodyOf (Nfd.fn (b0 ()))) (pth j0):=rfl
theorem qe3:stT a0 b0 c0 i0 j0 d0 e0 o0 l0 p0 q0 l1 n0 g0=dwn (Cx.mk a0 c0 (XG_ a0 b0 c0 i0) (lkq l0 p0 q0) (Nfd.cuts (b0 ())) n0 [] (Nfd.qs (b0 ())) (i0 ()) (Array.toList (Func.results (Nfd.fn (b0 ())))) d0 e0) (Gm.tr o0) l1 g0 1 Bk.top (bodyOf (Nfd.fn (b0 ()))) (pth j0):=rfl
theorem qe4:lkq l0 p0 q0 l1 g0=lkC l1 l0 (lkT p0 (apl l1 g0 p0 q0)):=rfl
theorem qe5:sel [] l0 = []:=rfl
theorem qe6:sel (j0 :: r0) l0=(j0,N.gtv l0 j0 undef) :: sel r0 l0:=rfl
theorem qe7:app [] l0=l0:=rfl
theorem qe8:app (s0 :: t0) l0=s0 :: app t0 l0:=rfl
theorem qe9:alC [] v0 u0 = ∀ (m:AM),v0 m->u0 [] m:=rfl
theorem qe10:alC ((j0,Kc.i) :: p0) w0 u0 = ∀ (x:Int),alC p0 (w0 x) fun (s:Sl) (m:AM)=>u0 ((j0,Value.int IntKind.i64 x) :: s) m:=rfl
theorem qe11:alC ((j0,Kc.b) :: p0) x0 u0 = ∀ (x:Bool),alC p0 (x0 x) fun (s:Sl) (m:AM)=>u0 ((j0,Value.bool x) :: s) m:=rfl
theorem qe12:alC ((j0,Kc.s) :: p0) y0 u0 = ∀ (x:Option Addr) (n c:Nat),alC p0 (y0 x n c) fun (s:Sl) (m:AM)=>u0 ((j0,Value.slice x n c) :: s) m:=rfl
theorem qe13:alC ((j0,Kc.p) :: p0) z0 u0 = ∀ (x:Nat),alC p0 (z0 x) fun (s:Sl) (m:AM)=>u0 ((j0,Value.pointer (some (Addr.mk x 0 none))) :: s) m:=rfl
theorem qe14:pth j0=pthF 100 (j0 == 1) j0 []:=rfl
theorem qe15:pthF 0 aa0 j0 r0=r0:=rfl
theorem qe16:pthF (Nat.succ j1) true j0 r0=r0:=rfl
theorem qe17:pthF (Nat.succ j1) false j0 r0=pthF j1 (j0 / 2 == 1) (j0 / 2) (j0 % 2 :: r0):=rfl
theorem qe18:Tz h0 ab0=Fz.fn h0:=rfl
theorem qe19:qsf ac0 j0=N.gtl [] ac0 j0:=rfl
theorem qe20:q0_ j0 = []:=rfl
theorem qe21:bodyOf ad0=match Func.body ad0 with | some c=>c | none=>Code.skip:=rfl
theorem qe22:ix j0 [] = []:=rfl
theorem qe23:ix j0 (ae0 :: f0)=(j0,ae0) :: ix (j0+1) f0:=rfl
theorem qe24:stp af0 ag0 (Cf.go ah0 j0 ai0 l0 g0)=goK af0 ag0 ah0 j0 ai0 l0 g0 (N.inL j0 (Cx.cuts af0)):=rfl
theorem qe25:stp af0 ag0 (Cf.gu true aj0 ak0 al0 g0)=rnA af0 ag0 aj0 ak0 al0 g0:=rfl
theorem qe26:stp af0 ag0 (Cf.gu false aj0 ak0 al0 g0)=skA ag0 aj0 ak0 al0 g0:=rfl
theorem qe27:stp af0 ag0 (Cf.rt Bk.top l0 g0)=fzN af0 ag0 l0 g0 (Cx.fz af0):=rfl
theorem qe28:stp af0 ag0 (Cf.rt (Bk.seq ah0 j0 ai0) l0 g0)=ag0 (Cf.go ah0 j0 ai0 l0 g0):=rfl
theorem qe29:stp af0 ag0 (Cf.rt (Bk.blk j0 ai0) l0 g0)=ag0 (Cf.rt ai0 l0 g0):=rfl
theorem qe30:stp af0 ag0 (Cf.xt j0 Bk.top l0 g0)=fzX j0 l0 g0 (Cx.fz af0):=rfl
theorem qe31:stp af0 ag0 (Cf.xt j0 (Bk.seq ah0 j1 ai0) l0 g0)=ag0 (Cf.xt j0 ai0 l0 g0):=rfl
theorem qe32:stp af0 ag0 (Cf.xt j0 (Bk.blk j1 ai0) l0 g0)=xtK ag0 ai0 j0 l0 g0 (j0 == j1):=rfl
theorem qe33:stp af0 ag0 (Cf.re Bk.top l0 g0)=fzR af0 ag0 l0 g0 (Cx.fz af0):=rfl
theorem qe34:stp af0 ag0 (Cf.re (Bk.seq ah0 j0 ai0) l0 g0)=ag0 (Cf.re ai0 l0 g0):=rfl
theorem qe35:stp af0 ag0 (Cf.re (Bk.blk j0 ai0) l0 g0)=ag0 (Cf.re ai0 l0 g0):=rfl
theorem qe36:stp af0 ag0 (Cf.al [] am0 al0 j0 an0 ai0 l0 g0)=ag0 (Cf.rt ai0 l0 g0):=rfl
theorem qe37:stp af0 ag0 (Cf.al (aj0 :: ao0) am0 al0 j0 an0 ai0 l0 g0)=goG af0 ag0 aj0 (At.mk ao0 am0 [] j0 an0 ai0 l0 none) al0 g0 (Oper.guard aj0):=rfl
theorem qe38:stp af0 ag0 (Cf.nx (Dt.op ap0 ao0 am0 al0 j0 an0 ai0 l0) ae0 g0)=ag0 (Cf.al ao0 am0 (keepK al0 ap0) j0 an0 ai0 (putd l0 ae0 ap0) g0):=rfl
theorem qe39:stp af0 ag0 (Cf.tr Tr.z ao0 am0 al0 an0 l0 g0)=(true=true/\Cx.W2 af0 l0 g0):=rfl
theorem qe40:stp af0 ag0 (Cf.tr Tr.e ao0 am0 al0 an0 l0 g0)=Cx.W2 af0 l0 g0:=rfl
theorem qe41:stp af0 ag0 (Cf.tr (Tr.o j0 o0) ao0 am0 al0 an0 l0 g0)=trG af0 ag0 (N.nth nop ao0 j0) j0 o0 ao0 am0 al0 an0 l0 g0:=rfl
theorem qe42:stp af0 ag0 (Cf.tr (Tr.a o0 o1) ao0 am0 al0 an0 l0 g0)=(ag0 (Cf.tr o0 ao0 am0 al0 an0 l0 g0)/\ag0 (Cf.tr o1 ao0 am0 al0 an0 l0 g0)):=rfl
theorem qe43:stp af0 ag0 (Cf.nx (Dt.tr ap0 o0 ao0 am0 al0 an0 l0) ae0 g0)=ag0 (Cf.tr o0 ao0 am0 (keepK al0 ap0) an0 (putd l0 ae0 ap0) g0):=rfl
theorem qe44:stp af0 ag0 (Cf.nx (Dt.fr aq0 f0 h0 l0) ae0 g0)=ag0 (Cf.fr aq0 (f0 ++ [ae0]) h0 l0 g0):=rfl
theorem qe45:stp af0 ag0 (Cf.fr [] f0 h0 l0 g0)=RetP h0 (pks f0) g0:=rfl
theorem qe46:stp af0 ag0 (Cf.fr (ResultVar.tmp ar0 :: aq0) f0 h0 l0 g0)=ag0 (Cf.fr aq0 (f0 ++ [N.ev l0 (Cx.ini af0) (Operand.tmp ar0)]) h0 l0 g0):=rfl
theorem qe47:stp af0 ag0 (Cf.fr (ResultVar.cell ar0 as0 :: aq0) f0 h0 l0 g0)=frC ag0 aq0 f0 h0 l0 g0 (Cx.t af0 as0) (N.ev l0 (Cx.ini af0) (Operand.tmp ar0)):=rfl
theorem qe48:goK af0 ag0 ah0 j0 ai0 l0 g0 true=Cx.W af0 j0 (N.chn (Cx.base af0) l0) g0:=rfl
theorem qe49:goK af0 ag0 ah0 j0 ai0 l0 g0 false=goC af0 ag0 j0 ai0 l0 g0 ah0:=rfl
theorem qe50:goC af0 ag0 j0 ai0 l0 g0 Code.skip=ag0 (Cf.rt ai0 l0 g0):=rfl
theorem qe51:goC af0 ag0 j0 ai0 l0 g0 (Code.label j1)=ag0 (Cf.rt ai0 l0 g0):=rfl
theorem qe52:goC af0 ag0 j0 ai0 l0 g0 (Code.region j1 au0 aa0)=ag0 (Cf.al (slm (Array.toList au0)) (dss (Array.toList au0)) [] 0 (qof af0 j1 aa0) ai0 l0 g0):=rfl
theorem qe53:goC af0 ag0 j0 ai0 l0 g0 (Code.seq ah0 ah1)=ag0 (Cf.go ah0 (j0+j0) (Bk.seq ah1 (j0+j0+1) ai0) l0 g0):=rfl
theorem qe54:goC af0 ag0 j0 ai0 l0 g0 (Code.cond av0 ah0 ah1)=cnV ag0 ah0 ah1 j0 ai0 l0 g0 (N.ev l0 (Cx.ini af0) av0):=rfl
theorem qe55:goC af0 ag0 j0 ai0 l0 g0 (Code.block j1 ah0)=ag0 (Cf.go ah0 (j0+j0) (Bk.blk j1 ai0) l0 g0):=rfl
theorem qe56:goC af0 ag0 j0 ai0 l0 g0 (Code.exit j1)=ag0 (Cf.xt j1 ai0 l0 g0):=rfl
theorem qe57:goC af0 ag0 j0 ai0 l0 g0 Code.ret=ag0 (Cf.re ai0 l0 g0):=rfl
theorem qe58:qof af0 j0 true=some (Cx.qs af0 j0):=rfl
theorem qe59:qof af0 j0 false=none:=rfl
theorem qe60:xtK ag0 ai0 j0 l0 g0 true=ag0 (Cf.rt ai0 l0 g0):=rfl
theorem qe61:xtK ag0 ai0 j0 l0 g0 false=ag0 (Cf.xt j0 ai0 l0 g0):=rfl
theorem qe62:frC ag0 aq0 f0 h0 l0 g0 aw0 ae0=ldA ag0 aw0 (Dt.fr aq0 f0 h0 l0) g0 ae0:=rfl
theorem qe63:trG af0 ag0 aj0 j0 o0 ao0 am0 al0 an0 l0 g0=goG af0 ag0 aj0 (At.mk [] am0 ao0 j0 an0 Bk.top l0 (some o0)) al0 g0 (Oper.guard aj0):=rfl
theorem qe64:dtA aj0 ak0 al0 none=Dt.op (Oper.dst aj0) (At.r ak0) (At.ops ak0) al0 (At.i ak0+1) (At.q ak0) (At.k ak0) (At.σ ak0):=rfl
theorem qe65:dtA aj0 ak0 al0 (some o0)=Dt.tr (Oper.dst aj0) o0 (At.opl ak0) (At.ops ak0) al0 (At.q ak0) (At.σ ak0):=rfl
theorem qe66:goG af0 ag0 aj0 ak0 al0 g0 none=rnA af0 ag0 aj0 ak0 al0 g0:=rfl
theorem qe67:goG af0 ag0 aj0 ak0 al0 g0 (some (j0,aa0))=gdA af0 ag0 aj0 ak0 al0 g0 j0 aa0 (lg j0 aa0 al0):=rfl
theorem qe68:gdA af0 ag0 aj0 ak0 al0 g0 j0 aa0 (some true)=rnA af0 ag0 aj0 ak0 al0 g0:=rfl
theorem qe69:gdA af0 ag0 aj0 ak0 al0 g0 j0 aa0 (some false)=skA ag0 aj0 ak0 al0 g0:=rfl
theorem qe70:gdA af0 ag0 aj0 ak0 al0 g0 j0 aa0 none=gdD af0 ag0 aj0 ak0 al0 g0 j0 aa0 (N.nth none (At.ops ak0) j0):=rfl
theorem qe71:gdD af0 ag0 aj0 ak0 al0 g0 j0 aa0 none=skA ag0 aj0 ak0 (Kn.mk j0 aa0 none false :: al0) g0:=rfl
theorem qe72:gdD af0 ag0 aj0 ak0 al0 g0 j0 aa0 (some j1)=gdV ag0 aj0 ak0 al0 g0 j0 aa0 (some j1) (N.gtv (At.σ ak0) j1 (N.gtv (Cx.ini af0) j1 undef)):=rfl
theorem qe73:bcA ag0 aj0 ak0 al0 g0 j0 ax0 aa0 true=cnB ag0 aa0 (Cf.gu true aj0 ak0 (Kn.mk j0 true ax0 true :: al0) g0) (Cf.gu false aj0 ak0 (Kn.mk j0 true ax0 false :: al0) g0):=rfl
theorem qe74:bcA ag0 aj0 ak0 al0 g0 j0 ax0 aa0 false=cnB ag0 aa0 (Cf.gu false aj0 ak0 (Kn.mk j0 false ax0 false :: al0) g0) (Cf.gu true aj0 ak0 (Kn.mk j0 false ax0 true :: al0) g0):=rfl
theorem qe75:skA ag0 aj0 ak0 al0 g0=ag0 (Cf.nx (dtA aj0 ak0 al0 (At.tr ak0)) undef g0):=rfl
theorem qe76:rnA af0 ag0 aj0 ak0 al0 g0=opA af0 ag0 (At.σ ak0) (Oper.type aj0) (At.i ak0) (At.q ak0) (dtA aj0 ak0 al0 (At.tr ak0)) g0 (Oper.op aj0):=rfl
theorem qe77:slm [] = []:=rfl
theorem qe78 : slm (Oper.mk ap0 ay0 as0 az0 ba0 bb0 :: ao0) = Oper.mk ap0 ay0 as0 "" #[] bb0 :: slm ao0 := rfl
theorem qe79:dss [] = []:=rfl
theorem qe80:dss (Oper.mk ap0 ay0 as0 az0 ba0 bb0 :: ao0)=ap0 :: dss ao0:=rfl
theorem qe81:lg j0 aa0 []=none:=rfl
theorem qe82:lg j0 aa0 (bc0 :: al0)=lgK (N.andK (Kn.j bc0 == j0) (beqb (Kn.w bc0) aa0)) (some (Kn.b bc0)) (lg j0 aa0 al0):=rfl
theorem qe83:lgK true bd0 bd1=bd0:=rfl
theorem qe84:lgK false bd0 bd1=bd1:=rfl
theorem qe85:beqb true aa0=aa0:=rfl
theorem qe86:beqb false true=false:=rfl
theorem qe87:beqb false false=true:=rfl
theorem qe88:keepK al0 none=al0:=rfl
theorem qe89:keepK al0 (some ar0)=kf al0 ar0:=rfl
theorem qe90:kf [] j0 = []:=rfl
theorem qe91:kf (bc0 :: al0) j0=kfK (eqo (Kn.d bc0) j0) bc0 (kf al0 j0):=rfl
theorem qe92:kfK true bc0 al0=al0:=rfl
theorem qe93:kfK false bc0 al0=bc0 :: al0:=rfl
theorem qe94:eqo none j0=false:=rfl
theorem qe95:eqo (some j1) j0=(j1 == j0):=rfl
theorem qe96:putd l0 ae0 none=l0:=rfl
theorem qe97:putd l0 ae0 (some ar0)=(ar0,ae0) :: l0:=rfl
theorem qe98:opA af0 ag0 l0 as0 j0 an0 be0 g0 (Op.move av0)=ag0 (Cf.nx be0 (N.ev l0 (Cx.ini af0) av0) g0):=rfl
theorem qe99:opA af0 ag0 l0 as0 j0 an0 be0 g0 (Op.assign av0)=ag0 (Cf.nx be0 (N.ev l0 (Cx.ini af0) av0) g0):=rfl
theorem qe100:opA af0 ag0 l0 as0 j0 an0 be0 g0 (Op.pick av0 av1 av2)=pkA ag0 be0 g0 (N.ev l0 (Cx.ini af0) av0) (N.ev l0 (Cx.ini af0) av1) (N.ev l0 (Cx.ini af0) av2):=rfl
theorem qe101:opA af0 ag0 l0 as0 j0 an0 be0 g0 (Op.nilCheck av0)=nlA ag0 be0 g0 (N.ev l0 (Cx.ini af0) av0):=rfl
theorem qe102:opA af0 ag0 l0 as0 j0 an0 be0 g0 (Op.binOp bf0 as1 av0 av1 as2)=biA ag0 (Cx.P af0) bf0 as1 be0 g0 (N.ev l0 (Cx.ini af0) av0) (N.ev l0 (Cx.ini af0) av1):=rfl
theorem qe103:opA af0 ag0 l0 as0 j0 an0 be0 g0 (Op.unOp bg0 as1 av0)=unA ag0 be0 g0 bg0 (N.ev l0 (Cx.ini af0) av0):=rfl
theorem qe104:opA af0 ag0 l0 as0 j0 an0 be0 g0 (Op.convert as1 as2 av0)=cvA ag0 (Cx.P af0) (Cx.w0 af0) as1 as2 be0 g0 (TD.cks (Cx.t af0 as2)) (N.ev l0 (Cx.ini af0) av0):=rfl
theorem qe105:opA af0 ag0 l0 as0 j0 an0 be0 g0 (Op.fieldAddr as1 av0 j1)=faA ag0 (Prod.fst (N.nth (0,0) (TD.fs (Cx.t af0 as1)) j1)) be0 g0 (N.ev l0 (Cx.ini af0) av0):=rfl
theorem qe106:opA af0 ag0 l0 as0 j0 an0 be0 g0 (Op.field as1 av0 j1)=fdA ag0 (Prod.fst (N.nth (0,0) (TD.fs (Cx.t af0 as1)) j1)) (Cx.sz af0 (Prod.snd (N.nth (0,0) (TD.fs (Cx.t af0 as1)) j1))) (TD.agg (Cx.t af0 (Prod.snd (N.nth (0,0) (TD.fs (Cx.t af0 as1)) j1)))) be0 g0 (N.ev l0 (Cx.ini af0) av0):=rfl
theorem qe107:opA af0 ag0 l0 as0 j0 an0 be0 g0 (Op.indexAddr as1 av0 av1)=ixA ag0 (Cx.sz af0 (TD.el (Cx.t af0 as1))) (TD.by_ (Cx.t af0 as1)) be0 g0 (N.ev l0 (Cx.ini af0) av0) (N.ev l0 (Cx.ini af0) av1):=rfl
theorem qe108:opA af0 ag0 l0 as0 j0 an0 be0 g0 (Op.index as1 av0 av1)=inA ag0 be0 g0 (N.ev l0 (Cx.ini af0) av0) (N.ev l0 (Cx.ini af0) av1):=rfl
theorem qe109:opA af0 ag0 l0 as0 j0 an0 be0 g0 (Op.extract av0 j1)=exA ag0 j1 be0 g0 (N.ev l0 (Cx.ini af0) av0):=rfl
theorem qe110:opA af0 ag0 l0 as0 j0 an0 be0 g0 (Op.makeFunc bh0 bi0 bi1)=ag0 (Cf.nx be0 (Value.func bh0 (List.toArray (N.evs l0 (Cx.ini af0) (Array.toList bi0))) (List.toArray (N.evs l0 (Cx.ini af0) (Array.toList bi1)))) g0):=rfl
theorem qe111:opA af0 ag0 l0 as0 j0 an0 be0 g0 (Op.slice as1 av0 bj0 bj1 none)=slA ag0 (Cx.sz af0 (TD.el (Cx.t af0 as1))) be0 g0 (N.ev l0 (Cx.ini af0) av0) (N.evo l0 (Cx.ini af0) bj0) (N.evo l0 (Cx.ini af0) bj1):=rfl
theorem qe112:opA af0 ag0 l0 as0 j0 an0 be0 g0 (Op.load as1 av0)=ldA ag0 (Cx.t af0 as1) be0 g0 (N.ev l0 (Cx.ini af0) av0):=rfl
theorem qe113:opA af0 ag0 l0 as0 j0 an0 be0 g0 (Op.store as1 av0 av1)=stA ag0 (Cx.w0 af0) (N.vcl (N.ev l0 (Cx.ini af0) av1)) be0 g0 (N.ev l0 (Cx.ini af0) av0):=rfl
theorem qe114:opA af0 ag0 l0 as0 j0 an0 be0 g0 (Op.alloc as1)=nwA ag0 (Cx.w0 af0) as1 (N.zcs (TD.cks (Cx.t af0 as1))) be0 g0:=rfl
theorem qe115:opA af0 ag0 l0 as0 j0 an0 be0 g0 (Op.box as1 av0)=nwA ag0 (Cx.w0 af0) as1 (N.vcl (N.ev l0 (Cx.ini af0) av0)) be0 g0:=rfl
theorem qe116:opA af0 ag0 l0 as0 j0 an0 be0 g0 (Op.makeSlice as1 av0 av1)=mkA ag0 (Cx.w0 af0) (TD.el (Cx.t af0 as1)) (TD.by_ (Cx.t af0 (TD.el (Cx.t af0 as1)))) (N.zcs (TD.cks (Cx.t af0 (TD.el (Cx.t af0 as1))))) be0 g0 (N.ev l0 (Cx.ini af0) av0) (N.ev l0 (Cx.ini af0) av1):=rfl
theorem qe117:opA af0 ag0 l0 as0 j0 an0 be0 g0 (Op.buildSlice as1 j1 bk0)=bsA ag0 (Cx.w0 af0) (TD.el (Cx.t af0 as1)) j1 (N.spz (Cx.sz af0 (TD.el (Cx.t af0 as1))) (N.evp l0 (Cx.ini af0) (Array.toList bk0)) (N.rep (N.zcs (TD.cks (Cx.t af0 (TD.el (Cx.t af0 as1))))) j1)) be0 g0:=rfl
theorem qe118:opA af0 ag0 l0 as0 j0 an0 be0 g0 (Op.build as1 bk0)=(true=true/\ag0 (Cf.nx be0 (Value.agg (List.toArray (N.spf (TD.fs (Cx.t af0 as1)) (N.evp l0 (Cx.ini af0) (Array.toList bk0)) (N.zcs (TD.cks (Cx.t af0 as1)))))) g0)):=rfl
theorem qe119:opA af0 ag0 l0 as0 j0 an0 be0 g0 (Op.makeMap as1 none)=mmA ag0 (Cx.w0 af0) be0 g0:=rfl
theorem qe120:opA af0 ag0 l0 as0 j0 an0 be0 g0 (Op.lookup as1 av0 av1 true)=luT ag0 (Cx.P af0) as1 (N.ev l0 (Cx.ini af0) av0) (N.ev l0 (Cx.ini af0) av1) be0 g0 (TD.cks (Cx.t af0 (TD.el (Cx.t af0 as1)))):=rfl
theorem qe121:opA af0 ag0 l0 as0 j0 an0 be0 g0 (Op.lookup as1 av0 av1 false)=luF ag0 (Cx.P af0) as1 (N.ev l0 (Cx.ini af0) av0) (N.ev l0 (Cx.ini af0) av1) be0 g0 (TD.cks (Cx.t af0 (TD.el (Cx.t af0 as1)))):=rfl
theorem qe122:opA af0 ag0 l0 as0 j0 an0 be0 g0 (Op.mapUpdate as1 av0 av1 av2)=muA ag0 (Cx.P af0) (Cx.w0 af0) as1 (N.ev l0 (Cx.ini af0) av0) (N.ev l0 (Cx.ini af0) av1) (N.ev l0 (Cx.ini af0) av2) be0 g0:=rfl
theorem qe123:opA af0 ag0 l0 as0 j0 an0 be0 g0 (Op.insert as1 av0 av1 av2)=muA ag0 (Cx.P af0) (Cx.w0 af0) as1 (N.ev l0 (Cx.ini af0) av0) (N.ev l0 (Cx.ini af0) av1) (N.ev l0 (Cx.ini af0) av2) be0 g0:=rfl
theorem qe124:opA af0 ag0 l0 as0 j0 an0 be0 g0 (Op.call (Call.mk (Callee.value av0) bi0 bl0))=clV af0 ag0 (N.evs l0 (Cx.ini af0) (Array.toList bi0)) (cls an0 j0) be0 g0 (N.ev l0 (Cx.ini af0) av0):=rfl
theorem qe125:opA af0 ag0 l0 as0 j0 an0 be0 g0 (Op.call (Call.mk (Callee.builtin bm0) bi0 bl0))=blA ag0 (Cx.P af0) (Cx.w0 af0) bl0 as0 be0 g0 bm0 (N.evs l0 (Cx.ini af0) (Array.toList bi0)):=rfl
theorem qe126:cls none j0=3:=rfl
theorem qe127:cls (some bn0) j0=N.gtl 3 bn0 j0:=rfl
theorem qe128:blA ag0 a0 c0 bl0 as0 be0 g0 Builtin.len [Value.slice bo0 j0 j1]=ag0 (Cf.nx be0 (Value.int IntKind.i64 ↑j0) g0):=rfl
theorem qe129:blA ag0 a0 c0 bl0 as0 be0 g0 Builtin.len [Value.string bp0]=ag0 (Cf.nx be0 (Value.int IntKind.i64 ↑(ByteArray.size bp0)) g0):=rfl
theorem qe130:blA ag0 a0 c0 bl0 as0 be0 g0 Builtin.cap [Value.slice bo0 j0 j1]=ag0 (Cf.nx be0 (Value.int IntKind.i64 ↑j1) g0):=rfl
theorem qe131:blA ag0 a0 c0 bl0 as0 be0 g0 Builtin.min [Value.int bq0 br0,Value.int bq1 br1]=(bq0=bq1/\ag0 (Cf.nx be0 (Value.int bq0 (if br1<br0 then br1 else br0)) g0)):=rfl
theorem qe132:blA ag0 a0 c0 bl0 as0 be0 g0 Builtin.max [Value.int bq0 br0,Value.int bq1 br1]=(bq0=bq1/\ag0 (Cf.nx be0 (Value.int bq0 (if br1>br0 then br1 else br0)) g0)):=rfl
theorem qe133:blA ag0 a0 c0 bl0 as0 be0 g0 Builtin.append f0=awp a0 (Array.size (World.heap c0)) (Builtin.append_ bl0 as0 (List.toArray f0)) g0 fun (v:Value) (m':AM)=>∃ (A:Option Addr),∃ (n:Nat),∃ (c:Nat),v=Value.slice A n c/\ag0 (Cf.nx be0 (Value.slice A n c) m'):=rfl
theorem qe134:blA ag0 a0 c0 bl0 as0 be0 g0 Builtin.copy f0=awp a0 (Array.size (World.heap c0)) (Builtin.copy_ bl0 as0 (List.toArray f0)) g0 fun (v:Value) (m':AM)=>∃ (n:Int),v=Value.int IntKind.i64 n/\ag0 (Cf.nx be0 (Value.int IntKind.i64 n) m'):=rfl
theorem qe135:blA ag0 a0 c0 bl0 as0 be0 g0 Builtin.clear f0=awp a0 (Array.size (World.heap c0)) (Builtin.clear_ bl0 as0 (List.toArray f0)) g0 fun (v:Value) (m':AM)=>v=Value.tuple #[]/\ag0 (Cf.nx be0 (Value.tuple #[]) m'):=rfl
theorem qe136:clV af0 ag0 f0 j0 be0 g0 (Value.func (Fn.func bs0) bt0 bt1)=clC ag0 (Cx.P af0) (Cx.w0 af0) (tks af0 (N.gtl [] (Cx.sg af0 ()) bs0)) bs0 (Array.toList bt0 ++ f0 ++ Array.toList bt1) be0 g0 j0:=rfl
theorem qe137:rsv ag0 a0 c0 be0 g0 bu0 [] f0 f1=lfA ag0 a0 c0 be0 g0 (pks f1) bu0:=rfl
theorem qe138:rsv ag0 a0 c0 be0 g0 bu0 (Tk.e :: bv0) f0 f1=rsv ag0 a0 c0 be0 g0 bu0 bv0 [] (f1 ++ [Value.agg (List.toArray f0)]):=rfl
theorem qe139:rsv ag0 a0 c0 be0 g0 bu0 (Tk.s (CK.int bq0) :: bv0) f0 f1 = ∃ (i:Int),rsv ag0 a0 c0 be0 g0 bu0 bv0 f0 (f1 ++ [Value.int bq0 i]):=rfl
theorem qe140:rsv ag0 a0 c0 be0 g0 bu0 (Tk.s CK.bool :: bv0) f0 f1 = ∃ (i:Bool),rsv ag0 a0 c0 be0 g0 bu0 bv0 f0 (f1 ++ [Value.bool i]):=rfl
theorem qe141:rsv ag0 a0 c0 be0 g0 bu0 (Tk.s CK.str :: bv0) f0 f1 = ∃ (i:ByteArray),rsv ag0 a0 c0 be0 g0 bu0 bv0 f0 (f1 ++ [Value.string i]):=rfl
theorem qe142:rsv ag0 a0 c0 be0 g0 bu0 (Tk.s CK.ptr :: bv0) f0 f1 = ∃ (i:Option Addr),rsv ag0 a0 c0 be0 g0 bu0 bv0 f0 (f1 ++ [Value.pointer i]):=rfl
theorem qe143:rsv ag0 a0 c0 be0 g0 bu0 (Tk.s CK.slice :: bv0) f0 f1 = ∃ (A:Option Addr),∃ (n:Nat),∃ (c:Nat),rsv ag0 a0 c0 be0 g0 bu0 bv0 f0 (f1 ++ [Value.slice A n c]):=rfl
theorem qe144:rsv ag0 a0 c0 be0 g0 bu0 (Tk.s CK.map :: bv0) f0 f1 = ∃ (i:Option Nat),rsv ag0 a0 c0 be0 g0 bu0 bv0 f0 (f1 ++ [Value.map i]):=rfl
theorem qe145:rsv ag0 a0 c0 be0 g0 bu0 (Tk.s CK.any :: bv0) f0 f1 = ∃ (v:Value),rsv ag0 a0 c0 be0 g0 bu0 bv0 f0 (f1 ++ [v]):=rfl
theorem qe146:rsv ag0 a0 c0 be0 g0 bu0 (Tk.i (CK.int bq0) :: bv0) f0 f1 = ∃ (i:Int),rsv ag0 a0 c0 be0 g0 bu0 bv0 (f0 ++ [Value.int bq0 i]) f1:=rfl
theorem qe147:rsv ag0 a0 c0 be0 g0 bu0 (Tk.i CK.bool :: bv0) f0 f1 = ∃ (i:Bool),rsv ag0 a0 c0 be0 g0 bu0 bv0 (f0 ++ [Value.bool i]) f1:=rfl
theorem qe148:rsv ag0 a0 c0 be0 g0 bu0 (Tk.i CK.str :: bv0) f0 f1 = ∃ (i:ByteArray),rsv ag0 a0 c0 be0 g0 bu0 bv0 (f0 ++ [Value.string i]) f1:=rfl
theorem qe149:rsv ag0 a0 c0 be0 g0 bu0 (Tk.i CK.ptr :: bv0) f0 f1 = ∃ (i:Option Addr),rsv ag0 a0 c0 be0 g0 bu0 bv0 (f0 ++ [Value.pointer i]) f1:=rfl
theorem qe150:rsv ag0 a0 c0 be0 g0 bu0 (Tk.i CK.slice :: bv0) f0 f1 = ∃ (A:Option Addr),∃ (n:Nat),∃ (c:Nat),rsv ag0 a0 c0 be0 g0 bu0 bv0 (f0 ++ [Value.slice A n c]) f1:=rfl
theorem qe151:rsv ag0 a0 c0 be0 g0 bu0 (Tk.i CK.map :: bv0) f0 f1 = ∃ (i:Option Nat),rsv ag0 a0 c0 be0 g0 bu0 bv0 (f0 ++ [Value.map i]) f1:=rfl
theorem qe152:rsv ag0 a0 c0 be0 g0 bu0 (Tk.i CK.any :: bv0) f0 f1 = ∃ (v:Value),rsv ag0 a0 c0 be0 g0 bu0 bv0 (f0 ++ [v]) f1:=rfl
theorem qe153:lfA ag0 a0 c0 be0 g0 ae0 (Lf.q bs0 bt0 g1)=((CallsA a0 c0 bs0 bt0 g1 fun (r:Value) (m':AM)=>r=ae0/\m'=g1)/\ag0 (Cf.nx be0 ae0 g0)):=rfl
theorem qe154:lfA ag0 a0 c0 be0 g0 ae0 (Lf.r ae1)=(ae1=ae0/\ag0 (Cf.nx be0 ae0 g0)):=rfl
theorem qe155:tks af0 [] = []:=rfl
theorem qe156:tks af0 (j0 :: r0)=tk1 (Cx.t af0 j0) (tks af0 r0):=rfl
theorem qe157:tk1 (TD.mk true bw0 bn0 j0 j1) bv0=tki bw0 bv0:=rfl
theorem qe158:tk1 (TD.mk false [bx0] bn0 j0 j1) bv0=Tk.s bx0 :: bv0:=rfl
theorem qe159:tki [] bv0=Tk.e :: bv0:=rfl
theorem qe160:tki (bx0 :: bw0) bv0=Tk.i bx0 :: tki bw0 bv0:=rfl
theorem qe161:muA ag0 a0 c0 j0 ae0 ae1 ae2 be0 g0=awp a0 (Array.size (World.heap c0)) (Instr.mapUpdate j0 ae0 ae1 ae2) g0 fun (x:Unit) (m':AM)=>ag0 (Cf.nx be0 undef m'):=rfl
theorem qe162:luF ag0 a0 j0 ae0 ae1 be0 g0 [CK.int bq0] = ∃ (v:Int),rval a0 g0 (Instr.lookup j0 ae0 ae1 false)=some (Value.int bq0 v)/\ag0 (Cf.nx be0 (Value.int bq0 v) g0):=rfl
theorem qe163:luF ag0 a0 j0 ae0 ae1 be0 g0 [CK.bool] = ∃ (v:Bool),rval a0 g0 (Instr.lookup j0 ae0 ae1 false)=some (Value.bool v)/\ag0 (Cf.nx be0 (Value.bool v) g0):=rfl
theorem qe164:luT ag0 a0 j0 ae0 ae1 be0 g0 [CK.int bq0] = ∃ (v:Int),∃ (ok:Bool),rval a0 g0 (Instr.lookup j0 ae0 ae1 true)=some (Value.tuple #[Value.int bq0 v,Value.bool ok])/\ag0 (Cf.nx be0 (Value.tuple #[Value.int bq0 v,Value.bool ok]) g0):=rfl
theorem qe165:luT ag0 a0 j0 ae0 ae1 be0 g0 [CK.bool] = ∃ (v:Bool),∃ (ok:Bool),rval a0 g0 (Instr.lookup j0 ae0 ae1 true)=some (Value.tuple #[Value.bool v,Value.bool ok])/\ag0 (Cf.nx be0 (Value.tuple #[Value.bool v,Value.bool ok]) g0):=rfl
theorem qe166:mmA ag0 c0 be0 g0=N_ c0 g0 (Obj.map #[] 0) fun (b:Nat) (m':AM)=>ag0 (Cf.nx be0 (Value.map (some b)) m'):=rfl
theorem qe167:bsA ag0 c0 j0 j1 f0 be0 g0=(true=true/\N_ c0 g0 (Obj.cells (List.toArray f0) j0) fun (b:Nat) (m':AM)=>ag0 (Cf.nx be0 (Value.slice (some (Addr.mk b 0 none)) j1 j1) m')):=rfl
theorem qe168:mkA ag0 c0 j0 j1 f0 be0 g0 (Value.int bq0 br0) (Value.int bq1 br1)=((0<=br0/\br0<=br1/\br1<=9223372036854775807/\↑j1*br1<=281474976710656)/\N_ c0 g0 (Obj.cells (List.toArray (zeros f0 (Int.toNat br1))) j0) fun (b:Nat) (m':AM)=>ag0 (Cf.nx be0 (Value.slice (some (Addr.mk b 0 none)) (Int.toNat br0) (Int.toNat br1)) m')):=rfl
theorem qe169:nwA ag0 c0 j0 f0 be0 g0=N_ c0 g0 (Obj.cells (List.toArray f0) j0) fun (b:Nat) (m':AM)=>ag0 (Cf.nx be0 (Value.pointer (some (Addr.mk b 0 none))) m'):=rfl
theorem qe170:slA ag0 j0 be0 g0 (Value.slice bo0 j1 j2) none none=slL ag0 j0 be0 g0 bo0 j2 j1 0:=rfl
theorem qe171:slA ag0 j0 be0 g0 (Value.slice bo0 j1 j2) (some (Value.int bq0 br0)) none=(0<=br0/\slL ag0 j0 be0 g0 bo0 j2 j1 (Int.toNat br0)):=rfl
theorem qe172:slA ag0 j0 be0 g0 (Value.slice bo0 j1 j2) none (some (Value.int bq0 br0))=(0<=br0/\slL ag0 j0 be0 g0 bo0 j2 (Int.toNat br0) 0):=rfl
theorem qe173:slA ag0 j0 be0 g0 (Value.slice bo0 j1 j2) (some (Value.int bq0 br0)) (some (Value.int bq1 br1))=(0<=br1/\0<=br0/\slL ag0 j0 be0 g0 bo0 j2 (Int.toNat br1) (Int.toNat br0)):=rfl
theorem qe174:slA ag0 j0 be0 g0 (Value.string bp0) none none=slT ag0 be0 g0 bp0 (ByteArray.size bp0) 0:=rfl
theorem qe175:slA ag0 j0 be0 g0 (Value.string bp0) (some (Value.int bq0 br0)) none=(0<=br0/\slT ag0 be0 g0 bp0 (ByteArray.size bp0) (Int.toNat br0)):=rfl
theorem qe176:slA ag0 j0 be0 g0 (Value.string bp0) none (some (Value.int bq0 br0))=(0<=br0/\slT ag0 be0 g0 bp0 (Int.toNat br0) 0):=rfl
theorem qe177:slA ag0 j0 be0 g0 (Value.string bp0) (some (Value.int bq0 br0)) (some (Value.int bq1 br1))=(0<=br1/\0<=br0/\slT ag0 be0 g0 bp0 (Int.toNat br1) (Int.toNat br0)):=rfl
theorem qe178:slT ag0 be0 g0 bp0 j0 j1=(j0<=ByteArray.size bp0/\j1<=j0/\ag0 (Cf.nx be0 (Value.string (ByteArray.extract bp0 j1 j0)) g0)):=rfl
theorem qe179:slL ag0 j0 be0 g0 bo0 j1 j2 j3=(j2<=j1/\j3<=j2/\ag0 (Cf.nx be0 (Value.slice (if j1=j3 then bo0 else Option.map (fun (x:Addr)=>Addr.add x (j3*j0)) bo0) (j2-j3) (j1-j3)) g0)):=rfl
theorem qe180:cvA ag0 a0 c0 j0 j1 be0 g0 bw0 (Value.int bq0 br0)=cvI ag0 be0 g0 br0 bw0:=rfl
theorem qe181:cvA ag0 a0 c0 j0 j1 be0 g0 bw0 (Value.string bp0)=awp a0 (Array.size (World.heap c0)) (convert j0 j1 (Value.string bp0)) g0 fun (v:Value) (m':AM)=>∃ (A:Option Addr),∃ (n:Nat),∃ (c:Nat),v=Value.slice A n c/\ag0 (Cf.nx be0 (Value.slice A n c) m'):=rfl
theorem qe182:cvA ag0 a0 c0 j0 j1 be0 g0 bw0 (Value.slice bo0 j2 j3)=awp a0 (Array.size (World.heap c0)) (convert j0 j1 (Value.slice bo0 j2 j3)) g0 fun (v:Value) (m':AM)=>∃ (s:ByteArray),v=Value.string s/\ag0 (Cf.nx be0 (Value.string s) m'):=rfl
theorem qe183:cvI ag0 be0 g0 br0 [CK.int bq0]=ag0 (Cf.nx be0 (Value.int bq0 (IntKind.wrap bq0 br0)) g0):=rfl
theorem qe184:unA ag0 be0 g0 UnOp.not (Value.bool aa0)=ag0 (Cf.nx be0 (Value.bool !aa0) g0):=rfl
theorem qe185:unA ag0 be0 g0 UnOp.neg (Value.int bq0 br0)=ag0 (Cf.nx be0 (Value.int bq0 (IntKind.wrap bq0 (0-br0))) g0):=rfl
theorem qe186:biA ag0 a0 bf0 j0 be0 g0 (Value.int bq0 br0) (Value.int bq1 br1)=biI ag0 be0 g0 bq0 bq1 br0 br1 bf0:=rfl
theorem qe187:biA ag0 a0 bf0 j0 be0 g0 (Value.agg bt0) (Value.agg bt1) = ∃ (b:Bool),EqP a0 bf0 j0 (Value.agg bt0) (Value.agg bt1) b/\ag0 (Cf.nx be0 (Value.bool b) g0):=rfl
theorem qe188:biA ag0 a0 bf0 j0 be0 g0 (Value.string bp0) (Value.string bp1)=biB ag0 be0 g0 (ByteArray.toList bp0 == ByteArray.toList bp1) bf0:=rfl
theorem qe189:biA ag0 a0 bf0 j0 be0 g0 (Value.bool aa0) (Value.bool aa1)=biB ag0 be0 g0 (aa0 == aa1) bf0:=rfl
theorem qe190:biA ag0 a0 bf0 j0 be0 g0 (Value.slice bo0 j1 j2) (Value.slice none j3 j4)=biB ag0 be0 g0 (Option.isNone bo0) bf0:=rfl
theorem qe191:biA ag0 a0 bf0 j0 be0 g0 (Value.pointer bo0) (Value.pointer none)=biB ag0 be0 g0 (Option.isNone bo0) bf0:=rfl
theorem qe192:biA ag0 a0 bf0 j0 be0 g0 (Value.map ax0) (Value.map none)=biB ag0 be0 g0 (Option.isNone ax0) bf0:=rfl
theorem qe193:biB ag0 be0 g0 aa0 BinOp.eql=ag0 (Cf.nx be0 (Value.bool aa0) g0):=rfl
theorem qe194:biB ag0 be0 g0 aa0 BinOp.neq=ag0 (Cf.nx be0 (Value.bool !aa0) g0):=rfl
theorem qe195:biI ag0 be0 g0 bq0 bq1 br0 br1 BinOp.add=(bq0=bq1/\ag0 (Cf.nx be0 (Value.int bq0 (IntKind.wrap bq0 (br0+br1))) g0)):=rfl
theorem qe196:biI ag0 be0 g0 bq0 bq1 br0 br1 BinOp.sub=(bq0=bq1/\ag0 (Cf.nx be0 (Value.int bq0 (IntKind.wrap bq0 (br0-br1))) g0)):=rfl
theorem qe197:biI ag0 be0 g0 bq0 bq1 br0 br1 BinOp.mul=(bq0=bq1/\ag0 (Cf.nx be0 (Value.int bq0 (IntKind.wrap bq0 (br0*br1))) g0)):=rfl
theorem qe198:biI ag0 be0 g0 bq0 bq1 br0 br1 BinOp.quo=(bq0=bq1/\br1≠0/\ag0 (Cf.nx be0 (Value.int bq0 (IntKind.wrap bq0 (Int.tdiv br0 br1))) g0)):=rfl
theorem qe199:biI ag0 be0 g0 bq0 bq1 br0 br1 BinOp.rem=(bq0=bq1/\br1≠0/\ag0 (Cf.nx be0 (Value.int bq0 (Int.tmod br0 br1)) g0)):=rfl
theorem qe200:biI ag0 be0 g0 bq0 bq1 br0 br1 BinOp.and=(bq0=bq1/\ag0 (Cf.nx be0 (Value.int bq0 (IntKind.wrap bq0 ↑(BitVec.toNat (BitVec.ofInt (IntKind.bits bq0) br0 &&& BitVec.ofInt (IntKind.bits bq0) br1)))) g0)):=rfl
theorem qe201:biI ag0 be0 g0 bq0 bq1 br0 br1 BinOp.or=(bq0=bq1/\ag0 (Cf.nx be0 (Value.int bq0 (IntKind.wrap bq0 ↑(BitVec.toNat (BitVec.ofInt (IntKind.bits bq0) br0 ||| BitVec.ofInt (IntKind.bits bq0) br1)))) g0)):=rfl
theorem qe202:biI ag0 be0 g0 bq0 bq1 br0 br1 BinOp.eql=(bq0=bq1/\ag0 (Cf.nx be0 (Value.bool (br0 == br1)) g0)):=rfl
theorem qe203:biI ag0 be0 g0 bq0 bq1 br0 br1 BinOp.neq=(bq0=bq1/\ag0 (Cf.nx be0 (Value.bool (br0 != br1)) g0)):=rfl
theorem qe204:biI ag0 be0 g0 bq0 bq1 br0 br1 BinOp.lss=(bq0=bq1/\ag0 (Cf.nx be0 (Value.bool (decide (br0<br1))) g0)):=rfl
theorem qe205:biI ag0 be0 g0 bq0 bq1 br0 br1 BinOp.leq=(bq0=bq1/\ag0 (Cf.nx be0 (Value.bool (decide (br0<=br1))) g0)):=rfl
theorem qe206:biI ag0 be0 g0 bq0 bq1 br0 br1 BinOp.gtr=(bq0=bq1/\ag0 (Cf.nx be0 (Value.bool (decide (br0>br1))) g0)):=rfl
theorem qe207:biI ag0 be0 g0 bq0 bq1 br0 br1 BinOp.geq=(bq0=bq1/\ag0 (Cf.nx be0 (Value.bool (decide (br0>=br1))) g0)):=rfl
theorem qe208:biI ag0 be0 g0 bq0 bq1 br0 br1 BinOp.shl=(0<=br1/\ag0 (Cf.nx be0 (Value.int bq0 (IntKind.wrap bq0 (br0*2 ^ min (Int.toNat br1) (IntKind.bits bq0)))) g0)):=rfl
theorem qe209:biI ag0 be0 g0 bq0 bq1 br0 br1 BinOp.shr=(0<=br1/\ag0 (Cf.nx be0 (Value.int bq0 (Int.fdiv br0 (2 ^ min (Int.toNat br1) (IntKind.bits bq0)))) g0)):=rfl
theorem qe210:pkA ag0 be0 g0 (Value.bool aa0) (Value.bool aa1) (Value.bool aa2)=ag0 (Cf.nx be0 (Value.bool (bif aa0 then aa1 else aa2)) g0):=rfl
theorem qe211:pkA ag0 be0 g0 (Value.bool aa0) (Value.bool aa1) (Value.tuple bt0)=(aa0=true/\ag0 (Cf.nx be0 (Value.bool aa1) g0)):=rfl
theorem qe212:pkA ag0 be0 g0 (Value.bool aa0) (Value.tuple bt0) (Value.bool aa1)=(aa0=false/\ag0 (Cf.nx be0 (Value.bool aa1) g0)):=rfl
theorem qe213:exA ag0 j0 be0 g0 (Value.tuple bt0)=ag0 (Cf.nx be0 (N.nth undef (Array.toList bt0) j0) g0):=rfl
theorem qe214:fdA ag0 j0 j1 aa0 be0 g0 (Value.agg bt0)=fdB ag0 be0 g0 j0 j1 (Array.toList bt0) aa0:=rfl
theorem qe215:fdB ag0 be0 g0 j0 j1 f0 true=ag0 (Cf.nx be0 (Value.agg (List.toArray (N.takl j1 (N.drl j0 f0)))) g0):=rfl
theorem qe216:fdB ag0 be0 g0 j0 j1 f0 false=ag0 (Cf.nx be0 (N.nth undef f0 j0) g0):=rfl
theorem qe217:faA ag0 j0 be0 g0 (Value.pointer (some bz0))=ag0 (Cf.nx be0 (Value.pointer (some (Addr.add bz0 j0))) g0):=rfl
theorem qe218:inA ag0 be0 g0 (Value.string bp0) (Value.int bq0 br0)=((0<=br0/\br0 < ↑(ByteArray.size bp0))/\ag0 (Cf.nx be0 (Value.int IntKind.u8 (byteAt bp0 (Int.toNat br0))) g0)):=rfl
theorem qe219:ixA ag0 j0 j1 be0 g0 (Value.slice bo0 j2 j3) (Value.int bq0 br0)=((0<=br0/\br0 < ↑j2)/\nlP ag0 be0 g0 (some (Int.toNat br0*j0)) bo0):=rfl
theorem qe220:ixA ag0 j0 j1 be0 g0 (Value.pointer (some bz0)) (Value.int bq0 br0)=((0<=br0/\br0 < ↑j1)/\ag0 (Cf.nx be0 (Value.pointer (some (Addr.add bz0 (Int.toNat br0*j0)))) g0)):=rfl
theorem qe221:adE bz0 none=bz0:=rfl
theorem qe222:adE bz0 (some j0)=Addr.add bz0 j0:=rfl
theorem qe223:stA ag0 c0 f0 be0 g0 (Value.pointer (some bz0))=stC ag0 c0 be0 bz0 f0 0 g0:=rfl
theorem qe224:stC ag0 c0 be0 bz0 [] j0 g0=ag0 (Cf.nx be0 undef g0):=rfl
theorem qe225:stC ag0 c0 be0 bz0 (ae0 :: f0) j0 g0=StC (Array.size (World.heap c0)) g0 (Addr.add bz0 j0) ae0 fun (m':AM)=>stC ag0 c0 be0 bz0 f0 (j0+1) m':=rfl
theorem qe226:ldA ag0 aw0 be0 g0 (Value.pointer (some bz0))=ldB ag0 be0 bz0 g0 aw0:=rfl
theorem qe227:ldB ag0 be0 bz0 g0 (TD.mk true bw0 bn0 j0 j1)=ldC ag0 be0 bz0 g0 bw0 0 []:=rfl
theorem qe228:ldB ag0 be0 bz0 g0 (TD.mk false [bx0] bn0 j0 j1)=ld1 ag0 be0 bz0 g0 bx0:=rfl
theorem qe229:ldC ag0 be0 bz0 g0 [] j0 f0=ag0 (Cf.nx be0 (Value.agg (List.toArray f0)) g0):=rfl
theorem qe230:ldC ag0 be0 bz0 g0 (CK.int bq0 :: bw0) j0 f0 = ∃ (i:Int),AM.cell g0 (Addr.add bz0 j0)=some (Value.int bq0 i)/\ldC ag0 be0 bz0 g0 bw0 (j0+1) (f0 ++ [Value.int bq0 i]):=rfl
theorem qe231:ldC ag0 be0 bz0 g0 (CK.bool :: bw0) j0 f0 = ∃ (i:Bool),AM.cell g0 (Addr.add bz0 j0)=some (Value.bool i)/\ldC ag0 be0 bz0 g0 bw0 (j0+1) (f0 ++ [Value.bool i]):=rfl
theorem qe232:ldC ag0 be0 bz0 g0 (CK.str :: bw0) j0 f0 = ∃ (i:ByteArray),AM.cell g0 (Addr.add bz0 j0)=some (Value.string i)/\ldC ag0 be0 bz0 g0 bw0 (j0+1) (f0 ++ [Value.string i]):=rfl
theorem qe233:ldC ag0 be0 bz0 g0 (CK.ptr :: bw0) j0 f0 = ∃ (i:Option Addr),AM.cell g0 (Addr.add bz0 j0)=some (Value.pointer i)/\ldC ag0 be0 bz0 g0 bw0 (j0+1) (f0 ++ [Value.pointer i]):=rfl
theorem qe234:ldC ag0 be0 bz0 g0 (CK.slice :: bw0) j0 f0 = ∃ (A:Option Addr),∃ (n:Nat),∃ (c:Nat),AM.cell g0 (Addr.add bz0 j0)=some (Value.slice A n c)/\ldC ag0 be0 bz0 g0 bw0 (j0+1) (f0 ++ [Value.slice A n c]):=rfl
theorem qe235:ldC ag0 be0 bz0 g0 (CK.map :: bw0) j0 f0 = ∃ (i:Option Nat),AM.cell g0 (Addr.add bz0 j0)=some (Value.map i)/\ldC ag0 be0 bz0 g0 bw0 (j0+1) (f0 ++ [Value.map i]):=rfl
theorem qe236:ldC ag0 be0 bz0 g0 (CK.any :: bw0) j0 f0 = ∃ (v:Value),AM.cell g0 (Addr.add bz0 j0)=some v/\ldC ag0 be0 bz0 g0 bw0 (j0+1) (f0 ++ [v]):=rfl
theorem qe237:ld1 ag0 be0 bz0 g0 (CK.int bq0) = ∃ (i:Int),AM.cell g0 bz0=some (Value.int bq0 i)/\ag0 (Cf.nx be0 (Value.int bq0 i) g0):=rfl
theorem qe238:ld1 ag0 be0 bz0 g0 CK.bool = ∃ (t:Bool),AM.cell g0 bz0=some (Value.bool t)/\ag0 (Cf.nx be0 (Value.bool t) g0):=rfl
theorem qe239:ld1 ag0 be0 bz0 g0 CK.str = ∃ (s:ByteArray),AM.cell g0 bz0=some (Value.string s)/\ag0 (Cf.nx be0 (Value.string s) g0):=rfl
theorem qe240:ld1 ag0 be0 bz0 g0 CK.ptr = ∃ (p:Option Addr),AM.cell g0 bz0=some (Value.pointer p)/\ag0 (Cf.nx be0 (Value.pointer p) g0):=rfl
theorem qe241:ld1 ag0 be0 bz0 g0 CK.slice = ∃ (A:Option Addr),∃ (n:Nat),∃ (c:Nat),AM.cell g0 bz0=some (Value.slice A n c)/\ag0 (Cf.nx be0 (Value.slice A n c) g0):=rfl
theorem qe242:ld1 ag0 be0 bz0 g0 CK.map = ∃ (r:Option Nat),AM.cell g0 bz0=some (Value.map r)/\ag0 (Cf.nx be0 (Value.map r) g0):=rfl
theorem qe243:ld1 ag0 be0 bz0 g0 CK.any = ∃ (v:Value),AM.cell g0 bz0=some v/\ag0 (Cf.nx be0 v g0):=rfl
theorem qe244:pks []=Value.tuple #[]:=rfl
theorem qe245:pks [ae0]=ae0:=rfl
theorem qe246:pks (ae0 :: ae1 :: f0)=Value.tuple (List.toArray (ae0 :: ae1 :: f0)):=rfl
theorem qe247:fzN af0 ag0 l0 g0 (Fz.fn h0)=ag0 (Cf.fr (Cx.rs af0) [] h0 l0 g0):=rfl
theorem qe248:fzN af0 ag0 l0 g0 (Fz.lp l1 p0 ca0 j0 cb0 h0)=finN l0 g0 l1 p0 ca0 j0:=rfl
theorem qe249:fzR af0 ag0 l0 g0 (Fz.fn h0)=ag0 (Cf.fr (Cx.rs af0) [] h0 l0 g0):=rfl
theorem qe250:fzR af0 ag0 l0 g0 (Fz.lp l1 p0 ca0 j0 cb0 h0)=ag0 (Cf.fr (Cx.rs af0) [] h0 l0 g0):=rfl
theorem qe251:fzX j0 l0 g0 (Fz.fn h0)=False:=rfl
theorem qe252:fzX j0 l0 g0 (Fz.lp l1 p0 ca0 j1 cb0 h0)=lkFK l0 g0 l1 false (Ek.mk [] fun (x:AM)=>False) cb0 j0:=rfl
theorem qe253:lkFK l0 g0 l1 true cc0 [] j0=finE l0 g0 l1 cc0:=rfl
theorem qe254:lkFK l0 g0 l1 true cc0 (cd0 :: cb0) j0=finE l0 g0 l1 cc0:=rfl
theorem qe255:lkFK l0 g0 l1 false cc0 [] j0=False:=rfl
theorem qe256:lkFK l0 g0 l1 false cc0 ((j1,cc1) :: cb0) j0=lkFK l0 g0 l1 (j1 == j0) cc1 cb0 j0:=rfl
theorem qe257:finN l0 g0 l1 p0 ca0 j0=lkC l0 l1 (lkT p0 (∃ (n':Nat),n'<j0/\apl l0 g0 p0 (ca0 n'))):=rfl
theorem qe258:finE l0 g0 l1 (Ek.mk p0 q0)=lkC l0 l1 (lkT p0 (apl l0 g0 p0 q0)):=rfl
theorem qe259:lkT [] ce0=ce0:=rfl
theorem qe260:lkT (cf0 :: p0) ce0=(true=true/\lkT p0 ce0):=rfl
theorem qe261:lkC l0 [] ce0=ce0:=rfl
theorem qe262:lkC l0 ((j0,ae0) :: t0) ce0=(N.gtv l0 j0 undef=ae0/\lkC l0 t0 ce0):=rfl
theorem qe263:apl l0 g0 [] v0=v0 g0:=rfl
theorem qe264:apl l0 g0 ((j0,Kc.i) :: p0) w0=apl l0 g0 p0 (w0 (vI (N.gtv l0 j0 undef))):=rfl
theorem qe265:apl l0 g0 ((j0,Kc.b) :: p0) x0=apl l0 g0 p0 (x0 (vB (N.gtv l0 j0 undef))):=rfl
theorem qe266:apl l0 g0 ((j0,Kc.s) :: p0) y0=apl l0 g0 p0 (y0 (vSA (N.gtv l0 j0 undef)) (vSN (N.gtv l0 j0 undef)) (vSC (N.gtv l0 j0 undef))):=rfl
theorem qe267:apl l0 g0 ((j0,Kc.p) :: p0) z0=apl l0 g0 p0 (z0 (vP (N.gtv l0 j0 undef))):=rfl
theorem qe268:Cx.t af0 j0=N.gtl N.z0 (Cx.ty af0 ()) j0:=rfl
theorem qe269:Cx.sz af0 j0=N.len (TD.cks (Cx.t af0 j0)):=rfl
theorem qe270:N.gtv l0 j0 ae0=N.gtvK false undef l0 j0 ae0:=rfl
theorem qe271:N.gtvK true ae0 [] j0 ae1=ae0:=rfl
theorem qe272:N.gtvK true ae0 (s0 :: t0) j0 ae1=ae0:=rfl
theorem qe273:N.gtvK false ae0 [] j0 ae1=ae1:=rfl
theorem qe274:N.gtvK false ae0 ((j1,ae2) :: t0) j0 ae1=N.gtvK (j1 == j0) ae2 t0 j0 ae1:=rfl
theorem qe275:N.gtl ch0 ci0 j0=N.gtlK ch0 false ch0 ci0 j0:=rfl
theorem qe276:N.gtlK ch0 true ch1 [] j0=ch1:=rfl
theorem qe277:N.gtlK ch0 true ch1 (cj0 :: ci0) j0=ch1:=rfl
theorem qe278:N.gtlK ch0 false ch1 [] j0=ch0:=rfl
theorem qe279:N.gtlK ch0 false ch1 ((j1,ch2) :: ci0) j0=N.gtlK ch0 (j1 == j0) ch2 ci0 j0:=rfl
theorem qe280:N.chn n0 []=n0:=rfl
theorem qe281:N.chn n0 ((j0,ae0) :: t0)=upd (N.chn n0 t0) j0 ae0:=rfl
theorem qe282:N.inL j0 []=false:=rfl
theorem qe283:N.inL j0 (j1 :: r0)=N.orK (j0 == j1) (N.inL j0 r0):=rfl
theorem qe284:N.orK true aa0=true:=rfl
theorem qe285:N.orK false aa0=aa0:=rfl
theorem qe286:N.andK true aa0=aa0:=rfl
theorem qe287:N.andK false aa0=false:=rfl
theorem qe288:N.ev l0 l1 (Operand.tmp ar0)=N.gtv l0 ar0 (N.gtv l1 ar0 undef):=rfl
theorem qe289:N.ev l0 l1 (Operand.const ae0)=ae0:=rfl
theorem qe290:N.ev l0 l1 (Operand.global j0)=Value.pointer (some (Addr.mk j0 0 none)):=rfl
theorem qe291:N.ev l0 l1 (Operand.func bs0)=Value.func (Fn.func bs0) #[] #[]:=rfl
theorem qe292:N.evs l0 l1 [] = []:=rfl
theorem qe293:N.evs l0 l1 (av0 :: ck0)=N.ev l0 l1 av0 :: N.evs l0 l1 ck0:=rfl
theorem qe294:N.evp l0 l1 [] = []:=rfl
theorem qe295:N.evp l0 l1 ((j0,av0) :: cl0)=(j0,N.ev l0 l1 av0) :: N.evp l0 l1 cl0:=rfl
theorem qe296:N.evo l0 l1 none=none:=rfl
theorem qe297:N.evo l0 l1 (some av0)=some (N.ev l0 l1 av0):=rfl
theorem qe298:N.nth ch0 [] j0=ch0:=rfl
theorem qe299:N.nth ch0 (ch1 :: cm0) 0=ch1:=rfl
theorem qe300:N.nth ch0 (ch1 :: cm0) (Nat.succ j0)=N.nth ch0 cm0 j0:=rfl
theorem qe301:N.zc (CK.int bq0)=Value.int bq0 0:=rfl
theorem qe302:N.zc CK.bool=Value.bool false:=rfl
theorem qe303:N.zc CK.str=Value.string ByteArray.empty:=rfl
theorem qe304:N.zc CK.ptr=Value.pointer none:=rfl
theorem qe305:N.zc CK.slice=Value.slice none 0 0:=rfl
theorem qe306:N.zc CK.map=Value.map none:=rfl
theorem qe307:N.zc CK.any=Value.nilFunc:=rfl
theorem qe308:N.zcs [] = []:=rfl
theorem qe309:N.zcs (bx0 :: bw0)=N.zc bx0 :: N.zcs bw0:=rfl
theorem qe310:N.vcl (Value.agg bt0)=Array.toList bt0:=rfl
theorem qe311:N.vcl (Value.int bq0 br0) = [Value.int bq0 br0]:=rfl
theorem qe312:N.vcl (Value.bool aa0) = [Value.bool aa0]:=rfl
theorem qe313:N.vcl (Value.string bp0) = [Value.string bp0]:=rfl
theorem qe314:N.vcl (Value.pointer bo0) = [Value.pointer bo0]:=rfl
theorem qe315:N.vcl (Value.slice bo0 j0 j1) = [Value.slice bo0 j0 j1]:=rfl
theorem qe316:N.vcl (Value.map ax0) = [Value.map ax0]:=rfl
theorem qe317:N.vcl (Value.func bh0 bt0 bt1) = [Value.func bh0 bt0 bt1]:=rfl
theorem qe318:N.vcl Value.nilFunc = [Value.nilFunc]:=rfl
theorem qe319:N.ovr [] f0=f0:=rfl
theorem qe320:N.ovr (ae0 :: f0) (ae1 :: f1)=ae0 :: N.ovr f0 f1:=rfl
theorem qe321:N.ovr (ae0 :: f0) []=ae0 :: f0:=rfl
theorem qe322:N.putl 0 f0 f1=N.ovr f0 f1:=rfl
theorem qe323:N.putl (Nat.succ j0) f0 (ae0 :: f1)=ae0 :: N.putl j0 f0 f1:=rfl
theorem qe324:N.putl (Nat.succ j0) f0 [] = []:=rfl
theorem qe325:N.rep f0 0 = []:=rfl
theorem qe326:N.rep f0 (Nat.succ j0)=f0 ++ N.rep f0 j0:=rfl
theorem qe327:N.len []=0:=rfl
theorem qe328:N.len (bx0 :: bw0)=N.len bw0+1:=rfl
theorem qe329:N.spz j0 [] f0=f0:=rfl
theorem qe330:N.spz j0 ((j1,ae0) :: t0) f0=N.spz j0 t0 (N.putl (N.mulN j1 j0) (N.vcl ae0) f0):=rfl
theorem qe331:N.mulN 0 j0=0:=rfl
theorem qe332:N.mulN (Nat.succ j1) j0=N.mulN j1 j0+j0:=rfl
theorem qe333:N.spf bn0 [] f0=f0:=rfl
theorem qe334:N.spf bn0 ((j0,ae0) :: t0) f0=N.spf bn0 t0 (N.putl (Prod.fst (N.nth (0,0) bn0 j0)) (N.vcl ae0) f0):=rfl
theorem qe335:N.takl 0 f0 = []:=rfl
theorem qe336:N.takl (Nat.succ j0) (ae0 :: f0)=ae0 :: N.takl j0 f0:=rfl
theorem qe337:N.takl (Nat.succ j0) [] = []:=rfl
theorem qe338:N.drl 0 f0=f0:=rfl
theorem qe339:N.drl (Nat.succ j0) (ae0 :: f0)=N.drl j0 f0:=rfl
theorem qe340:N.drl (Nat.succ j0) [] = []:=rfl
theorem qe341:N.z0=TD.mk false [] [] 0 0:=rfl
theorem qe342:vI (Value.int bq0 br0)=br0:=rfl
theorem qe343:vB (Value.bool aa0)=aa0:=rfl
theorem qe344:vSA (Value.slice bo0 j0 j1)=bo0:=rfl
theorem qe345:vSN (Value.slice bo0 j0 j1)=j0:=rfl
theorem qe346:vSC (Value.slice bo0 j0 j1)=j1:=rfl
theorem qe347 : nop = Oper.mk none (Op.panic (Operand.tmp 0)) 0 "" #[] none := rfl
end
attribute [push_cast] dwn_zr dwn_zs dwn_zc dwn_zb dwn_zl dwn_ze dwn_zt dwn_zk dwn_s0 dwn_s1 dwn_c0 dwn_c1 dwn_b dwn_l dwE_g dwE_x dwE_r dwE_t run_s cnV_b cnB_g gdV_b gdV_t clC_2 clC_3 clC_4 nlA_p nlA_f nlP_g vP_p undef tlA add0' adds List.cons_append List.nil_append qe1 qe2 qe3 qe4 qe5 qe6 qe7 qe8 qe9 qe10 qe11 qe12 qe13 qe14 qe15 qe16 qe17 qe18 qe19 qe20 qe21 qe22 qe23 qe24 qe25 qe26 qe27 qe28 qe29 qe30 qe31 qe32 qe33 qe34 qe35 qe36 qe37 qe38 qe39 qe40 qe41 qe42 qe43 qe44 qe45 qe46 qe47 qe48 qe49 qe50 qe51 qe52 qe53 qe54 qe55 qe56 qe57 qe58 qe59 qe60 qe61 qe62 qe63 qe64 qe65 qe66 qe67 qe68 qe69 qe70 qe71 qe72 qe73 qe74 qe75 qe76 qe77 qe78 qe79 qe80 qe81 qe82 qe83 qe84 qe85 qe86 qe87 qe88 qe89 qe90 qe91 qe92 qe93 qe94 qe95 qe96 qe97 qe98 qe99 qe100 qe101 qe102 qe103 qe104 qe105 qe106 qe107 qe108 qe109 qe110 qe111 qe112 qe113 qe114 qe115 qe116 qe117 qe118 qe119 qe120 qe121 qe122 qe123 qe124 qe125 qe126 qe127 qe128 qe129 qe130 qe131 qe132 qe133 qe134 qe135 qe136 qe137 qe138 qe139 qe140 qe141 qe142 qe143 qe144 qe145 qe146 qe147 qe148 qe149 qe150 qe151 qe152 qe153 qe154 qe155 qe156 qe157 qe158 qe159 qe160 qe161 qe162 qe163 qe164 qe165 qe166 qe167 qe168 qe169 qe170 qe171 qe172 qe173 qe174 qe175 qe176 qe177 qe178 qe179 qe180 qe181 qe182 qe183 qe184 qe185 qe186 qe187 qe188 qe189 qe190 qe191 qe192 qe193 qe194 qe195 qe196 qe197 qe198 qe199 qe200 qe201 qe202 qe203 qe204 qe205 qe206 qe207 qe208 qe209 qe210 qe211 qe212 qe213 qe214 qe215 qe216 qe217 qe218 qe219 qe220 qe221 qe222 qe223 qe224 qe225 qe226 qe227 qe228 qe229 qe230 qe231 qe232 qe233 qe234 qe235 qe236 qe237 qe238 qe239 qe240 qe241 qe242 qe243 qe244 qe245 qe246 qe247 qe248 qe249 qe250 qe251 qe252 qe253 qe254 qe255 qe256 qe257 qe258 qe259 qe260 qe261 qe262 qe263 qe264 qe265 qe266 qe267 qe268 qe269 qe270 qe271 qe272 qe273 qe274 qe275 qe276 qe277 qe278 qe279 qe280 qe281 qe282 qe283 qe284 qe285 qe286 qe287 qe288 qe289 qe290 qe291 qe292 qe293 qe294 qe295 qe296 qe297 qe298 qe299 qe300 qe301 qe302 qe303 qe304 qe305 qe306 qe307 qe308 qe309 qe310 qe311 qe312 qe313 qe314 qe315 qe316 qe317 qe318 qe319 qe320 qe321 qe322 qe323 qe324 qe325 qe326 qe327 qe328 qe329 qe330 qe331 qe332 qe333 qe334 qe335 qe336 qe337 qe338 qe339 qe340 qe341 qe342 qe343 qe344 qe345 qe346 qe347
end Go.Alog
namespace Go.Proofs.YtgjamnhjlaohaaaGreatDoor.T
open Go Go.Alog
@[simp] theorem el33:elOf Tryz.prog 33=some (3,1,8,[.int .i64 0]):=by kernel_rfl
end Go.Proofs.YtgjamnhjlaohaaaGreatDoor.T
