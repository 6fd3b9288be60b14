/- YtkfemiloehkmhaaGreat: a text of our own, by an AI agent: SgBY -/
import Derived.Test.YtkfemiloehkmhaaGreatProg
import Derived.Shelf.Sort.Plain
import Derived.Shelf.Slices.In.SortNone
import Derived.Sort.OwnSortedInts
import Derived.Test.YtkfemiloehkmhaaGreatSgCY
import Derived.Test.YtkfemiloehkmhaaGreatBgBY
namespace Go.Proofs
open Go Go.RowKit Go.Shelf
def Tryz.lSort_ren:Go.Shelf.Ren:=⟨fun | 189=>66 | 125=>83 | 257=>82 | 128=>97 | 129=>98 | 294=>88 | 295=>89 | 296=>90 | 297=>91 | 298=>92 | 299=>93 | 216=>94 | 300=>95 | 301=>96 | 328=>104 | 329=>105 | 330=>106 | 331=>107 | 332=>108 | 215=>109 | 343=>110 | n=>n,fun | 28=>23 | 3=>3 | 46=>103 | 0=>0 | 51=>125 | 53=>127 | 4=>4 | 183=>119 | 182=>118 | 131=>44 | 5=>5 | 9=>9 | 218=>133 | 222=>137 | 228=>139 | 229=>140 | n=>n,fun | n=>n⟩
theorem Tryz.lSort:Go.Proofs.Lays.n189 Tryz.prog Tryz.lSort_ren where
 mixed:=by kernel_rfl
 f125:=Tryz.func83.trans (congrArg some (by kernel_rfl))
 f128:=Tryz.func97.trans (congrArg some (by kernel_rfl))
 f129:=Tryz.func98.trans (congrArg some (by kernel_rfl))
 f189:=Tryz.func66.trans (congrArg some (by kernel_rfl))
 f215:=Tryz.func109.trans (congrArg some (by kernel_rfl))
 f216:=Tryz.func94.trans (congrArg some (by kernel_rfl))
 f257:=Tryz.func82.trans (congrArg some (by kernel_rfl))
 f294:=Tryz.func88.trans (congrArg some (by kernel_rfl))
 f295:=Tryz.func89.trans (congrArg some (by kernel_rfl))
 f296:=Tryz.func90.trans (congrArg some (by kernel_rfl))
 f297:=Tryz.func91.trans (congrArg some (by kernel_rfl))
 f298:=Tryz.func92.trans (congrArg some (by kernel_rfl))
 f299:=Tryz.func93.trans (congrArg some (by kernel_rfl))
 f300:=Tryz.func95.trans (congrArg some (by kernel_rfl))
 f301:=Tryz.func96.trans (congrArg some (by kernel_rfl))
 f328:=Tryz.func104.trans (congrArg some (by kernel_rfl))
 f329:=Tryz.func105.trans (congrArg some (by kernel_rfl))
 f330:=Tryz.func106.trans (congrArg some (by kernel_rfl))
 f331:=Tryz.func107.trans (congrArg some (by kernel_rfl))
 f332:=Tryz.func108.trans (congrArg some (by kernel_rfl))
 f343:=Tryz.func110.trans (congrArg some (by kernel_rfl))
 t0:=Tryz.underlying0
 a0:=Tryz.isAgg0
 z0:=Tryz.sizeOf0
 v0:=Tryz.zeroValue0
 t3:=Tryz.underlying3
 a3:=Tryz.isAgg3
 z3:=Tryz.sizeOf3
 v3:=Tryz.zeroValue3
 t4:=Tryz.underlying4
 a4:=Tryz.isAgg4
 z4:=Tryz.sizeOf4
 v4:=Tryz.zeroValue4
 t5:=Tryz.underlying5
 a5:=Tryz.isAgg5
 z5:=Tryz.sizeOf5
 v5:=Tryz.zeroValue5
 t9:=Tryz.underlying9
 a9:=Tryz.isAgg9
 z9:=Tryz.sizeOf9
 v9:=Tryz.zeroValue9
 t28:=Tryz.underlying23
 a28:=Tryz.isAgg23
 z28:=Tryz.sizeOf23
 v28:=Tryz.zeroValue23
 t46:=Tryz.underlying103
 a46:=Tryz.isAgg103
 z46:=Tryz.sizeOf103
 v46:=Tryz.zeroValue103
 t51:=Tryz.underlying125
 a51:=Tryz.isAgg125
 z51:=Tryz.sizeOf125
 v51:=Tryz.zeroValue125
 t53:=Tryz.underlying127
 a53:=Tryz.isAgg127
 z53:=Tryz.sizeOf127
 v53:=Tryz.zeroValue127
 t131:=Tryz.underlying44
 a131:=Tryz.isAgg44
 z131:=Tryz.sizeOf44
 v131:=Tryz.zeroValue44
 t182:=Tryz.underlying118
 a182:=Tryz.isAgg118
 z182:=Tryz.sizeOf118
 v182:=Tryz.zeroValue118
 t183:=Tryz.underlying119
 a183:=Tryz.isAgg119
 z183:=Tryz.sizeOf119
 v183:=Tryz.zeroValue119
 t218:=Tryz.underlying133
 a218:=Tryz.isAgg133
 z218:=Tryz.sizeOf133
 v218:=Tryz.zeroValue133
 t222:=Tryz.underlying137
 a222:=Tryz.isAgg137
 z222:=Tryz.sizeOf137
 v222:=Tryz.zeroValue137
 t228:=Tryz.underlying139
 a228:=Tryz.isAgg139
 z228:=Tryz.sizeOf139
 v228:=Tryz.zeroValue139
 t229:=Tryz.underlying140
 a229:=Tryz.isAgg140
 z229:=Tryz.sizeOf140
 v229:=Tryz.zeroValue140
end Go.Proofs

set_option linter.unusedSimpArgs false
set_option linter.unusedVariables false
set_option maxRecDepth 100000
namespace Go.Proofs.YtkfemiloehkmhaaGreat.S
open Go Go.RowKit Go.Alog Go.Proofs.YtkfemiloehkmhaaGreat.T Go.Proofs.YtkfemiloehkmhaaGreat.V

theorem setAt_of {w0 W:World} {m:AM} (hW:Holds w0 W m) {B s Bs:Nat} {zs:List Int} {fp:List Nat} (h:SetA m B s zs fp) {T:TypeId} (hb:m Bs=some (.cells #[.pointer (some ⟨s,0,none⟩)] T (0,0))) :
  ∃ sl,SetAt W Bs s sl zs:=by
 obtain ⟨mp,A,c,hs,hB,hO,hm,hfp⟩:=h
 refine ⟨.slice A zs.length c,hW.cell (cel hb rfl),hW.cell (cel hs rfl),?_⟩
 cases hA:A with
 | none =>
  obtain ⟨h1,h2,h3 | ⟨g,cur,h3,_⟩⟩:=hO
  ·have:zs = []:=by have:=h3.2; cases zs with
    | nil=>rfl
    | cons=>simp at h2; omega
   subst this
   exact .inl ⟨by rw [h3.2]; rfl,rfl⟩
  ·rw [hA] at h3; cases h3
 | some ad =>
  have hc:=hO.cells hA
  obtain ⟨h1,h2,h3 | ⟨g,cur,h3,_⟩⟩:=hO
  ·rw [hA] at h3; cases h3.1
  ·rw [hA] at h3; injection h3 with h3; subst h3
   refine .inr ⟨g,0,c,rfl,fun j hj=>by
    have:=hc j (.int .i64 (zs[j]?.getD 0)) ?_
    ·rw [addn] at this; exact hW.cell this
    unfold intCells
    rw [List.getElem?_map]
    simp [hj]⟩

theorem holds_below {w0 W W':World} {m:AM} (h:Holds w0 W m) (hb:Below W.heap.size W W'):Holds w0 W' m :=
 ⟨h.below.trans (hb.mono h.below.size),fun b o hm=>(hb.block b (Array.getElem?_eq_some_iff.1 (h.has b o hm)).1).trans (h.has b o hm)⟩

theorem seq_of {W:World} {Bs s:Nat} {sl:Value} {zs:List Int} (hS:SetAt W Bs s sl zs) (hlen:zs.length≤17592186044415) :
  SeqStopsK Fence.wide 9 Tryz.prog 81 #[.pointer (some ⟨Bs,0,none⟩)] (fun x:Int=>#[Value.int .i64 x]) (Below W.heap.size) (fun xs=>xs=zs) (fun _=>True) zs.length W :=
 all1_stops (fun x:Int=>x) 9 Bs s sl zs W (by rw [List.map_id']; exact hS) hlen

theorem enters86:∀ args w,(callFunc 81 args).run Tryz.prog w=.ok (.enter 81 args) w:=enters_of Tryz.func81 (by kernel_rfl) rfl

theorem collect_spec (w0:World) (m:AM) {s Bs:Nat} {zs:List Int} {fp:List Nat} (h:SetA m w0.heap.size s zs fp) {T:TypeId} (hb:m Bs=some (.cells #[.pointer (some ⟨s,0,none⟩)] T (0,0))) (hlen:zs.length≤10000) {R:Value→AM→Prop}
  (hK:∀ A c m',m.le m'→(∀ k∈obl A,m k=none)→Alog.Own m' w0.heap.size 3 1 A zs.length c (intCells .i64 zs)→R (.slice A zs.length c) m') :
  CallsA Tryz.prog w0 63 #[.func (.func 81) #[] #[.pointer (some ⟨Bs,0,none⟩)]] m R:=by
 intro W hW
 obtain ⟨sl,hS⟩:=setAt_of hW h hb
 refine (callsIn_wide (n:=11)).1 ?_
 refine (collect_in _ _ enters86 zs (by unfold maxLen; omega) (by omega) W (seq_of hS (by omega))).mono ?_
 rintro e W' ⟨v,rfl,hrow,hnil,hb'⟩
 have hH:=holds_below hW hb'
 rcases hrow.2 with ⟨h1,h2⟩ | ⟨g,cap,cur,h1,h2,h3,h4,h5,h6,h7⟩
 ·have:zs = []:=List.eq_nil_of_length_eq_zero h2
  subst this
  subst h1
  exact ⟨_,m,rfl,hH,hK none 0 m (AM.le_refl m) (by simp [obl]) (Alog.Own.nil _ _ _ _)⟩
 ·have hg:m g=none:=by
   cases hm:m g with
   | none=>rfl
   | some o=>exact absurd (Array.getElem?_eq_some_iff.1 (hW.has g o hm)).1 (by omega)
  subst h1
  refine ⟨_,m.upd g (.cells cur 3 (0,0)),rfl,⟨hH.below,fun b o hbo=>?_⟩,hK (some ⟨g,0,none⟩) cap _ (fun b o hbo=>?_) (by simp [obl,hg]) ⟨?_,h4,.inr ⟨g,cur,rfl,?_,upd_get_same,h6,h7⟩⟩⟩
  ·by_cases e:b=g
   ·subst e; rw [upd_get_same] at hbo; injection hbo with hbo; subst hbo; exact h3
   ·rw [upd_get_ne e] at hbo; exact hH.has b o hbo
  ·have e:b≠g:=fun e=>by rw [e,hg] at hbo; cases hbo
   rw [upd_get_ne e]; exact hbo
  ·simp [intCells]
  ·have:=hW.below.size; omega

theorem all_spec (w0:World) (m:AM) (s:Nat) {R:Value→AM→Prop} (hK:∀ b m',m.le m'→m b=none→w0.heap.size≤b→m' b=some (.cells #[.pointer (some ⟨s,0,none⟩)] 107 (0,0))→R (.func (.func 81) #[] #[.pointer (some ⟨b,0,none⟩)]) m') :
  CallsA Tryz.prog w0 64 #[.pointer (some ⟨s,0,none⟩)] m R:=by
 refine cf64 w0 m s R ?_
 intro b hb hn
 exact retP_of (hK b _ (fun k o hk=>by rw [upd_get_ne (fun e=>by rw [e,hn] at hk; cases hk)]; exact hk) hn hb upd_get_same)
end Go.Proofs.YtkfemiloehkmhaaGreat.S

set_option linter.unusedSimpArgs false
set_option linter.unusedVariables false
set_option maxRecDepth 100000
namespace Go.Proofs.YtkfemiloehkmhaaGreat.S
open Go Go.RowKit Go.Alog Go.Proofs.YtkfemiloehkmhaaGreat.T Go.Proofs.YtkfemiloehkmhaaGreat.V

def sortL (zs:List Int):List Int:=zs.mergeSort fun x y=>decide (x≤y)

theorem sortRen:Go.Proofs.Tryz.lSort_ren.f 189=66:=by kernel_rfl

theorem sortAny_spec (w0:World) (m:AM) {A:Option Addr} {c:Nat} {zs:List Int} (hO:Alog.Own m w0.heap.size 3 1 A zs.length c (intCells .i64 zs)) (hlen:zs.length≤100000) {R:Value→AM→Prop}
  (hK:∀ m',Fr m m' (obl A)→Alog.Own m' w0.heap.size 3 1 A zs.length c (intCells .i64 (sortL zs))→R (.tuple #[]) m') :
  CallsA Tryz.prog w0 66 #[.slice A zs.length c] m R:=by
 intro W hW
 obtain ⟨h1,h2,h3 | ⟨g,cur,h3,h4,h5,h6,h7⟩⟩:=hO
 ·have hz:zs = []:=by
   cases zs with
   | nil=>rfl
   | cons=>simp at h2; omega
  subst hz
  rw [h3.1] at hK ⊢
  have:=Go.Proofs.Any.slices_Sort_int_none Go.Proofs.Tryz.lSort none c W
  rw [sortRen] at this
  refine this.mono ?_
  rintro e W' ⟨rfl,rfl⟩
  exact ⟨_,m,rfl,hW,hK m (Fr.refl _ _) ⟨by simp [intCells,sortL],h2,.inl ⟨rfl,h3.2⟩⟩⟩
 ·have hb:=hW.has g _ h5
  have ht:cur.toList.take zs.length=zs.map (Value.int .i64):=by simpa [intCells] using h7
  have:=Go.Proofs.Any.slices_Sort_int Go.Proofs.Tryz.lSort g 0 c zs W (holds_of_blockI hb ht) (Array.getElem?_eq_some_iff.1 hb).1 (by omega)
  rw [sortRen] at this
  rw [h3] at hK ⊢
  refine this.mono ?_
  rintro e W' ⟨rfl,n,os,rfl⟩
  have hg:=grownBy_sortedI (w:=W) (g:=g) (n:=n) (os:=os) (zs.mergeSort fun x y=>decide (x≤y)).toArray
  have hbb:Below w0.heap.size w0 _:=hW.below.grown hg hW.below.size (fun k e=>by cases e; exact h4)
  refine ⟨_,m.upd g (.cells (Sort.putCells (Value.int .i64) 0 (zs.mergeSort fun x y=>decide (x≤y)).toArray cur) 3 (0,0)),rfl,⟨hbb,fun b o hbo=>?_⟩,hK _ ?_ ⟨?_,h2,.inr ⟨g,_,rfl,h4,upd_get_same,?_,?_⟩⟩⟩
  ·by_cases e:b=g
   ·subst e
    rw [upd_get_same] at hbo
    injection hbo with hbo
    subst hbo
    exact heap_sortedI _ hb
   ·rw [upd_get_ne e] at hbo
    have:=hW.has b o hbo
    exact (hg.block b (Array.getElem?_eq_some_iff.1 this).1 (fun e'=>e (by injection e' with e'))).trans this
  ·exact (Fr.refl m _).upd (.inl (by simp [obl])) _
  ·simp [intCells,sortL]
  ·simp [Sort.putCells,h6]
  ·have hl:(zs.mergeSort fun x y=>decide (x≤y)).length=zs.length:=by simp
   have:=take_putCellsI cur (zs.mergeSort fun x y=>decide (x≤y)) (by omega)
   rw [hl] at this
   rw [Nat.mul_one,this]
   rfl
end Go.Proofs.YtkfemiloehkmhaaGreat.S

