/- YtkfemiloehkmhaaGreat: a text of our own, by an AI agent: BgBY -/
import Derived.Test.YtkfemiloehkmhaaGreatProg
import Derived.RangeFuncBox
import Derived.RangeFuncWrites
import Derived.RangeFuncLeaves
import Derived.RangeFuncCalls
import Derived.Shelf.Abstract
import Derived.WalkKit
import Derived.OwnWalkIn
import Derived.TacticsInMore
import Derived.RegionIn
import Derived.Shelf.RegionOpen
import Derived.LoopNIn
import Derived.LoopIn
import Derived.Maps.AppendAt
set_option linter.unusedSimpArgs false
set_option linter.unusedVariables false
namespace Go.Proofs.YtkfemiloehkmhaaGreat.S
open Go Go.RowKit Go.Shelf
attribute [local go_sem] Oper.semAt_some

structure SetAt (W:World) (Bs s:Nat) (sl:Value) (zs:List Int):Prop where
 box:W.cell? ⟨Bs,0,none⟩=some (.pointer (some ⟨s,0,none⟩))
 sli:W.cell? ⟨s,1,none⟩=some sl
 row:(sl=.slice none 0 0∧zs = [])∨∃ b off cap,sl=.slice (some ⟨b,off,none⟩) zs.length cap∧∀ j,j<zs.length→W.cell? ⟨b,off+j,none⟩=some (.int .i64 (zs[j]?.getD 0))

theorem cell_lt {W:World} {a:Addr} {v:Value} (h:W.cell? a=some v):a.block<W.heap.size:=by
 unfold World.cell? at h
 cases hb:W.heap[a.block]? with
 | none=>rw [hb] at h; cases h
 | some o=>exact (Array.getElem?_eq_some_iff.1 hb).1

theorem SetAt.later {W W':World} {Bs s:Nat} {sl:Value} {zs:List Int} (h:SetAt W Bs s sl zs) (hb:Below W.heap.size W W'):SetAt W' Bs s sl zs:=by
 have hc:∀ {a:Addr} {v:Value},W.cell? a=some v→W'.cell? a=some v:=fun h=>(hb.cell (p:=_) (cell_lt h)).trans h
 refine ⟨hc h.box,hc h.sli,?_⟩
 rcases h.row with h1 | ⟨b,off,cap,h1,h2⟩
 ·exact .inl h1
 ·exact .inr ⟨b,off,cap,h1,fun j hj=>hc (h2 j hj)⟩

set_option maxRecDepth 100000 in
set_option maxHeartbeats 2000000 in
theorem all1_stops {α:Type} (val:α→Int) (n Bs s:Nat) (sl:Value) (zs:List α) (w:World) (hS:SetAt w Bs s sl (zs.map val)) (hcap:zs.length≤17592186044415) :
  SeqStopsK Fence.wide n Tryz.prog 81 #[.pointer (some ⟨Bs,0,none⟩)] (fun x:α=>#[Value.int .i64 (val x)]) (Below w.heap.size) (fun xs=>xs=zs) (fun _=>True) zs.length w:=fun l J Jx W hW hJ hJx hY h0=>by
 have hF:∀ {pre W1},(J pre W1∧Below w.heap.size w W1)→SetAt W1 Bs s sl (zs.map val):=fun h=>hS.later h.2
 have hB:=(hS.later hW).box
 have hSl:=(hS.later hW).sli
 have hrow:=(hS.later hW).row
 refine callsIn_of_wp Tryz.func81 rfl trivial ?_ rfl
 simp only [Tryz.ntmps81,List.size_toArray,List.length_cons,List.length_nil,Nat.reduceAdd,Nat.reduceSub,Array.replicate_succ,Array.replicate_zero,List.push_toArray,List.append_toArray,List.nil_append,List.cons_append]
 rcases hS.row with ⟨hn1,hn2⟩ | ⟨b,off,cap,hs1,hs2⟩
 ·obtain rfl:=List.map_eq_nil_iff.1 hn2; subst hn1
  clear hrow
  gi_wp2
  gi_loopw [10] (fun i wr=>i=.int .i64 0∧J [] wr) (fun i _=>0)
  case atStart=>exact ⟨rfl,h0⟩
  case round =>
   obtain ⟨rfl,hJs⟩:=hrel
   gi_wp2
   go_end0
   exact ⟨⟨_,rfl⟩,.inl ⟨_,rfl,hJs⟩⟩
 ·subst hs1
  clear hrow
  obtain ⟨len,hlen0⟩:∃ len,len=zs.length:=⟨_,rfl⟩
  rw [List.length_map,← hlen0] at hSl
  gi_wp2
  gi_loopw [10] (fun i wr=>∃ k:Nat,k≤len∧i=.int .i64 k∧J (zs.take k) wr∧Below w.heap.size w wr) (fun i _=>len-(intOf i).toNat)
  case atStart=>exact ⟨0,Nat.zero_le _,rfl,by simpa using h0,hW⟩
  case round =>
   obtain ⟨k,hk,rfl,hJs,hbs⟩:=hrel
   by_cases hlt:k<len
   ·obtain ⟨b',off',cap',he,hrow⟩:=(hF ⟨hJs,hbs⟩).row.resolve_left (fun h=>by cases h.1)
    injection he with he1 he2 he3
    clear he2
    injection he1 with he1
    injection he1 with he4 he5
    subst he4; subst he5; subst he3
    have hcx:=hrow k (by simp; omega)
    clear hrow
    have hlen:(zs.take k).length=k:=by simp; omega
    obtain ⟨x,hxs⟩:∃ x,zs[k]?=some x:=⟨zs[k]'(by omega),by simp [show k<zs.length by omega]⟩
    rw [List.getElem?_map,hxs] at hcx
    simp only [Option.map_some,Option.getD_some] at hcx
    obtain ⟨fn,tmps,assign,body,hy,hR⟩:=hY (zs.take k) x wr hJs (by rw [hlen]; omega)
    gi_wp2
    refine ⟨(fun h=>by cases h),hR.mono ?_⟩
    rintro e W3 (⟨rfl,hJ3,hb3⟩ | ⟨rfl,hx3⟩)
    ·gi_wp2
     go_roundw
     case rel =>
      refine ⟨k+1,by omega,by simp,?_,hbs.trans hb3⟩
      have:zs.take (k+1)=zs.take k ++ [x]:=by
       rw [List.take_add_one,hxs]; rfl
      rw [this]; exact hJ3
     case measure=>simp [intOf]; omega
    ·gi_wp2
     refine bodyPost_ret (results_none rfl _ _ _) rfl ?_
     exact ⟨⟨_,rfl⟩,.inr ⟨_,trivial,hx3⟩⟩
   ·obtain rfl:k=len:=by omega
    gi_wp2
    go_end0
    refine ⟨⟨_,rfl⟩,.inl ⟨_,rfl,?_⟩⟩
    rw [List.take_of_length_le (by omega)] at hJs
    exact hJs
end Go.Proofs.YtkfemiloehkmhaaGreat.S

set_option linter.unusedSimpArgs false
set_option linter.unusedVariables false
namespace Go.Proofs.YtkfemiloehkmhaaGreat.S
open Go Go.RowKit Go.Shelf
attribute [local go_sem] Oper.semAt_some

theorem infoInt:(Tryz.prog.info? 3).map (fun i=>(i.zero,i.size,i.bytes))=some (some (.int .i64 0),1,8):=by kernel_rfl
set_option maxRecDepth 100000 in
set_option maxHeartbeats 2000000 in
theorem appendSeq_in (g:Nat) (lb:Array Value) (eg:∀ args w,(callFunc g args).run Tryz.prog w=.ok (.enter g args) w) (zs:List Int) (hlen:zs.length≤maxLen) (hbytes:zs.length*8≤140737488355328) (w:World)
  (hseq:SeqStopsK Fence.wide 9 Tryz.prog g lb (fun x:Int=>#[Value.int .i64 x]) (Below w.heap.size) (fun xs=>xs=zs) (fun _=>True) zs.length w) :
  CallsIn Fence.wide 10 Tryz.prog 80 #[.slice none 0 0,.func (.func g) #[] lb] w fun e W'=>∃ v,e=.returned v∧W'.ownsRow w.heap.size 3 1 v zs.length (zs.map (Value.int .i64))∧(v=.slice none 0 0↔zs = [])∧Below w.heap.size w W':=by
 obtain ⟨i0,hi,hz0,hz1,hz2⟩:=info_parts infoInt
 refine callsIn_of_wp_marks Tryz.func80 rfl trivial ?_ rfl
 simp only [Tryz.ntmps80,List.size_toArray,List.length_cons,List.length_nil,Nat.reduceAdd,Nat.reduceSub,Array.replicate_succ,Array.replicate_zero,List.push_toArray,List.append_toArray,List.nil_append,List.cons_append]
 gi_wp2
 have bO:=Boxed.new w 23 (.slice none 0 0)
 have hB0:Below w.heap.size w (w.alloc (.cells #[.slice none 0 0] 23)):=(Below.refl _ w).alloc (Nat.le_refl _) _
 refine wpIn_rangeFunc_ownG rfl (by omega) (gf:=g) (lb:=lb) rfl trivial eg hseq belowK_t (belowK_b (by simp)) hB0 (fun _=>rfl)
  (fun pre W=>(∃ v,Boxed W w.heap.size 23 v∧W.ownsRow w.heap.size 3 1 v pre.length (pre.map (Value.int .i64))∧(v=.slice none 0 0↔pre = []))∧Below w.heap.size w W)
  (fun _ _ _=>False)
  (OwnFrom.and (Own.from (holdsRow_own w.heap.size w.heap.size 23 3 1 (fun pre:List Int=>pre.length) (fun pre=>pre.map (Value.int .i64)) (fun pre v=>v=.slice none 0 0↔pre = [])) _) (ownFrom_below (Nat.le_refl _) (by simp)))
  (fun _ _ _ _ _ hs _ _=>hs)
  ⟨⟨_,bO,World.ownsRow_nil _ _ _ _,by simp⟩,hB0⟩
  (fun x=>{ tmps:=#[.slice none 0 0,.func (.func g) #[] lb,.pointer (some ⟨w.heap.size,0,none⟩),undef,.slice none 0 0,.int .i64 x,.func (.func g) #[] lb,.int .i64 x,undef,undef,undef,undef,undef],defers:=[] }) ?assign ?body ?done ?stop
 case assign =>
  intro l x W K hK
  gi_wp2
  exact hK
 case body =>
  rintro l pre x W ⟨⟨v,hv,hrow,hnil⟩,hB⟩ hlt
  have hc:=hv.cell
  gi_wp2_with (gi_at_builtin; refine wpListIn_append_own _ rfl _ _ 23 rfl w.heap.size 3 i0 (.int .i64 0) 1 8 Tryz.underlying23 hi hz0 hz1 hz2 rfl (by decide) _ _ _ rfl (hrow.alloc _) ⟨W.heap.size,0,none⟩ 1 1 [.int .i64 x] rfl rfl (cell_one_new _ _ _) (by simp [Value.oneCell']) (by omega) (by omega) (by have:=hB.size; simp; omega) ?_; intro v' w1 hown' hgrow _; obtain ⟨g',cap',rfl⟩:=ownsRow_succ hown'; obtain ⟨hv1,hv2,hr2,hk2,hb2⟩:=hv.appended (by decide) hrow hB.size (Nat.le_refl _) hown' hgrow; have hc1:=hv1.cell; have hf1:=hv1.frozen)
  exact ⟨hk2.from _,hb2,⟨_,hv2,by simpa using hr2,by simp⟩,hB.trans hb2⟩
 case done =>
  rintro D ys W hD rfl ⟨⟨v,hv,hrow,hnil⟩,hB⟩ hK
  have hc:=hv.cell
  gi_wp2
  refine ⟨by simp,.inl ⟨_,_,rfl,run_takeDeferred hK,?_⟩⟩
  exact ⟨_,results_tmp rfl _ _ _,v,rfl,ownsRow_putObj hrow _ hK rfl,hnil,hB.trans (belowK_b (w:=w) (Nat.le_refl _) W D _ _ (by simp at hD; omega) hK rfl rfl)⟩
 case stop =>
  rintro D c pre W _ _ h _
  exact h.elim

theorem collect_in (g:Nat) (lb:Array Value) (eg:∀ args w,(callFunc g args).run Tryz.prog w=.ok (.enter g args) w) (zs:List Int) (hlen:zs.length≤maxLen) (hbytes:zs.length*8≤140737488355328) (w:World)
  (hseq:SeqStopsK Fence.wide 9 Tryz.prog g lb (fun x:Int=>#[Value.int .i64 x]) (Below w.heap.size) (fun xs=>xs=zs) (fun _=>True) zs.length w) :
  CallsIn Fence.wide 11 Tryz.prog 63 #[.func (.func g) #[] lb] w fun e W'=>∃ v,e=.returned v∧W'.ownsRow w.heap.size 3 1 v zs.length (zs.map (Value.int .i64))∧(v=.slice none 0 0↔zs = [])∧Below w.heap.size w W':=by
 refine callsIn_of_wp Tryz.func63 rfl trivial ?_ rfl
 simp only [Tryz.ntmps63,List.size_toArray,List.length_cons,List.length_nil,Nat.reduceAdd,Nat.reduceSub,Array.replicate_succ,Array.replicate_zero,List.push_toArray,List.append_toArray,List.nil_append,List.cons_append]
 gi_wp2
 refine ⟨trivial,(appendSeq_in g lb eg zs hlen hbytes _ hseq).mono ?_⟩
 rintro e w' ⟨v,rfl,hrow,hnil,hb⟩
 gi_wp2
 go_ret
 exact ⟨v,rfl,hrow,hnil,hb⟩
end Go.Proofs.YtkfemiloehkmhaaGreat.S

set_option linter.unusedSimpArgs false
set_option linter.unusedVariables false
namespace Go.Proofs.YtkfemiloehkmhaaGreat.S
open Go Go.RowKit Go.Shelf
attribute [local go_sem] Oper.semAt_some

def leastL (lt:Int→Int→Bool) (l:List Int):Int × Bool:=l.foldl (fun bf x=>if !bf.2 || lt x bf.1 then (x,true) else bf) (0,false)
theorem leastL_snoc (lt:Int→Int→Bool) (l:List Int) (x:Int):leastL lt (l ++ [x])=if !(leastL lt l).2 || lt x (leastL lt l).1 then (x,true) else leastL lt l:=by simp [leastL]
theorem leastL_mem (lt:Int→Int→Bool) (l:List Int):(leastL lt l).2=true→(leastL lt l).1∈l:=by
 obtain ⟨r,hr⟩:∃ r,r=l.reverse:=⟨_,rfl⟩
 have:l=r.reverse:=by rw [hr,List.reverse_reverse]
 subst this
 clear hr
 induction r with
 | nil=>simp [leastL]
 | cons x r ih =>
  rw [List.reverse_cons,leastL_snoc]
  split
  ·simp
  ·intro h; exact List.mem_append_left _ (ih h)

set_option maxRecDepth 100000 in
set_option maxHeartbeats 2000000 in
theorem least_in (g : Nat) (lb : Array Value) (eg : ∀ args w, (callFunc g args).run Tryz.prog w = .ok (.enter g args) w) (Hb : Nat) (lt : Int → Int → Bool) (zs : List Int) (w : World)
    (hless : ∀ x y W, x ∈ zs → y ∈ zs → Below w.heap.size w W → CallsIn Fence.wide 7 Tryz.prog 71 #[.int .i64 x, .int .i64 y, .pointer (some ⟨Hb, 0, none⟩)] W fun e W' => e = .returned (.bool (lt x y)) ∧ Below W.heap.size W W')
    (hseq : SeqStopsK Fence.wide 9 Tryz.prog g lb (fun x : {x // x ∈ zs} => #[Value.int .i64 x.1]) (Below w.heap.size) (fun xs => xs = zs.attach) (fun _ => True) zs.length w) :
    CallsIn Fence.wide 10 Tryz.prog 70 #[.func (.func g) #[] lb, .func (.func 71) #[] #[.pointer (some ⟨Hb, 0, none⟩)]] w fun e W' => e = .returned (.tuple #[.int .i64 (leastL lt zs).1, .bool (leastL lt zs).2]) ∧ Below w.heap.size w W' := by
  refine callsIn_of_wp_marks Tryz.func70 rfl trivial ?_ rfl
  simp only [Tryz.ntmps70, List.size_toArray, List.length_cons, List.length_nil, Nat.reduceAdd, Nat.reduceSub, Array.replicate_succ, Array.replicate_zero, List.push_toArray, List.append_toArray, List.nil_append, List.cons_append]
  gi_wp2
  obtain ⟨w1, hw1⟩ : ∃ w1, w1 = ((w.alloc (Obj.cells #[Value.func (Fn.func 71) #[] #[Value.pointer (some { block := Hb, off := 0 })]] 73)).alloc (Obj.cells #[Value.int IntKind.i64 0] 3)).alloc (Obj.cells #[Value.bool false] 4) := ⟨_, rfl⟩
  rw [← hw1]
  have hB0 : Below w.heap.size w w1 := by rw [hw1]; exact (((Below.refl _ w).alloc (Nat.le_refl _) _).alloc (by simp) _).alloc (by first | (simp; done) | (simp; omega)) _
  have hsz : w1.heap.size = w.heap.size + 1 + 1 + 1 := by rw [hw1]; simp
  have b3 : Boxed w1 w.heap.size 73 (.func (.func 71) #[] #[.pointer (some ⟨Hb, 0, none⟩)]) := by
    rw [hw1]; exact ((Boxed.new w _ _).alloc _).alloc _
  have b6 : Boxed w1 (w.heap.size + 1) 3 (.int .i64 0) := by
    rw [hw1]; have := Boxed.new (w.alloc (Obj.cells #[Value.func (Fn.func 71) #[] #[Value.pointer (some { block := Hb, off := 0 })]] 73)) 3 (.int .i64 0)
    rw [World.size_alloc] at this; exact this.alloc _
  have b7 : Boxed w1 (w.heap.size + 1 + 1) 4 (.bool false) := by
    rw [hw1]; have := Boxed.new ((w.alloc (Obj.cells #[Value.func (Fn.func 71) #[] #[Value.pointer (some { block := Hb, off := 0 })]] 73)).alloc (Obj.cells #[Value.int IntKind.i64 0] 3)) 4 (.bool false)
    rw [World.size_alloc, World.size_alloc] at this; exact this
  have boxOwn : ∀ (B : Nat) (t : TypeId) (f : List {x // x ∈ zs} → Value), OwnFrom w1.heap.size (fun pre W => Boxed W B t (f pre)) := fun B t f s X Y row h hg hr => h.kept hg (fun e => by
    obtain ⟨_, o, ho, hc⟩ := hr B e.symm
    rw [show X.heap[B]? = _ from h] at ho; cases ho; cases hc)
  refine wpIn_rangeFunc_ownG rfl (by omega) (gf := g) (lb := lb) rfl trivial eg hseq belowK_t (belowK_b (by omega)) hB0 (fun _ => rfl)
    (fun pre W => (Boxed W w.heap.size 73 (.func (.func 71) #[] #[.pointer (some ⟨Hb, 0, none⟩)]) ∧ Boxed W (w.heap.size + 1) 3 (.int .i64 (leastL lt (pre.map Subtype.val)).1) ∧ Boxed W (w.heap.size + 1 + 1) 4 (.bool (leastL lt (pre.map Subtype.val)).2)) ∧ Below w.heap.size w W)
    (fun _ _ _ => False)
    (OwnFrom.and (OwnFrom.and (boxOwn _ _ _) (OwnFrom.and (boxOwn _ _ _) (boxOwn _ _ _))) (ownFrom_below (Nat.le_refl _) (by omega)))
    (fun _ _ _ _ _ hs _ _ => hs)
    ⟨⟨b3, b6, b7⟩, hB0⟩
    (fun x => { tmps :=
          #[Value.func (Fn.func g) #[] lb, Value.func (Fn.func 71) #[] #[Value.pointer (some { block := Hb, off := 0 })],
            undef, Value.pointer (some { block := w.heap.size, off := 0 }), Value.int IntKind.i64 0, Value.bool false,
            Value.pointer (some { block := w.heap.size + 1, off := 0 }),
            Value.pointer (some { block := w.heap.size + 1 + 1, off := 0 }), .int .i64 x.1, Value.func (Fn.func g) #[] lb, .int .i64 x.1,
            undef, undef, undef, undef, undef, undef, undef, undef, undef, undef, undef], defers := [] }) ?assign ?body ?done ?stop
  case assign =>
    intro l x W K hK
    gi_wp2
    exact hK
  case body =>
    rintro l pre ⟨x, hx⟩ W ⟨⟨h3, h6, h7⟩, hB⟩ hlt
    have hc3 := h3.cell
    have hc6 := h6.cell
    have hc7 := h7.cell
    have hf6 := h6.frozen
    have hf7 := h7.frozen
    have hlm : (leastL lt (pre.map Subtype.val)).2 = true → (leastL lt (pre.map Subtype.val)).1 ∈ zs := fun h => by
      have := leastL_mem lt _ h
      obtain ⟨y, _, hy⟩ := List.mem_map.1 this
      rw [← hy]; exact y.2
    obtain ⟨bb, hbb⟩ : ∃ bb, bb = leastL lt (pre.map Subtype.val) := ⟨_, rfl⟩
    have hsn := leastL_snoc lt (pre.map Subtype.val) x
    rw [← hbb] at hc6 hc7 hlm hsn h6 h7
    have hpre : ((pre ++ [(⟨x, hx⟩ : {x // x ∈ zs})]).map Subtype.val) = pre.map Subtype.val ++ [x] := by simp
    obtain ⟨best, found⟩ := bb
    dsimp only at hc6 hc7 hlm hsn h6 h7
    cases found with
    | false =>
      gi_wp2
      refine ⟨(fun f h => by cases h), ?_⟩
      go_at_K
      gi_wp2
      have hk : KeepsOthers W ((W.setCell ⟨w.heap.size + 1, 0, none⟩ (Value.int IntKind.i64 x)).setCell ⟨w.heap.size + 1 + 1, 0, none⟩ (Value.bool true)) := (KeepsOthers.setCell _ _ _).trans (KeepsOthers.setCell _ _ _)
      have hb : Below w.heap.size W ((W.setCell ⟨w.heap.size + 1, 0, none⟩ (Value.int IntKind.i64 x)).setCell ⟨w.heap.size + 1 + 1, 0, none⟩ (Value.bool true)) := ((Below.refl _ W).setCell (p := ⟨w.heap.size + 1, 0, none⟩) (by simp) _).setCell (p := ⟨w.heap.size + 1 + 1, 0, none⟩) (by first | (simp; done) | (simp; omega)) _
      refine ⟨hk.from _, hb, ?_, hB.trans hb⟩
      rw [hpre, hsn]
      exact ⟨(h3.kept (grownBy_setCell' _ _ _) (by first | (simp; done) | (simp; omega))).kept (grownBy_setCell' _ _ _) (by first | (simp; done) | (simp; omega)), (h6.set _).kept (grownBy_setCell' _ _ _) (by simp), (h7.kept (grownBy_setCell' _ _ _) (by simp)).set _⟩
    | true =>
      gi_wp2
      refine ⟨trivial, (CallsIn.inRound l (hless x best W hx (hlm (by trivial)) hB)).mono ?_⟩
      rintro e W2 ⟨rfl, hb2⟩
      have h3' : Boxed W2 _ _ _ := (hb2.block _ h3.lt).trans h3
      have h6' : Boxed W2 _ _ _ := (hb2.block _ h6.lt).trans h6
      have h7' : Boxed W2 _ _ _ := (hb2.block _ h7.lt).trans h7
      have hk2 : KeepsOthers W W2 := ⟨hb2.size, fun k o hk _ => (hb2.block k (Array.getElem?_eq_some_iff.1 hk).1).trans hk⟩
      have hb2' : Below w.heap.size W W2 := hb2.mono hB.size
      clear hc3 hc6 hc7 hf6 hf7
      have hc6 := h6'.cell
      have hc7 := h7'.cell
      have hf6 := h6'.frozen
      have hf7 := h7'.frozen
      cases hlb : lt x best with
      | false =>
        try simp only []
        try go_at_K
        gi_wp2
        refine ⟨hk2.from _, hb2', ?_, hB.trans hb2'⟩
        rw [hpre, hsn, hlb]
        exact ⟨h3', h6', h7'⟩
      | true =>
        try simp only []
        try go_at_K
        gi_wp2
        have hk : KeepsOthers W2 ((W2.setCell ⟨w.heap.size + 1, 0, none⟩ (Value.int IntKind.i64 x)).setCell ⟨w.heap.size + 1 + 1, 0, none⟩ (Value.bool true)) := (KeepsOthers.setCell _ _ _).trans (KeepsOthers.setCell _ _ _)
        have hb : Below w.heap.size W2 ((W2.setCell ⟨w.heap.size + 1, 0, none⟩ (Value.int IntKind.i64 x)).setCell ⟨w.heap.size + 1 + 1, 0, none⟩ (Value.bool true)) := ((Below.refl _ W2).setCell (p := ⟨w.heap.size + 1, 0, none⟩) (by simp) _).setCell (p := ⟨w.heap.size + 1 + 1, 0, none⟩) (by first | (simp; done) | (simp; omega)) _
        refine ⟨(hk2.trans hk).from _, hb2'.trans hb, ?_, hB.trans (hb2'.trans hb)⟩
        rw [hpre, hsn, hlb]
        exact ⟨(h3'.kept (grownBy_setCell' _ _ _) (by first | (simp; done) | (simp; omega))).kept (grownBy_setCell' _ _ _) (by first | (simp; done) | (simp; omega)), (h6'.set _).kept (grownBy_setCell' _ _ _) (by simp), (h7'.kept (grownBy_setCell' _ _ _) (by simp)).set _⟩
  case done =>
    rintro D ys W hD rfl ⟨⟨h3, h6, h7⟩, hB⟩ hK
    have hat : (zs.attach.map Subtype.val) = zs := by simp
    rw [hat] at h6 h7
    obtain ⟨bb, hbb⟩ : ∃ bb, bb = leastL lt zs := ⟨_, rfl⟩
    rw [← hbb] at h6 h7
    obtain ⟨best, found⟩ := bb
    dsimp only at h6 h7
    have hc6 := h6.cell
    have hc7 := h7.cell
    have hmx : Tryz.prog.follows .mixedOrders = true := by kernel_rfl
    gi_wp2
    gi_region
    all_goals gi_wp2
    refine ⟨by simp, .inl ⟨_, _, rfl, run_takeDeferred hK, ?_⟩⟩
    refine ⟨_, results_tmp2 rfl _ _ _, ?_, (hB.drew).trans (belowK_b (w := w) (Nat.le_refl _) W.drew D _ _ (by omega) hK rfl rfl)⟩
    rw [← hbb]; rfl
  case stop =>
    rintro D c pre W _ _ h _
    exact h.elim
end Go.Proofs.YtkfemiloehkmhaaGreat.S

