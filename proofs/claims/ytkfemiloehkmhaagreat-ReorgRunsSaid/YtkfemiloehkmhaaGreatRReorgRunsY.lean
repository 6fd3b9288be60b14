/- YtkfemiloehkmhaaGreat: a text of our own, by an AI agent: RReorgRunsY -/
import Derived.Test.YtkfemiloehkmhaaGreatRows
import Derived.Test.YtkfemiloehkmhaaGreatRr9Y
import Derived.Test.YtkfemiloehkmhaaGreatFactsY
import Derived.WalkKit
import Derived.ProofKit
import Derived.OpenShut
import Derived.ShutString
import Derived.ChangeOld
import Derived.Below
import Derived.SizedLaws
namespace Go.Proofs.YtkfemiloehkmhaaGreat.reorgRuns
open Go.ChangeShapes Go.WideShapes Go.ChangeAt Go.RowKit Go.Alog
open Go.ChangeMaps (open_string shut_string)
set_option linter.unusedVariables false
set_option linter.unusedSimpArgs false
theorem own:ownKnob Tryz.prog.godebug=none:=Facts.own
theorem laidOut:laidOutB Tryz.prog=true:=Facts.laidOut
theorem closed:joinedFacts Tryz.prog 3 Tryz.f3 Rows.reorgRunsSpec Rows.reorgRunsRow=true:=by
 unfold joinedFacts
 rw [Facts.make,Facts.lifts,Facts.mayEnter,Facts.laidOut]
 exact Eq.trans (by kernel_rfl) (rfl:true=true)
set_option maxRecDepth 100000 in
theorem lifted (os:Os) (started:os.Started) (H:Type) (enc:TypeId × Value→H) :
  ReturnsInHanded {} Tryz.checked os 3 .any (Rows.reorgRunsSpec.pre6 enc Tryz.prog Tryz.f3 Rows.reorgRunsRow.domain false) (Rows.reorgRunsSpec.post enc Tryz.prog Tryz.f3 false true false false):=by
 refine returnsInHanded_of_change_sized (C:=Tryz.checked) own started (by kernel_rfl) Tryz.func3
  (ChangeSpec.witness6 (enc:=enc) (C:=Tryz.checked) false ⟨#[],#[.slice none 0 0,.int .i64 0,.slice none 0 0,.int .i64 0],[]⟩ 8 (by kernel_rfl) (by kernel_rfl) (by kernel_rfl) (by kernel_rfl)) ?_
 intro W base args ds gs before hval0 hW hcnd hsz0 _
 have hsz:(DataW.weightsEach Tryz.prog (Tryz.f3.params.toList ++ Rows.reorgRunsSpec.plain.varTypes Tryz.prog) (ds ++ gs)).all (·≤reachBytes)=true:=hsz0
 have hval:∀ (j:Nat) t v,Tryz.f3.params[j]?=some t→args[j]?=some v→Value.okWide Tryz.prog W .any base t v:=hval0
 have hW':=hW
 obtain ⟨p,q,hA0,hV,rfl,hfz,hnd⟩:=hW
 have hA:DataW.TrodAll enc Tryz.prog W 0 (fun _=>true) true Tryz.f3.params.toList args.toList ds p:=hA0
 rw [Tryz.params3] at hA hval hsz
 obtain ⟨v0,vs0,d0,ds0,p0,q0,hargs,rfl,rfl,h0,r0⟩:=trodAll_cons hA
 obtain ⟨v1,vs1,d1,ds1,p1,q1,rfl,rfl,rfl,h1,r1⟩:=trodAll_cons r0
 obtain ⟨v2,vs2,d2,ds2,p2,q2,rfl,rfl,rfl,h2,r2⟩:=trodAll_cons r1
 obtain ⟨v3,vs3,d3,ds3,p3,q3,rfl,rfl,rfl,h3,r3⟩:=trodAll_cons r2
 obtain ⟨rfl,rfl,rfl⟩:=trodAll_nil r3
 obtain rfl:args = #[v0,v1,v2,v3]:=by cases args; simp_all
 obtain ⟨rfl,rfl⟩:=trodVars_none hV
 have k0:=h0
 have lt0:∀ x∈p0,x.block<W.heap.size:=by obtain ⟨m,hm⟩:=k0; exact DataW.trod_lt m _ _ _ hm
 obtain ⟨a0,len0,cap0,rfl⟩:=okWide_slice Tryz.underlying22 (hval 0 22 v0 rfl rfl)
 obtain ⟨rows0,hr0,hf0,hlc0,hcm0,ho0⟩:=open_rows (d:=12) (e:=36) Tryz.underlying22 (by kernel_rfl) (by kernel_rfl) h0
 rw [show flat Tryz.prog 12 36 = [.int .i64,.int .i64,.int .i64,.int .i64,.int .i64] from by kernel_rfl] at hf0
 obtain ⟨l0,hl0,hn0,hw0⟩:=ins_rows rows0 hf0
 have rd0:Reads (mOf W) 5 a0 len0 (insCells l0):=by
  refine ⟨by rw [insCells_len,hn0,hr0],?_⟩
  rcases ho0 with ⟨h1,h2,_⟩ | ⟨ad,elems,rest,h1,_,_,_,h2⟩
  ·exact .inl ⟨h1,h2⟩
  ·exact .inr ⟨ad,h1,fun j u hj=>cell_heap (h2 j u (by rw [hl0]; exact hj))⟩
 have y0:len0*40≤140737488351232:=by
  rcases ho0 with ⟨_,h2,_⟩ | ⟨ad,elems,rest,_,h1,h2,_⟩
  ·rw [h2]; omega
  ·subst h1
   have z:=sized_slice hsz (j:=0) (t:=22) (e:=36) rfl rfl Tryz.underlying22
   rw [show Tryz.prog.bytesOf 36=40 from by kernel_rfl] at z
   exact Nat.le_trans (Nat.mul_le_mul_right _ (by omega)) z
 have z0:l0.length=len0:=by rw [hn0,hr0]
 have k1:=h1
 have lt1:∀ x∈p1,x.block<W.heap.size:=by obtain ⟨m,hm⟩:=k1; exact DataW.trod_lt m _ _ _ hm
 obtain ⟨a1,rfl,_,_,w1⟩:=open_int Tryz.underlying3 (hval 1 3 v1 rfl rfl) h1
 have k2:=h2
 have lt2:∀ x∈p2,x.block<W.heap.size:=by obtain ⟨m,hm⟩:=k2; exact DataW.trod_lt m _ _ _ hm
 obtain ⟨a2,len2,cap2,rfl⟩:=okWide_slice Tryz.underlying23 (hval 2 23 v2 rfl rfl)
 obtain ⟨rows2,hr2,hf2,hlc2,hcm2,ho2⟩:=open_rows (d:=12) (e:=3) Tryz.underlying23 (by kernel_rfl) (by kernel_rfl) h2
 rw [show flat Tryz.prog 12 3 = [.int .i64] from by kernel_rfl] at hf2
 obtain ⟨l2,hl2,hn2,hw2⟩:=int_rows .i64 rows2 hf2
 have rd2:Reads (mOf W) 1 a2 len2 (intCells .i64 l2):=by
  refine ⟨by simp [intCells,hn2,hr2],?_⟩
  rcases ho2 with ⟨h1,h2,_⟩ | ⟨ad,elems,rest,h1,_,_,_,h2⟩
  ·exact .inl ⟨h1,h2⟩
  ·exact .inr ⟨ad,h1,fun j u hj=>cell_heap (h2 j u (by rw [hl2]; exact hj))⟩
 have y2:len2*8≤140737488351232:=by
  rcases ho2 with ⟨_,h2,_⟩ | ⟨ad,elems,rest,_,h1,h2,_⟩
  ·rw [h2]; omega
  ·subst h1
   have z:=sized_slice hsz (j:=2) (t:=23) (e:=3) rfl rfl Tryz.underlying23
   rw [show Tryz.prog.bytesOf 3=8 from by kernel_rfl] at z
   exact Nat.le_trans (Nat.mul_le_mul_right _ (by omega)) z
 have z2:l2.length=len2:=by rw [hn2,hr2]
 have k3:=h3
 have lt3:∀ x∈p3,x.block<W.heap.size:=by obtain ⟨m,hm⟩:=k3; exact DataW.trod_lt m _ _ _ hm
 obtain ⟨a3,rfl,_,_,w3⟩:=open_int Tryz.underlying3 (hval 3 3 v3 rfl rfl) h3
 clear hA0 hval0 hsz0 hsz
 refine (law_walk (S.law_ReorgRuns W a0 len0 cap0 l0 z0 hlc0 rd0 y0 hw0 a1 w1 a2 len2 cap2 l2 z2 hlc2 rd2 y2 hw2 a3 w3)).mono fun e W' ⟨he,bel⟩=>?_
 subst he
 exact ⟨_,rfl,_,_,_,[],_,[],hW',trodAll_mk1 (shut_bool Tryz.underlying4 _),(trodAll_cons_mk (Below.trod laidOut (by kernel_rfl) (of_decide_eq_true (by kernel_rfl)) k0 bel lt0) (trodAll_cons_mk (Below.trod laidOut (by kernel_rfl) (of_decide_eq_true (by kernel_rfl)) k1 bel lt1) (trodAll_cons_mk (Below.trod laidOut (by kernel_rfl) (of_decide_eq_true (by kernel_rfl)) k2 bel lt2) (trodAll_cons_mk (Below.trod laidOut (by kernel_rfl) (of_decide_eq_true (by kernel_rfl)) k3 bel lt3) trodAll_mk0)))),rfl,bel.frame _,fun h=>by cases h⟩
theorem over:Rows.reorgRunsRow.holds Tryz.pinned (OpenSpec.ofChange Rows.reorgRunsSpec) :=
 OpenClaim.holds_of_wide 3 Tryz.f3 rfl rfl rfl rfl rfl rfl rfl ⟨rfl,rfl,rfl,rfl,rfl⟩ rfl rfl rfl rfl rfl (by kernel_rfl) Tryz.func3 closed
  (of_decide_eq_true (by kernel_rfl)) (by unfold Func.isWrapper; first | (rw [if_pos (by decide +kernel)]; kernel_rfl) | (rw [if_neg (by decide +kernel)]; exact ⟨rfl,rfl⟩))
  (fun os started H enc _=>lifted os started H enc)
end Go.Proofs.YtkfemiloehkmhaaGreat.reorgRuns
namespace Go.Proofs.YtkfemiloehkmhaaGreat
theorem reorgRuns_holds:Rows.ReorgRunsSaid:=reorgRuns.over
end Go.Proofs.YtkfemiloehkmhaaGreat

