/- YtkfemiloehkmhaaGreat: a text of our own, by an AI agent: Rr9Y -/
import Derived.Test.YtkfemiloehkmhaaGreatRrBY
import Derived.Test.YtkfemiloehkmhaaGreatAw13Y
import Derived.Test.YtkfemiloehkmhaaGreatP7BY
import Derived.Test.YtkfemiloehkmhaaGreatVLaw13rY
set_option linter.unusedSimpArgs false
set_option linter.unusedVariables false
set_option maxRecDepth 100000
namespace Go.Proofs.YtkfemiloehkmhaaGreat.S
open Go Go.RowKit Go.Alog Go.Proofs.YtkfemiloehkmhaaGreat.T Go.Proofs.YtkfemiloehkmhaaGreat.V

theorem ctx_of {code:List Ins} (hs:strictP code=true) (he:(reorgP code).2.2=0):Ctx code (reorgP code).1:=by
 unfold strictP at hs
 rw [Bool.and_eq_true] at hs
 have hf:=hs.1
 have hb:∀ j:Nat,j<code.length→sbad (cAt code j)=false:=fun j hj=>by
  have h2:=hs.2
  rw [Bool.not_eq_true',List.any_eq_false] at h2
  have:=h2 _ (cAt_mem (code:=code) (k:=j) (by omega) (by omega))
  simpa using this
 have hl:code.length≤4096:=by
  refine Classical.byContradiction fun h=>?_
  rw [fitP_len (by omega)] at hf; cases hf
 unfold reorgP at he ⊢
 rw [if_neg (by rw [hf]; simp)] at he ⊢
 split at he
 ·cases he
 ·rename_i h2
  rw [if_neg h2]
  cases hp:posF code (outU code (mB code)).length with
  | none=>rw [hp] at he; cases he
  | some out=>exact ⟨hf,hb,hp,hl⟩

theorem law_ReorgRuns (W:World) (A0:Option Addr) (n0 c0:Nat) (l0:List Ins) (z0:l0.length=n0) (hlc0:n0≤c0) (rd0:Reads (mOf W) 5 A0 n0 (insCells l0)) (y0:n0*40≤140737488351232) (hw0:∀ i∈l0,i.wf) (a1:Int) (w1:(Lit.int .i64 a1).wf=true)
  (A2:Option Addr) (n2 c2:Nat) (l2:List Int) (z2:l2.length=n2) (hlc2:n2≤c2) (rd2:Reads (mOf W) 1 A2 n2 (intCells .i64 l2)) (y2:n2*8≤140737488351232) (hw2:∀ i∈l2,(Lit.int .i64 i).wf=true) (a3:Int) (w3:(Lit.int .i64 a3).wf=true) :
  CallsA Tryz.prog W 3 #[.slice A0 n0 c0,.int .i64 a1,.slice A2 n2 c2,.int .i64 a3] (mOf W) (fun r _=>r=.bool true):=by
 subst z0; subst z2
 have hf3:=wf_i64 w3
 generalize hm:mOf W=m
 rw [hm] at rd0 rd2
 generalize hR:(fun (r:Value) (_:AM)=>r=Value.bool true)=R
 have hT:∀ M:AM,R (.bool true) M:=fun M=>by rw [← hR]
 have aw:∀ M:AM,CallsA Tryz.prog W 5 #[] M (fun r m'=>∃ t:Bool,r=.bool t∧RetP R (.bool t) m'):=fun M=>aw13' W M hT
 refine cf3 W m A0 _ c0 a1 A2 _ c2 a3 R ⟨rfl,bcP (fun h=>⟨decide_eq_true h,rfl,rfl,rfl,rfl,aw m⟩) fun h=>?_⟩
 refine callB (refStrict_e W m A0 c0 l0 (by omega) rd0) ?_
 rw [decide_eq_false h]
 cases hs:strictP l0 with
 | false=>exact bcT ⟨rfl,rfl,rfl,rfl,aw m⟩
 | true =>
  refine bcF ⟨rfl,bcP (fun h1=>⟨decide_eq_true h1,rfl,rfl,aw m⟩) fun h1=>⟨rfl,?_⟩⟩
  rw [decide_eq_false h1]
  refine bcP (fun h2=>⟨decide_eq_true h2,rfl,aw m⟩) fun h2=>⟨rfl,?_⟩
  rw [decide_eq_false h2]
  refine bcP (fun h3=>⟨decide_eq_true h3,aw m⟩) fun h3=>⟨rfl,?_⟩
  rw [decide_eq_false h3]
  refine bcP (fun h4=>aw m) fun h4=>?_
  refine CallsA.mono (reorg_spec W m A0 c0 l0 (by omega) (by omega) rd0) ?_
  rintro r m30 ⟨A22,c24,A25,c27,rfl,o22,o25,n22,n25,l1⟩
  obtain ⟨hrl,_⟩:=reorgP_len l0
  have hctx:=fun he=>ctx_of (code:=l0) hs he
  generalize reorgP l0=p at *
  refine ⟨_,_,_,_,_,_,_,rfl,CallsA.mono (run_spec W m30 A0 c0 l0 a1 A2 c2 l2 a3 hf3 (rd0.le l1) (rd2.le l1) (by omega)) ?_⟩
  rintro r m43 ⟨l2',Ao,co,Am,cm,rfl,oo,om⟩
  have hro:=runP_len l0 a1 l2 a3
  have hst:0≤(runP l0 a1 l2 a3).steps∧(runP l0 a1 l2 a3).steps≤300:=by
   unfold runP
   split
   ·simp
   ·have:=runG_steps l0 a3.toNat (beginS a1 l2,0,0)
    exact ⟨this.1,by have h6:(runG l0 a3.toNat (beginS a1 l2,0,0)).2.2≤(0:Int)+a3.toNat:=this.2.1; show (runG l0 a3.toNat (beginS a1 l2,0,0)).2.2≤300; omega⟩
  have hsame:=fun he=>runs_same (hctx he) a1 l2 a3 (by omega) (by omega) hrl
  generalize hA:runP l0 a1 l2 a3=ra at *
  refine ⟨_,_,_,_,_,_,_,_,rfl,blk4 fun b44 M lM n44 hb44 p44=>⟨rfl,?_⟩⟩
  refine bcI (fun h5=>⟨h5,aw M⟩) fun h5=>⟨_,cel p44 rfl,rfl,?_⟩
  have he:p.2.2=0:=by simpa using h5
  rw [h5]
  refine bcI (fun h6=>aw M) fun h6=>⟨_,cel p44 rfl,rfl,rfl,rfl,rfl,?_⟩
  have htrap:ra.trap≠0:=by
   have h6':(ra.trap == 0)=false:=h6
   simpa using h6'
  have hE:=hsame he htrap
  have wf:IntKind.wrap .i64 (IntKind.wrap .i64 (IntKind.wrap .i64 (3*ra.steps)+IntKind.wrap .i64 (2*(l0.length:Int)))+10)=3*ra.steps+2*l0.length+10:=by
   rw [wrap_s (i:=3*ra.steps) (by omega) (by omega),wrap_s (i:=2*(l0.length:Int)) (by omega) (by omega),wrap_s (i:=3*ra.steps+2*(l0.length:Int)) (by omega) (by omega),wrap_s (by omega) (by omega)]
  rw [wf]
  have lm:m.le M:=AM.le_trans l1 (AM.le_trans l2' lM)
  have r22:=(o22.le (AM.le_trans l2' lM)).reads
  refine CallsA.mono (runPP_spec W M A22 c24 p.1 a1 A2 c2 l2 (3*ra.steps+2*l0.length+10) (by unfold InI; omega) r22 (rd2.le lm) (by omega)) ?_
  rintro r m67 ⟨l4,Bo,do_,Bm,dm,rfl,po,pm⟩
  generalize hB:runPP p.1 a1 l2 (3*ra.steps+2*l0.length+10)=rb at *
  refine ⟨_,_,_,_,_,_,_,_,rfl,blk4 fun b68 M2 lM2 n68 hb68 p68=>⟨_,cel p68 rfl,?_⟩⟩
  have p44':=lM2 _ _ (l4 _ _ p44)
  refine StC_own p44' hb44 (by simp) ?_
  have hne:b44≠b68:=fun e=>by
   rw [← e,l4 _ _ p44] at n68; cases n68
  have p44n:(M2.upd b44 (.cells (#[.int .i64 ra.trap,.int .i64 ra.steps,.slice Ao ra.out.length co,.slice Am ra.mem.length cm].setIfInBounds 1 (.int .i64 rb.steps)) 30)) b44=some (.cells #[.int .i64 ra.trap,.int .i64 rb.steps,.slice Ao ra.out.length co,.slice Am ra.mem.length cm] 30 (0,0)):=by rw [upd_get_same]; rfl
  have p68n:(M2.upd b44 (.cells (#[.int .i64 ra.trap,.int .i64 ra.steps,.slice Ao ra.out.length co,.slice Am ra.mem.length cm].setIfInBounds 1 (.int .i64 rb.steps)) 30)) b68=some (.cells #[.int .i64 rb.trap,.int .i64 rb.steps,.slice Bo rb.out.length do_,.slice Bm rb.mem.length dm] 30 (0,0)):=by rw [upd_get_ne hne.symm]; exact p68
  have keep:∀ {A:Option Addr} {n c:Nat} {xs:List Value},Alog.Own M2 W.heap.size 3 1 A n c xs→Reads (M2.upd b44 (.cells (#[.int .i64 ra.trap,.int .i64 ra.steps,.slice Ao ra.out.length co,.slice Am ra.mem.length cm].setIfInBounds 1 (.int .i64 rb.steps)) 30)) 1 A n xs:=fun {A n c xs} o=>(o.upd (o.ne_type p44' (by decide))).reads
  have l67:m43.le M2:=AM.le_trans lM (AM.le_trans l4 lM2)
  have ka:=keep (oo.le l67)
  have kb:=keep (om.le l67)
  have kc:=keep (po.le lM2)
  have kd:=keep (pm.le lM2)
  generalize M2.upd b44 (.cells (#[.int .i64 ra.trap,.int .i64 ra.steps,.slice Ao ra.out.length co,.slice Am ra.mem.length cm].setIfInBounds 1 (.int .i64 rb.steps)) 30)=M3 at *
  refine ⟨_,cel p44n rfl,_,cel p44n rfl,_,_,_,cel p44n rfl,_,_,_,cel p44n rfl,_,cel p68n rfl,_,cel p68n rfl,_,_,_,cel p68n rfl,_,_,_,cel p68n rfl,?_⟩
  refine CallsA.mono (equal_spec W M3 { ra with steps:=rb.steps } rb Ao Am Bo Bm co cm do_ dm ka kb kc kd hro) ?_
  rintro r m94 ⟨rfl,l5⟩
  rw [decide_eq_true hE.symm]
  exact ⟨_,rfl,bcT (aw13 W m94 hT rfl)⟩
end Go.Proofs.YtkfemiloehkmhaaGreat.S

