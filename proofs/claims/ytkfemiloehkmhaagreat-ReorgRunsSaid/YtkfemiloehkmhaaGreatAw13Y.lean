/- YtkfemiloehkmhaaGreat: a text of our own, by an AI agent: Aw13Y -/
import Derived.Test.YtkfemiloehkmhaaGreatLrBY
import Derived.Test.YtkfemiloehkmhaaGreatOeBY
import Derived.Test.YtkfemiloehkmhaaGreatVLaw13aY
set_option linter.unusedSimpArgs false
set_option linter.unusedVariables false
set_option maxRecDepth 100000
namespace Go.Proofs.YtkfemiloehkmhaaGreat.S
open Go Go.RowKit Go.Alog Go.Proofs.YtkfemiloehkmhaaGreat.T Go.Proofs.YtkfemiloehkmhaaGreat.V

def aw13C:List Ins:=[⟨10,4,0,0,7⟩,⟨17,0,0,0,2⟩]
theorem aw13_re:reorgP aw13C=([⟨17,0,0,0,2⟩,⟨10,4,0,0,7⟩],[0,2],0):=by decide +kernel
theorem reorgP_len (code:List Ins):(reorgP code).1.length≤4096∧(reorgP code).2.1.length≤code.length+1:=by
 unfold reorgP
 split
 ·simp
 ·split
  ·simp
  ·rename_i h2
   cases hp:posF code (outU code (mB code)).length with
   | none=>simp
   | some out =>
    have h3:=posF_len hp
    have h4:=plU_len code (mB code+1)
    have h5:=mB_le code
    exact ⟨by show out.length≤4096; omega,by show (plU code (mB code+1)).length≤code.length+1; omega⟩

theorem awake13 (w0:World) (m:AM):CallsA Tryz.prog w0 5 #[] m (fun r m'=>r=.bool true∧m'=m):=by
 refine CallsA.down (Q:=fun r=>r=.bool true) (R:=fun r m'=>r=.bool true∧m.le m') ?_ fun _ _ h=>h
 refine cf5 w0 m _ ⟨rfl,rfl,rfl,fun b1 hb1 hn1=>?_⟩
 have l1:=le_new hn1 (.cells (insCells aw13C).toArray 36)
 have rd:Reads (m.upd b1 (.cells (insCells aw13C).toArray 36)) 5 (some ⟨b1,0,none⟩) aw13C.length (insCells aw13C):=Reads.lit rfl
 change CallsA Tryz.prog w0 6 _ (m.upd b1 (.cells (insCells aw13C).toArray 36)) _
 generalize m.upd b1 (.cells (insCells aw13C).toArray 36)=M at l1 rd ⊢
 refine CallsA.mono (reorg_spec w0 M (some ⟨b1,0,none⟩) 2 aw13C (by decide) (by decide) rd) ?_
 rintro r m11 ⟨A3,c5,A6,c8,rfl,o3,o6,n3,n6,l2⟩
 rw [aw13_re] at o3 o6 ⊢
 refine ⟨_,_,_,_,_,_,_,rfl,rfl,bcT ⟨rfl,bcT ⟨⟨by decide,by decide⟩,?_⟩⟩⟩
 obtain ⟨ad,rfl,hc⟩:=o3.ex (by decide)
 rw [nilO_some]
 refine ⟨17,hc 0 _ rfl,0,by rw [Addr.add_add]; exact hc 1 _ rfl,0,by rw [Addr.add_add]; exact hc 2 _ rfl,0,by rw [Addr.add_add]; exact hc 3 _ rfl,2,by rw [Addr.add_add]; exact hc 4 _ rfl,rfl,_,eqp_i ⟨17,0,0,0,2⟩ ⟨17,0,0,0,2⟩,bcT ⟨⟨by decide,by decide⟩,?_⟩⟩
 rw [nilO_some]
 refine ⟨7,by rw [Addr.add_add]; exact hc 9 _ rfl,rfl,bcT ⟨rfl,fun b24 hb24 hn24=>?_⟩⟩
 have l3:=le_new hn24 (.cells #[.int .i64 0,.int .i64 2] 3)
 have r3:Reads (m11.upd b24 (.cells #[.int .i64 0,.int .i64 2] 3)) 1 (some ⟨b24,0,none⟩) 2 (intCells .i64 [0,2]):=Reads.lit (cs:=intCells .i64 [0,2]) rfl
 try dsimp only
 generalize m11.upd b24 (.cells #[.int .i64 0,.int .i64 2] 3)=M3 at l3 r3 ⊢
 refine callB (same_e w0 M3 A6 _ c8 [0,2] (some ⟨b24,0,none⟩) 2 2 [0,2] rfl rfl (by decide) (o6.le l3).reads r3) ?_
 rw [decide_eq_true rfl]
 exact retP_of ⟨rfl,AM.le_trans l1 (AM.le_trans l2 l3)⟩
theorem aw13 (w0:World) (M:AM) {R:Value→AM→Prop} (hR:∀ M,R (.bool true) M) {b:Bool} (hb:b=true):CallsA Tryz.prog w0 5 #[] M (fun r m'=>∃ t:Bool,r=.bool t∧RetP R (.bool (bif b then t else false)) m'):=by
 subst hb
 exact callB (awake13 w0 M) (retP_of (hR M))
theorem aw13' (w0:World) (M:AM) {R:Value→AM→Prop} (hR:∀ M,R (.bool true) M):CallsA Tryz.prog w0 5 #[] M (fun r m'=>∃ t:Bool,r=.bool t∧RetP R (.bool t) m'):=callB (awake13 w0 M) (retP_of (hR M))

end Go.Proofs.YtkfemiloehkmhaaGreat.S

