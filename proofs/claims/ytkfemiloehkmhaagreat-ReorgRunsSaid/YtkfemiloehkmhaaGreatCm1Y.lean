/- YtkfemiloehkmhaaGreat: a text of our own, by an AI agent: Cm1Y -/
import Derived.Test.YtkfemiloehkmhaaGreatBkBY
set_option linter.unusedSimpArgs false
set_option linter.unusedVariables false
set_option maxRecDepth 100000
namespace Go.Proofs.YtkfemiloehkmhaaGreat.S
open Go Go.RowKit Go.Alog Go.Proofs.YtkfemiloehkmhaaGreat.T Go.Proofs.YtkfemiloehkmhaaGreat.V

theorem elIns:elOf Tryz.prog 22=some (36,5,40,[.int .i64 0,.int .i64 0,.int .i64 0,.int .i64 0,.int .i64 0]):=by kernel_rfl

theorem snoc1 {w0:World} {m0 m:AM} {A:Option Addr} {c:Nat} {l:List Ins} (lm:m0.le m) (o:Alog.Own m w0.heap.size 36 5 A l.length c (insCells l)) (nA:∀ k∈obl A,m0 k=none) (hl:l.length≤1000000) (x:Ins) {K:Option Addr→Nat→Nat→AM→Prop}
  (hK:∀ A' c' m',m0.le m'→Alog.Own m' w0.heap.size 36 5 A' (l.length+1) c' (insCells (l ++ [x]))→(∀ k∈obl A',m0 k=none)→K A' (l.length+1) c' m') :
  ∀ b11:Nat,w0.heap.size≤b11→m b11=none→let m12:=AM.upd m b11 (.cells (Ins.cells x).toArray 36);
   awp Tryz.prog w0.heap.size (Builtin.append_ #[22,22] 22 #[.slice A l.length c,.slice (some ⟨b11,0,none⟩) 1 1]) m12 fun v13 m14 =>
   ∃ (A15:Option Addr) (n16 c17:Nat),v13=.slice A15 n16 c17∧K A15 n16 c17 m14:=by
 intro b11 hb11 hn11
 refine awp_append_loc (m0:=m0) elIns (AM.le_trans lm (le_new hn11 _)) (o.upd (o.ne_none hn11)) nA (A2:=some ⟨b11,0,none⟩) (k:=1) (news:=Ins.cells x) (Reads.lit rfl) (ins_one x) (by omega) (by omega) (fun A2' c2' m28 l28 f28 o28 n28 _=>?_)
 refine ⟨A2',l.length+1,c2',rfl,hK A2' c2' m28 l28 ?_ n28⟩
 rw [show insCells (l ++ [x])=insCells l ++ Ins.cells x by simp [insCells]]; exact o28

theorem le_upd_fresh {m m':AM} {g:Nat} {o:Obj} (l:m.le m') (hg:m g=none):m.le (m'.upd g o):=fun k o' hk=>by
 have e:k≠g:=fun e=>by rw [e,hg] at hk; cases hk
 rw [upd_get_ne e]; exact l k o' hk

abbrev nop:Ins:=⟨0,0,0,0,0⟩
end Go.Proofs.YtkfemiloehkmhaaGreat.S

