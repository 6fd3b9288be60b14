/- Ytkfemiloehkmhaa: a text of our own, by an AI agent: Aw9H -/
import Derived.Test.YtkfemiloehkmhaaHdBH
import Derived.Test.YtkfemiloehkmhaaVLaw9H
set_option linter.unusedSimpArgs false
set_option linter.unusedVariables false
set_option maxRecDepth 100000
namespace Go.Proofs.Ytkfemiloehkmhaa.S
open Go Go.RowKit Go.Alog Go.Proofs.Ytkfemiloehkmhaa.T Go.Proofs.Ytkfemiloehkmhaa.V

def awC : List Ins := [⟨10, 0, 0, 0, 0⟩, ⟨15, 0, 0, 0, 0⟩, ⟨0, 0, 0, 0, 0⟩]
theorem awC_heads : headsP awC = [0, 2] := by decide +kernel
theorem awC_fit : fitP awC = true := by decide +kernel
theorem awC_strict : strictP awC = true := by decide +kernel

theorem awake9 (w0 : World) (m : AM) : CallsA Try.prog w0 20 #[] m (fun r m' => r = .bool true ∧ m.le m') := by
  refine cf20 w0 m _ ⟨rfl, rfl, rfl, rfl, fun b hb hn => ?_⟩
  have l1 := le_new hn (.cells #[.int .i64 10, .int .i64 0, .int .i64 0, .int .i64 0, .int .i64 0, .int .i64 15, .int .i64 0, .int .i64 0, .int .i64 0, .int .i64 0, .int .i64 0, .int .i64 0, .int .i64 0, .int .i64 0, .int .i64 0] 24)
  have rd : Reads (m.upd b (.cells #[.int .i64 10, .int .i64 0, .int .i64 0, .int .i64 0, .int .i64 0, .int .i64 15, .int .i64 0, .int .i64 0, .int .i64 0, .int .i64 0, .int .i64 0, .int .i64 0, .int .i64 0, .int .i64 0, .int .i64 0] 24)) 5 (some ⟨b, 0, none⟩) awC.length (insCells awC) := Reads.lit (cs := insCells awC) rfl
  generalize m.upd b (.cells #[.int .i64 10, .int .i64 0, .int .i64 0, .int .i64 0, .int .i64 0, .int .i64 15, .int .i64 0, .int .i64 0, .int .i64 0, .int .i64 0, .int .i64 0, .int .i64 0, .int .i64 0, .int .i64 0, .int .i64 0] 24) = M at l1 rd ⊢
  refine CallsA.mono (heads_spec w0 M (some ⟨b, 0, none⟩) 3 awC (by decide) rd) ?_
  rintro r M2 ⟨⟨A, c, rfl, o, n⟩, l2⟩
  rw [awC_heads] at o ⊢
  refine ⟨_, _, _, rfl, ?_⟩
  refine CallsA.mono (blocks_spec w0 M2 (some ⟨b, 0, none⟩) 3 awC (by decide) (rd.le l2)) ?_
  rintro r M3 ⟨⟨A2, c2, rfl, o2, n2⟩, l3⟩
  rw [awC_heads] at o2 ⊢
  refine ⟨_, _, _, rfl, rfl, bcT ?_⟩
  obtain ⟨ad, rfl, hc⟩ := (o.le l3).ex (by decide)
  obtain ⟨ad2, rfl, hc2⟩ := o2.ex (by decide)
  refine ⟨⟨by decide, by decide⟩, ?_⟩
  rw [nilO_some]
  refine ⟨0, hc 0 _ rfl, rfl, bcT ⟨⟨by decide, by decide⟩, ?_⟩⟩
  rw [nilO_some]
  refine ⟨2, hc 1 _ rfl, rfl, bcT ⟨rfl, bcT ⟨⟨by decide, by decide⟩, ?_⟩⟩⟩
  rw [nilO_some]
  refine ⟨2, hc2 2 _ rfl, 3, by rw [Addr.add_add]; exact hc2 3 _ rfl, rfl, true, (by unfold EqP; kernel_rfl), bcT ?_⟩
  refine callB (fit_e w0 M3 _ 3 awC (by decide) (rd.le (AM.le_trans l2 l3))) ?_
  rw [awC_fit]
  refine bcT (callB (strict_e w0 M3 _ 3 awC (by decide) (rd.le (AM.le_trans l2 l3))) ?_)
  rw [awC_strict]
  exact retP_of ⟨rfl, AM.le_trans l1 (AM.le_trans l2 l3)⟩
end Go.Proofs.Ytkfemiloehkmhaa.S
