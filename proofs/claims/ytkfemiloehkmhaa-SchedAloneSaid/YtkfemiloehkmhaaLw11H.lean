/- Ytkfemiloehkmhaa: a text of our own, by an AI agent: Lw11H -/
import Derived.Test.YtkfemiloehkmhaaLyBH
import Derived.Test.YtkfemiloehkmhaaVLaw11H
set_option linter.unusedSimpArgs false
set_option linter.unusedVariables false
set_option maxRecDepth 100000
namespace Go.Proofs.Ytkfemiloehkmhaa.S
open Go Go.RowKit Go.Alog Go.Proofs.Ytkfemiloehkmhaa.T Go.Proofs.Ytkfemiloehkmhaa.V

def aw11C : List Ins := [⟨12, 1, 0, 0, 0⟩, ⟨1, 2, 1, 1, 0⟩, ⟨17, 0, 0, 0, 0⟩]
theorem aw11_lay : layP aw11C = [0, -1, 2, 1] := by decide +kernel
theorem aw11_pick : pickP aw11C [2, -1] = [⟨17, 0, 0, 0, 0⟩, ⟨0, 0, 0, 0, 0⟩] := by decide +kernel

theorem awake11 (w0 : World) (m : AM) : CallsA Try.prog w0 32 #[] m (fun r m' => r = .bool true ∧ m' = m) := by
  refine CallsA.down (Q := fun r => r = .bool true) (R := fun r m' => r = .bool true ∧ m.le m') ?_ fun _ _ h => h
  refine cf32 w0 m _ ⟨rfl, rfl, rfl, rfl, fun b1 hb1 hn1 => ?_⟩
  have l1 := le_new hn1 (.cells (insCells aw11C).toArray 24)
  have rd : Reads (m.upd b1 (.cells (insCells aw11C).toArray 24)) 5 (some ⟨b1, 0, none⟩) aw11C.length (insCells aw11C) := Reads.lit rfl
  change CallsA Try.prog w0 37 _ (m.upd b1 (.cells (insCells aw11C).toArray 24)) _
  generalize m.upd b1 (.cells (insCells aw11C).toArray 24) = M at l1 rd ⊢
  refine CallsA.mono (lay_spec w0 M (some ⟨b1, 0, none⟩) 3 aw11C (by decide) (by decide) rd) ?_
  rintro r M2 ⟨⟨A3, c5, rfl, o3, n3⟩, l2⟩
  rw [aw11_lay] at o3 ⊢
  refine ⟨_, _, _, rfl, rfl, fun b8 hb8 hn8 => ?_⟩
  have l9 := le_new hn8 (.cells #[.int .i64 2, .int .i64 (-1)] 3)
  have r9 : Reads (M2.upd b8 (.cells #[.int .i64 2, .int .i64 (-1)] 3)) 1 (some ⟨b8, 0, none⟩) ([2, -1] : List Int).length (intCells .i64 [2, -1]) := Reads.lit (cs := intCells .i64 [2, -1]) rfl
  generalize M2.upd b8 (.cells #[.int .i64 2, .int .i64 (-1)] 3) = M3 at l9 r9 ⊢
  refine CallsA.mono (pick_spec w0 M3 (some ⟨b1, 0, none⟩) 3 aw11C (by decide) ((rd.le l2).le l9) (some ⟨b8, 0, none⟩) 2 [2, -1] (by decide) r9) ?_
  rintro r M4 ⟨⟨A10, c12, rfl, o10, n10⟩, l4⟩
  rw [aw11_pick] at o10 ⊢
  refine ⟨_, _, _, rfl, rfl, fun b15 hb15 hn15 => ?_⟩
  have l16 := le_new hn15 (.cells #[.int .i64 0, .int .i64 (-1), .int .i64 2, .int .i64 1] 3)
  have r16 : Reads (M4.upd b15 (.cells #[.int .i64 0, .int .i64 (-1), .int .i64 2, .int .i64 1] 3)) 1 (some ⟨b15, 0, none⟩) 4 (intCells .i64 [0, -1, 2, 1]) := Reads.lit (cs := intCells .i64 [0, -1, 2, 1]) rfl
  generalize M4.upd b15 (.cells #[.int .i64 0, .int .i64 (-1), .int .i64 2, .int .i64 1] 3) = M5 at l16 r16 ⊢
  refine callB (same_e w0 M5 A3 _ c5 [0, -1, 2, 1] (some ⟨b15, 0, none⟩) 4 4 [0, -1, 2, 1] rfl rfl (by decide) (o3.le (AM.le_trans l9 (AM.le_trans l4 l16))).reads r16) ?_
  refine bcT ⟨rfl, bcT ⟨⟨by decide, by decide⟩, ?_⟩⟩
  obtain ⟨ad, rfl, hc⟩ := (o10.le l16).ex (by decide)
  rw [nilO_some]
  refine ⟨17, hc 0 _ rfl, rfl, bcT ⟨⟨by decide, by decide⟩, ?_⟩⟩
  rw [nilO_some]
  refine ⟨0, hc 5 _ rfl, rfl, retP_of ⟨rfl, ?_⟩⟩
  exact AM.le_trans l1 (AM.le_trans l2 (AM.le_trans l9 (AM.le_trans l4 l16)))

theorem aw11 (w0 : World) (M : AM) {b : Bool} (hb : b = true) : CallsA Try.prog w0 32 #[] M (fun r m' => ∃ t : Bool, r = .bool t ∧ RetP (fun r _ => r = .bool true) (.bool (bif b then t else false)) m') := by
  subst hb
  exact callB (awake11 w0 M) (retP_of rfl)
theorem aw11' (w0 : World) (M : AM) : CallsA Try.prog w0 32 #[] M (fun r m' => ∃ t : Bool, r = .bool t ∧ RetP (fun r _ => r = .bool true) (.bool t) m') := callB (awake11 w0 M) (retP_of rfl)

theorem law_SchedOrders (W : World) (A0 : Option Addr) (n0 c0 : Nat) (l0 : List Ins) (z0 : l0.length = n0) (hlc0 : n0 ≤ c0) (rd0 : Reads (mOf W) 5 A0 n0 (insCells l0)) (y0 : n0 * 40 ≤ 140737488351232) (hw0 : ∀ i ∈ l0, i.wf) :
    CallsA Try.prog W 10 #[.slice A0 n0 c0] (mOf W) (fun r _ => r = .bool true) := by
  subst z0
  refine cf10 W _ A0 _ c0 _ ⟨rfl, bcP (fun h => aw11' W _) fun h => ?_⟩
  have hol := ordP_len l0
  refine CallsA.mono (order_spec W _ A0 c0 l0 (by omega) rd0) ?_
  rintro r m1 ⟨⟨A4, c4, rfl, o4, n4⟩, l1⟩
  refine ⟨_, _, _, rfl, CallsA.mono (refOrder_spec W m1 A0 c0 l0 (by omega) (rd0.le l1)) ?_⟩
  rintro r m2 ⟨⟨A9, c9, rfl, o9, n9⟩, l2⟩
  refine ⟨_, _, _, rfl, callB (same_e W m2 A4 _ c4 (ordP l0) A9 _ c9 (ordP l0) rfl rfl (by omega) (o4.le l2).reads o9.reads) ?_⟩
  rw [decide_eq_true (rfl : ordP l0 = ordP l0)]
  exact bcT (aw11 W m2 rfl)
end Go.Proofs.Ytkfemiloehkmhaa.S
