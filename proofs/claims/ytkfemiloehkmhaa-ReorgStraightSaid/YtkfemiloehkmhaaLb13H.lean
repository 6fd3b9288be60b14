/- Ytkfemiloehkmhaa: a text of our own, by an AI agent: Lb13H -/
import Derived.Test.YtkfemiloehkmhaaLw13H
import Derived.Test.YtkfemiloehkmhaaVLaw13bH
set_option linter.unusedSimpArgs false
set_option linter.unusedVariables false
set_option maxRecDepth 100000
namespace Go.Proofs.Ytkfemiloehkmhaa.S
open Go Go.RowKit Go.Alog Go.Proofs.Ytkfemiloehkmhaa.T Go.Proofs.Ytkfemiloehkmhaa.V

theorem law_ReorgStraight (W : World) (A0 : Option Addr) (n0 c0 : Nat) (l0 : List Ins) (z0 : l0.length = n0) (hlc0 : n0 ≤ c0) (rd0 : Reads (mOf W) 5 A0 n0 (insCells l0)) (y0 : n0 * 40 ≤ 140737488351232) (hw0 : ∀ i ∈ l0, i.wf) :
    CallsA Try.prog W 18 #[.slice A0 n0 c0] (mOf W) (fun r _ => r = .bool true) := by
  subst z0
  generalize hm : mOf W = m
  rw [hm] at rd0
  generalize hR : (fun (r : Value) (_ : AM) => r = Value.bool true) = R
  have hT : ∀ M : AM, R (.bool true) M := fun M => by rw [← hR]
  refine cf18 W m A0 _ c0 R ⟨rfl, bcP (fun h => ⟨decide_eq_true h, rfl, aw13' W m hT⟩) fun h => ⟨rfl, ?_⟩⟩
  rw [decide_eq_false h]
  refine bcI (fun h2 => ⟨h2, aw13' W m hT⟩) fun h2 => ?_
  have hne : l0 ≠ [] := fun e => by rw [e] at h2; simp at h2
  have h2' : ((l0.length : Int) == 0) = false := h2
  refine callB (refFit_e W m A0 c0 l0 (by omega) rd0) ?_
  rw [h2']
  cases hf : fitP l0 with
  | false => exact bcT (aw13' W m hT)
  | true =>
    refine bcF ?_
    refine vl18_11010 W m _ R A0 _ c0 A0 _ c0 l0.length 0 (fun q k m' => m.le m' ∧ 0 ≤ k ∧ k ≤ l0.length ∧ (q : Int) = l0.length - k ∧ ∀ j : Nat, (j : Int) < k → goesP (cAt l0 j) = false) (fun m' => m.le m' ∧ ∀ j : Nat, j < l0.length → goesP (cAt l0 j) = false) l0.length rfl rfl rfl rfl ⟨AM.le_refl _, by omega, by omega, by omega, fun j hj => by omega⟩ ?_ ?_
    · rintro q σ k M ⟨lM, k0, k1, hq, hg⟩
      refine ⟨rfl, bcP (fun hlt => ?_) (fun hlt => ?_)⟩
      · have wk : IntKind.wrap .i64 (k + 1) = k + 1 := wrap_s (by omega) (by omega)
        rw [wk]
        refine ldAt (rd0.le lM) rfl k0 hlt fun a => blk5 fun b M2 l2 nb hb p => ?_
        replace p : M2 b = some (.cells (Ins.cells (cAt l0 k)).toArray 24) := p
        refine ldIns p (callB (refGoes_e W M2 (cAt l0 k)) ?_)
        cases hgk : goesP (cAt l0 k) with
        | true => exact bcT (aw13' W M2 hT)
        | false =>
          refine bcF ?_
          (repeat (refine And.intro (Eq.refl _) ?_))
          refine ⟨q - 1, by omega, AM.le_trans lM l2, by omega, by omega, by omega, fun j hj => ?_⟩
          by_cases e : (j : Int) = k
          · rw [e]; exact hgk
          · exact hg j (by omega)
      · (repeat (refine And.intro (Eq.refl _) ?_))
        exact ⟨lM, fun j hj => hg j (by omega)⟩
    · rintro σ M ⟨lM, hg⟩
      have hst := straight hf hne hg (by omega)
      have hll := layP_len l0
      have hpl := pickP_len l0 (layP l0)
      have rdM := rd0.le lM
      refine CallsA.mono (reorg_spec W M A0 c0 l0 (by omega) (by omega) rdM) ?_
      rintro r m45 ⟨A37, c39, A40, c42, rfl, o37, o40, n37, n40, l1⟩
      rw [hst] at o37 o40 ⊢
      have hlb : layB l0 = pickP l0 (layP l0) := rfl
      refine ⟨_, _, _, _, _, _, _, rfl, CallsA.mono (refLay_spec W m45 A0 c0 l0 (by omega) (by omega) (rdM.le l1)) ?_⟩
      rintro r m53 ⟨⟨A49, c51, rfl, o49, n49⟩, l2⟩
      refine ⟨_, _, _, rfl, CallsA.mono (pick_spec W m53 A0 c0 l0 (by omega) ((rdM.le l1).le l2) A49 c51 (layP l0) (by omega) o49.reads) ?_⟩
      rintro r m58 ⟨⟨A54, c56, rfl, o54, n54⟩, l3⟩
      rw [hlb] at o37 o40 ⊢
      generalize pickP l0 (layP l0) = pk at *
      refine ⟨_, _, _, rfl, rfl, bcF ⟨rfl, bcEF (by simp) ⟨rfl, fun b59 hb59 hn59 => ?_⟩⟩⟩
      have l4 := le_new hn59 (.cells #[.int .i64 0, .int .i64 pk.length] 3)
      have r4 : Reads (m58.upd b59 (.cells #[.int .i64 0, .int .i64 pk.length] 3)) 1 (some ⟨b59, 0, none⟩) 2 (intCells .i64 [0, (pk.length : Int)]) := Reads.lit (cs := intCells .i64 [0, (pk.length : Int)]) rfl
      try dsimp only
      generalize m58.upd b59 (.cells #[.int .i64 0, .int .i64 pk.length] 3) = M4 at l4 r4 ⊢
      have l34 := AM.le_trans l2 (AM.le_trans l3 l4)
      refine callB (same_e W M4 A40 _ c42 [0, (pk.length : Int)] (some ⟨b59, 0, none⟩) 2 2 [0, (pk.length : Int)] rfl rfl (by simp) (o40.le l34).reads r4) ?_
      rw [decide_eq_true rfl]
      refine bcEF (by simp) ?_
      have r37 := (o37.le l34).reads
      have r54 := (o54.le l4).reads
      refine vl18_111111010 W M4 _ R A37 _ c39 A54 _ c56 pk.length 0 (fun q k m' => m' = M4 ∧ 0 ≤ k ∧ k ≤ pk.length ∧ (q : Int) = pk.length - k) (fun m' => True) pk.length rfl rfl rfl rfl ⟨rfl, by omega, by omega, by omega⟩ ?_ ?_
      · rintro q σ k M5 ⟨rfl, k0, k1, hq⟩
        refine ⟨rfl, bcP (fun hlt => ?_) (fun hlt => by (repeat (refine And.intro (Eq.refl _) ?_)); trivial)⟩
        have wk : IntKind.wrap .i64 (k + 1) = k + 1 := wrap_s (by omega) (by omega)
        refine ldAt r37 rfl k0 hlt fun a => ldAt r54 rfl k0 hlt fun a2 => ⟨_, eqp_n _ _, ?_⟩
        rw [decide_eq_true rfl, wk]
        refine bcF ?_
        (repeat (refine And.intro (Eq.refl _) ?_))
        exact ⟨q - 1, by omega, rfl, by omega, by omega, by omega⟩
      · intro σ M5 _
        exact aw13' W M5 hT
end Go.Proofs.Ytkfemiloehkmhaa.S

