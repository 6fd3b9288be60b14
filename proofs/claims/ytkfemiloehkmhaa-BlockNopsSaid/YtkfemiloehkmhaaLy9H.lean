/- Ytkfemiloehkmhaa: a text of our own, by an AI agent: Ly9H -/
import Derived.Test.YtkfemiloehkmhaaLx9H
set_option linter.unusedSimpArgs false
set_option linter.unusedVariables false
set_option maxRecDepth 100000
namespace Go.Proofs.Ytkfemiloehkmhaa.S
open Go Go.RowKit Go.Alog Go.Proofs.Ytkfemiloehkmhaa.T Go.Proofs.Ytkfemiloehkmhaa.V

def hsUp (code : List Ins) (a : Nat) : List Int := ((List.range a).map (fun k : Nat => (k : Int))).filter (headP code)
theorem hsUp_succ (code : List Ins) (a : Nat) : hsUp code (a + 1) = hsUp code a ++ (if headP code a = true then [(a : Int)] else []) := by
  unfold hsUp
  rw [List.range_succ, List.map_append, List.filter_append]
  congr 1
  simp only [List.map_cons, List.map_nil, List.filter_cons, List.filter_nil]
theorem hsUp_pre (code : List Ins) (a d : Nat) : ∃ t, hsUp code (a + d) = hsUp code a ++ t := by
  induction d with
  | zero => exact ⟨[], by simp⟩
  | succ d ih =>
    obtain ⟨t, ht⟩ := ih
    rw [← Nat.add_assoc, hsUp_succ, ht, List.append_assoc]
    exact ⟨_, rfl⟩
theorem hsUp_at {code : List Ins} {a n : Nat} (h : a < n) (hh : headP code a = true) : (hsUp code a).length < (hsUp code n).length ∧ (hsUp code n).getD (hsUp code a).length 0 = a := by
  obtain ⟨t, ht⟩ := hsUp_pre code (a + 1) (n - (a + 1))
  rw [show a + 1 + (n - (a + 1)) = n by omega, hsUp_succ, if_pos hh] at ht
  rw [ht]
  refine ⟨by simp, ?_⟩
  simp [List.getD]
theorem headsP_up {code : List Ins} (h : fitP code = true) : headsP code = hsUp code code.length := by
  unfold headsP hsUp; rw [if_pos h]

theorem blk_get : ∀ (l : List (Int × Int)) (k : Nat), k < l.length → (blkCells l)[k * 2]? = some (.int .i64 (l.getD k (0, 0)).1) ∧ (blkCells l)[k * 2 + 1]? = some (.int .i64 (l.getD k (0, 0)).2)
  | [], k, h => by simp at h
  | p :: l, 0, h => by simp [blkCells]
  | p :: l, k + 1, h => by
    have := blk_get l k (by simpa using h)
    have e : blkCells (p :: l) = [.int .i64 p.1, .int .i64 p.2] ++ blkCells l := by simp [blkCells]
    rw [e]
    refine ⟨?_, ?_⟩
    · rw [List.getElem?_append_right (by simp; omega)]
      simp only [List.length_cons, List.length_nil]
      rw [show (k + 1) * 2 - (0 + 1 + 1) = k * 2 by omega, this.1]; simp
    · rw [List.getElem?_append_right (by simp; omega)]
      simp only [List.length_cons, List.length_nil]
      rw [show (k + 1) * 2 + 1 - (0 + 1 + 1) = k * 2 + 1 by omega, this.2]; simp
theorem cell_blk {m : AM} {a : Addr} {l : List (Int × Int)} (h : Cells m a (blkCells l)) {i : Int} (h0 : 0 ≤ i) (h1 : i < l.length) :
    m.cell (a.add (i.toNat * 2)) = some (.int .i64 (l.getD i.toNat (0, 0)).1) ∧ m.cell ((a.add (i.toNat * 2)).add 1) = some (.int .i64 (l.getD i.toNat (0, 0)).2) := by
  have := blk_get l i.toNat (by omega)
  refine ⟨h _ _ this.1, ?_⟩
  rw [Addr.add_add]
  exact h _ _ this.2
theorem blkP_get (h : List Int) (n : Int) {k : Nat} (hk : k < h.length) : (blkP h n).getD k (0, 0) = blkAt h n k := by
  unfold blkP
  simp [List.getD, hk]

theorem law_BlockHeads (W : World) (A0 : Option Addr) (n0 c0 : Nat) (l0 : List Ins) (z0 : l0.length = n0) (hlc0 : n0 ≤ c0) (rd0 : Reads (mOf W) 5 A0 n0 (insCells l0)) (y0 : n0 * 40 ≤ 140737488351232) (hw0 : ∀ i ∈ l0, i.wf) :
    CallsA Try.prog W 4 #[.slice A0 n0 c0] (mOf W) (fun r _ => r = .bool true) := by
  subst z0
  refine cf4 W _ A0 _ c0 _ ⟨rfl, bcP (fun h => aw9' W _) fun h => ?_⟩
  refine CallsA.mono (heads_spec W _ A0 c0 l0 (by omega) rd0) ?_
  rintro r m1 ⟨⟨A4, c4, rfl, o4, n4⟩, l1⟩
  refine ⟨_, _, _, rfl, CallsA.mono (blocks_spec W m1 A0 c0 l0 (by omega) (rd0.le l1)) ?_⟩
  rintro r m2 ⟨⟨A9, c9, rfl, o9, n9⟩, l2⟩
  refine ⟨_, _, _, rfl, callB (refFit_e W m2 A0 c0 l0 (by omega) (rd0.le (AM.le_trans l1 l2))) ?_⟩
  have hbl := blkP_len (headsP l0) l0.length
  have hhl := headsP_len l0
  cases hf : fitP l0 with
  | false =>
    have hn : headsP l0 = [] := by unfold headsP; rw [hf]; rfl
    rw [hn]
    refine bcT ⟨rfl, rfl, ?_⟩
    exact bcT (aw9 W m2 (b := true) rfl)
  | true =>
    rw [headsP_up hf] at o4 o9 hbl hhl ⊢
    generalize hH : hsUp l0 l0.length = H at o4 o9 hbl hhl ⊢
    have o4 := o4.le l2
    have rdl := rd0.le (AM.le_trans l1 l2)
    clear l1 l2
    refine bcF ?_
    refine vl4_11111010 W m2 _ _ A0 l0.length c0 A4 H.length c4 A9 (blkP H l0.length).length c9 l0.length 0 0
      (fun n k a m' => m' = m2 ∧ 0 ≤ a ∧ a ≤ l0.length ∧ (n : Int) = l0.length - a ∧ k = (hsUp l0 a.toNat).length) (fun k m' => m' = m2 ∧ k = H.length) l0.length rfl rfl rfl rfl rfl rfl ⟨rfl, by omega, by omega, by omega, rfl⟩ ?_ ?_
    · rintro n σ k a M ⟨rfl, a0, a1, hn, hk⟩
      refine ⟨rfl, bcP (fun hlt => ?_) (fun hlt => ?_)⟩
      · have haa : ((a.toNat : Nat) : Int) = a := by omega
        have wa : IntKind.wrap .i64 (a + 1) = a + 1 := wrap_s (by omega) (by omega)
        have hsu := hsUp_succ l0 a.toNat
        rw [haa] at hsu
        rw [wa]
        refine callB (refHead_e W M A0 c0 l0 (by omega) rdl a a0 a1) ?_
        cases hh : headP l0 a with
        | false =>
          rw [hh, if_neg (by simp), List.append_nil] at hsu
          refine bcT ?_
          rf
          exact ⟨n - 1, by omega, rfl, by omega, by omega, by omega, by rw [show (a + 1).toNat = a.toNat + 1 by omega, hsu]; exact hk⟩
        | true =>
          rw [hh, if_pos rfl] at hsu
          have hat := hsUp_at (code := l0) (a := a.toNat) (n := l0.length) (by omega) (by rw [haa]; exact hh)
          rw [hH, haa] at hat
          have hk' : k.toNat = (hsUp l0 a.toNat).length := by omega
          rw [← hk'] at hat
          obtain ⟨ad4, rfl, hc4⟩ := o4.ex (by omega)
          obtain ⟨ad9, rfl, hc9⟩ := o9.ex (by omega)
          have k0 : 0 ≤ k := by omega
          have b9 := cell_blk hc9 (i := k) k0 (by omega)
          rw [blkP_get H _ hat.1] at b9
          have kd : decide (k ≥ (H.length : Int)) = false := decide_eq_false (by omega)
          have kd2 : decide (k ≥ ((blkP H l0.length).length : Int)) = false := decide_eq_false (by omega)
          have fin : ∃ n' : Nat, n' < n ∧ (M = M ∧ 0 ≤ a + 1 ∧ a + 1 ≤ l0.length ∧ (n' : Int) = l0.length - (a + 1) ∧ IntKind.wrap .i64 (k + 1) = (hsUp l0 (a + 1).toNat).length) := by
            refine ⟨n - 1, by omega, rfl, by omega, by omega, by omega, ?_⟩
            rw [show (a + 1).toNat = a.toNat + 1 by omega, hsu, wrap_s (by omega) (by omega)]
            simp; omega
          refine bcF ⟨rfl, ?_⟩
          rw [kd, kd2]
          refine bcF ⟨rfl, bcF ⟨⟨k0, by omega⟩, ?_⟩⟩
          rw [nilO_some]
          refine ⟨_, cell_k hc4 k0 (by omega), rfl, ?_⟩
          rw [hat.2, show (a != a) = false by simp]
          refine bcF ⟨⟨k0, by omega⟩, ?_⟩
          rw [nilO_some]
          refine ⟨_, b9.1, rfl, ?_⟩
          rw [show (blkAt H l0.length k.toNat).1 = a from hat.2, show (a != a) = false by simp]
          refine bcF ⟨rfl, bcP (fun hp => ?_) (fun hp => ?_)⟩
          · have wk : IntKind.wrap .i64 (k - 1) = k - 1 := wrap_s (by omega) (by omega)
            rw [wk]
            refine ⟨rfl, ⟨by omega, by omega⟩, ?_⟩
            rw [nilO_some]
            have b8 := cell_blk hc9 (i := k - 1) (by omega) (by omega)
            rw [blkP_get H _ (by omega)] at b8
            refine ⟨_, b8.2, rfl, ?_⟩
            have e8 : (blkAt H l0.length (k - 1).toNat).2 = a := by
              unfold blkAt
              dsimp only
              rw [if_pos (by omega), show (k - 1).toNat + 1 = k.toNat by omega]; exact hat.2
            rw [e8, show (a != a) = false by simp, decide_eq_true hp]
            refine bcF ?_
            rf
            exact fin
          · refine ⟨decide_eq_false hp, bcF ?_⟩
            rf
            exact fin
      · rf
        rw [hk, show a.toNat = l0.length by omega, hH]
    · rintro σ k M ⟨rfl, hk⟩
      subst hk
      have e1 : (((H.length : Nat) : Int) == ((H.length : Nat) : Int)) = true := by simp
      have e2 : (((H.length : Nat) : Int) == (((blkP H l0.length).length : Nat) : Int)) = true := by rw [hbl]; simp
      rw [e2, e1]
      refine ⟨rfl, bcT ⟨rfl, bcT ⟨rfl, bcI (fun h0 => ⟨h0, bcT (aw9 W M rfl)⟩) (fun h0 => ⟨rfl, ?_⟩)⟩⟩⟩
      have hpos : H.length ≠ 0 := by
        have : (((H.length : Nat) : Int) == 0) = false := h0
        intro e; rw [e] at this; simp at this
      have wk : IntKind.wrap .i64 ((H.length : Int) - 1) = (H.length : Int) - 1 := wrap_s (by omega) (by omega)
      rw [wk]
      refine ⟨⟨by omega, by omega⟩, ?_⟩
      obtain ⟨ad9, rfl, hc9⟩ := o9.ex (by omega)
      rw [nilO_some]
      have b8 := cell_blk hc9 (i := (H.length : Int) - 1) (by omega) (by omega)
      rw [blkP_get H _ (by omega)] at b8
      refine ⟨_, b8.2, rfl, ?_⟩
      have e8 : (blkAt H l0.length ((H.length : Int) - 1).toNat).2 = l0.length := by
        unfold blkAt
        dsimp only
        rw [if_neg (by omega)]
      rw [e8, show (((l0.length : Nat) : Int) == ((l0.length : Nat) : Int)) = true by simp, h0]
      exact bcT (aw9 W M rfl)
end Go.Proofs.Ytkfemiloehkmhaa.S
