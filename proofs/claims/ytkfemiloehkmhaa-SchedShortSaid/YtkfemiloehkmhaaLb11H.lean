/- Ytkfemiloehkmhaa: a text of our own, by an AI agent: Lb11H -/
import Derived.Test.YtkfemiloehkmhaaOeBH
import Derived.Test.YtkfemiloehkmhaaVLaw11eH
set_option linter.unusedSimpArgs false
set_option linter.unusedVariables false
set_option maxRecDepth 100000
namespace Go.Proofs.Ytkfemiloehkmhaa.S
open Go Go.RowKit Go.Alog Go.Proofs.Ytkfemiloehkmhaa.T Go.Proofs.Ytkfemiloehkmhaa.V

def howM (i : Ins) (l : List Ins) : Nat := l.countP (fun j => decide (i = j))
theorem howM_eq (i : Ins) (l : List Ins) : howM i l = l.countP (fun j => decide (j = i)) := by
  unfold howM
  refine List.countP_congr fun j _ => ?_
  simp only [decide_eq_true_eq]
  exact eq_comm
theorem howM_pick (l : List Ins) (i : Ins) : howM i (pickP l (ordP l)) = howM i l + if i = nop then (ordP l).length - (nnL (ordP l)).length else 0 := by
  rw [howM_eq, howM_eq]
  exact pick_count l (ordP l) (ordP_perm l) i
theorem howM_step {i : Ins} {l : List Ins} {k : Int} (h0 : 0 ≤ k) (h1 : k < l.length) : howM i (l.take (k + 1).toNat) = howM i (l.take k.toNat) + if i = cAt l k then 1 else 0 := by
  have e : l.take (k + 1).toNat = l.take k.toNat ++ [cAt l k] := by
    rw [show (k + 1).toNat = k.toNat + 1 by omega, List.take_add_one]
    congr 1
    unfold cAt
    simp [List.getD, show k.toNat < l.length by omega]
  rw [e]
  unfold howM
  rw [List.countP_append]
  simp only [List.countP_cons, List.countP_nil, Nat.zero_add, decide_eq_true_eq]
theorem late_step {l : List Ins} {k : Int} (h0 : 0 ≤ k) (h1 : k < l.length) : (l.take (k + 1).toNat).countP lateP = (l.take k.toNat).countP lateP + if lateP (cAt l k) = true then 1 else 0 := by
  have e : l.take (k + 1).toNat = l.take k.toNat ++ [cAt l k] := by
    rw [show (k + 1).toNat = k.toNat + 1 by omega, List.take_add_one]
    congr 1
    unfold cAt
    simp [List.getD, show k.toNat < l.length by omega]
  rw [e, List.countP_append]
  simp only [List.countP_cons, List.countP_nil, Nat.zero_add]

theorem law_SchedShort (W : World) (A0 : Option Addr) (n0 c0 : Nat) (l0 : List Ins) (z0 : l0.length = n0) (hlc0 : n0 ≤ c0) (rd0 : Reads (mOf W) 5 A0 n0 (insCells l0)) (y0 : n0 * 40 ≤ 140737488351232) (hw0 : ∀ i ∈ l0, i.wf) :
    CallsA Try.prog W 15 #[.slice A0 n0 c0] (mOf W) (fun r _ => r = .bool true) := by
  subst z0
  generalize hm : mOf W = m
  rw [hm] at rd0
  generalize hR : (fun (r : Value) (_ : AM) => r = Value.bool true) = R
  have aw : ∀ M : AM, CallsA Try.prog W 32 #[] M (fun r m' => ∃ t : Bool, r = .bool t ∧ RetP R (.bool t) m') := fun M => by rw [← hR]; exact aw11' W M
  refine cf15 W m A0 _ c0 R ⟨rfl, bcP (fun h => aw m) fun h => ?_⟩
  refine vl15_111010 W m _ R A0 _ c0 A0 _ c0 l0.length 0 0 (fun q x k m' => m.le m' ∧ 0 ≤ k ∧ k ≤ l0.length ∧ (q : Int) = l0.length - k ∧ x = (l0.take k.toNat).countP lateP) (fun x m' => m.le m' ∧ x = l0.countP lateP) l0.length rfl rfl rfl rfl rfl ⟨AM.le_refl _, by omega, by omega, by omega, rfl⟩ ?_ ?_
  · rintro q σ x k m' ⟨l', k0, k1, hq, hx⟩
    refine ⟨rfl, bcP (fun hlt => ?_) (fun hlt => ?_)⟩
    · have wk : IntKind.wrap .i64 (k + 1) = k + 1 := wrap_s (by omega) (by omega)
      rw [wk]
      refine ldAt (rd0.le l') rfl k0 hlt fun a => blk5 fun b M l2 nb hb p => ?_
      replace p : M b = some (.cells (Ins.cells (cAt l0 k)).toArray 24) := p
      have hst := late_step k0 hlt
      have hle : (l0.take k.toNat).countP lateP ≤ (l0.take k.toNat).length := List.countP_le_length
      rw [List.length_take] at hle
      refine ldIns p (callB (refLate_e W M (cAt l0 k)) ?_)
      cases hl : lateP (cAt l0 k) with
      | true =>
        rw [hl, if_pos rfl] at hst
        refine bcT ?_
        rw [wrap_s (i := x + 1) (by omega) (by omega)]
        (repeat (refine And.intro (Eq.refl _) ?_))
        exact ⟨q - 1, by omega, AM.le_trans l' l2, by omega, by omega, by omega, by rw [hst]; omega⟩
      | false =>
        rw [hl, if_neg (by simp)] at hst
        refine bcF ?_
        (repeat (refine And.intro (Eq.refl _) ?_))
        exact ⟨q - 1, by omega, AM.le_trans l' l2, by omega, by omega, by omega, by rw [hst]; omega⟩
    · (repeat (refine And.intro (Eq.refl _) ?_))
      rw [show k.toNat = l0.length by omega, List.take_of_length_le (Nat.le_refl _)] at hx
      exact ⟨l', hx⟩
  · rintro σ x m' ⟨l', rfl⟩
    have hol := ordP_free l0
    have hge := ordP_ge l0
    have hcl : l0.countP lateP ≤ l0.length := List.countP_le_length
    have hpk := howM_pick l0
    have rd1 := rd0.le l'
    refine CallsA.mono (order_spec W m' A0 c0 l0 (by omega) rd1) ?_
    rintro r m1 ⟨⟨A5, c5, rfl, o5, n5⟩, l1⟩
    refine ⟨_, _, _, rfl, CallsA.mono (pick_spec W m1 A0 c0 l0 (by omega) (rd1.le l1) A5 c5 (ordP l0) (by omega) o5.reads) ?_⟩
    rintro r m2 ⟨⟨A7, c7, rfl, o7, n7⟩, l2⟩
    have hpl := pickP_len l0 (ordP l0)
    have rd2 := (rd1.le l1).le l2
    generalize pickP l0 (ordP l0) = pk at hpk hpl o7 ⊢
    generalize (ordP l0).length - (nnL (ordP l0)).length = fr at hpk
    generalize (ordP l0).length = on at hpl hol hge ⊢
    refine ⟨_, _, _, rfl, rfl, ?_⟩
    refine bcP (fun hbad => absurd hbad (by omega)) fun hg => ⟨rfl, rfl, ?_⟩
    rw [decide_eq_false hg, wrap_s (i := (l0.length : Int) + (l0.countP lateP : Nat)) (by omega) (by omega)]
    refine bcP (fun hbad => absurd hbad (by omega)) fun hg2 => ⟨rfl, ?_⟩
    have e3 : (bif bif false then true else decide ((on : Int) > (l0.length : Int) + (l0.countP lateP : Nat)) then true else ((pk.length : Int) != on)) = false := by
      show (bif decide ((on : Int) > (l0.length : Int) + (l0.countP lateP : Nat)) then true else ((pk.length : Int) != on)) = false
      rw [decide_eq_false hg2, hpl]; simp
    refine bcEF e3 ?_
    clear e3
    have ro := o7.reads
    refine vl15_1111111010 W m2 _ R A0 _ c0 A7 pk.length c7 A0 _ c0 l0.length 0 (fun q k m' => m2.le m' ∧ 0 ≤ k ∧ k ≤ l0.length ∧ (q : Int) = l0.length - k) (fun m' => True) l0.length rfl rfl rfl rfl rfl ⟨AM.le_refl _, by omega, by omega, by omega⟩ ?_ ?_
    · rintro q σ k M3 ⟨l3, k0, k1, hq⟩
      refine ⟨rfl, bcP (fun hlt => ?_) (fun hlt => by (repeat (refine And.intro (Eq.refl _) ?_)); trivial)⟩
      have wk : IntKind.wrap .i64 (k + 1) = k + 1 := wrap_s (by omega) (by omega)
      refine ldAt (rd2.le l3) rfl k0 hlt fun a => blk5 fun b M l4 nb hb p => ?_
      replace p : M b = some (.cells (Ins.cells (cAt l0 k)).toArray 24) := p
      generalize cAt l0 k = i at p
      have l5 := AM.le_trans l3 l4
      refine vl15_11111110100110011010 W M _ R q _ _ A0 _ c0 A7 pk.length c7 b 0 A0 _ c0 l0.length k A0 _ c0 l0.length 0 0 (fun q2 x j m' => M.le m' ∧ 0 ≤ j ∧ j ≤ l0.length ∧ (q2 : Int) = l0.length - j ∧ x = howM i (l0.take j.toNat)) (fun x m' => M.le m' ∧ x = howM i l0) l0.length rfl rfl rfl rfl rfl rfl rfl rfl rfl rfl rfl ⟨AM.le_refl _, by omega, by omega, by omega, rfl⟩ ?_ ?_
      · rintro q2 σ x j M6 ⟨l6, j0, j1, hq2, hx⟩
        refine ⟨rfl, bcP (fun hlt2 => ?_) (fun hlt2 => ?_)⟩
        · have wj : IntKind.wrap .i64 (j + 1) = j + 1 := wrap_s (by omega) (by omega)
          rw [wj]
          refine ldAt (rd2.le (AM.le_trans l5 l6)) rfl j0 hlt2 fun a => blk5 fun b2 M7 l7 nb2 hb2 p2 => ?_
          replace p2 : M7 b2 = some (.cells (Ins.cells (cAt l0 j)).toArray 24) := p2
          have hst := howM_step (i := i) j0 hlt2
          have hle : howM i (l0.take j.toNat) ≤ (l0.take j.toNat).length := List.countP_le_length
          rw [List.length_take] at hle
          refine ldIns (l7 _ _ (l6 _ _ p)) (ldIns p2 ⟨_, eqp_i _ _, bcP (fun he => ?_) (fun he => ?_)⟩)
          · rw [if_pos he] at hst
            rw [wrap_s (i := x + 1) (by omega) (by omega)]
            (repeat (refine And.intro (Eq.refl _) ?_))
            exact ⟨q2 - 1, by omega, AM.le_trans l6 l7, by omega, by omega, by omega, by rw [hst]; omega⟩
          · rw [if_neg he] at hst
            (repeat (refine And.intro (Eq.refl _) ?_))
            exact ⟨q2 - 1, by omega, AM.le_trans l6 l7, by omega, by omega, by omega, by rw [hst]; omega⟩
        · (repeat (refine And.intro (Eq.refl _) ?_))
          rw [show j.toNat = l0.length by omega, List.take_of_length_le (Nat.le_refl _)] at hx
          exact ⟨l6, hx⟩
      · rintro σ x M6 ⟨l6, rfl⟩
        refine vl15_111111101001100111010 W M6 _ R q _ _ A0 _ c0 A7 pk.length c7 b (howM i l0 : Nat) A0 _ c0 l0.length k A7 pk.length c7 pk.length 0 0 (fun q2 x j m' => M6.le m' ∧ 0 ≤ j ∧ j ≤ pk.length ∧ (q2 : Int) = pk.length - j ∧ x = howM i (pk.take j.toNat)) (fun x m' => M6.le m' ∧ x = howM i pk) pk.length rfl rfl rfl rfl rfl rfl rfl rfl rfl rfl rfl ⟨AM.le_refl _, by omega, by omega, by omega, rfl⟩ ?_ ?_
        · rintro q2 σ x j M7 ⟨l7, j0, j1, hq2, hx⟩
          refine ⟨rfl, bcP (fun hlt2 => ?_) (fun hlt2 => ?_)⟩
          · have wj : IntKind.wrap .i64 (j + 1) = j + 1 := wrap_s (by omega) (by omega)
            rw [wj]
            refine ldAt (ro.le (AM.le_trans l5 (AM.le_trans l6 l7))) rfl j0 hlt2 fun a => blk5 fun b2 M8 l8 nb2 hb2 p2 => ?_
            replace p2 : M8 b2 = some (.cells (Ins.cells (cAt pk j)).toArray 24) := p2
            have hst := howM_step (i := i) j0 hlt2
            have hle : howM i (pk.take j.toNat) ≤ (pk.take j.toNat).length := List.countP_le_length
            rw [List.length_take] at hle
            refine ldIns (l8 _ _ (l7 _ _ (l6 _ _ p))) (ldIns p2 ⟨_, eqp_i _ _, bcP (fun he => ?_) (fun he => ?_)⟩)
            · rw [if_pos he] at hst
              rw [wrap_s (i := x + 1) (by omega) (by omega)]
              (repeat (refine And.intro (Eq.refl _) ?_))
              exact ⟨q2 - 1, by omega, AM.le_trans l7 l8, by omega, by omega, by omega, by rw [hst]; omega⟩
            · rw [if_neg he] at hst
              (repeat (refine And.intro (Eq.refl _) ?_))
              exact ⟨q2 - 1, by omega, AM.le_trans l7 l8, by omega, by omega, by omega, by rw [hst]; omega⟩
          · (repeat (refine And.intro (Eq.refl _) ?_))
            rw [show j.toNat = pk.length by omega, List.take_of_length_le (Nat.le_refl _)] at hx
            exact ⟨l7, hx⟩
        · rintro σ x M7 ⟨l7, rfl⟩
          have hpi := hpk i
          rw [wk]
          have fin : ∃ n' : Nat, n' < q ∧ (m2.le M7 ∧ 0 ≤ k + 1 ∧ k + 1 ≤ l0.length ∧ (n' : Int) = l0.length - (k + 1)) := ⟨q - 1, by omega, AM.le_trans l5 (AM.le_trans l6 l7), by omega, by omega, by omega⟩
          refine ⟨rfl, bcP (fun hbad => absurd hbad (by omega)) fun hg3 => ?_⟩
          refine ldIns (l7 _ _ (l6 _ _ p)) ⟨rfl, _, eqp_n i nop, ?_⟩
          rw [decide_eq_false hg3]
          by_cases hi : i = nop
          · rw [decide_eq_true hi]
            refine bcF ⟨rfl, bcF ?_⟩
            (repeat (refine And.intro (Eq.refl _) ?_))
            exact fin
          · rw [decide_eq_false hi]
            rw [if_neg hi] at hpi
            refine bcT ⟨rfl, ?_⟩
            have e5 : (bif false then true else bif !false then (((howM i pk : Nat) : Int) != ((howM i l0 : Nat) : Int)) else false) = false := by
              show (((howM i pk : Nat) : Int) != ((howM i l0 : Nat) : Int)) = false
              rw [hpi]; simp
            refine bcEF e5 ?_
            (repeat (refine And.intro (Eq.refl _) ?_))
            exact fin
    · rintro σ M3 _
      exact aw M3
end Go.Proofs.Ytkfemiloehkmhaa.S
