/- Ythocajnpofdbmaa: a text of our own, by an AI agent: Hz3G -/
import Derived.Test.YthocajnpofdbmaaHz2G
set_option linter.unusedSimpArgs false
set_option linter.unusedVariables false
set_option maxRecDepth 100000
namespace Go.Proofs.Ythocajnpofdbmaa.S
open Go Go.RowKit Go.Alog Go.Proofs.Ythocajnpofdbmaa.T Go.Proofs.Ythocajnpofdbmaa.V

theorem cAt_left {a b : List Ins} {i : Int} (h : i.toNat < a.length) : cAt (a ++ b) i = cAt a i := by
  unfold cAt; simp [List.getD, List.getElem?_append_left h]
theorem cAt_right {a b : List Ins} {i : Int} (h : 0 ≤ i) : cAt (a ++ b) (a.length + i) = cAt b i := by
  unfold cAt
  rw [show ((a.length : Int) + i).toNat = a.length + i.toNat by omega]
  simp [List.getD, List.getElem?_append_right]
theorem cAt_mem {code : List Ins} {i : Int} (h0 : 0 ≤ i) (h1 : i < code.length) : cAt code i ∈ code := by
  have := cAt_some h0 h1
  exact List.mem_of_getElem? this
theorem hazP_in {code : List Ins} {k : Int} (h0 : 0 ≤ k) (h1 : k < code.length) : hazP code k = if rightR (cAt code k) = false then 1 else
    if (goesP (cAt code k) && (decide (k + 1 = code.length) || goesP (cAt code (k + 1)))) = true then 2 else
    if ((decide (k > 0) && goesP (cAt code (k - 1))) && lateP (cAt code k)) = true then 3 else
    if (lateP (cAt code k) && !decide (k + 1 = code.length) && readsR (cAt code (k + 1)) (writesP (cAt code k))) = true then 4 else 0 := by
  unfold hazP; rw [if_neg (by omega)]
theorem calm_haz {code : List Ins} {k : Int} (h0 : 0 ≤ k) (h1 : k < code.length) (hg : goesP (cAt code k) = false) (hl : lateP (cAt code k) = false) : hazP code k = if rightR (cAt code k) = false then 1 else 0 := by
  unfold hazP
  rw [if_neg (by omega), hg, hl]
  simp
theorem haz_left (a b : List Ins) {j : Int} (h0 : 0 ≤ j) (h1 : j < a.length) (h : j + 1 < a.length ∨ (goesP (cAt a j) = false ∧ lateP (cAt a j) = false)) : hazP (a ++ b) j = hazP a j := by
  have e : cAt (a ++ b) j = cAt a j := cAt_left (by omega)
  rcases h with h | ⟨hg, hl⟩
  · rw [hazP_in h0 (by simp; omega), hazP_in h0 h1, e, cAt_left (a := a) (b := b) (i := j + 1) (by omega), cAt_left (a := a) (b := b) (i := j - 1) (by omega)]
    rw [decide_eq_false (show ¬ j + 1 = ((a ++ b).length : Int) by simp; omega), decide_eq_false (show ¬ j + 1 = (a.length : Int) by omega)]
  · rw [calm_haz h0 (by simp; omega) (by rw [e]; exact hg) (by rw [e]; exact hl), calm_haz h0 h1 hg hl, e]
theorem haz_right (a b : List Ins) {j : Int} (h0 : 0 ≤ j) (h1 : j < b.length) (h : a.length = 0 ∨ goesP (cAt a (a.length - 1)) = false) : hazP (a ++ b) (a.length + j) = hazP b j := by
  have e2 : cAt (a ++ b) ((a.length : Int) + j + 1) = cAt b (j + 1) := by rw [Int.add_assoc]; exact cAt_right (by omega)
  have e3 : (decide ((a.length : Int) + j > 0) && goesP (cAt (a ++ b) ((a.length : Int) + j - 1))) = (decide (j > 0) && goesP (cAt b (j - 1))) := by
    by_cases hj : j > 0
    · rw [decide_eq_true hj, decide_eq_true (by omega), show (a.length : Int) + j - 1 = a.length + (j - 1) by omega, cAt_right (by omega)]
    · obtain rfl : j = 0 := by omega
      rcases h with h | h
      · rw [decide_eq_false (by omega), decide_eq_false (by omega)]; rfl
      · by_cases ha : a.length = 0
        · rw [decide_eq_false (by omega), decide_eq_false (by omega)]; rfl
        · rw [decide_eq_false (p := (0 : Int) > 0) (by omega), Int.add_zero, cAt_left (by omega), h]; simp
  have e4 : decide ((a.length : Int) + j + 1 = ((a ++ b).length : Int)) = decide (j + 1 = (b.length : Int)) := by
    apply decide_eq_decide.2; simp; omega
  rw [hazP_in (by omega) (by simp; omega), hazP_in h0 h1, cAt_right h0, e2, e3, e4]
theorem safe_joins (a b : List Ins) (h : a.length = 0 ∨ (goesP (cAt a (a.length - 1)) = false ∧ lateP (cAt a (a.length - 1)) = false)) : safeP (a ++ b) = (safeP a && safeP b) := by
  have hg : a.length = 0 ∨ goesP (cAt a (a.length - 1)) = false := h.imp id fun h => h.1
  rw [Bool.eq_iff_iff, Bool.and_eq_true, safe_iff, safe_iff, safe_iff]
  have hl : ∀ j : Int, 0 ≤ j → j < a.length → hazP (a ++ b) j = hazP a j := fun j h0 h1 => haz_left a b h0 h1 (by
    by_cases e : j + 1 < a.length
    · exact .inl e
    · have : j = a.length - 1 := by omega
      rw [this]
      exact .inr (h.resolve_left (by omega)))
  constructor
  · intro hs
    refine ⟨fun j h0 h1 => ?_, fun j h0 h1 => ?_⟩
    · rw [← hl j h0 h1]; exact hs j h0 (by simp; omega)
    · rw [← haz_right a b h0 h1 hg]; exact hs _ (by omega) (by simp; omega)
  · rintro ⟨h1, h2⟩ j j0 j1
    by_cases e : j < a.length
    · rw [hl j j0 e]; exact h1 j j0 e
    · have : j = a.length + (j - a.length) := by omega
      rw [this, haz_right a b (by omega) (by simp at j1; omega) hg]
      exact h2 _ (by omega) (by simp at j1; omega)
theorem plain_safe (code : List Ins) (h : ∀ x ∈ code, rightR x = true ∧ goesP x = false ∧ lateP x = false) : safeP code = true := by
  rw [safe_iff]
  intro j h0 h1
  obtain ⟨a, b, c⟩ := h _ (cAt_mem h0 h1)
  rw [calm_haz h0 h1 b c, a]; rfl
theorem safe_one (i : Ins) : safeP [i] = (rightR i && !goesP i) := by
  have e : cAt [i] 0 = i := rfl
  have : safeP [i] = true ↔ hazP [i] 0 = 0 := by
    rw [safe_iff]
    constructor
    · intro h; exact h 0 (by omega) (by simp)
    · intro h j h0 h1; have : j = 0 := by simp at h1; omega
      rw [this]; exact h
  rw [Bool.eq_iff_iff, this]
  unfold hazP
  rw [e]
  cases hr : rightR i <;> cases hg : goesP i <;> simp
theorem safe_two (i j : Ins) : safeP [i, j] = true ↔ hazP [i, j] 0 = 0 ∧ hazP [i, j] 1 = 0 := by
  rw [safe_iff]
  constructor
  · intro h; exact ⟨h 0 (by omega) (by simp), h 1 (by omega) (by simp)⟩
  · rintro ⟨h1, h2⟩ k k0 k1
    rcases (show k = 0 ∨ k = 1 by simp at k1; omega) with rfl | rfl
    · exact h1
    · exact h2
theorem safe_three (i j l : Ins) : safeP [i, j, l] = true ↔ hazP [i, j, l] 0 = 0 ∧ hazP [i, j, l] 1 = 0 ∧ hazP [i, j, l] 2 = 0 := by
  rw [safe_iff]
  constructor
  · intro h; exact ⟨h 0 (by omega) (by simp), h 1 (by omega) (by simp), h 2 (by omega) (by simp)⟩
  · rintro ⟨h1, h2, h3⟩ k k0 k1
    rcases (show k = 0 ∨ k = 1 ∨ k = 2 by simp at k1; omega) with rfl | rfl | rfl
    · exact h1
    · exact h2
    · exact h3
theorem load_facts {n : Int} (h : 0 ≤ n ∧ n ≤ 31) : rightR ⟨12, n, 0, 0, 0⟩ = true ∧ goesP ⟨12, n, 0, 0, 0⟩ = false ∧ lateP ⟨12, n, 0, 0, 0⟩ = true ∧ writesP ⟨12, n, 0, 0, 0⟩ = n := by
  have hr : rightR ⟨12, n, 0, 0, 0⟩ = true := by
    rw [← rightI_eq]
    unfold rightI pOk pA pB pC regI
    simp only [Bool.and_eq_true, decide_eq_true_eq, Bool.or_eq_true]
    refine ⟨⟨⟨⟨by simp, by simp; omega⟩, by simp⟩, by simp⟩, by simp⟩
  refine ⟨hr, ?_, ?_, ?_⟩
  · unfold goesP; rw [hr]; rfl
  · unfold lateP; rw [hr]; rfl
  · unfold writesP; rw [if_pos hr]; rfl
theorem load_ahead {n : Int} (h : 0 ≤ n ∧ n ≤ 31) {i : Ins} (hr : rightR i = true) (hg : goesP i = false) (hl : lateP i = false) :
    safeP [⟨12, n, 0, 0, 0⟩, i] = !readsR i n ∧ safeP [⟨17, 0, 0, 0, 0⟩, ⟨12, n, 0, 0, 0⟩, i] = false ∧ safeP [⟨12, n, 0, 0, 0⟩, ⟨0, 0, 0, 0, 0⟩, i] = true := by
  obtain ⟨l1, l2, l3, l4⟩ := load_facts h
  generalize (⟨12, n, 0, 0, 0⟩ : Ins) = L at l1 l2 l3 l4
  refine ⟨?_, ?_, ?_⟩
  · rw [Bool.eq_iff_iff, safe_two]
    have e0 : cAt [L, i] 0 = L := rfl
    have e1 : cAt [L, i] (0 + 1) = i := rfl
    have h1 : hazP [L, i] 1 = 0 := by rw [calm_haz (code := [L, i]) (k := 1) (by omega) (by simp) (show goesP (cAt [L, i] 1) = false from hg) (show lateP (cAt [L, i] 1) = false from hl), show cAt [L, i] 1 = i from rfl, hr]; rfl
    have h0 : hazP [L, i] 0 = if readsR i n = true then 4 else 0 := by
      unfold hazP
      rw [if_neg (by simp), e0, e1, l1, l2, l3, l4]
      simp
    rw [h1, h0]
    cases readsR i n <;> simp
  · have jr : rightR ⟨17, 0, 0, 0, 0⟩ = true := by decide
    have jg : goesP ⟨17, 0, 0, 0, 0⟩ = true := by decide
    have h1 : hazP [⟨17, 0, 0, 0, 0⟩, L, i] 1 = 3 := by
      unfold hazP
      rw [if_neg (by simp), show cAt [⟨17, 0, 0, 0, 0⟩, L, i] 1 = L from rfl, show cAt [⟨17, 0, 0, 0, 0⟩, L, i] (1 - 1) = ⟨17, 0, 0, 0, 0⟩ from rfl, l1, l2, l3, jg]
      simp
    cases hs : safeP [⟨17, 0, 0, 0, 0⟩, L, i] with
    | false => rfl
    | true => rw [safe_three] at hs; rw [h1] at hs; exact absurd hs.2.1 (by decide)
  · rw [safe_three]
    refine ⟨?_, ?_, ?_⟩
    · unfold hazP
      rw [if_neg (by simp), show cAt [L, ⟨0, 0, 0, 0, 0⟩, i] 0 = L from rfl, show cAt [L, ⟨0, 0, 0, 0, 0⟩, i] (0 + 1) = ⟨0, 0, 0, 0, 0⟩ from rfl, l1, l2, l3]
      have : ∀ n, readsR ⟨0, 0, 0, 0, 0⟩ n = false := fun n => by unfold readsR fieldL; simp
      rw [this]; simp
    · rw [calm_haz (code := [L, ⟨0, 0, 0, 0, 0⟩, i]) (k := 1) (by omega) (by simp) (show goesP ⟨0, 0, 0, 0, 0⟩ = false by decide) (show lateP ⟨0, 0, 0, 0, 0⟩ = false by decide), show cAt [L, ⟨0, 0, 0, 0, 0⟩, i] 1 = ⟨0, 0, 0, 0, 0⟩ from rfl]; decide
    · rw [calm_haz (code := [L, ⟨0, 0, 0, 0, 0⟩, i]) (k := 2) (by omega) (by simp) (show goesP (cAt [L, ⟨0, 0, 0, 0, 0⟩, i] 2) = false from hg) (show lateP (cAt [L, ⟨0, 0, 0, 0, 0⟩, i] 2) = false from hl), show cAt [L, ⟨0, 0, 0, 0, 0⟩, i] 2 = i from rfl, hr]; rfl

/-- Code with a Nop behind each instruction. -/
def wideC (l : List Ins) : List Ins := l.flatMap fun i => [i, ⟨0, 0, 0, 0, 0⟩]
theorem wideC_len (l : List Ins) : (wideC l).length = 2 * l.length := by
  induction l with
  | nil => rfl
  | cons i l ih => simp only [wideC, List.flatMap_cons, List.length_append, List.length_cons, List.length_nil] at ih ⊢; omega
theorem wideC_get (l : List Ins) : ∀ k : Nat, (wideC l)[2 * k]? = l[k]? ∧ (k < l.length → (wideC l)[2 * k + 1]? = some ⟨0, 0, 0, 0, 0⟩) := by
  induction l with
  | nil => intro k; simp [wideC]
  | cons i l ih =>
    intro k
    cases k with
    | zero => simp [wideC]
    | succ k =>
      have := ih k
      simp only [wideC, List.flatMap_cons] at this ⊢
      rw [show 2 * (k + 1) = 2 * k + 2 by omega]
      simpa using this
theorem cAt_wide {l : List Ins} {t : Int} (h0 : 0 ≤ t) (h1 : t < l.length) : cAt (wideC l) (2 * t) = cAt l t ∧ cAt (wideC l) (2 * t + 1) = ⟨0, 0, 0, 0, 0⟩ := by
  obtain ⟨a, b⟩ := wideC_get l t.toNat
  have b := b (by omega)
  unfold cAt
  rw [show (2 * t).toNat = 2 * t.toNat by omega, show (2 * t + 1).toNat = 2 * t.toNat + 1 by omega]
  simp [List.getD, a, b]
theorem wide_haz {l : List Ins} {j : Int} (h0 : 0 ≤ j) (h1 : j < (wideC l).length) : hazP (wideC l) j = 0 ∨ hazP (wideC l) j = 1 := by
  have hlen := wideC_len l
  have nop : ∀ n, readsR ⟨0, 0, 0, 0, 0⟩ n = false := fun n => by unfold readsR fieldL; simp
  have ng : goesP ⟨0, 0, 0, 0, 0⟩ = false := by decide
  rcases (show j = 2 * (j / 2) ∨ j = 2 * (j / 2) + 1 by omega) with e | e
  · obtain ⟨a, b⟩ := cAt_wide (l := l) (t := j / 2) (by omega) (by omega)
    have hp : (decide (j > 0) && goesP (cAt (wideC l) (j - 1))) = false := by
      by_cases hj : j > 0
      · obtain ⟨_, b'⟩ := cAt_wide (l := l) (t := j / 2 - 1) (by omega) (by omega)
        rw [show j - 1 = 2 * (j / 2 - 1) + 1 by omega, b', ng]; simp
      · rw [decide_eq_false hj]; rfl
    unfold hazP
    rw [if_neg (by omega), hp, show cAt (wideC l) (j + 1) = ⟨0, 0, 0, 0, 0⟩ by rw [e]; exact b, ng, nop, decide_eq_false (show ¬ j + 1 = ((wideC l).length : Int) by omega)]
    cases rightR (cAt (wideC l) j) <;> simp
  · obtain ⟨_, b⟩ := cAt_wide (l := l) (t := j / 2) (by omega) (by omega)
    rw [← e] at b
    left
    rw [calm_haz h0 h1 (by rw [b]; decide) (by rw [b]; decide), b]
    decide
theorem wide_first (l : List Ins) : (firstP (wideC l)).2 = 0 ∨ (firstP (wideC l)).2 = 1 := by
  rcases firstFrom_in (wideC l) (wideC l).length 0 with h | ⟨j, h1, h2, h3⟩
  · exact .inl h
  · unfold firstP
    rw [h3]
    exact wide_haz h1 (by omega)
theorem two_unsafe {l : List Ins} {k : Int} (h0 : 1 ≤ k) (h1 : k < l.length) (ha : goesP (cAt l k) = true) (hb : goesP (cAt l (k - 1)) = true) : safeP l = false := by
  cases hs : safeP l with
  | false => rfl
  | true =>
    rw [safe_iff] at hs
    have := hs (k - 1) (by omega) (by omega)
    have hr : rightR (cAt l (k - 1)) = true := by
      cases h : rightR (cAt l (k - 1)) with
      | true => rfl
      | false => rw [wrong_goes h] at hb; cases hb
    unfold hazP at this
    rw [if_neg (by omega), if_neg (by simp [hr]), Int.sub_add_cancel, ha, hb, if_pos (by simp)] at this
    exact absurd this (by decide)
end Go.Proofs.Ythocajnpofdbmaa.S
