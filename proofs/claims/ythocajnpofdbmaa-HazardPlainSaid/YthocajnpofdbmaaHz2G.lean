/- Ythocajnpofdbmaa: a text of our own, by an AI agent: Hz2G -/
import Derived.Test.YthocajnpofdbmaaHz1G
import Derived.Test.YthocajnpofdbmaaCore15
import Derived.Test.YthocajnpofdbmaaVLaw12G
set_option linter.unusedSimpArgs false
set_option linter.unusedVariables false
set_option maxRecDepth 100000
namespace Go.Proofs.Ythocajnpofdbmaa.S
open Go Go.RowKit Go.Alog Go.Proofs.Ythocajnpofdbmaa.T Go.Proofs.Ythocajnpofdbmaa.V

/-- The first fault of n places from k on. -/
def firstFrom (code : List Ins) : Nat → Int → Int × Int
  | 0, _ => (-1, 0)
  | n + 1, k => if hazP code k ≠ 0 then (k, hazP code k) else firstFrom code n (k + 1)
def firstP (code : List Ins) : Int × Int := firstFrom code code.length 0
def safeP (code : List Ins) : Bool := (firstP code).2 == 0

theorem firstFrom_zero (code : List Ins) : ∀ (n : Nat) (k : Int), (firstFrom code n k).2 = 0 ↔ ∀ j, k ≤ j → j < k + n → hazP code j = 0
  | 0, k => by simp [firstFrom]; intro j h1 h2; omega
  | n + 1, k => by
    unfold firstFrom
    split
    · rename_i h
      refine ⟨fun hz => absurd hz h, fun hz => absurd (hz k (by omega) (by omega)) h⟩
    · rename_i h
      rw [firstFrom_zero code n (k + 1)]
      constructor
      · intro hz j h1 h2
        by_cases e : j = k
        · rw [e]; exact Classical.not_not.1 h
        · exact hz j (by omega) (by omega)
      · intro hz j h1 h2; exact hz j (by omega) (by omega)
theorem firstFrom_in (code : List Ins) : ∀ (n : Nat) (k : Int), (firstFrom code n k).2 = 0 ∨ ∃ j, k ≤ j ∧ j < k + n ∧ (firstFrom code n k).2 = hazP code j
  | 0, k => .inl rfl
  | n + 1, k => by
    unfold firstFrom
    split
    · exact .inr ⟨k, by omega, by omega, rfl⟩
    · rcases firstFrom_in code n (k + 1) with h | ⟨j, h1, h2, h3⟩
      · exact .inl h
      · exact .inr ⟨j, by omega, by omega, h3⟩
theorem safe_iff (code : List Ins) : safeP code = true ↔ ∀ j : Int, 0 ≤ j → j < code.length → hazP code j = 0 := by
  unfold safeP firstP
  rw [beq_iff_eq, firstFrom_zero]
  simp

theorem first_e (w0 : World) (m : AM) (A : Option Addr) (c : Nat) (code : List Ins) (hl : code.length ≤ 1000000) (rd : Reads m 5 A code.length (insCells code)) :
    CallsA Try.prog w0 37 #[.slice A code.length c] m (fun r m' => r = .tuple #[.int .i64 (firstP code).1, .int .i64 (firstP code).2] ∧ m' = m) := by
  refine cf37 w0 m A code.length c _ ?_
  refine vl37_1010 w0 m _ _ A code.length c code.length 0 (fun k i m' => m' = m ∧ 0 ≤ i ∧ (k : Int) = code.length - i ∧ firstP code = firstFrom code k i) (fun m' => m' = m ∧ firstP code = (-1, 0)) code.length rfl rfl rfl ⟨rfl, by omega, by omega, rfl⟩ ?_ ?_
  · rintro k σ i m' ⟨rfl, i0, hk, hf⟩
    refine ⟨rfl, bcP (fun c1 => callI (hazAt_spec w0 m' A c code i hl rd) ⟨rfl, ?_⟩) fun c1 => ?_⟩
    · obtain ⟨k', rfl⟩ : ∃ k', k = k' + 1 := ⟨k - 1, by omega⟩
      rw [firstFrom] at hf
      by_cases hz : hazP code i = 0
      · rw [if_neg (by simp [hz])] at hf
        have w : IntKind.wrap .i64 (i + 1) = i + 1 := wrap_s (by omega) (by omega)
        refine bcEF (by simp [hz]) ?_
        rw [w]
        repeat refine ⟨rfl, ?_⟩
        exact ⟨k', by omega, rfl, by omega, by omega, hf⟩
      · rw [if_pos hz] at hf
        refine bcET (by simp [hz]) (retP_of ⟨?_, rfl⟩)
        rw [hf]
    · repeat refine ⟨rfl, ?_⟩
      obtain rfl : k = 0 := by omega
      exact hf
  · rintro σ m' ⟨rfl, hf⟩
    exact retP_of ⟨by rw [hf], rfl⟩
theorem safe_e (w0 : World) (m : AM) (A : Option Addr) (n c : Nat) (code : List Ins) (hn : code.length = n) (hl : code.length ≤ 1000000) (rd : Reads m 5 A n (insCells code)) :
    CallsA Try.prog w0 38 #[.slice A n c] m (fun r m' => r = .bool (safeP code) ∧ m' = m) := by
  subst hn
  refine cf38 w0 m A code.length c _ ?_
  refine CallsA.mono (first_e w0 m A c code hl rd) ?_
  rintro r m2 ⟨rfl, h2⟩
  replace h2 := h2.symm; subst h2
  exact ⟨_, _, rfl, rfl, retP_of ⟨rfl, rfl⟩⟩

theorem awake12 (w0 : World) (m : AM) : CallsA Try.prog w0 34 #[] m (fun r m' => r = .bool true ∧ m' = m) := by
  refine CallsA.down (R := fun r m' => r = .bool true ∧ m.le m') ?_ fun _ _ h => h
  refine cf34 w0 m _ ⟨rfl, rfl, rfl, ?_⟩
  intro b1 hb1 hm1 M
  have l : m.le M := le_new hm1 _
  have rd : Reads M 5 (some ⟨b1, 0, none⟩) 2 (insCells [⟨12, 1, 0, 0, 0⟩, ⟨1, 2, 1, 0, 0⟩]) := Reads.lit rfl
  clear_value M
  refine CallsA.mono (first_e w0 M (some ⟨b1, 0, none⟩) 2 [⟨12, 1, 0, 0, 0⟩, ⟨1, 2, 1, 0, 0⟩] (by decide) rd) ?_
  rintro r m2 ⟨rfl, h2⟩
  replace h2 := h2.symm; subst h2
  rw [show firstP [⟨12, 1, 0, 0, 0⟩, ⟨1, 2, 1, 0, 0⟩] = (0, 4) by decide +kernel]
  refine ⟨_, _, rfl, rfl, bcT ⟨rfl, bcT (callB (safe_e w0 M _ 2 2 [⟨12, 1, 0, 0, 0⟩, ⟨1, 2, 1, 0, 0⟩] rfl (by decide) rd) ?_)⟩⟩
  rw [show safeP [⟨12, 1, 0, 0, 0⟩, ⟨1, 2, 1, 0, 0⟩] = false by decide +kernel]
  refine bcT ⟨by decide, by decide, by decide, callB (safe_e w0 M _ 1 1 [⟨1, 2, 1, 0, 0⟩] rfl (by decide) (rd.insSlice (c := 2) 1 2 (by decide) (by decide) (by decide))) ?_⟩
  rw [show safeP [⟨1, 2, 1, 0, 0⟩] = true by decide +kernel]
  refine bcT ⟨rfl, rfl, ?_⟩
  intro b15 hb15 hm15 M2
  have l2 : M.le M2 := le_new hm15 _
  have rd2 : Reads M2 5 (some ⟨b15, 0, none⟩) 1 (insCells [⟨17, 0, 0, 0, 0⟩]) := Reads.lit rfl
  clear_value M2
  refine callI (hazAt_spec w0 M2 (some ⟨b15, 0, none⟩) 1 [⟨17, 0, 0, 0, 0⟩] 0 (by decide) rd2) ?_
  rw [show hazP [⟨17, 0, 0, 0, 0⟩] 0 = 2 by decide +kernel]
  exact ⟨rfl, retP_of ⟨rfl, AM.le_trans l l2⟩⟩
theorem aw12 (w0 : World) (M : AM) {b : Bool} (hb : b = true) : CallsA Try.prog w0 34 #[] M (fun r m' => ∃ t : Bool, r = .bool t ∧ RetP (fun r _ => r = .bool true) (.bool (bif b then t else false)) m') := by
  subst hb
  exact callB (awake12 w0 M) (retP_of rfl)
theorem aw12' (w0 : World) (M : AM) : CallsA Try.prog w0 34 #[] M (fun r m' => ∃ t : Bool, r = .bool t ∧ RetP (fun r _ => r = .bool true) (.bool t) m') := callB (awake12 w0 M) (retP_of rfl)

theorem law_HazardFirst (W : World) (A0 : Option Addr) (n0 c0 : Nat) (l0 : List Ins) (z0 : l0.length = n0) (hlc0 : n0 ≤ c0) (rd0 : Reads (mOf W) 5 A0 n0 (insCells l0)) (y0 : n0 * 40 ≤ 140737488351232) (hw0 : ∀ i ∈ l0, i.wf) (a1 : Int) (w1 : (Lit.int .i64 a1).wf = true) :
    CallsA Try.prog W 9 #[.slice A0 n0 c0, .int .i64 a1] (mOf W) (fun r _ => r = .bool true) := by
  subst z0
  refine cf9 W _ A0 _ c0 a1 _ ⟨rfl, bcP (fun h => aw12' W _) fun h => ⟨rfl, ?_⟩⟩
  have hl : l0.length ≤ 200 := by omega
  generalize hM : mOf W = M at rd0 ⊢
  rw [wrap_s (i := (l0.length : Int) - 1) (by omega) (by omega)]
  refine vl9_111010 W M _ _ A0 _ c0 a1 (-1) 0 ((l0.length : Int) - 1) (fun k x5 x6 x7 m' => m' = M ∧ -1 ≤ x7 ∧ x7 < l0.length ∧ (k : Int) = x7 + 1 ∧ (x5, x6) = firstFrom l0 (l0.length - k) (x7 + 1)) (fun x5 x6 m' => m' = M ∧ (x5, x6) = firstP l0) l0.length rfl rfl rfl rfl rfl ⟨rfl, by omega, by omega, by omega, by rw [Nat.sub_self]; rfl⟩ ?_ ?_
  · rintro k σ x5 x6 x7 m' ⟨rfl, i0, i1, hk, hf⟩
    refine ⟨rfl, bcP (fun c1 => callI (refAt_spec W m' A0 c0 l0 x7 c1 i1 (by omega) rd0) (callI (hazAt_spec W m' A0 c0 l0 x7 (by omega) rd0) ⟨rfl, bcEF (by simp) ⟨rfl, ?_⟩⟩)) fun c1 => ?_⟩
    · have w : IntKind.wrap .i64 (x7 - 1) = x7 - 1 := wrap_s (by omega) (by omega)
      rw [w]
      have st : firstFrom l0 (l0.length - (k - 1)) (x7 - 1 + 1) = if hazP l0 x7 ≠ 0 then (x7, hazP l0 x7) else firstFrom l0 (l0.length - k) (x7 + 1) := by
        rw [show l0.length - (k - 1) = (l0.length - k) + 1 by omega, Int.sub_add_cancel, firstFrom]
      by_cases hz : hazP l0 x7 = 0
      · refine bcEF (by simp [hz]) ?_
        repeat refine ⟨rfl, ?_⟩
        refine ⟨k - 1, by omega, rfl, by omega, by omega, by omega, ?_⟩
        rw [st, if_neg (by simp [hz])]; exact hf
      · refine bcET (by simp [hz]) ?_
        repeat refine ⟨rfl, ?_⟩
        refine ⟨k - 1, by omega, rfl, by omega, by omega, by omega, ?_⟩
        rw [st, if_pos hz]
    · repeat refine ⟨rfl, ?_⟩
      obtain rfl : x7 = -1 := by omega
      obtain rfl : k = 0 := by omega
      exact hf
  · rintro σ x5 x6 m' ⟨rfl, hf⟩
    refine CallsA.mono (first_e W m' A0 c0 l0 (by omega) rd0) ?_
    rintro r m2 ⟨rfl, h2⟩
    replace h2 := h2.symm; subst h2
    rw [← hf]
    have hs : safeP l0 = (x6 == 0) := by unfold safeP; rw [← hf]
    have e5 : (x5 == x5) = true := by simp
    have e6 : (bif x5 == x5 then x6 == x6 else false) = true := by simp
    have e7 : ∀ b : Bool, (b == b) = true := fun b => by cases b <;> rfl
    refine ⟨_, _, rfl, rfl, bcP (fun c1 => ⟨rfl, rfl, bcET e5 ⟨rfl, bcET e6 (callB (safe_e W m' A0 _ c0 l0 rfl (by omega) rd0) ⟨rfl, ?_⟩)⟩⟩) fun c1 => ⟨decide_eq_false c1, rfl, bcET e5 ⟨rfl, bcET e6 (callB (safe_e W m' A0 _ c0 l0 rfl (by omega) rd0) ⟨rfl, ?_⟩)⟩⟩⟩
    · rw [hs, e6, e7, decide_eq_true c1]
      refine bcT ?_
      refine bcP (fun c2 => ⟨decide_eq_true c2, bcT (aw12 W m' rfl)⟩) fun c2 => callI (hazAt_spec W m' A0 c0 l0 a1 (by omega) rd0) ⟨rfl, ?_⟩
      have hz : hazP l0 a1 = 0 := by unfold hazP; rw [if_pos (by omega)]
      rw [hz, show (bif true then decide (a1 < (l0.length : Int)) else false) = false from decide_eq_false c2]
      exact bcT (aw12 W m' rfl)
    · rw [hs, e6, e7]
      have hz : hazP l0 a1 = 0 := by unfold hazP; rw [if_pos (by omega)]
      refine bcT (callI (hazAt_spec W m' A0 c0 l0 a1 (by omega) rd0) ⟨rfl, ?_⟩)
      rw [hz]
      exact bcT (aw12 W m' rfl)
end Go.Proofs.Ythocajnpofdbmaa.S
