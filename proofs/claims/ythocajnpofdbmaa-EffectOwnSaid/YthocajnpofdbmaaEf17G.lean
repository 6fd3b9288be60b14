/- Ythocajnpofdbmaa: a text of our own, by an AI agent: Ef17G -/
import Derived.Test.YthocajnpofdbmaaEf16G
import Derived.Test.YthocajnpofdbmaaVLaw3oG
set_option linter.unusedSimpArgs false
set_option linter.unusedVariables false
set_option maxRecDepth 100000
namespace Go.Proofs.Ythocajnpofdbmaa.S
open Go Go.RowKit Go.Alog Go.Proofs.Ythocajnpofdbmaa.T Go.Proofs.Ythocajnpofdbmaa.V

theorem touch_own {i : Ins} {n : Int} (h : touchesP i n = true) : n = i.a ∨ n = i.b ∨ n = i.c ∨ n = 4 ∨ n = 31 := by
  rw [touchesP_eq] at h
  simp only [Bool.and_eq_true, Bool.or_eq_true, bne_iff_ne, beq_iff_eq, ne_eq] at h
  obtain ⟨h0, h | h⟩ := h
  · unfold writesP at h
    split at h
    · unfold fieldW at h
      repeat' split at h
      all_goals omega
    · omega
  · unfold readsR at h
    simp only [Bool.and_eq_true, decide_eq_true_eq] at h
    have := List.contains_iff_mem.1 h.2.2
    unfold fieldL at this
    repeat' split at this
    all_goals simp at this
    all_goals omega
theorem plain_writes {i : Ins} (hr : rightR i = true) (ha : actsP i = false) (hg : goesP i = false) (hn : i.op ≠ 0) : writesP i = i.a := by
  have hin := (right_in hr).1
  unfold actsP at ha
  unfold goesP at hg
  rw [hr, Bool.true_and] at ha hg
  have ha := of_decide_eq_false ha
  have hg := of_decide_eq_false hg
  unfold writesP fieldW
  rw [if_pos hr, if_pos (by omega)]

theorem law_EffectOwn (W : World) (i0 : Ins) (wi0 : i0.wf) : CallsA Try.prog W 8 #[i0.val] (mOf W) (fun r _ => r = .bool true) := by
  refine cf8 W _ _ _ _ _ _ _ ?_
  intro b hBb hNb M
  have l : AM.le _ M := le_new hNb _
  have p : M b = some (.cells (Ins.cells i0).toArray 23) := upd_get_same
  clear_value M
  refine vl8_1010 W M _ _ b 0 (fun k n m' => m' = M ∧ 0 ≤ n ∧ n ≤ 32 ∧ (k : Int) = 32 - n) (fun m' => m' = M) 32 rfl rfl ⟨rfl, by omega, by omega, by omega⟩ ?_ ?_
  · rintro k σ n m' ⟨rfl, n0, n1, hk⟩
    have w : IntKind.wrap .i64 (n + 1) = n + 1 := by rw [IntKind.wrap_i64]; omega
    rw [w]
    refine ⟨rfl, bcP (fun c1 => ldIns p (callB (touches_e W m' i0 n) ?_)) fun c1 => ⟨rfl, rfl⟩⟩
    have nx : ∃ n' : Nat, n' < k ∧ (m' = m' ∧ 0 ≤ n + 1 ∧ n + 1 ≤ 32 ∧ (n' : Int) = 32 - (n + 1)) := ⟨k - 1, by omega, rfl, by omega, by omega, by omega⟩
    cases ht : touchesP i0 n
    · exact ⟨rfl, rfl, rfl, rfl, rfl, rfl, rfl, rfl, nx⟩
    have ho := touch_own ht
    refine bcT ⟨_, cel p rfl, rfl, ?_⟩
    by_cases ea : n = i0.a
    · rw [show (n != i0.a) = false by simp [ea]]; exact bcF ⟨rfl, rfl, rfl, rfl, rfl, rfl, rfl, nx⟩
    rw [show (n != i0.a) = true by simp [ea]]
    refine bcT ⟨_, cel p rfl, rfl, ?_⟩
    by_cases eb : n = i0.b
    · rw [show (n != i0.b) = false by simp [eb]]; exact bcF ⟨rfl, rfl, rfl, rfl, rfl, rfl, nx⟩
    rw [show (n != i0.b) = true by simp [eb]]
    refine bcT ⟨_, cel p rfl, rfl, ?_⟩
    by_cases ec : n = i0.c
    · rw [show (n != i0.c) = false by simp [ec]]; exact bcF ⟨rfl, rfl, rfl, rfl, rfl, nx⟩
    rw [show (n != i0.c) = true by simp [ec]]
    refine bcT ⟨rfl, ?_⟩
    by_cases e4 : n = 4
    · rw [show (n != 4) = false by simp [e4]]; exact bcF ⟨rfl, rfl, rfl, rfl, nx⟩
    rw [show (n != 4) = true by simp [e4]]
    refine bcT ⟨rfl, ?_⟩
    rw [show (n != 31) = false by have : n = 31 := by omega
                                  simp [this]]
    exact bcF ⟨rfl, rfl, rfl, nx⟩
  · rintro σ m' rfl
    have fin : ∀ (σ : Sg) (x : Bool), σ 1 = .pointer (some ⟨b, 0, none⟩) → σ 4 = .bool x → (x = true → writesP i0 = i0.a) → (vcS Try.prog W qs8 (sub c8 [1, 1, 1]) σ m' (retQ Try.prog Try.f8 (fun r _ => r = .bool true))) := by
      intro σ x h1 h4 hw
      refine vk8_111 W m' σ _ b x h1 h4 ?_
      refine bcI (fun h => ⟨h, ?_⟩) fun h => ldIns p ⟨_, writes_e W m' i0, _, cel p rfl, rfl, ?_⟩
      · exact callB (awake3 W m') (retP_of rfl)
      · have hx : x = true := by simpa using h
        have e : (bif !x then true else writesP i0 == i0.a) = true := by rw [hx, hw hx]; simp
        exact bcET e (aw3 W m' e)
    refine vk8_11 W m' _ _ b rfl ?_
    refine ldIns p (callB (refRight_e W m' i0) ?_)
    cases hr : rightR i0
    · exact ⟨rfl, rfl, rfl, fin _ false rfl rfl (fun h => by cases h)⟩
    refine bcT (ldIns p (callB (acts_e W m' i0) ?_))
    cases ha : actsP i0
    · refine bcT (ldIns p (callB (goes_e W m' i0) ?_))
      cases hg : goesP i0
      · refine bcT ⟨_, cel p rfl, rfl, ?_⟩
        refine fin _ (i0.op != 0) rfl rfl fun h => ?_
        exact plain_writes hr ha hg (by simpa using h)
      · exact bcF ⟨rfl, fin _ false rfl rfl (fun h => by cases h)⟩
    · exact bcF ⟨rfl, rfl, fin _ false rfl rfl (fun h => by cases h)⟩
end Go.Proofs.Ythocajnpofdbmaa.S
