/- Ythocajnpofdbmaa: a text of our own, by an AI agent: Hz1G -/
import Derived.Test.YthocajnpofdbmaaEf15G
import Derived.Test.YthocajnpofdbmaaCore14
import Derived.Test.YthocajnpofdbmaaVHazG
set_option linter.unusedSimpArgs false
set_option linter.unusedVariables false
set_option maxRecDepth 100000
namespace Go.Proofs.Ythocajnpofdbmaa.S
open Go Go.RowKit Go.Alog Go.Proofs.Ythocajnpofdbmaa.T Go.Proofs.Ythocajnpofdbmaa.V

/-- The fault at a place. -/
def hazP (code : List Ins) (k : Int) : Int :=
  if k < 0 ∨ k ≥ code.length then 0 else
  if rightR (cAt code k) = false then 1 else
  if (goesP (cAt code k) && (decide (k + 1 = code.length) || goesP (cAt code (k + 1)))) = true then 2 else
  if ((decide (k > 0) && goesP (cAt code (k - 1))) && lateP (cAt code k)) = true then 3 else
  if (lateP (cAt code k) && !decide (k + 1 = code.length) && readsR (cAt code (k + 1)) (writesP (cAt code k))) = true then 4 else 0

theorem hazAt_spec (w0 : World) (m : AM) (A : Option Addr) (c : Nat) (code : List Ins) (k : Int) (hl : code.length ≤ 1000000) (rd : Reads m 5 A code.length (insCells code)) :
    CallsA Try.prog w0 36 #[.slice A code.length c, .int .i64 k] m (fun r m' => r = .int .i64 (hazP code k) ∧ m' = m) := by
  refine CallsA.down (R := fun r m' => r = .int .i64 (hazP code k) ∧ m.le m') ?_ fun _ _ h => h
  generalize hR : (fun (r : Value) (m' : AM) => r = .int .i64 (hazP code k) ∧ m.le m') = R
  have ret : ∀ (v : Int) (m' : AM), m.le m' → v = hazP code k → RetP R (.int .i64 v) m' := fun v m' l e => by rw [← hR]; exact retP_of ⟨by rw [e], l⟩
  refine cf36 w0 m A code.length c k R ⟨rfl, bcP (fun h => ⟨decide_eq_true h, ret 0 m (AM.le_refl _) (by unfold hazP; rw [if_pos (.inl h)])⟩) fun h => ⟨rfl, ?_⟩⟩
  rw [decide_eq_false h]
  refine bifF (bcP (fun h2 => ret 0 m (AM.le_refl _) (by unfold hazP; rw [if_pos (.inr h2)])) fun h2 => ?_)
  unfold hazP at ret
  rw [if_neg (by omega)] at ret
  have wp : IntKind.wrap .i64 (k + 1) = k + 1 := wrap_s (by omega) (by omega)
  have wm : IntKind.wrap .i64 (k - 1) = k - 1 := wrap_s (by omega) (by omega)
  refine ldAt rd rfl (by omega) (by omega) fun a => blk5 fun b M l n hb p => ⟨rfl, ?_⟩
  replace p : M b = some (.cells (Ins.cells (cAt code k)).toArray 23) := p
  have rd := rd.le l
  generalize hx : cAt code k = x at p ret
  have deq : decide (k + 1 = (code.length : Int)) = (k + 1 == (code.length : Int)) := by by_cases e : k + 1 = (code.length : Int) <;> simp [e]
  have KR : ∀ (σ : Sg), σ 0 = .slice A code.length c → σ 1 = .int .i64 k → σ 5 = .pointer (some ⟨b, 0, none⟩) → σ 7 = .bool (k + 1 == (code.length : Int)) → (∀ (v : Int) (m' : AM), m.le m' → v = (if (lateP x && !decide (k + 1 = code.length) && readsR (cAt code (k + 1)) (writesP x)) = true then 4 else 0) → RetP R (.int .i64 v) m') → (vcS Try.prog w0 qs36 (sub c36 [1, 1, 1, 1, 1, 0, 0, 1, 1, 1, 1, 1, 1, 0]) σ M (thenS (fun σ M => vcS Try.prog w0 qs36 (sub c36 [1, 1, 1, 1, 1, 0, 0, 1, 1, 1, 1, 1, 1, 1]) σ M (blockS 0 (thenS (fun σ M => vcS Try.prog w0 qs36 (sub c36 [1, 1, 1, 1, 1, 1]) σ M (retQ Try.prog Try.f36 R)) (retQ Try.prog Try.f36 R)))) (blockS 0 (thenS (fun σ M => vcS Try.prog w0 qs36 (sub c36 [1, 1, 1, 1, 1, 1]) σ M (retQ Try.prog Try.f36 R)) (retQ Try.prog Try.f36 R))))) := by
    intro σ h0 h1 h5 h7 ret
    refine vr36_11111001111110 w0 M σ R A code.length c k b _ (fun t m' => t = (lateP x && !(k + 1 == (code.length : Int)) && readsR (cAt code (k + 1)) (writesP x)) ∧ m.le m') h0 h1 h5 h7 ?_ ?_
    · refine ldIns p (callB (late_e w0 M x) ?_)
      rw [wp]
      cases hl : lateP x
      · repeat' first | exact l | refine bcF ?_ | refine bcT ?_ | refine ⟨rfl, ?_⟩ | refine And.intro ?_ ?_ | exact rfl
      cases he : (k + 1 == (code.length : Int))
      · have hne : ¬ k + 1 = (code.length : Int) := by simpa using he
        refine bcT (bcT (bcT (ldIns p (bcT (callI (writes_e w0 M x) (bcT ⟨rfl, ?_⟩))))))
        cases hw : (writesP x != 0)
        · have hz : writesP x = 0 := by simpa using hw
          have hrd : readsR (cAt code (k + 1)) (writesP x) = false := by rw [hz]; unfold readsR; simp
          rw [hrd]
          repeat' first | exact l | refine bcF ?_ | refine bcT ?_ | refine ⟨rfl, ?_⟩ | refine And.intro ?_ ?_ | exact rfl
        · obtain ⟨ad, rfl, hc⟩ := rd.ex (by omega)
          obtain ⟨c0, c1, c2, c3, c4⟩ := hc.ins (cAt_some (code := code) (i := k + 1) (by omega) (by omega))
          refine bcT (bcT (bcT ⟨rfl, bcT ⟨⟨by omega, by omega⟩, ?_⟩⟩))
          rw [nilO_some]
          refine bcT ⟨_, c0, _, c1, _, c2, _, c3, _, c4, ?_, ?_⟩
          · refine bcT (callReads (i := cAt code (k + 1)) fun A2 c2 m2 l2 r2 => bcT (ldIns (l2 _ _ p) (bcT (callI (writes_e w0 m2 x) (bcT ?_)))))
            refine callB (ix_spec w0 m2 A2 c2 _ _ (by have := two_len (readsL_two (cAt code (k + 1))); omega) r2) ?_
            exact ⟨rfl, rfl, by rw [readsL_c]; rfl, AM.le_trans l l2⟩
          · refine bcT (ldIns p (bcT (callReads (i := cAt code (k + 1)) fun A2 c2 m2 l2 r2 => bcT (callI (writes_e w0 m2 x) (bcT ?_)))))
            refine callB (ix_spec w0 m2 A2 c2 _ _ (by have := two_len (readsL_two (cAt code (k + 1))); omega) r2) ?_
            exact ⟨rfl, rfl, by rw [readsL_c]; rfl, AM.le_trans l l2⟩
      · repeat' first | exact l | refine bcF ?_ | refine bcT ?_ | refine ⟨rfl, ?_⟩ | refine And.intro ?_ ?_ | exact rfl
    · rintro σ y m' ⟨rfl, l'⟩
      refine bcI (fun h => ret 4 m' l' ?_) fun h => ret 0 m' l' ?_
      · rw [deq, if_pos h]
      · rw [deq, if_neg (by rw [h]; simp)]
  have K3 : ∀ (σ : Sg) (x6 x39 : Bool), σ 0 = .slice A code.length c → σ 1 = .int .i64 k → σ 5 = .pointer (some ⟨b, 0, none⟩) → σ 6 = .bool x6 → σ 7 = .bool (k + 1 == (code.length : Int)) → σ 39 = .bool x39 → x6 = (decide (k > 0) && goesP (cAt code (k - 1))) → x39 = (goesP x && (decide (k + 1 = code.length) || goesP (cAt code (k + 1)))) → rightR x = true → (vcS Try.prog w0 qs36 (sub c36 [1, 1, 1, 1, 1, 0, 0, 1, 1, 1]) σ M (blockS 0 (thenS (fun σ M => vcS Try.prog w0 qs36 (sub c36 [1, 1, 1, 1, 1, 1]) σ M (retQ Try.prog Try.f36 R)) (retQ Try.prog Try.f36 R)))) := by
    intro σ x6 x39 h0 h1 h5 h6 h7 h39 e6 e39 hr
    rw [hr, if_neg (by simp), ← e6, ← e39] at ret
    refine vk36_1111100111 w0 M σ R A code.length c k b x6 _ x39 h0 h1 h5 h6 h7 h39 ?_
    refine bcI (fun h => ret 2 M l (by rw [if_pos h])) fun h => ?_
    rw [h, if_neg (by simp)] at ret
    cases x6
    · refine bcF ⟨rfl, KR _ rfl rfl rfl rfl ?_⟩
      simpa using ret
    · refine bcT (ldIns p (callB (late_e w0 M x) (bifT (bcI (fun h2 => ret 3 M l (by rw [h2]; rfl)) fun h2 => KR _ rfl rfl rfl rfl ?_))))
      rw [h2] at ret ⊢
      simpa using ret
  have K4 : ∀ (σ : Sg) (x6 : Bool), σ 0 = .slice A code.length c → σ 1 = .int .i64 k → σ 5 = .pointer (some ⟨b, 0, none⟩) → σ 6 = .bool x6 → x6 = (decide (k > 0) && goesP (cAt code (k - 1))) → (vcS Try.prog w0 qs36 (sub c36 [1, 1, 1, 1]) σ M (retQ Try.prog Try.f36 R)) := by
    intro σ x6 h0 h1 h5 h6 e6
    refine vk36_1111 w0 M σ R A code.length c k b x6 h0 h1 h5 h6 ?_
    rw [wp]
    refine ⟨rfl, rfl, ldIns p (callB (right_e w0 M x) ?_)⟩
    cases hr : rightR x
    · exact bcT (ret 1 M l (by rw [hr, if_pos rfl]))
    refine bcF (ldIns p (callB (goes_e w0 M x) ?_))
    cases hg : goesP x
    · exact ⟨rfl, K3 _ x6 false rfl rfl rfl rfl rfl rfl e6 (by rw [hg]; rfl) hr⟩
    refine bcT (bcI (fun h => ⟨h, K3 _ x6 true rfl rfl rfl rfl ?_ rfl e6 ?_ hr⟩) fun h => ⟨rfl, ?_⟩)
    · rw [← h]; rfl
    · rw [hg, deq, h]; rfl
    · have hne : ¬ k + 1 = (code.length : Int) := by simpa using h
      refine ldAt rd rfl (by omega) (by omega) fun a => (callB (goes_e w0 M (cAt code (k + 1))) (K3 _ x6 _ rfl rfl rfl rfl rfl rfl e6 ?_ hr))
      rw [hg, deq]; simp
  refine bcP (fun h3 => ⟨rfl, ?_⟩) fun h3 => ⟨decide_eq_false h3, K4 _ _ rfl rfl rfl rfl (by rw [decide_eq_false h3]; rfl)⟩
  rw [wm]
  refine ldAt rd rfl (by omega) (by omega) fun a => (callB (goes_e w0 M (cAt code (k - 1))) (K4 _ _ rfl rfl rfl rfl (by rw [decide_eq_true h3]; rfl)))

theorem refAt_spec (w0 : World) (m : AM) (A : Option Addr) (c : Nat) (code : List Ins) (k : Int) (h0 : 0 ≤ k) (h1 : k < code.length) (hl : code.length ≤ 1000000) (rd : Reads m 5 A code.length (insCells code)) :
    CallsA Try.prog w0 35 #[.slice A code.length c, .int .i64 k] m (fun r m' => r = .int .i64 (hazP code k) ∧ m' = m) := by
  refine CallsA.down (R := fun r m' => r = .int .i64 (hazP code k) ∧ m.le m') ?_ fun _ _ h => h
  generalize hR : (fun (r : Value) (m' : AM) => r = .int .i64 (hazP code k) ∧ m.le m') = R
  have ret : ∀ (v : Int) (m' : AM), m.le m' → v = hazP code k → RetP R (.int .i64 v) m' := fun v m' l e => by rw [← hR]; exact retP_of ⟨by rw [e], l⟩
  unfold hazP at ret
  rw [if_neg (by omega)] at ret
  have wp : IntKind.wrap .i64 (k + 1) = k + 1 := wrap_s (by omega) (by omega)
  have wm : IntKind.wrap .i64 (k - 1) = k - 1 := wrap_s (by omega) (by omega)
  have deq : decide (k + 1 = (code.length : Int)) = (k + 1 == (code.length : Int)) := by by_cases e : k + 1 = (code.length : Int) <;> simp [e]
  have deq2 : (!decide (k + 1 = (code.length : Int))) = decide (k + 1 < (code.length : Int)) := by
    rw [Bool.eq_iff_iff]; simp; omega
  refine cf35 w0 m A code.length c k R (ldAt rd rfl h0 h1 fun a => blk5 fun b M l n hb p => ?_)
  replace p : M b = some (.cells (Ins.cells (cAt code k)).toArray 23) := p
  have rd := rd.le l
  rw [deq2] at ret
  rw [wp, wm]
  rw [deq] at ret
  generalize hx : cAt code k = x at p ret
  refine ldIns p (callB (refRight_e w0 M x) ?_)
  cases hr : rightR x
  · exact bcT (ret 1 M l (by rw [hr, if_pos rfl]))
  rw [hr, if_neg (by simp)] at ret
  refine bcF (ldIns p (callB (refGoes_e w0 M x) ?_))
  cases hg : goesP x
  · rw [hg, Bool.false_and, if_neg (by simp)] at ret
    refine bcF (ldIns p (callB (refLate_e w0 M x) ?_))
    cases hl : lateP x
    · exact bcT (ret 0 M l (by rw [hl]; simp))
    rw [hl, Bool.and_true, Bool.true_and] at ret
    refine bcF ⟨rfl, bcP (fun h3 => ⟨rfl, ldAt rd rfl (by omega) (by omega) fun a => callB (refGoes_e w0 M _) ?_⟩) fun h3 => ⟨decide_eq_false h3, ?_⟩⟩
    · rw [decide_eq_true h3, Bool.true_and] at ret
      rw [decide_eq_true h3]
      refine bcI (fun h4 => ret 3 M l (by rw [show goesP (cAt code (k - 1)) = true from h4]; rfl)) fun h4 => ⟨rfl, rfl, ?_⟩
      rw [show goesP (cAt code (k - 1)) = false from h4, if_neg (by simp)] at ret
      refine bcP (fun h5 => ⟨rfl, ldAt rd rfl (by omega) h5 fun a2 => ldIns p ⟨_, refWrites_e w0 M x, callB (refReads_e w0 M _ _) ?_⟩⟩) fun h5 => ⟨decide_eq_false h5, ret 0 M l (by rw [decide_eq_false h5]; rfl)⟩
      rw [decide_eq_true h5] at ret ⊢
      exact bcI (fun h6 => ret 4 M l (by rw [show readsR _ _ = true from h6]; rfl)) fun h6 => ret 0 M l (by rw [show readsR _ _ = false from h6]; rfl)
    · rw [decide_eq_false h3, Bool.false_and, if_neg (by simp)] at ret
      refine ⟨rfl, rfl, ?_⟩
      refine bcP (fun h5 => ⟨rfl, ldAt rd rfl (by omega) h5 fun a2 => ldIns p ⟨_, refWrites_e w0 M x, callB (refReads_e w0 M _ _) ?_⟩⟩) fun h5 => ⟨decide_eq_false h5, ret 0 M l (by rw [decide_eq_false h5]; rfl)⟩
      rw [decide_eq_true h5] at ret ⊢
      exact bcI (fun h6 => ret 4 M l (by rw [show readsR _ _ = true from h6]; rfl)) fun h6 => ret 0 M l (by rw [show readsR _ _ = false from h6]; rfl)
  · have hnl : lateP x = false := by
      cases hl : lateP x with
      | false => rfl
      | true => have := late_acts hl; rw [goes_acts hg] at this; cases this
    rw [hg, hnl] at ret
    rw [Bool.true_and, Bool.and_false, Bool.false_and, Bool.false_and, if_neg (by simp : ¬ false = true), if_neg (by simp : ¬ false = true)] at ret
    refine bcT ⟨rfl, rfl, bcI (fun h => ⟨h, ret 2 M l (by rw [h]; rfl)⟩) fun h => ⟨rfl, ?_⟩⟩
    have hne : ¬ k + 1 = (code.length : Int) := by simpa using h
    rw [h] at ret ⊢
    refine ldAt rd rfl (by omega) (by omega) fun a => callB (refGoes_e w0 M (cAt code (k + 1))) (bifF ?_)
    exact bcI (fun h2 => ret 2 M l (by rw [h2]; rfl)) fun h2 => ret 0 M l (by rw [h2]; rfl)
end Go.Proofs.Ythocajnpofdbmaa.S
