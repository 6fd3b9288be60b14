/- Ythocajnpofdbmaa: a text of our own, by an AI agent: Hz5G -/
import Derived.Test.YthocajnpofdbmaaHz4G
set_option linter.unusedSimpArgs false
set_option linter.unusedVariables false
set_option maxRecDepth 100000
namespace Go.Proofs.Ythocajnpofdbmaa.S
open Go Go.RowKit Go.Alog Go.Proofs.Ythocajnpofdbmaa.T Go.Proofs.Ythocajnpofdbmaa.V

theorem take_step {l : List Ins} {i : Int} (h0 : 0 ≤ i) (h1 : i < l.length) : l.take (i + 1).toNat = l.take i.toNat ++ [cAt l i] := by
  have hi : i.toNat < l.length := by omega
  rw [show (i + 1).toNat = i.toNat + 1 by omega, ← List.take_append_getElem hi]
  congr 2
  simp [cAt, List.getD, hi]
theorem law_HazardSpaced (W : World) (A0 : Option Addr) (n0 c0 : Nat) (l0 : List Ins) (z0 : l0.length = n0) (hlc0 : n0 ≤ c0) (rd0 : Reads (mOf W) 5 A0 n0 (insCells l0)) (y0 : n0 * 40 ≤ 140737488351232) (hw0 : ∀ i ∈ l0, i.wf) :
    CallsA Try.prog W 11 #[.slice A0 n0 c0] (mOf W) (fun r _ => r = .bool true) := by
  subst z0
  refine cf11 W _ A0 _ c0 _ ⟨rfl, bcP (fun h => aw12' W _) fun h => ?_⟩
  generalize hM : mOf W = M at rd0 ⊢
  refine vl11_1111010 W M _ _ A0 _ c0 A0 _ c0 l0.length none 0 0 false 0
    (fun k A n c t i m' => M.le m' ∧ 0 ≤ i ∧ i ≤ l0.length ∧ (k : Int) = l0.length - i ∧ n = 2 * i.toNat ∧ Own m' W.heap.size 23 5 A n c (insCells (wideC (l0.take i.toNat))) ∧ (∀ x ∈ obl A, M x = none) ∧ (t = true → safeP l0 = false))
    (fun A n c t m' => M.le m' ∧ n = 2 * l0.length ∧ Own m' W.heap.size 23 5 A n c (insCells (wideC l0)) ∧ (t = true → safeP l0 = false)) l0.length rfl rfl rfl rfl rfl rfl ⟨AM.le_refl _, by omega, by omega, by omega, rfl, Own.nil _ _ _ _, by simp [obl], by simp⟩ ?_ ?_
  · rintro k σ A n c t i m' ⟨L, i0, i1, hk, rfl, ho, hnew, ht⟩
    refine ⟨rfl, bcP (fun c1 => ldAt (rd0.le L) rfl i0 c1 fun a => blk5 fun b2 m2 l2 n2 hb2 p2 => ?_) fun c1 => ?_⟩
    · have w : IntKind.wrap .i64 (i + 1) = i + 1 := wrap_s (by omega) (by omega)
      have wm : IntKind.wrap .i64 (i - 1) = i - 1 := wrap_s (by omega) (by omega)
      replace p2 : m2 b2 = some (.cells (Ins.cells (cAt l0 i)).toArray 23) := p2
      rw [w, wm]
      refine ldIns p2 ⟨rfl, rfl, ?_⟩
      intro b22 hb22 hm22 m3
      have l3 : m2.le m3 := le_new hm22 _
      have r3 : Reads m3 5 (some ⟨b22, 0, none⟩) 2 (insCells [cAt l0 i, ⟨0, 0, 0, 0, 0⟩]) := Reads.lit rfl
      have p3 := l3 _ _ p2
      clear_value m3
      have hx : n2 = n2 := rfl
      refine awp_append_loc (m0 := M.upd b2 (.cells (Ins.cells (cAt l0 i)).toArray 23)) el31 ?_ ((ho.le l2).le l3) ?_ r3 (insCells_one _) (by omega) (by omega) (fun A' c' m6 l6 f6 o6 n6 _ => ?_)
      · intro k o hk
        by_cases e : k = b2
        · subst e; rw [upd_get_same] at hk; rw [← hk]; exact p3
        · rw [upd_get_ne e] at hk; exact l3 _ _ (l2 _ _ (L _ _ hk))
      · intro x hx
        have hxm : m' x ≠ none := by
          obtain ⟨_, cur, hc⟩ := ho.obl_some hx
          rw [hc]; simp
        have : x ≠ b2 := fun e => by subst e; exact hxm n2
        rw [upd_get_ne this]; exact hnew x hx
      have hb2n : M b2 = none := AM.le_none L n2
      have p6 : m6 b2 = some (.cells (Ins.cells (cAt l0 i)).toArray 23) := l6 _ _ upd_get_same
      have L6 : M.le m6 := AM.le_trans (le_new hb2n _) l6
      have n6' : ∀ x ∈ obl A', M x = none := fun x hx => by
        have := n6 x hx
        by_cases e : x = b2
        · subst e; exact hb2n
        · rwa [upd_get_ne e] at this
      rw [← insCells_app, show wideC (l0.take i.toNat) ++ [cAt l0 i, ⟨0, 0, 0, 0, 0⟩] = wideC (l0.take (i + 1).toNat) by rw [take_step i0 c1]; simp [wideC], show 2 * i.toNat + 2 = 2 * (i + 1).toNat by omega] at o6
      rw [show 2 * i.toNat + 2 = 2 * (i + 1).toNat by omega]
      refine ⟨A', _, c', rfl, ?_⟩
      have nx : ∀ t' : Bool, (t' = true → safeP l0 = false) → ∃ n' : Nat, n' < k ∧ (M.le m6 ∧ 0 ≤ i + 1 ∧ i + 1 ≤ l0.length ∧ (n' : Int) = l0.length - (i + 1) ∧ 2 * (i + 1).toNat = 2 * (i + 1).toNat ∧ Own m6 W.heap.size 23 5 A' (2 * (i + 1).toNat) c' (insCells (wideC (l0.take (i + 1).toNat))) ∧ (∀ x ∈ obl A', M x = none) ∧ (t' = true → safeP l0 = false)) :=
        fun t' h => ⟨k - 1, by omega, L6, by omega, by omega, by omega, rfl, o6, n6', h⟩
      cases t
      · refine bcF ⟨rfl, bcP (fun c2 => ldIns p6 (callB (refGoes_e W m6 (cAt l0 i)) ?_)) fun c2 => ⟨decide_eq_false c2, ?_⟩⟩
        · rw [decide_eq_true c2]
          cases hg : goesP (cAt l0 i)
          · refine bcF ⟨rfl, ?_⟩
            repeat refine ⟨rfl, ?_⟩
            exact nx false (fun h => by cases h)
          · refine bcT ⟨rfl, ldAt (rd0.le L6) rfl (by omega) (by omega) fun a => callB (refGoes_e W m6 (cAt l0 (i - 1))) ?_⟩
            repeat refine ⟨rfl, ?_⟩
            exact nx _ fun h => two_unsafe (by omega) c1 hg h
        · repeat refine ⟨rfl, ?_⟩
          exact nx false (fun h => by cases h)
      · refine bcT ⟨rfl, ?_⟩
        repeat refine ⟨rfl, ?_⟩
        exact nx true ht
    · repeat refine ⟨rfl, ?_⟩
      have e : i.toNat = l0.length := by omega
      rw [e, List.take_of_length_le (Nat.le_refl _)] at ho
      rw [e]
      exact ⟨L, rfl, ho, ht⟩
  · rintro σ A n c t m' ⟨L, rfl, ho, ht⟩
    have ho := ho.reads
    rw [← wideC_len] at ho ⊢
    refine CallsA.mono (first_e W m' A c (wideC l0) (by rw [wideC_len]; omega) ho) ?_
    rintro r m2 ⟨rfl, h2⟩
    replace h2 := h2.symm; subst h2
    refine ⟨_, _, rfl, rfl, ?_⟩
    have tail : ∀ x : Bool, x = true → bcase (!t) ((!t) = true ∧ bcase (bif x then true else false) (CallsA Try.prog W 34 #[] m' fun r62 m63 => ∃ t61 : Bool, r62 = .bool t61 ∧ RetP (fun r _ => r = .bool true) (.bool (bif bif x then true else false then t61 else false)) m63) ((bif x then true else false) = false ∧ RetP (fun r _ => r = .bool true) (.bool false) m'))
        (CallsA Try.prog W 38 #[.slice A0 l0.length c0] m' fun r65 m66 => ∃ t64 : Bool, r65 = .bool t64 ∧ bcase (bif x then bif !t then true else !t64 else false) (CallsA Try.prog W 34 #[] m66 fun r68 m69 => ∃ t67 : Bool, r68 = .bool t67 ∧ RetP (fun r _ => r = .bool true) (.bool (bif bif x then bif !t then true else !t64 else false then t67 else false)) m69) ((bif x then bif !t then true else !t64 else false) = false ∧ RetP (fun r _ => r = .bool true) (.bool false) m66)) := by
      rintro x rfl
      cases t
      · exact bcT ⟨rfl, bcT (aw12K W m' rfl)⟩
      · refine bcF (callB (safe_e W m' A0 _ c0 l0 rfl (by omega) (rd0.le L)) ?_)
        rw [ht rfl]
        exact bcT (aw12K W m' rfl)
    rcases wide_first l0 with hf | hf
    · rw [hf]
      exact bcT ⟨rfl, tail true rfl⟩
    · rw [hf]
      refine bcF ⟨rfl, ?_⟩
      refine bcT (tail _ rfl)
end Go.Proofs.Ythocajnpofdbmaa.S
