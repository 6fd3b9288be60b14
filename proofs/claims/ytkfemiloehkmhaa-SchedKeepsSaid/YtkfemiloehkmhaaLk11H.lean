/- Ytkfemiloehkmhaa: a text of our own, by an AI agent: Lk11H -/
import Derived.Test.YtkfemiloehkmhaaOeBH
import Derived.Test.YtkfemiloehkmhaaVLaw11bH
set_option linter.unusedSimpArgs false
set_option linter.unusedVariables false
set_option maxRecDepth 100000
namespace Go.Proofs.Ytkfemiloehkmhaa.S
open Go Go.RowKit Go.Alog Go.Proofs.Ytkfemiloehkmhaa.T Go.Proofs.Ytkfemiloehkmhaa.V

theorem law_SchedKeeps (W : World) (A0 : Option Addr) (n0 c0 : Nat) (l0 : List Ins) (z0 : l0.length = n0) (hlc0 : n0 ≤ c0) (rd0 : Reads (mOf W) 5 A0 n0 (insCells l0)) (y0 : n0 * 40 ≤ 140737488351232) (hw0 : ∀ i ∈ l0, i.wf) :
    CallsA Try.prog W 12 #[.slice A0 n0 c0] (mOf W) (fun r _ => r = .bool true) := by
  subst z0
  refine cf12 W _ A0 _ c0 _ ⟨rfl, bcP (fun h => aw11' W _) fun h => ?_⟩
  have hol := ordP_len l0
  refine CallsA.mono (order_spec W _ A0 c0 l0 (by omega) rd0) ?_
  rintro r m1 ⟨⟨A4, c4, rfl, o4, n4⟩, l1⟩
  refine ⟨_, _, _, rfl, callB (refKeeps_e W m1 A0 _ c0 l0 A4 _ c4 (ordP l0) rfl rfl (by omega) (by omega) (rd0.le l1) o4.reads) ?_⟩
  rw [ordP_keeps]
  have htwo := ordP_two l0
  have hlast : 0 < (ordP l0).length → 0 ≤ (ordP l0).getD ((ordP l0).length - 1) 0 := fun h => ordP_last l0 (last_get h)
  generalize ordP l0 = o at hol o4 htwo hlast ⊢
  have w2 : IntKind.wrap .i64 (2 * (l0.length : Int)) = 2 * l0.length := wrap_s (by omega) (by omega)
  rw [w2]
  have d1 : (bif !true then true else decide ((o.length : Int) > 2 * l0.length)) = false := decide_eq_false (by omega)
  rw [d1]
  have loop : ∀ σ : Sg, σ 3 = .slice A4 o.length c4 → σ 4 = .int .i64 1 → (vcS Try.prog W qs12 (sub c12 [1, 1, 1, 1, 0, 1, 0]) σ m1 (blockS 0 (thenS (fun σ m1 => vcS Try.prog W qs12 (sub c12 [1, 1, 1, 1, 1]) σ m1 (retQ Try.prog Try.f12 (fun (r : Value) (_ : AM) => r = Value.bool true))) (retQ Try.prog Try.f12 (fun (r : Value) (_ : AM) => r = Value.bool true))))) := by
    intro σ h3 h4
    refine vl12_1111010 W m1 _ _ A4 _ c4 1 (fun q k m' => m' = m1 ∧ 1 ≤ k ∧ (q : Int) = o.length + 1 - k) (fun m' => m' = m1) o.length h3 h4 ⟨rfl, by omega, by omega⟩ ?_ ?_
    · rintro q σ k m2 ⟨rfl, k0, hq⟩
      refine ⟨rfl, bcP (fun hlt => ⟨⟨by omega, hlt⟩, ?_⟩) (fun hlt => ⟨rfl, rfl⟩)⟩
      obtain ⟨a1, hA1, hc⟩ := o4.ex (by omega)
      subst hA1
      rw [nilO_some]
      have wk : IntKind.wrap .i64 (k + 1) = k + 1 := wrap_s (by omega) (by omega)
      have wm : IntKind.wrap .i64 (k - 1) = k - 1 := wrap_s (by omega) (by omega)
      rw [wk, wm]
      refine ⟨_, cell_k hc (by omega) hlt, rfl, ?_⟩
      have ht := htwo (k - 1).toNat (by omega)
      rw [show (k - 1).toNat + 1 = k.toNat by omega] at ht
      generalize o.getD k.toNat 0 = x at ht ⊢
      refine bcP (fun h1 => ⟨rfl, ⟨by omega, by omega⟩, ?_⟩) fun h1 => ⟨decide_eq_false h1, rfl, rfl, rfl, q - 1, by omega, rfl, by omega, by omega⟩
      rw [nilO_some]
      refine ⟨_, cell_k hc (by omega) (by omega), rfl, ?_⟩
      rw [decide_eq_true h1]
      refine bcP (fun h2 => absurd (ht h2 h1) id) fun h2 => ⟨rfl, rfl, rfl, q - 1, by omega, rfl, by omega, by omega⟩
    · rintro σ m2 rfl
      exact aw11' W m2
  refine bcF ⟨rfl, rfl, bcF ⟨rfl, bcP (fun h1 => ⟨rfl, ?_⟩) fun h1 => ⟨decide_eq_false h1, bcF ?_⟩⟩⟩
  · have w3 : IntKind.wrap .i64 ((o.length : Int) - 1) = o.length - 1 := wrap_s (by omega) (by omega)
    rw [w3]
    obtain ⟨a1, hA1, hc⟩ := o4.ex (by omega)
    subst hA1
    refine ⟨⟨by omega, by omega⟩, ?_⟩
    rw [nilO_some]
    have hx := cell_k hc (i := (o.length : Int) - 1) (by omega) (by omega)
    rw [show ((o.length : Int) - 1).toNat = o.length - 1 by omega] at hx ⊢
    have hl := hlast (by omega)
    generalize o.getD (o.length - 1) 0 = x at hx hl
    refine ⟨_, hx, rfl, ?_⟩
    have d2 : (bif false then true else bif decide ((o.length : Int) > 0) then decide (x < 0) else false) = false := by
      rw [decide_eq_false (show ¬ x < 0 by omega)]; cases decide ((o.length : Int) > 0) <;> rfl
    refine bcEF d2 (loop _ rfl rfl)
  · exact loop _ rfl rfl
end Go.Proofs.Ytkfemiloehkmhaa.S
