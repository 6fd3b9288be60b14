/- Ytkfemiloehkmhaa: a text of our own, by an AI agent: RReorgLaysH -/
import Derived.Test.YtkfemiloehkmhaaRows
import Derived.Test.YtkfemiloehkmhaaLw13H
import Derived.Test.YtkfemiloehkmhaaFactsH
import Derived.WalkKit
import Derived.ProofKit
import Derived.OpenShut
import Derived.ShutString
import Derived.ChangeOld
import Derived.Below
import Derived.SizedLaws
/-! The row of the law ReorgLays. -/
namespace Go.Proofs.Ytkfemiloehkmhaa.reorgLays
open Go.ChangeShapes Go.WideShapes Go.ChangeAt Go.RowKit Go.Alog
open Go.ChangeMaps (open_string shut_string)
set_option linter.unusedVariables false
set_option linter.unusedSimpArgs false
theorem own : ownKnob Try.prog.godebug = none := Facts.own
theorem laidOut : laidOutB Try.prog = true := Facts.laidOut
theorem closed : joinedFacts Try.prog 17 Try.f17 Rows.reorgLaysSpec Rows.reorgLaysRow = true := by
  unfold joinedFacts
  rw [Facts.make, Facts.lifts, Facts.mayEnter, Facts.laidOut]
  exact Eq.trans (by kernel_rfl) (rfl : true = true)
set_option maxRecDepth 100000 in
theorem lifted (os : Os) (started : os.Started) (H : Type) (enc : TypeId × Value → H) :
    ReturnsInHanded {} Try.checked os 17 .any (Rows.reorgLaysSpec.pre6 enc Try.prog Try.f17 Rows.reorgLaysRow.domain false) (Rows.reorgLaysSpec.post enc Try.prog Try.f17 false true false false) := by
  refine returnsInHanded_of_change_sized (C := Try.checked) own started (by kernel_rfl) Try.func17
    (ChangeSpec.witness6 (enc := enc) (C := Try.checked) false ⟨#[], #[.slice none 0 0], []⟩ 8 (by kernel_rfl) (by kernel_rfl) (by kernel_rfl) (by kernel_rfl)) ?_
  intro W base args ds gs before hval0 hW hcnd hsz0 _
  have hsz : (DataW.weightsEach Try.prog (Try.f17.params.toList ++ Rows.reorgLaysSpec.plain.varTypes Try.prog) (ds ++ gs)).all (· ≤ reachBytes) = true := hsz0
  have hval : ∀ (j : Nat) t v, Try.f17.params[j]? = some t → args[j]? = some v → Value.okWide Try.prog W .any base t v := hval0
  have hW' := hW
  obtain ⟨p, q, hA0, hV, rfl, hfz, hnd⟩ := hW
  have hA : DataW.TrodAll enc Try.prog W 0 (fun _ => true) true Try.f17.params.toList args.toList ds p := hA0
  rw [Try.params17] at hA hval hsz
  obtain ⟨v0, vs0, d0, ds0, p0, q0, hargs, rfl, rfl, h0, r0⟩ := trodAll_cons hA
  obtain ⟨rfl, rfl, rfl⟩ := trodAll_nil r0
  obtain rfl : args = #[v0] := by cases args; simp_all
  obtain ⟨rfl, rfl⟩ := trodVars_none hV
  have k0 := h0
  have lt0 : ∀ x ∈ p0, x.block < W.heap.size := by obtain ⟨m, hm⟩ := k0; exact DataW.trod_lt m _ _ _ hm
  obtain ⟨a0, len0, cap0, rfl⟩ := okWide_slice Try.underlying22 (hval 0 22 v0 rfl rfl)
  obtain ⟨rows0, hr0, hf0, hlc0, hcm0, ho0⟩ := open_rows (d := 12) (e := 24) Try.underlying22 (by kernel_rfl) (by kernel_rfl) h0
  rw [show flat Try.prog 12 24 = [.int .i64, .int .i64, .int .i64, .int .i64, .int .i64] from by kernel_rfl] at hf0
  obtain ⟨l0, hl0, hn0, hw0⟩ := ins_rows rows0 hf0
  have rd0 : Reads (mOf W) 5 a0 len0 (insCells l0) := by
    refine ⟨by rw [insCells_len, hn0, hr0], ?_⟩
    rcases ho0 with ⟨h1, h2, _⟩ | ⟨ad, elems, rest, h1, _, _, _, h2⟩
    · exact .inl ⟨h1, h2⟩
    · exact .inr ⟨ad, h1, fun j u hj => cell_heap (h2 j u (by rw [hl0]; exact hj))⟩
  have y0 : len0 * 40 ≤ 140737488351232 := by
    rcases ho0 with ⟨_, h2, _⟩ | ⟨ad, elems, rest, _, h1, h2, _⟩
    · rw [h2]; omega
    · subst h1
      have z := sized_slice hsz (j := 0) (t := 22) (e := 24) rfl rfl Try.underlying22
      rw [show Try.prog.bytesOf 24 = 40 from by kernel_rfl] at z
      exact Nat.le_trans (Nat.mul_le_mul_right _ (by omega)) z
  have z0 : l0.length = len0 := by rw [hn0, hr0]
  clear hA0 hval0 hsz0 hsz
  refine (law_walk (S.law_ReorgLays W a0 len0 cap0 l0 z0 hlc0 rd0 y0 hw0)).mono fun e W' ⟨he, bel⟩ => ?_
  subst he
  exact ⟨_, rfl, _, _, _, [], _, [], hW', trodAll_mk1 (shut_bool Try.underlying4 _), (trodAll_cons_mk (Below.trod laidOut (by kernel_rfl) (of_decide_eq_true (by kernel_rfl)) k0 bel lt0) trodAll_mk0), rfl, bel.frame _, fun h => by cases h⟩
theorem over : Rows.reorgLaysRow.holds Try.pinned (OpenSpec.ofChange Rows.reorgLaysSpec) :=
  OpenClaim.holds_of_wide 17 Try.f17 rfl rfl rfl rfl rfl rfl rfl ⟨rfl, rfl, rfl, rfl, rfl⟩ rfl rfl rfl rfl rfl (by kernel_rfl) Try.func17 closed
    (of_decide_eq_true (by kernel_rfl)) (by unfold Func.isWrapper; first | (rw [if_pos (by decide +kernel)]; kernel_rfl) | (rw [if_neg (by decide +kernel)]; exact ⟨rfl, rfl⟩))
    (fun os started H enc _ => lifted os started H enc)
end Go.Proofs.Ytkfemiloehkmhaa.reorgLays
namespace Go.Proofs.Ytkfemiloehkmhaa
/-- The row, under a short name, for the claim. -/
theorem reorgLays_holds : Rows.ReorgLaysSaid := reorgLays.over
end Go.Proofs.Ytkfemiloehkmhaa

