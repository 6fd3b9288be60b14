/- Ytadcbnldahcelaa: a text of our own, by an AI agent: L7mC -/
import Derived.Test.YtadcbnldahcelaaL7tC
set_option linter.unusedSimpArgs false
set_option linter.unusedVariables false
set_option maxRecDepth 100000
namespace Go.Proofs.Ytadcbnldahcelaa.S
open Go Go.RowKit Go.Alog Go.Proofs.Ytadcbnldahcelaa.T Go.Proofs.Ytadcbnldahcelaa.V

theorem actP_outlen (s : MS) (i : Ins) (h : s.out.length ≤ 10000) : (actP s i).1.out.length ≤ 10000 := by
  unfold actP
  simp only
  split
  · split <;> exact h
  split
  · split <;> exact h
  split
  · split <;> exact h
  split
  · unfold sysP
    split
    · exact h
    split
    · cases s.inp <;> exact h
    split
    · split
      · exact h
      · simp; omega
    · exact h
  · exact h
theorem stepP_outlen (code : List Ins) (s : MS) (h : s.out.length ≤ 10000) : (stepP code s).1.out.length ≤ 10000 := by
  unfold stepP
  simp only
  split
  · exact h
  split
  · exact h
  split
  · exact h
  split
  · exact actP_outlen _ _ h
  split
  · exact actP_outlen _ _ h
  · show ((nextP _ _).1.out).length ≤ _
    rw [nextP_out]
    split <;> exact actP_outlen _ _ h
theorem runG_outlen (code : List Ins) : ∀ (n : Nat) (x : MS × Int × Int), x.1.out.length ≤ 10000 → (runG code n x).1.out.length ≤ 10000
  | 0, x, h => h
  | n + 1, (s, t, k), h => by
    unfold runG
    split
    · exact runG_outlen code n _ (stepP_outlen code s h)
    · exact h
theorem usedP_len (l : List Int) : (usedP l).length ≤ l.length := by
  unfold usedP
  rw [List.length_reverse]
  have := (List.dropWhile_sublist (l := l.reverse) (fun x => x == 0)).length_le
  rwa [List.length_reverse] at this
theorem runP_len (code : List Ins) (mem : Int) (inp : List Int) (fuel : Int) : (runP code mem inp fuel).out.length ≤ 1000000 ∧ (runP code mem inp fuel).mem.length ≤ 1000000 := by
  unfold runP
  split
  · simp
  · rename_i h
    have h1 := runG_outlen code fuel.toNat (beginS mem inp, 0, 0) (by simp [beginS])
    have h2 := runG_mem code fuel.toNat (beginS mem inp, 0, 0)
    have h3 := usedP_len (runG code fuel.toNat (beginS mem inp, 0, 0)).1.mem
    refine ⟨by show (runG code fuel.toNat (beginS mem inp, 0, 0)).1.out.length ≤ 1000000; omega, ?_⟩
    show (usedP _).length ≤ 1000000
    rw [h2] at h3
    have : (beginS mem inp).mem.length ≤ 32000 := by simp [beginS]; omega
    exact Nat.le_trans h3 (by show (beginS mem inp).mem.length ≤ 1000000; omega)
end Go.Proofs.Ytadcbnldahcelaa.S
