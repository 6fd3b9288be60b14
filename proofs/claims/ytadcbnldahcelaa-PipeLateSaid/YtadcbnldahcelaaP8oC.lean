/- Ytadcbnldahcelaa: a text of our own, by an AI agent: P8oC -/
import Derived.Test.YtadcbnldahcelaaP8DC
set_option linter.unusedSimpArgs false
set_option linter.unusedVariables false
set_option maxRecDepth 100000
namespace Go.Proofs.Ytadcbnldahcelaa.S
open Go Go.RowKit Go.Alog Go.Proofs.Ytadcbnldahcelaa.T Go.Proofs.Ytadcbnldahcelaa.V

def lateC (l : Ins) : List Ins := [⟨20, 0, 0, 0, 1⟩, ⟨0, 0, 0, 0, 0⟩, ⟨13, 4, 0, 0, 0⟩, ⟨20, 0, 0, 0, 1⟩, ⟨0, 0, 0, 0, 0⟩, l, ⟨20, 0, 0, 0, 2⟩, ⟨20, 0, 0, 0, 2⟩, ⟨20, 0, 0, 0, 0⟩]
theorem late_D1 (v old : Int) : (runDG (lateC ⟨20, 0, 0, 0, 1⟩) 47 (beginD 1 [v, old, v], 0, 3)).2.1 = 1 ∧ (runDG (lateC ⟨20, 0, 0, 0, 1⟩) 47 (beginD 1 [v, old, v], 0, 3)).2.2 = 12 ∧ (runDG (lateC ⟨20, 0, 0, 0, 1⟩) 47 (beginD 1 [v, old, v], 0, 3)).1.out = [w32 old, w32 v] := ⟨by kernel_rfl, by kernel_rfl, by kernel_rfl⟩
theorem late_D0 (v old : Int) : (runDG (lateC ⟨12, 4, 0, 0, 0⟩) 47 (beginD 1 [v, old], 0, 3)).2.1 = 1 ∧ (runDG (lateC ⟨12, 4, 0, 0, 0⟩) 47 (beginD 1 [v, old], 0, 3)).2.2 = 12 ∧ (runDG (lateC ⟨12, 4, 0, 0, 0⟩) 47 (beginD 1 [v, old], 0, 3)).1.out = [w32 old, w32 (w32 v)] := ⟨by kernel_rfl, by kernel_rfl, by kernel_rfl⟩
theorem runPP_late1 (v old : Int) : (runPP (lateC ⟨20, 0, 0, 0, 1⟩) 1 [v, old, v] 50).trap = 1 ∧ (runPP (lateC ⟨20, 0, 0, 0, 1⟩) 1 [v, old, v] 50).steps = 12 ∧ (runPP (lateC ⟨20, 0, 0, 0, 1⟩) 1 [v, old, v] 50).out = [w32 old, w32 v] := by
  rw [runPP_D _ 1 _ 50 47 (by decide) (by decide) (by decide) (by decide)]
  have h := late_D1 v old
  generalize runDG (lateC ⟨20, 0, 0, 0, 1⟩) 47 (beginD 1 [v, old, v], 0, 3) = X at h ⊢
  exact h
theorem runPP_late0 (v old : Int) : (runPP (lateC ⟨12, 4, 0, 0, 0⟩) 1 [v, old] 50).trap = 1 ∧ (runPP (lateC ⟨12, 4, 0, 0, 0⟩) 1 [v, old] 50).steps = 12 ∧ (runPP (lateC ⟨12, 4, 0, 0, 0⟩) 1 [v, old] 50).out = [w32 old, w32 v] := by
  rw [runPP_D _ 1 _ 50 47 (by decide) (by decide) (by decide) (by decide)]
  have h := late_D0 v old
  rw [w32_w32] at h
  generalize runDG (lateC ⟨12, 4, 0, 0, 0⟩) 47 (beginD 1 [v, old], 0, 3) = X at h ⊢
  exact h
end Go.Proofs.Ytadcbnldahcelaa.S
