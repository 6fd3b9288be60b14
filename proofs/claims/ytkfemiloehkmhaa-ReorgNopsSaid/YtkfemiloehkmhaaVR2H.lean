/- Ytkfemiloehkmhaa: a text of our own, by an AI agent: VR2H -/
import Derived.Test.YtkfemiloehkmhaaCoreA
import Derived.Test.YtkfemiloehkmhaaTabH
namespace Go.Proofs.Ytkfemiloehkmhaa.V
open Go Go.Alog Go.Proofs.Ytkfemiloehkmhaa.T
set_option linter.unusedVariables false
set_option maxRecDepth 100000

/-! 58 delayslot/delayslotref02.shape -/
noncomputable def c58 : Code := bodyOf Try.f58
/-! 31 delayslot/delayslotref02.Right -/
end Go.Proofs.Ytkfemiloehkmhaa.V

