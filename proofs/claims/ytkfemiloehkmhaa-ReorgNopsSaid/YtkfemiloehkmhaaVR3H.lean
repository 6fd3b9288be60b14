/- Ytkfemiloehkmhaa: a text of our own, by an AI agent: VR3H -/
import Derived.Test.YtkfemiloehkmhaaCoreA
import Derived.Test.YtkfemiloehkmhaaTabH
namespace Go.Proofs.Ytkfemiloehkmhaa.V
open Go Go.Alog Go.Proofs.Ytkfemiloehkmhaa.T
set_option linter.unusedVariables false
set_option maxRecDepth 100000

/-! 49 delayslot/delayslotref03.Reads -/
/-! 50 delayslot/delayslotref03.Writes -/
/-! 72 delayslot/delayslotref03.Acts -/
noncomputable def c72 : Code := bodyOf Try.f72
/-! 30 delayslot/delayslotref03.Goes -/
noncomputable def c30 : Code := bodyOf Try.f30
/-! 40 delayslot/delayslotref03.Late -/
noncomputable def c40 : Code := bodyOf Try.f40
end Go.Proofs.Ytkfemiloehkmhaa.V

