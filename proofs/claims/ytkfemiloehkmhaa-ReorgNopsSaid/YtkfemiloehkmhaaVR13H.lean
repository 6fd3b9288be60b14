/- Ytkfemiloehkmhaa: a text of our own, by an AI agent: VR13H -/
import Derived.Test.YtkfemiloehkmhaaCoreA
import Derived.Test.YtkfemiloehkmhaaTabH
namespace Go.Proofs.Ytkfemiloehkmhaa.V
open Go Go.Alog Go.Proofs.Ytkfemiloehkmhaa.T
set_option linter.unusedVariables false
set_option maxRecDepth 100000

/-! 74 delayslot/delayslotref13.heads -/
noncomputable def c74 : Code := bodyOf Try.f74
/-! 75 delayslot/delayslotref13.anew -/
noncomputable def c75 : Code := bodyOf Try.f75
/-! 44 delayslot/delayslotref13.Reorg -/
noncomputable def c44 : Code := bodyOf Try.f44
end Go.Proofs.Ytkfemiloehkmhaa.V

