/- Ytkfemiloehkmhaa: a text of our own, by an AI agent: VR9H -/
import Derived.Test.YtkfemiloehkmhaaCoreA
import Derived.Test.YtkfemiloehkmhaaTabH
namespace Go.Proofs.Ytkfemiloehkmhaa.V
open Go Go.Alog Go.Proofs.Ytkfemiloehkmhaa.T
set_option linter.unusedVariables false
set_option maxRecDepth 100000

/-! 22 delayslot/delayslotref09.Target -/
/-! 24 delayslot/delayslotref09.Fit -/
noncomputable def c24 : Code := bodyOf Try.f24
/-! 26 delayslot/delayslotref09.Strict -/
noncomputable def c26 : Code := bodyOf Try.f26
/-! 29 delayslot/delayslotref09.Head -/
noncomputable def c29 : Code := bodyOf Try.f29
end Go.Proofs.Ytkfemiloehkmhaa.V

