/- YtkfemiloehkmhaaGreat: a text of our own, by an AI agent: TabY -/
import Derived.Test.YtkfemiloehkmhaaGreatCoreA
import Derived.Test.YtkfemiloehkmhaaGreatProg
import Derived.KernelRfl
namespace Go.Proofs.YtkfemiloehkmhaaGreat.T
open Go Go.Alog
@[simp] theorem el23:elOf Tryz.prog 23=some (3,1,8,[.int .i64 0]):=by kernel_rfl
end Go.Proofs.YtkfemiloehkmhaaGreat.T

