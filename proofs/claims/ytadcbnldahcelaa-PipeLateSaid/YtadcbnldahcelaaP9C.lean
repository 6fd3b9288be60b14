/- Ytadcbnldahcelaa: a text of our own, by an AI agent: P9C -/
import Derived.Test.YtadcbnldahcelaaVLaw8LC
set_option linter.unusedSimpArgs false
set_option linter.unusedVariables false
set_option maxRecDepth 100000
namespace Go.Proofs.Ytadcbnldahcelaa.V
open Go Go.Alog Go.Proofs.Ytadcbnldahcelaa.T

theorem spl1 (n : Int) : spl (rowP 1) (zeros [Value.int .i64 0] 1) [(0, Value.int .i64 n)] = [Value.int .i64 n] := by kernel_rfl
/-- The branch 'input' of PipeLate: an append of a converted number. -/
theorem vkLate (w0 : World) (m : AM) (σ : Sg) (Q : Exit → Sg → AM → Prop) (x1 : Int) (x9 : Option Addr) (x9n x9c : Nat) (h1 : σ 1 = .int .i32 x1) (h9 : σ 9 = .slice x9 x9n x9c)
    (h : ∀ b17 : Nat, w0.heap.size ≤ b17 → m b17 = none → awp Try.prog w0.heap.size (Builtin.append_ #[23, 23] 23 #[.slice x9 x9n x9c, .slice (some ⟨b17, 0, none⟩) 1 1]) (AM.upd m b17 (.cells #[.int .i64 (IntKind.wrap .i64 x1)] 3)) fun v m' =>
      ∃ (A : Option Addr) (n c : Nat), v = .slice A n c ∧ Q .normal (upd (upd (upd (upd (upd (upd σ 25 (.slice x9 x9n x9c)) 26 (.int .i32 x1)) 27 (.int .i64 (IntKind.wrap .i64 x1))) 28 (.slice (some ⟨b17, 0, none⟩) 1 1)) 29 (.slice A n c)) 9 (.slice A n c)) m') :
    vcS Try.prog w0 qs17 (sub c17 [1, 1, 1, 1, 0, 1, 0, 1]) σ m Q := by
  rw [show sub c17 [1, 1, 1, 1, 0, 1, 0, 1] = Code.region 6
                      #[Go.Oper.mk (some 25) (Go.Op.move (Go.Operand.tmp 9)) 23 "law.go:142" #[] none,
                        Go.Oper.mk (some 26) (Go.Op.move (Go.Operand.tmp 1)) 21 "law.go:142" #[] none,
                        Go.Oper.mk (some 27) (Go.Op.convert 21 3 (Go.Operand.tmp 26)) 3 "law.go:142"
                          #[Go.Edge.mk 1 Go.Ground.data] none,
                        Go.Oper.mk (some 28) (Go.Op.buildSlice 23 1 #[(0, Go.Operand.tmp 27)]) 23 "law.go:142"
                          #[Go.Edge.mk 2 Go.Ground.data] none,
                        Go.Oper.mk (some 29)
                          (Go.Op.call
                            (Go.Call.mk (Go.Callee.builtin Go.Builtin.append) #[Go.Operand.tmp 25, Go.Operand.tmp 28]
                              #[23, 23]))
                          23 "law.go:142" #[Go.Edge.mk 0 Go.Ground.data, Go.Edge.mk 3 Go.Ground.data] none,
                        Go.Oper.mk (some 9) (Go.Op.assign (Go.Operand.tmp 29)) 23 "law.go:142"
                          #[Go.Edge.mk 4 Go.Ground.data, Go.Edge.mk 4 Go.Ground.chain, Go.Edge.mk 0 Go.Ground.phase,
                            Go.Edge.mk 1 Go.Ground.phase, Go.Edge.mk 2 Go.Ground.phase, Go.Edge.mk 3 Go.Ground.phase,
                            Go.Edge.mk 4 Go.Ground.phase]
                          none] false from by kernel_rfl]
  simp only [vcS]
  simp only [Bool.false_and, alS]
  have u21 : Try.prog.underlying 21 = some (.int .i32) := by kernel_rfl
  have u3 : Try.prog.underlying 3 = some (.int .i64) := by kernel_rfl
  simp only [Bool.false_eq_true, if_false, opS, evS, putS, upd, h1, h9, cvtS, u21, u3, Nat.reduceEqDiff, reduceIte, Nat.reduceLeDiff, List.map_cons, List.map_nil, Nat.succ_ne_self, el23, bslS, bltS, List.map_toArray, spl1]
  refine ⟨by kernel_rfl, fun b hb hm => ?_⟩
  exact h b hb hm
end Go.Proofs.Ytadcbnldahcelaa.V
