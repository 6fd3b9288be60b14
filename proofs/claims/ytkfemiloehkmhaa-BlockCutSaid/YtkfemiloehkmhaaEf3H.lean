/- Ytkfemiloehkmhaa: a text of our own, by an AI agent: Ef3H -/
import Derived.Test.YtkfemiloehkmhaaVEff4H
import Derived.Test.YtkfemiloehkmhaaVEff3H
import Derived.Test.YtkfemiloehkmhaaCore12
set_option linter.unusedSimpArgs false
set_option linter.unusedVariables false
set_option maxRecDepth 100000
namespace Go.Proofs.Ytkfemiloehkmhaa.V
open Go Go.Alog Go.Proofs.Ytkfemiloehkmhaa.T

/-- A short slice is sorted by insertion. -/
theorem pdq_small (w0 : World) (m : AM) (A : Option Addr) (n c : Nat) (lim : Int) (hn : n ≤ 12) (R : Value → AM → Prop)
    (h : CallsA Try.prog w0 99 #[.slice A n c, .int .i64 0, .int .i64 n] m (fun r m' => r = .tuple #[] ∧ RetP R (.tuple #[]) m')) :
    CallsA Try.prog w0 87 #[.slice A n c, .int .i64 0, .int .i64 n, .int .i64 lim] m R := by
  refine cf87 w0 m A n c 0 n lim R ?_
  generalize hσ : (upd (upd (argS [.slice A n c, .int .i64 0, .int .i64 (n : Int), .int .i64 lim]) 8 (.bool true)) 9 (.bool true)) = σ
  have s0 : σ 0 = .slice A n c := by rw [← hσ]; rfl
  have s1 : σ 1 = .int .i64 0 := by rw [← hσ]; rfl
  have s2 : σ 2 = .int .i64 (n : Int) := by rw [← hσ]; rfl
  rw [show sub c87 [1, 1, 0] = .loop (sub c87 [1, 1, 0, 0]) from by kernel_rfl]
  simp only [vcS]
  refine ⟨fun _ σ' m' => σ' = σ ∧ m' = m, 0, ⟨rfl, rfl⟩, ?_⟩
  rintro k σ' m' ⟨h1, h2⟩
  subst h1
  subst h2
  refine ⟨_, fun _ _ _ h => h, ?_⟩
  rw [show sub c87 [1, 1, 0, 0] = Go.Code.block 1
              (Go.Code.seq
                (Go.Code.region 2
                  #[Go.Oper.mk (some 19) (Go.Op.move (Go.Operand.tmp 2)) 3 "zsortordered.go:72" #[] none,
                    Go.Oper.mk (some 20) (Go.Op.move (Go.Operand.tmp 1)) 3 "zsortordered.go:72" #[] none,
                    Go.Oper.mk (some 21) (Go.Op.binOp Go.BinOp.sub 3 (Go.Operand.tmp 19) (Go.Operand.tmp 20) 3) 3
                      "zsortordered.go:72" #[Go.Edge.mk 0 Go.Ground.data, Go.Edge.mk 1 Go.Ground.data] none,
                    Go.Oper.mk (some 10) (Go.Op.assign (Go.Operand.tmp 21)) 3 "zsortordered.go:72"
                      #[Go.Edge.mk 2 Go.Ground.data, Go.Edge.mk 0 Go.Ground.phase, Go.Edge.mk 1 Go.Ground.phase,
                        Go.Edge.mk 2 Go.Ground.phase]
                      none]
                  false)
                (Go.Code.seq
                  (Go.Code.seq
                    (Go.Code.region 3
                      #[Go.Oper.mk (some 22) (Go.Op.move (Go.Operand.tmp 10)) 3 "zsortordered.go:74" #[] none,
                        Go.Oper.mk (some 23)
                          (Go.Op.binOp Go.BinOp.leq 3 (Go.Operand.tmp 22)
                            (Go.Operand.const (Go.Value.int Go.IntKind.i64 12)) 3)
                          4 "zsortordered.go:74" #[Go.Edge.mk 0 Go.Ground.data] none]
                      false)
                    (Go.Code.cond (Go.Operand.tmp 23)
                      (Go.Code.seq
                        (Go.Code.region 4
                          #[Go.Oper.mk (some 24) (Go.Op.move (Go.Operand.tmp 0)) 30 "zsortordered.go:75" #[] none,
                            Go.Oper.mk (some 25) (Go.Op.move (Go.Operand.tmp 1)) 3 "zsortordered.go:75" #[] none,
                            Go.Oper.mk (some 26) (Go.Op.move (Go.Operand.tmp 2)) 3 "zsortordered.go:75" #[] none,
                            Go.Oper.mk (some 27)
                              (Go.Op.call
                                (Go.Call.mk (Go.Callee.value (Go.Operand.func 99))
                                  #[Go.Operand.tmp 24, Go.Operand.tmp 25, Go.Operand.tmp 26] #[30, 3, 3]))
                              0 "zsortordered.go:75"
                              #[Go.Edge.mk 0 Go.Ground.data, Go.Edge.mk 1 Go.Ground.data, Go.Edge.mk 2 Go.Ground.data]
                              none]
                          false)
                        Go.Code.ret)
                      Go.Code.skip))
                  (sub c87 [1, 1, 0, 0, 0, 1, 1]))) from by kernel_rfl]
  have u3 : Try.prog.underlying 3 = some (.int .i64) := by kernel_rfl
  simp only [vcS, Bool.false_and, alS]
  simp only [Bool.false_eq_true, if_false, opS, evS, putS, upd, s0, s1, s2, Nat.reduceEqDiff, reduceIte, Nat.reduceLeDiff, Nat.succ_ne_self, binX, u3]
  simp only [binS, thenS_normal, upd, Nat.reduceEqDiff, reduceIte, s0, s1, s2, condS, List.map_toArray, List.map_cons, List.map_nil, evS, fnS]
  refine ⟨trivial, ?_⟩
  simp only [thenS, upd, Nat.reduceEqDiff, reduceIte, s0, s1, s2]
  refine ⟨trivial, ?_⟩
  have hd : decide (IntKind.wrap .i64 ((n : Int) - 0) ≤ 12) = true := by
    apply decide_eq_true
    rw [IntKind.wrap_i64]; omega
  rw [hd]
  refine bcT ?_
  have sg : sigOf Try.prog 99 = some [] := by kernel_rfl
  simp only [callS, sg, Nat.reduceLeDiff, reduceIte]
  refine CallsA.mono h ?_
  rintro r m2 ⟨rfl, hR⟩
  exact ⟨rfl, hR⟩
end Go.Proofs.Ytkfemiloehkmhaa.V
