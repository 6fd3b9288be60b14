/- Ytkfemiloehkmhaa: a text of our own, by an AI agent: Core14 -/
import Derived.Test.YtkfemiloehkmhaaCore13
set_option linter.unusedVariables false
namespace Go.Alog
open Go Go.RowKit

/-- The instruction at a place. -/
def cAt (code : List Ins) (i : Int) : Ins := code.getD i.toNat default
theorem cAt_some {code : List Ins} {i : Int} (h0 : 0 ≤ i) (h1 : i < code.length) : code[i.toNat]? = some (cAt code i) := by
  have h : i.toNat < code.length := by omega
  simp [cAt, List.getD, h]
/-- An instruction of a row is loaded. -/
theorem ldAt {m : AM} {A : Option Addr} {n : Nat} {code : List Ins} (r : Reads m 5 A n (insCells code)) (hn : code.length = n) {i : Int} (h0 : 0 ≤ i) (h1 : i < n) {K : Addr → Int → Int → Int → Int → Int → Prop}
    (h : ∀ a, K a (cAt code i).op (cAt code i).a (cAt code i).b (cAt code i).c (cAt code i).imm) :
    ((0 : Int) ≤ i ∧ i < (n : Int)) ∧ nilO A fun a => ∃ x : Int, m.cell (a.add (i.toNat * 5)) = some (.int .i64 x) ∧ ∃ x1 : Int, m.cell ((a.add (i.toNat * 5)).add 1) = some (.int .i64 x1) ∧ ∃ x2 : Int, m.cell ((a.add (i.toNat * 5)).add 2) = some (.int .i64 x2) ∧ ∃ x3 : Int, m.cell ((a.add (i.toNat * 5)).add 3) = some (.int .i64 x3) ∧ ∃ x4 : Int, m.cell ((a.add (i.toNat * 5)).add 4) = some (.int .i64 x4) ∧ K a x x1 x2 x3 x4 := by
  subst hn
  refine ⟨⟨h0, h1⟩, ?_⟩
  obtain ⟨ad, rfl, hc⟩ := r.ex (by omega)
  obtain ⟨c0, c1, c2, c3, c4⟩ := hc.ins (cAt_some h0 h1)
  exact ⟨_, c0, _, c1, _, c2, _, c3, _, c4, h ad⟩
theorem bifF {b x : Bool} {A B : Prop} (h : bcase x A B) : bcase (bif false then b else x) A B := h
theorem bifT {b x : Bool} {A B : Prop} (h : bcase x A B) : bcase (bif true then x else b) A B := h
theorem wrap_s {i : Int} (h0 : -9000000000000000000 ≤ i) (h1 : i ≤ 9000000000000000000) : IntKind.wrap .i64 i = i := by rw [IntKind.wrap_i64]; omega
end Go.Alog
