/- Ytkfemiloehkmhaa: a text of our own, by an AI agent: Core8 -/
import Derived.Test.YtkfemiloehkmhaaCore7
set_option linter.unusedSimpArgs false
set_option linter.unusedVariables false
/-! Instructions, and lists of numbers, as cells. -/
namespace Go.Alog
open Go Go.RowKit

def InI (n : Int) : Prop := -9223372036854775808 ≤ n ∧ n ≤ 9223372036854775807
theorem wf_i64 {n : Int} (h : (Lit.int .i64 n).wf = true) : InI n := by
  unfold Lit.wf at h
  simp only [Bool.and_eq_true, decide_eq_true_eq] at h
  exact h

structure Ins where
  op : Int
  a : Int
  b : Int
  c : Int
  imm : Int
 deriving DecidableEq, Inhabited

def Ins.cells (i : Ins) : List Value := [.int .i64 i.op, .int .i64 i.a, .int .i64 i.b, .int .i64 i.c, .int .i64 i.imm]
abbrev Ins.val (i : Ins) : Value := .agg #[.int .i64 i.op, .int .i64 i.a, .int .i64 i.b, .int .i64 i.c, .int .i64 i.imm]
def Ins.wf (i : Ins) : Prop := InI i.op ∧ InI i.a ∧ InI i.b ∧ InI i.c ∧ InI i.imm
def insCells (l : List Ins) : List Value := l.flatMap Ins.cells
theorem insCells_len (l : List Ins) : (insCells l).length = l.length * 5 := by
  induction l with
  | nil => rfl
  | cons i l ih => simp only [insCells, List.flatMap_cons, List.length_append, List.length_cons] at ih ⊢; rw [ih]; simp [Ins.cells]; omega
theorem insCells_app (l r : List Ins) : insCells (l ++ r) = insCells l ++ insCells r := by simp [insCells]
theorem insCells_cons (i : Ins) (r : List Ins) : insCells (i :: r) = i.cells ++ insCells r := by simp [insCells]
theorem ins_one (i : Ins) : ∀ u ∈ i.cells, u.oneCell' = true := by intro u hu; simp [Ins.cells] at hu; rcases hu with rfl | rfl | rfl | rfl | rfl <;> rfl
theorem insCells_one (l : List Ins) : ∀ u ∈ insCells l, u.oneCell' = true := by
  intro u hu
  obtain ⟨i, _, hi⟩ := List.mem_flatMap.1 hu
  exact ins_one i u hi

/-- The cells of the element at a place. -/
theorem insCells_at : ∀ (l : List Ins) (k : Nat) (i : Ins), l[k]? = some i → ∀ j, j < 5 → (insCells l)[k * 5 + j]? = i.cells[j]?
  | [], k, i, h, _, _ => by simp at h
  | x :: l, 0, i, h, j, hj => by
    simp at h; subst h
    rw [insCells_cons, List.getElem?_append_left (by simp [Ins.cells]; omega)]
    simp
  | x :: l, k + 1, i, h, j, hj => by
    have := insCells_at l k i (by simpa using h) j hj
    rw [insCells_cons, List.getElem?_append_right (by simp [Ins.cells]; omega), ← this]
    congr 1
    simp [Ins.cells]; omega

theorem fit_int {k : IntKind} {cks : List CK} {cs : List Value} (h : AllFit cks cs) {i : Nat} (hc : cks[i]? = some (.int k)) : ∃ n : Int, cs[i]? = some (.int k n) ∧ (Lit.int k n).wf = true := by
  have hi : i < cs.length := by rw [h.1]; exact (List.getElem?_eq_some_iff.1 hc).1
  obtain ⟨n, h1, h2⟩ := h.2 i _ cs[i] hc (List.getElem?_eq_getElem hi)
  exact ⟨n, by rw [List.getElem?_eq_getElem hi, h1], h2⟩

theorem ins_of_fit {cs : List Value} (h : AllFit [.int .i64, .int .i64, .int .i64, .int .i64, .int .i64] cs) : ∃ i : Ins, cs = i.cells ∧ i.wf := by
  obtain ⟨n0, e0, w0⟩ := fit_int h (i := 0) rfl
  obtain ⟨n1, e1, w1⟩ := fit_int h (i := 1) rfl
  obtain ⟨n2, e2, w2⟩ := fit_int h (i := 2) rfl
  obtain ⟨n3, e3, w3⟩ := fit_int h (i := 3) rfl
  obtain ⟨n4, e4, w4⟩ := fit_int h (i := 4) rfl
  refine ⟨⟨n0, n1, n2, n3, n4⟩, ?_, wf_i64 w0, wf_i64 w1, wf_i64 w2, wf_i64 w3, wf_i64 w4⟩
  match cs, h.1 with
  | [a, b, c, d, e], _ => simp at e0 e1 e2 e3 e4; simp [Ins.cells, e0, e1, e2, e3, e4]

theorem ins_rows : ∀ (rows : List (List Value)), (∀ r ∈ rows, AllFit [.int .i64, .int .i64, .int .i64, .int .i64, .int .i64] r) → ∃ l : List Ins, rows.flatten = insCells l ∧ l.length = rows.length ∧ ∀ i ∈ l, i.wf
  | [], _ => ⟨[], rfl, rfl, by simp⟩
  | r :: rows, h => by
    obtain ⟨i, hi, hw⟩ := ins_of_fit (h r (by simp))
    obtain ⟨l, h1, h2, h3⟩ := ins_rows rows (fun r hr => h r (by simp [hr]))
    exact ⟨i :: l, by rw [List.flatten_cons, h1, hi, insCells_cons], by simp [h2], by simp; exact ⟨hw, h3⟩⟩

def intCells (k : IntKind) (l : List Int) : List Value := l.map (.int k)
theorem int_rows (k : IntKind) : ∀ (rows : List (List Value)), (∀ r ∈ rows, AllFit [.int k] r) → ∃ l : List Int, rows.flatten = intCells k l ∧ l.length = rows.length ∧ ∀ i ∈ l, (Lit.int k i).wf = true
  | [], _ => ⟨[], rfl, rfl, by simp⟩
  | r :: rows, h => by
    obtain ⟨n, hi, hw⟩ := fit_int (h r (by simp)) (i := 0) rfl
    obtain ⟨l, h1, h2, h3⟩ := int_rows k rows (fun r hr => h r (by simp [hr]))
    have hr : r = [.int k n] := by
      have := (h r (by simp)).1
      match r, this with
      | [a], _ => simp at hi; rw [hi]
    exact ⟨n :: l, by rw [List.flatten_cons, h1, hr]; rfl, by simp [h2], by simp; exact ⟨hw, h3⟩⟩

def boolCells (l : List Bool) : List Value := l.map .bool
theorem bool_rows : ∀ (rows : List (List Value)), (∀ r ∈ rows, AllFit [.bool] r) → ∃ l : List Bool, rows.flatten = boolCells l ∧ l.length = rows.length
  | [], _ => ⟨[], rfl, rfl⟩
  | r :: rows, h => by
    have hf := h r (by simp)
    obtain ⟨l, h1, h2⟩ := bool_rows rows (fun r hr => h r (by simp [hr]))
    match r, hf.1, hf.2 with
    | [a], _, h3 =>
      obtain ⟨b, rfl⟩ := h3 0 .bool a rfl rfl
      exact ⟨b :: l, by rw [List.flatten_cons, h1]; rfl, by simp [h2]⟩

/-- The view at a law's begin: all that is there. -/
abbrev mOf (W : World) : AM := fun b => W.heap[b]?

theorem mOf_none (W : World) {b : Nat} (h : W.heap.size ≤ b) : mOf W b = none := by simp [mOf, h]
end Go.Alog
