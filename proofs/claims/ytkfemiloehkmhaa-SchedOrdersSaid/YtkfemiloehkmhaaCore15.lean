/- Ytkfemiloehkmhaa: a text of our own, by an AI agent: Core15 -/
import Derived.Test.YtkfemiloehkmhaaCore14
set_option linter.unusedVariables false
namespace Go.Alog
open Go Go.RowKit

/-- A part of a row. -/
theorem Reads.slice {m : AM} {sz : Nat} {A : Option Addr} {n c : Nat} {xs : List Value} (r : Reads m sz A n xs) (lo hi : Nat) (h : lo ≤ hi) (hn : hi ≤ n) (hc : n ≤ c) :
    Reads m sz (if c = lo then A else Option.map (fun x => Addr.add x (lo * sz)) A) (hi - lo) ((xs.drop (lo * sz)).take ((hi - lo) * sz)) := by
  obtain ⟨hl, r⟩ := r
  have hlen : ((xs.drop (lo * sz)).take ((hi - lo) * sz)).length = (hi - lo) * sz := by
    have h1 : hi * sz ≤ n * sz := Nat.mul_le_mul_right _ hn
    have h2 : (hi - lo) * sz + lo * sz = hi * sz := by rw [← Nat.add_mul]; congr 1; omega
    rw [List.length_take, List.length_drop, hl]; omega
  refine ⟨hlen, ?_⟩
  by_cases e : hi - lo = 0
  · rw [e]
    rw [Nat.zero_mul, List.take_zero]
    have hx : ∀ B : Option Addr, (B = none ∧ 0 = 0) ∨ ∃ ad, B = some ad ∧ Cells m ad [] := fun B => by
      cases B with
      | none => exact .inl ⟨rfl, rfl⟩
      | some ad => exact .inr ⟨ad, rfl, fun j u hu => by simp at hu⟩
    exact hx _
  · rcases r with ⟨rfl, hn0⟩ | ⟨ad, rfl, hcl⟩
    · omega
    · rw [if_neg (by omega)]
      refine .inr ⟨_, rfl, fun j u hu => ?_⟩
      rw [List.getElem?_take] at hu
      split at hu
      · rw [List.getElem?_drop] at hu
        have := hcl _ u hu
        rwa [add_add]
      · cases hu
theorem insCells_drop (l : List Ins) (k : Nat) : (insCells l).drop (k * 5) = insCells (l.drop k) := by
  induction k generalizing l with
  | zero => simp
  | succ k ih =>
    cases l with
    | nil => simp [insCells]
    | cons i l =>
      rw [insCells_cons, show (k + 1) * 5 = i.cells.length + k * 5 by rw [Ins.len]; omega, List.drop_length_add_append]
      simpa using ih l
theorem insCells_take (l : List Ins) (k : Nat) : (insCells l).take (k * 5) = insCells (l.take k) := by
  induction k generalizing l with
  | zero => simp [insCells]
  | succ k ih =>
    cases l with
    | nil => simp [insCells]
    | cons i l =>
      rw [insCells_cons, show (k + 1) * 5 = i.cells.length + k * 5 by rw [Ins.len]; omega, List.take_length_add_append, List.take_succ_cons, insCells_cons, ih l]
/-- A part of a row of instructions. -/
theorem Reads.insSlice {m : AM} {A : Option Addr} {c : Nat} {l : List Ins} (r : Reads m 5 A l.length (insCells l)) (lo hi : Nat) (h : lo ≤ hi) (hn : hi ≤ l.length) (hc : l.length ≤ c) :
    Reads m 5 (if c = lo then A else Option.map (fun x => Addr.add x (lo * 5)) A) (hi - lo) (insCells ((l.drop lo).take (hi - lo))) := by
  have := r.slice lo hi h hn hc
  rwa [insCells_drop, insCells_take] at this
end Go.Alog
