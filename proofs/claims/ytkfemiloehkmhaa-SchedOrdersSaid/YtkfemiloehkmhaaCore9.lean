/- Ytkfemiloehkmhaa: a text of our own, by an AI agent: Core9 -/
import Derived.Test.YtkfemiloehkmhaaCore8
set_option linter.unusedSimpArgs false
set_option linter.unusedVariables false
/-! Rows of records: reading and storing an element. -/
namespace Go.Alog
open Go Go.RowKit

theorem row_len {α : Type} {f : α → List Value} {sz : Nat} (hf : ∀ x, (f x).length = sz) (l : List α) : (l.flatMap f).length = l.length * sz := by
  induction l with
  | nil => simp
  | cons x l ih => rw [List.flatMap_cons, List.length_append, ih, hf, List.length_cons, Nat.succ_mul, Nat.add_comm]

theorem row_at {α : Type} {f : α → List Value} {sz : Nat} (hf : ∀ x, (f x).length = sz) : ∀ (l : List α) (k : Nat) (x : α), l[k]? = some x → ∀ j, j < sz → (l.flatMap f)[k * sz + j]? = (f x)[j]?
  | [], k, x, h, _, _ => by simp at h
  | y :: l, 0, x, h, j, hj => by
    simp at h; subst h
    rw [List.flatMap_cons, List.getElem?_append_left (by rw [hf]; omega)]
    simp
  | y :: l, k + 1, x, h, j, hj => by
    have := row_at hf l k x (by simpa using h) j hj
    rw [List.flatMap_cons, List.getElem?_append_right (by rw [hf, Nat.succ_mul]; omega), ← this]
    congr 1
    rw [hf, Nat.succ_mul]; omega

theorem row_set {α : Type} {f : α → List Value} {sz : Nat} (hf : ∀ x, (f x).length = sz) : ∀ (l : List α) (k : Nat) (x : α), k < l.length → (l.set k x).flatMap f = (l.flatMap f).take (k * sz) ++ f x ++ (l.flatMap f).drop (k * sz + sz)
  | [], k, x, h => by simp at h
  | y :: l, 0, x, h => by
    simp [List.flatMap_cons, ← hf y]
  | y :: l, k + 1, x, h => by
    have ih := row_set hf l k x (by simpa using h)
    rw [List.set_cons_succ, List.flatMap_cons, List.flatMap_cons, ih]
    have h1 : (k + 1) * sz = (f y).length + k * sz := by rw [hf, Nat.succ_mul, Nat.add_comm]
    rw [h1, List.take_length_add_append, Nat.add_assoc, List.drop_length_add_append]
    simp [List.append_assoc]

/-- Stores of cells that stand in a row. -/
def StL (B : Nat) (a : Addr) : Nat → List Value → AM → (AM → Prop) → Prop
  | _, [], m, K => K m
  | i, v :: vs, m, K => StC B m (a.add i) v fun m' => StL B a (i + 1) vs m' K

theorem StL_cells {B g : Nat} {e : TypeId} {K : AM → Prop} : ∀ (vs : List Value) (i o : Nat) (m : AM) (cur : Array Value), m g = some (.cells cur e (0, 0)) → B ≤ g → o + i + vs.length ≤ cur.size → K (m.upd g (.cells (splice cur (o + i) vs) e)) → StL B ⟨g, o, none⟩ i vs m K
  | [], i, o, m, cur, hg, hB, hl, hk => by
    rw [splice_nil, upd_self hg] at hk
    exact hk
  | v :: vs, i, o, m, cur, hg, hB, hl, hk => by
    simp only [List.length_cons] at hl
    show StC B m ((⟨g, o, none⟩ : Addr).add i) v _
    rw [addn]
    refine StC_own hg hB (by omega) ?_
    refine StL_cells vs (i + 1) o _ (cur.setIfInBounds (o + i) v) (by rw [upd_get_same]) hB (by simp; omega) ?_
    rw [upd_upd, ← Nat.add_assoc, splice_cons cur (o + i) v vs (by omega)]
    exact hk

theorem take_splice (cur : Array Value) (o n : Nat) (vs : List Value) (h : o + vs.length ≤ n) (hn : n ≤ cur.size) : (splice cur o vs).toList.take n = (cur.toList.take n).take o ++ vs ++ (cur.toList.take n).drop (o + vs.length) := by
  unfold splice
  apply List.ext_getElem?
  intro i
  simp only [List.getElem?_take, List.getElem?_append, List.getElem?_drop, List.length_take, List.length_append, Array.length_toList]
  by_cases h1 : i < n
  · rw [if_pos h1]
    by_cases h2 : i < o
    · simp [h2, show min o cur.size = o by omega, show min o (min n cur.size) = o by omega, show i < o + vs.length by omega, show o ≤ n by omega, show o ≤ cur.size by omega, h1]
    · by_cases h3 : i < o + vs.length
      · simp [h2, h3, show min o cur.size = o by omega, show min o (min n cur.size) = o by omega]
      · simp [h2, h3, show min o cur.size = o by omega, show min o (min n cur.size) = o by omega, show o + vs.length + (i - (o + vs.length)) = i by omega, h1]
  · rw [if_neg h1]
    symm
    simp [show ¬ i < o by omega, show min o (min n cur.size) = o by omega, show ¬ i - o < vs.length by omega, show ¬ i < o + vs.length by omega]
    omega

theorem Own.storeL {B : Nat} {m : AM} {e : TypeId} {sz : Nat} {a : Addr} {n cp : Nat} {xs : List Value} (h : Own m B e sz (some a) n cp xs) {o : Nat} {vs : List Value} (ho : o + vs.length ≤ n * sz) {K : AM → Prop}
    (hK : ∀ g cur, a = ⟨g, 0, none⟩ → Own (m.upd g (.cells cur e)) B e sz (some a) n cp (xs.take o ++ vs ++ xs.drop (o + vs.length)) → K (m.upd g (.cells cur e))) : StL B (a.add o) 0 vs m K := by
  obtain ⟨hl, hn, h | ⟨g, cur, h1, h2, h3, h4, h5⟩⟩ := h
  · cases h.1
  · injection h1 with h1
    subst h1
    have hm : n * sz ≤ cp * sz := Nat.mul_le_mul_right _ hn
    rw [addn, Nat.zero_add]
    refine StL_cells vs 0 o m cur h3 h2 (by omega) ?_
    refine hK g _ rfl ⟨?_, hn, .inr ⟨g, _, rfl, h2, upd_get_same, ?_, ?_⟩⟩
    · simp [hl]; omega
    · rw [splice_size _ _ _ (by omega), h4]
    · rw [Nat.add_zero, take_splice cur o (n * sz) vs ho (by omega), h5]

/-- An element of a row of the call's own is stored. -/
theorem Own.storeRow {α : Type} {f : α → List Value} {sz : Nat} (hf : ∀ x, (f x).length = sz) {B : Nat} {m : AM} {e : TypeId} {a : Addr} {cp : Nat} {l : List α} (h : Own m B e sz (some a) l.length cp (l.flatMap f)) {k : Nat} (hk : k < l.length) (x : α) {K : AM → Prop}
    (hK : ∀ g cur, a = ⟨g, 0, none⟩ → Own (m.upd g (.cells cur e)) B e sz (some a) (l.set k x).length cp ((l.set k x).flatMap f) → K (m.upd g (.cells cur e))) : StL B (a.add (k * sz)) 0 (f x) m K := by
  refine h.storeL (by rw [hf]; calc k * sz + sz = (k + 1) * sz := (Nat.succ_mul _ _).symm
    _ ≤ _ := Nat.mul_le_mul_right _ hk) fun g cur ha ho => hK g cur ha ?_
  rw [row_set hf l k x hk, List.length_set]
  rw [hf] at ho
  exact ho

theorem Cells.at {α : Type} {f : α → List Value} {sz : Nat} (hf : ∀ x, (f x).length = sz) {m : AM} {a : Addr} {l : List α} (h : Cells m a (l.flatMap f)) {k : Nat} {x : α} (hk : l[k]? = some x) {j : Nat} (hj : j < sz) : m.cell (a.add (k * sz + j)) = (f x)[j]? := by
  have h1 := row_at hf l k x hk j hj
  rw [List.getElem?_eq_getElem (show j < (f x).length by rw [hf]; exact hj)] at h1 ⊢
  exact h _ _ h1

theorem Ins.len (i : Ins) : i.cells.length = 5 := rfl

/-- The five cells of an instruction in a row. -/
theorem Cells.ins {m : AM} {a : Addr} {l : List Ins} (h : Cells m a (insCells l)) {k : Nat} {x : Ins} (hk : l[k]? = some x) :
    m.cell (a.add (k * 5)) = some (.int .i64 x.op) ∧ m.cell ((a.add (k * 5)).add 1) = some (.int .i64 x.a) ∧ m.cell ((a.add (k * 5)).add 2) = some (.int .i64 x.b) ∧ m.cell ((a.add (k * 5)).add 3) = some (.int .i64 x.c) ∧ m.cell ((a.add (k * 5)).add 4) = some (.int .i64 x.imm) := by
  simp only [add_add]
  exact ⟨Cells.at Ins.len h hk (j := 0) (by omega), Cells.at Ins.len h hk (j := 1) (by omega), Cells.at Ins.len h hk (j := 2) (by omega), Cells.at Ins.len h hk (j := 3) (by omega), Cells.at Ins.len h hk (j := 4) (by omega)⟩

theorem bcase_t {X Y : Prop} : bcase true X Y = X := rfl
theorem bcase_f {X Y : Prop} : bcase false X Y = Y := rfl
theorem upd_get {m : AM} {b k : Nat} {o : Obj} : (m.upd b o) k = if k = b then some o else m k := by simp [AM.upd]

theorem StC_upd {B : Nat} {m : AM} {b k : Nat} {c : Array Value} {t : TypeId} {v : Value} {K : AM → Prop} : StC B (m.upd b (.cells c t)) ⟨b, k, none⟩ v K ↔ B ≤ b ∧ k < c.size ∧ K (m.upd b (.cells (c.setIfInBounds k v) t)) := by
  unfold StC
  rw [set_upd_same, frozen_upd_same, cell_upd_same]
  constructor
  · rintro ⟨h1, ⟨u, h2⟩, _, h3⟩
    exact ⟨h1, (Array.getElem?_eq_some_iff.1 h2).1, h3⟩
  · rintro ⟨h1, h2, h3⟩
    exact ⟨h1, ⟨_, Array.getElem?_eq_getElem h2⟩, rfl, h3⟩
end Go.Alog
