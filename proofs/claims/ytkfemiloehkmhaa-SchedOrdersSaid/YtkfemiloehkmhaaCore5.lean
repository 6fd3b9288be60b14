/- Ytkfemiloehkmhaa: a text of our own, by an AI agent: Core5 -/
import Derived.Test.YtkfemiloehkmhaaCore4
namespace Go.Alog
open Go Go.RowKit

theorem cell_upd_same {m : AM} {b : Nat} {c : Array Value} {t : TypeId} {f : Nat × Nat} {k : Nat} : (m.upd b (.cells c t f)).cell ⟨b, k, none⟩ = c[k]? := by
  unfold AM.cell AM.upd; simp
theorem cell_upd_ne {m : AM} {b : Nat} {o : Obj} {a : Addr} (h : a.block ≠ b) : (m.upd b o).cell a = m.cell a := by
  unfold AM.cell AM.upd; simp [h]
theorem frozen_upd_same {m : AM} {b : Nat} {c : Array Value} {t : TypeId} {k : Nat} : (m.upd b (.cells c t (0, 0))).frozen ⟨b, k, none⟩ = false := by
  unfold AM.frozen AM.upd; simp
theorem frozen_upd_ne {m : AM} {b : Nat} {o : Obj} {a : Addr} (h : a.block ≠ b) : (m.upd b o).frozen a = m.frozen a := by
  unfold AM.frozen AM.upd; simp [h]
theorem set_upd_same {m : AM} {b : Nat} {c : Array Value} {t : TypeId} {f : Nat × Nat} {k : Nat} {v : Value} : (m.upd b (.cells c t f)).set ⟨b, k, none⟩ v = m.upd b (.cells (c.setIfInBounds k v) t f) := by
  unfold AM.set
  have : m.upd b (.cells c t f) b = some (.cells c t f) := by simp [AM.upd]
  simp only [this]
  funext x
  by_cases h : x = b <;> simp [AM.upd, h]
theorem upd_upd {m : AM} {b : Nat} {o o' : Obj} : (m.upd b o).upd b o' = m.upd b o' := by
  funext x; by_cases h : x = b <;> simp [AM.upd, h]
theorem upd_comm {m : AM} {b b' : Nat} {o o' : Obj} (h : b ≠ b') : (m.upd b o).upd b' o' = (m.upd b' o').upd b o := by
  funext x
  unfold AM.upd
  by_cases h1 : x = b <;> by_cases h2 : x = b' <;> simp_all
theorem set_upd_ne {m : AM} {b : Nat} {o : Obj} {a : Addr} {v : Value} (h : a.block ≠ b) : (m.upd b o).set a v = (m.set a v).upd b o := by
  unfold AM.set
  have : (m.upd b o) a.block = m a.block := by simp [AM.upd, h]
  rw [this]
  cases hm : m a.block with
  | none => rfl
  | some x => cases x <;> first | rfl | exact upd_comm (Ne.symm h)
theorem upd_self {m : AM} {b : Nat} {o : Obj} (h : m b = some o) : m.upd b o = m := by
  funext x; by_cases hx : x = b <;> simp [AM.upd, hx, h]
theorem upd_get_same {m : AM} {b : Nat} {o : Obj} : (m.upd b o) b = some o := by simp [AM.upd]
theorem upd_get_ne {m : AM} {b x : Nat} {o : Obj} (h : x ≠ b) : (m.upd b o) x = m x := by simp [AM.upd, h]
theorem AM.le_refl (m : AM) : m.le m := fun _ _ h => h
theorem AM.le_trans {a b c : AM} (h : a.le b) (k : b.le c) : a.le c := fun x o hx => k x o (h x o hx)
theorem AM.le_upd {m m' : AM} {b : Nat} {o : Obj} (h : m.le m') (hb : m' b = none) : m.le (m'.upd b o) := fun x o' hx => by
  have h1 := h x o' hx
  have : x ≠ b := fun e => by subst e; rw [hb] at h1; cases h1
  rw [upd_get_ne this]; exact h1
/-- A view with a block turned lies in a greater one with that block turned likewise. -/
theorem AM.upd_le_upd {m m' : AM} {b : Nat} {o : Obj} (h : m.le m') : (m.upd b o).le (m'.upd b o) := fun x o' hx => by
  by_cases hxb : x = b
  · subst hxb; rw [upd_get_same] at hx ⊢; exact hx
  · rw [upd_get_ne hxb] at hx ⊢; exact h x o' hx
theorem AM.le_none {m m' : AM} (h : m.le m') {b : Nat} (hb : m' b = none) : m b = none := by
  cases hm : m b with
  | none => rfl
  | some o => rw [h b o hm] at hb; cases hb
theorem cell_of {m : AM} {b k : Nat} {c : Array Value} {t : TypeId} {f : Nat × Nat} (h : m b = some (.cells c t f)) : m.cell ⟨b, k, none⟩ = c[k]? := by
  unfold AM.cell; simp [h]
theorem frozen_of {m : AM} {b k : Nat} {c : Array Value} {t : TypeId} (h : m b = some (.cells c t (0, 0))) : m.frozen ⟨b, k, none⟩ = false := by
  unfold AM.frozen; simp [h]
theorem set_of {m : AM} {b k : Nat} {c : Array Value} {t : TypeId} {f : Nat × Nat} {v : Value} (h : m b = some (.cells c t f)) : m.set ⟨b, k, none⟩ v = m.upd b (.cells (c.setIfInBounds k v) t f) := by
  unfold AM.set; simp [h]
theorem AM.le_cell {m m' : AM} (h : m.le m') {a : Addr} {v : Value} (hc : m.cell a = some v) : m'.cell a = some v := by
  unfold AM.cell at hc ⊢
  cases hm : m a.block with
  | none => rw [hm] at hc; cases hc
  | some o => rw [hm] at hc; rw [h _ _ hm]; exact hc
theorem add0 (b o : Nat) : (⟨b, o, none⟩ : Addr).add 0 = ⟨b, o, none⟩ := rfl
theorem addn (b o n : Nat) : (⟨b, o, none⟩ : Addr).add n = ⟨b, o + n, none⟩ := by unfold Addr.add; by_cases h : n = 0 <;> simp [h]
theorem add_block (a : Addr) (n : Nat) : (a.add n).block = a.block := by unfold Addr.add; split <;> rfl
theorem add_add (a : Addr) (i j : Nat) : (a.add i).add j = a.add (i + j) := by
  unfold Addr.add
  by_cases hi : i = 0 <;> by_cases hj : j = 0 <;> simp [hi, hj, Nat.add_assoc]

/-- A loop by what holds at its head, and a measure. -/
theorem loopS {P : Program} {w0 : World} {qs : Nat → List (Nat × Nat)} {c : Code} {σ : Sg} {m : AM} {Q : Exit → Sg → AM → Prop} (I : Nat → Sg → AM → Prop) (N : Nat) (h0 : I N σ m)
    (hr : ∀ n σ m, I n σ m → vcS P w0 qs c σ m (thenS (fun σ' m' => ∃ n', n' < n ∧ I n' σ' m') Q)) : vcS P w0 qs (.loop c) σ m Q := ⟨I, N, h0, fun n σ m h => ⟨_, fun _ _ _ h => h, hr n σ m h⟩⟩
/-- The same; what a round must leave may be told in other words. -/
theorem loopQ {P : Program} {w0 : World} {qs : Nat → List (Nat × Nat)} {c : Code} {σ : Sg} {m : AM} {Q : Exit → Sg → AM → Prop} (I : Nat → Sg → AM → Prop) (N : Nat) (Q0 : Nat → Exit → Sg → AM → Prop) (h0 : I N σ m)
    (hn : ∀ n σ m, Q0 n .normal σ m → ∃ n', n' < n ∧ I n' σ m) (hq : ∀ n e σ m, e ≠ .normal → Q0 n e σ m → Q e σ m)
    (hr : ∀ n σ m, I n σ m → vcS P w0 qs c σ m (Q0 n)) : vcS P w0 qs (.loop c) σ m Q :=
  ⟨I, N, h0, fun n σ m h => ⟨Q0 n, fun e σ m h => by
    cases e <;> first | exact hn n σ m h | exact hq n _ σ m (by intro h; cases h) h, hr n σ m h⟩⟩

end Go.Alog
