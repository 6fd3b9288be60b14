/- Ytkfemiloehkmhaa: a text of our own, by an AI agent: Core11 -/
import Derived.Test.YtkfemiloehkmhaaCore10
set_option linter.unusedSimpArgs false
set_option linter.unusedVariables false
/-! append onto a row that the call has made itself. -/
namespace Go.Alog
open Go Go.RowKit

theorem awp_append_loc {P : Program} {B : Nat} {t ty e : TypeId} {sz bs : Nat} {z : List Value} (hel : elOf P t = some (e, sz, bs, z)) {m0 m : AM} {A : Option Addr} {n cp : Nat} {xs : List Value} (hle : m0.le m) (hown : Own m B e sz A n cp xs) (hnew : ∀ k ∈ obl A, m0 k = none)
    {A2 : Option Addr} {k c2 : Nat} {news : List Value} (hr : Reads m sz A2 k news) (h1 : ∀ u ∈ news, u.oneCell' = true) (hfit : (n + k) * bs ≤ 140737488355328) (hfit2 : n + k ≤ 140737488355328) {K : Value → AM → Prop}
    (h : ∀ A' c' m', m0.le m' → Fr m m' (obl A) → Own m' B e sz A' (n + k) c' (xs ++ news) → (∀ x ∈ obl A', m0 x = none) → (∀ x ∈ obl A', x ∈ obl A ∨ m x = none) → K (.slice A' (n + k) c') m') :
    awp P B (Builtin.append_ #[t, t] ty #[.slice A n cp, .slice A2 k c2]) m K := by
  refine awp_append_own hel hown hr h1 hfit hfit2 (fun g cp' cur hor hB ho => ?_) (fun h0 hA => ?_)
  · have hg0 : m0 g = none := by
      rcases hor with h | h
      · exact hnew g (by rw [h]; simp [obl])
      · exact AM.le_none hle h
    refine h _ _ _ ?_ ?_ ho ?_ ?_
    · intro x o hx
      rw [upd_get]
      by_cases ex : x = g
      · subst ex; rw [hg0] at hx; cases hx
      · rw [if_neg ex]; exact hle _ _ hx
    · refine Fr.upd (Fr.refl _ _) ?_ _
      rcases hor with h | h
      · left; rw [h]; simp [obl]
      · right; exact h
    · intro x hx; simp [obl] at hx; subst hx; exact hg0
    · intro x hx
      simp [obl] at hx; subst hx
      rcases hor with h | h
      · left; rw [h]; simp [obl]
      · right; exact h
  · have hx : xs = [] := List.eq_nil_of_length_eq_zero (by rw [hown.1]; have : n = 0 := by omega
                                                           rw [this]; simp)
    have hn : news = [] := List.eq_nil_of_length_eq_zero (by rw [hr.1]; have : k = 0 := by omega
                                                             rw [this]; simp)
    have := h none 0 m hle (Fr.refl _ _) (by rw [h0, hx, hn]; exact Own.nil _ _ _ _) (by simp [obl]) (by simp [obl])
    rw [h0] at this
    exact this

/-- A known block is not one of a row of another type. -/
theorem Own.not_in {m : AM} {B : Nat} {e : TypeId} {sz : Nat} {A : Option Addr} {n cp : Nat} {xs : List Value} (h : Own m B e sz A n cp xs) {g : Nat} {c : Array Value} {t : TypeId} (hg : m g = some (.cells c t)) (ht : t ≠ e) : g ∉ obl A := h.obl_ne hg ht
/-- Two rows of different types lie apart. -/
theorem Own.apart {m : AM} {B B' : Nat} {e e' : TypeId} {sz sz' : Nat} {A A' : Option Addr} {n n' cp cp' : Nat} {xs xs' : List Value} (h : Own m B e sz A n cp xs) (h' : Own m B' e' sz' A' n' cp' xs') (ht : e ≠ e') : ∀ k ∈ obl A, k ∉ obl A' := fun k hk hk' => by
  obtain ⟨_, cur, h1⟩ := h.obl_some hk
  exact h'.obl_ne h1 ht hk'
theorem Reads.fr {m m' : AM} {sz : Nat} {A : Option Addr} {n : Nat} {xs : List Value} (h : Reads m sz A n xs) (hl : m.le m') : Reads m' sz A n xs := h.le hl
theorem ne_new {m : AM} {b b' : Nat} {o : Obj} (h : m b = some o) (h' : m b' = none) : b ≠ b' := fun e => by subst e; rw [h'] at h; cases h
end Go.Alog
