/- Ytkfemiloehkmhaa: a text of our own, by an AI agent: Core16 -/
import Derived.Test.YtkfemiloehkmhaaCore15
set_option linter.unusedVariables false
namespace Go.Alog
open Go Go.RowKit
theorem blk5x2 {w0 : World} {m : AM} {T : TypeId} {z0 z1 z2 z3 z4 v0 v1 v2 v3 v4 u0 u1 u2 u3 u4 : Value} {K : Nat → Nat → AM → Prop}
    (hK : ∀ b c M, m.le M → m b = none → m c = none → b ≠ c → M b = some (.cells #[v0, v1, v2, v3, v4] T) → M c = some (.cells #[u0, u1, u2, u3, u4] T) → K b c M) :
    ∀ b : Nat, w0.heap.size ≤ b → m b = none → let m1 := AM.upd m b (.cells #[z0, z1, z2, z3, z4] T);
    ∀ c : Nat, w0.heap.size ≤ c → m1 c = none → let m2 := AM.upd m1 c (.cells #[z0, z1, z2, z3, z4] T);
      StC w0.heap.size m2 ⟨b, 0, none⟩ v0 fun m3 => StC w0.heap.size m3 ⟨b, 1, none⟩ v1 fun m4 => StC w0.heap.size m4 ⟨b, 2, none⟩ v2 fun m5 => StC w0.heap.size m5 ⟨b, 3, none⟩ v3 fun m6 => StC w0.heap.size m6 ⟨b, 4, none⟩ v4 fun m6 =>
      StC w0.heap.size m6 ⟨c, 0, none⟩ u0 fun m7 => StC w0.heap.size m7 ⟨c, 1, none⟩ u1 fun m8 => StC w0.heap.size m8 ⟨c, 2, none⟩ u2 fun m9 => StC w0.heap.size m9 ⟨c, 3, none⟩ u3 fun m10 => StC w0.heap.size m10 ⟨c, 4, none⟩ u4 fun m10 => K b c m10 := by
  intro b hb hmb m1 c hc hmc m2
  have hne : b ≠ c := fun e => by subst e; simp only [m1, upd_get_same] at hmc; cases hmc
  have hc0 : m c = none := by simp only [m1] at hmc; rwa [upd_get_ne hne.symm] at hmc
  have hb2 : m2 b = some (.cells #[z0, z1, z2, z3, z4] T) := by simp only [m2, m1]; rw [upd_get_ne hne, upd_get_same]
  have hc2 : m2 c = some (.cells #[z0, z1, z2, z3, z4] T) := by simp only [m2]; rw [upd_get_same]
  have hl2 : m.le m2 := AM.le_trans (le_new hmb _) (le_new hmc _)
  clear_value m2
  refine StC_own hb2 hb (by simp) (StC_upd.2 ⟨hb, by simp, StC_upd.2 ⟨hb, by simp, StC_upd.2 ⟨hb, by simp, StC_upd.2 ⟨hb, by simp, ?_⟩⟩⟩⟩)
  refine StC_own (by rw [upd_get_ne hne.symm]; exact hc2) hc (by simp) (StC_upd.2 ⟨hc, by simp, StC_upd.2 ⟨hc, by simp, StC_upd.2 ⟨hc, by simp, StC_upd.2 ⟨hc, by simp, ?_⟩⟩⟩⟩)
  refine hK b c _ ?_ hmb hc0 hne (by rw [upd_get_ne hne, upd_get_same]; simp) (by rw [upd_get_same]; simp)
  intro x o hx
  have hxb : x ≠ b := fun e => by subst e; rw [hmb] at hx; cases hx
  have hxc : x ≠ c := fun e => by subst e; rw [hc0] at hx; cases hx
  rw [upd_get_ne hxc, upd_get_ne hxb]
  exact hl2 _ _ hx
theorem countP_add {p : Nat → Bool} {x : Nat} (hp : p x = false) : ∀ n : Nat, x < n → (List.range n).countP (fun k => p k || k == x) = (List.range n).countP p + 1
  | 0, h => by omega
  | n + 1, h => by
    rw [List.range_succ, List.countP_append, List.countP_append]
    by_cases e : x = n
    · subst e
      have : (List.range x).countP (fun k => p k || k == x) = (List.range x).countP p := by
        apply List.countP_congr
        intro k hk
        have hk : k < x := List.mem_range.1 hk
        have : (k == x) = false := by simp; omega
        simp [this]
      rw [this]
      simp [hp]
    · rw [countP_add hp n (by omega)]
      have : (n == x) = false := by simp; omega
      simp only [List.countP_cons, List.countP_nil, this, Bool.or_false]
      omega
end Go.Alog
