/- Ytkfemiloehkmhaa: a text of our own, by an AI agent: Core12 -/
import Derived.Test.YtkfemiloehkmhaaCore11
set_option linter.unusedSimpArgs false
set_option linter.unusedVariables false
/-! Shapes that come again: a record kept in a block of its own, two of them, two rows joined. -/
namespace Go.Alog
open Go Go.RowKit

theorem app2 {P : Program} {w0 : World} {t e : TypeId} {sz bs : Nat} {z : List Value} (hel : elOf P t = some (e, sz, bs, z)) {m0 : AM} {A1 A2 : Option Addr} {n1 c1 n2 c2 : Nat} {xs1 xs2 : List Value} (r1 : Reads m0 sz A1 n1 xs1) (r2 : Reads m0 sz A2 n2 xs2)
    (o1 : ∀ u ∈ xs1, u.oneCell' = true) (o2 : ∀ u ∈ xs2, u.oneCell' = true) (hf : (n1 + n2) * bs ≤ 140737488355328) (hf2 : n1 + n2 ≤ 140737488355328) {K : Option Addr → Nat → Nat → AM → Prop}
    (hK : ∀ A c m', m0.le m' → Own m' w0.heap.size e sz A (n1 + n2) c (xs1 ++ xs2) → (∀ k ∈ obl A, m0 k = none) → K A (n1 + n2) c m') :
    ∀ b : Nat, w0.heap.size ≤ b → m0 b = none → let m1 := AM.upd m0 b (.cells #[] e);
      awp P w0.heap.size (Builtin.append_ #[t, t] t #[.slice (some ⟨b, 0, none⟩) 0 0, .slice A1 n1 c1]) m1 fun v2 m3 =>
      ∃ (A4 : Option Addr) (n5 c6 : Nat), v2 = .slice A4 n5 c6 ∧ awp P w0.heap.size (Builtin.append_ #[t, t] t #[.slice A4 n5 c6, .slice A2 n2 c2]) m3 fun v7 m8 =>
      ∃ (A9 : Option Addr) (n10 c11 : Nat), v7 = .slice A9 n10 c11 ∧ K A9 n10 c11 m8 := by
  intro b hb hmb m1
  have l1 : m0.le m1 := le_new hmb _
  have ow1 : Own m1 w0.heap.size e sz (some ⟨b, 0, none⟩) 0 0 [] := Own.new m0 hb e sz 0 [] (by simp)
  have hm1 : (0 + n1) * bs ≤ (n1 + n2) * bs := Nat.mul_le_mul_right _ (by omega)
  refine awp_append_loc (m0 := m0) hel l1 ow1 (fun k hk => by simp [obl] at hk; subst hk; exact hmb) (r1.le l1) o1 (by omega) (by omega) (fun A' c' m23 l23 f23 o23 n23 _ => ?_)
  refine ⟨A', 0 + n1, c', rfl, ?_⟩
  refine awp_append_loc (m0 := m0) hel l23 o23 n23 (r2.le l23) o2 (by rw [Nat.zero_add]; exact hf) (by omega) (fun A2' c2' m28 l28 f28 o28 n28 _ => ?_)
  refine ⟨A2', 0 + n1 + n2, c2', rfl, ?_⟩
  rw [Nat.zero_add] at o28 ⊢
  rw [List.nil_append] at o28
  exact hK _ _ _ l28 o28 n28

theorem blk4 {w0 : World} {m : AM} {T : TypeId} {z0 z1 z2 z3 v0 v1 v2 v3 : Value} {K : Nat → AM → Prop} (hK : ∀ b m', m.le m' → m b = none → w0.heap.size ≤ b → m' b = some (.cells #[v0, v1, v2, v3] T) → K b m') :
    ∀ b : Nat, w0.heap.size ≤ b → m b = none → let m1 := AM.upd m b (.cells #[z0, z1, z2, z3] T);
      StC w0.heap.size m1 ⟨b, 0, none⟩ v0 fun m2 => StC w0.heap.size m2 ⟨b, 1, none⟩ v1 fun m3 => StC w0.heap.size m3 ⟨b, 2, none⟩ v2 fun m4 => StC w0.heap.size m4 ⟨b, 3, none⟩ v3 fun m5 => K b m5 := by
  intro b hb hm m1
  refine StC_upd.2 ⟨hb, by simp, StC_upd.2 ⟨hb, by simp, StC_upd.2 ⟨hb, by simp, StC_upd.2 ⟨hb, by simp, ?_⟩⟩⟩⟩
  exact hK b _ (le_new hm _) hm hb (by rw [upd_get_same]; simp)

theorem blk5 {w0 : World} {m : AM} {T : TypeId} {z0 z1 z2 z3 z4 v0 v1 v2 v3 v4 : Value} {K : Nat → AM → Prop} (hK : ∀ b m', m.le m' → m b = none → w0.heap.size ≤ b → m' b = some (.cells #[v0, v1, v2, v3, v4] T) → K b m') :
    ∀ b : Nat, w0.heap.size ≤ b → m b = none → let m1 := AM.upd m b (.cells #[z0, z1, z2, z3, z4] T);
      StC w0.heap.size m1 ⟨b, 0, none⟩ v0 fun m2 => StC w0.heap.size m2 ⟨b, 1, none⟩ v1 fun m3 => StC w0.heap.size m3 ⟨b, 2, none⟩ v2 fun m4 => StC w0.heap.size m4 ⟨b, 3, none⟩ v3 fun m5 => StC w0.heap.size m5 ⟨b, 4, none⟩ v4 fun m6 => K b m6 := by
  intro b hb hm m1
  refine StC_upd.2 ⟨hb, by simp, StC_upd.2 ⟨hb, by simp, StC_upd.2 ⟨hb, by simp, StC_upd.2 ⟨hb, by simp, StC_upd.2 ⟨hb, by simp, ?_⟩⟩⟩⟩⟩
  exact hK b _ (le_new hm _) hm hb (by rw [upd_get_same]; simp)

theorem blk4x2 {w0 : World} {m : AM} {T : TypeId} {z0 z1 z2 z3 v0 v1 v2 v3 u0 u1 u2 u3 : Value} {K : Nat → Nat → AM → Prop}
    (hK : ∀ b c M, m.le M → m b = none → m c = none → b ≠ c → M b = some (.cells #[v0, v1, v2, v3] T) → M c = some (.cells #[u0, u1, u2, u3] T) → K b c M) :
    ∀ b : Nat, w0.heap.size ≤ b → m b = none → let m1 := AM.upd m b (.cells #[z0, z1, z2, z3] T);
    ∀ c : Nat, w0.heap.size ≤ c → m1 c = none → let m2 := AM.upd m1 c (.cells #[z0, z1, z2, z3] T);
      StC w0.heap.size m2 ⟨b, 0, none⟩ v0 fun m3 => StC w0.heap.size m3 ⟨b, 1, none⟩ v1 fun m4 => StC w0.heap.size m4 ⟨b, 2, none⟩ v2 fun m5 => StC w0.heap.size m5 ⟨b, 3, none⟩ v3 fun m6 =>
      StC w0.heap.size m6 ⟨c, 0, none⟩ u0 fun m7 => StC w0.heap.size m7 ⟨c, 1, none⟩ u1 fun m8 => StC w0.heap.size m8 ⟨c, 2, none⟩ u2 fun m9 => StC w0.heap.size m9 ⟨c, 3, none⟩ u3 fun m10 => K b c m10 := by
  intro b hb hmb m1 c hc hmc m2
  have hne : b ≠ c := fun e => by subst e; simp only [m1, upd_get_same] at hmc; cases hmc
  have hc0 : m c = none := by simp only [m1] at hmc; rwa [upd_get_ne hne.symm] at hmc
  have hb2 : m2 b = some (.cells #[z0, z1, z2, z3] T) := by simp only [m2, m1]; rw [upd_get_ne hne, upd_get_same]
  have hc2 : m2 c = some (.cells #[z0, z1, z2, z3] T) := by simp only [m2]; rw [upd_get_same]
  have hl2 : m.le m2 := AM.le_trans (le_new hmb _) (le_new hmc _)
  clear_value m2
  refine StC_own hb2 hb (by simp) (StC_upd.2 ⟨hb, by simp, StC_upd.2 ⟨hb, by simp, StC_upd.2 ⟨hb, by simp, ?_⟩⟩⟩)
  refine StC_own (by rw [upd_get_ne hne.symm]; exact hc2) hc (by simp) (StC_upd.2 ⟨hc, by simp, StC_upd.2 ⟨hc, by simp, StC_upd.2 ⟨hc, by simp, ?_⟩⟩⟩)
  refine hK b c _ ?_ hmb hc0 hne (by rw [upd_get_ne hne, upd_get_same]; simp) (by rw [upd_get_same]; simp)
  intro x o hx
  have hxb : x ≠ b := fun e => by subst e; rw [hmb] at hx; cases hx
  have hxc : x ≠ c := fun e => by subst e; rw [hc0] at hx; cases hx
  rw [upd_get_ne hxc, upd_get_ne hxb]
  exact hl2 _ _ hx
/-! One way of two. -/
theorem bcT {A B : Prop} (h : A) : bcase true A B := h
theorem bcF {A B : Prop} (h : B) : bcase false A B := h
theorem bcET {b : Bool} {A B : Prop} (hb : b = true) (h : A) : bcase b A B := by subst hb; exact h
theorem bcEF {b : Bool} {A B : Prop} (hb : b = false) (h : B) : bcase b A B := by subst hb; exact h
theorem bcI {b : Bool} {A B : Prop} (h1 : b = true → A) (h2 : b = false → B) : bcase b A B := by cases b <;> first | exact h1 rfl | exact h2 rfl
theorem bcP {p : Prop} [Decidable p] {A B : Prop} (h1 : p → A) (h2 : ¬ p → B) : bcase (decide p) A B := by
  by_cases h : p
  · rw [decide_eq_true h]; exact h1 h
  · rw [decide_eq_false h]; exact h2 h
/-- A cell of a known block. -/
theorem cel {m : AM} {b k : Nat} {c : Array Value} {t : TypeId} {f : Nat × Nat} {v : Value} (h : m b = some (.cells c t f)) (hk : c[k]? = some v) : m.cell ⟨b, k, none⟩ = some v := by rw [cell_of h]; exact hk
theorem cell_k {k : IntKind} {m : AM} {a : Addr} {l : List Int} (h : Cells m a (intCells k l)) {i : Int} (h0 : 0 ≤ i) (h1 : i < l.length) : m.cell (a.add (i.toNat * 1)) = some (.int k (l.getD i.toNat 0)) := by
  have hlt : i.toNat < l.length := by omega
  refine h _ _ ?_
  simp [intCells, hlt, List.getD]
end Go.Alog
