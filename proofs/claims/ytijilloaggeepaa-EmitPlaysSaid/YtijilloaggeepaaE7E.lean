/- Ytijilloaggeepaa: a text of our own, by an AI agent: E7E -/
import Derived.Test.YtijilloaggeepaaE5E
import Derived.Test.YtijilloaggeepaaVR18E
import Derived.Test.YtijilloaggeepaaVR1E
import Derived.Test.YtijilloaggeepaaCore11
set_option linter.unusedSimpArgs false
set_option linter.unusedVariables false
namespace Go.Proofs.Ytijilloaggeepaa.S
open Go Go.RowKit Go.Alog Go.Proofs.Ytijilloaggeepaa.T Go.Proofs.Ytijilloaggeepaa.V

/-- The document's buffer, a value. -/
def RB (m : AM) (Z : Nat → Prop) (v : Value) (s : St) : Prop :=
  ∃ A0 c0 A1 c1, v = .agg #[.slice A0 s.code.length c0, .slice A1 s.pats.length c1, .int .i64 s.taken] ∧ Reads m 5 A0 s.code.length (insCells s.code) ∧ Reads m 3 A1 s.pats.length (patCells s.pats) ∧ (0 < s.code.length → ∀ k ∈ obl A0, ¬ Z k) ∧ (0 < s.pats.length → ∀ k ∈ obl A1, ¬ Z k)

theorem pat_one (l : List Pat) : ∀ u ∈ patCells l, u.oneCell' = true := fun u hu => by
  obtain ⟨p, _, hp⟩ := List.mem_flatMap.1 hu
  simp [Pat.cells] at hp; rcases hp with rfl | rfl | rfl <;> rfl

def putP (s : St) (kind n : Int) : List Pat := if kind ≥ 0 then s.pats ++ [⟨s.code.length, kind, n⟩] else s.pats

theorem put18_spec (w0 : World) (m : AM) (Z : Nat → Prop) (hz : ∀ k, Z k → m k ≠ none) (s : St) (A0 A1 : Option Addr) (c0 c1 : Nat) (i : Ins) (kind n : Int) (hr0 : Reads m 5 A0 s.code.length (insCells s.code)) (hr1 : Reads m 3 A1 s.pats.length (patCells s.pats)) (hl : s.code.length ≤ 999999) (hl2 : s.pats.length ≤ 999999) :
    CallsA Try.prog w0 35 #[.agg #[.slice A0 s.code.length c0, .slice A1 s.pats.length c1, .int .i64 s.taken], i.val, .int .i64 kind, .int .i64 n] m (fun r m' => m.le m' ∧ RB m' Z r ⟨s.code ++ [i], putP s kind n, s.taken⟩) := by
  refine cf35 w0 m _ _ _ _ _ _ _ _ _ _ _ _ _ _ _ ?_
  intro b1 hb1 hm1 m1
  have l1 : m.le m1 := le_new hm1 _
  have p1 : m1 b1 = some (.cells #[.slice A0 s.code.length c0, .slice A1 s.pats.length c1, .int .i64 s.taken] 48) := upd_get_same
  clear_value m1
  intro b3 hb3 hm3 m3
  have l3 : m1.le m3 := le_new hm3 _
  have p3 : m3 b3 = some (.cells i.cells.toArray 23) := upd_get_same
  clear_value m3
  intro b5 hb5 hm5 M
  have l5 : m3.le M := le_new hm5 _
  have p5 : M b5 = some (.cells #[.slice none 0 0, .slice none 0 0, .int .i64 0] 48) := upd_get_same
  clear_value M
  have h35 : b3 ≠ b5 := ne_new p3 hm5
  have h15 : b1 ≠ b5 := ne_new (l3 _ _ p1) hm5
  have h13 : b1 ≠ b3 := ne_new p1 hm3
  replace p1 := l5 _ _ (l3 _ _ p1)
  replace p3 := l5 _ _ p3
  have L := AM.le_trans l1 (AM.le_trans l3 l5)
  have n1 : m b1 = none := hm1
  have n5 : m b5 = none := AM.le_none l1 (AM.le_none l3 hm5)
  simp only [cell_of p1, cell_upd_same, cell_upd_ne, ne_eq, not_false_eq_true, List.getElem?_toArray, List.getElem?_cons_zero, List.getElem?_cons_succ, Option.some.injEq, Value.int.injEq, Value.slice.injEq, Value.bool.injEq, Value.pointer.injEq, Value.tuple.injEq, Array.mk.injEq, List.cons.injEq, true_and, and_true, exists_eq_left', exists_eq', exists_eq, exists_and_left, exists_and_right, and_assoc, bcase_t, bcase_f, cond_true, cond_false, StC_upd, nilO_some, List.setIfInBounds_toArray, List.set_cons_zero, List.set_cons_succ, List.size_toArray, List.length_cons, List.length_nil, Nat.reduceAdd, Nat.reduceLT]
  refine awp_append_loc (m0 := m) el46 L (Own.nil M w0.heap.size 55 3) (by simp [obl]) (hr1.le L) (pat_one _) (by omega) (by omega) (fun A12 c14 m11 l11 f11 o11 n11 _ => ?_)
  have f11 : M.le m11 := Fr.le (by simpa [obl] using f11)
  simp only [cell_upd_same, cell_upd_ne, ne_eq, not_false_eq_true, List.getElem?_toArray, List.getElem?_cons_zero, List.getElem?_cons_succ, Option.some.injEq, Value.int.injEq, Value.slice.injEq, Value.bool.injEq, Value.pointer.injEq, Value.tuple.injEq, Array.mk.injEq, List.cons.injEq, true_and, and_true, exists_eq_left', exists_eq', exists_eq, exists_and_left, exists_and_right, and_assoc, bcase_t, bcase_f, cond_true, cond_false, StC_upd, nilO_some, List.setIfInBounds_toArray, List.set_cons_zero, List.set_cons_succ, List.size_toArray, List.length_cons, List.length_nil, Nat.reduceAdd, Nat.reduceLT]
  have main : ∀ (σ : Sg) (m2 : AM) (A' : Option Addr) (c' : Nat), m.le m2 → m2 b1 = some (.cells #[.slice A0 s.code.length c0, .slice A1 s.pats.length c1, .int .i64 s.taken] 48) → m2 b3 = some (.cells i.cells.toArray 23) → m2 b5 = some (.cells #[.slice none 0 0, .slice none 0 0, .int .i64 0] 48) →
      Own m2 w0.heap.size 55 3 A' (putP s kind n).length c' (patCells (putP s kind n)) → (∀ x ∈ obl A', m x = none) →
      σ 4 = .pointer (some ⟨b1, 0, none⟩) → σ 5 = .pointer (some ⟨b3, 0, none⟩) → σ 8 = .pointer (some ⟨b5, 0, none⟩) → σ 9 = .slice none 0 0 → σ 10 = .slice A' (putP s kind n).length c' →
      vcS Try.prog w0 qs35 (sub c35 [1, 1, 1, 1, 1, 0]) σ m2 (thenS (fun σ' m'' => vcS Try.prog w0 qs35 (sub c35 [1, 1, 1, 1, 1, 1]) σ' m'' (retQ Try.prog Try.f35 (fun r m' => m.le m' ∧ RB m' Z r ⟨s.code ++ [i], putP s kind n, s.taken⟩))) (retQ Try.prog Try.f35 (fun r m' => m.le m' ∧ RB m' Z r ⟨s.code ++ [i], putP s kind n, s.taken⟩))) := by
    intro σ m2 A' c' L2 q1 q3 q5 own' new' h4 h5 h8 h9 h10
    -- what the row of instructions and the two stores leave
    have fin : ∀ (A : Option Addr) (c : Nat) (m3 : AM), m.le m3 → m3 b1 = some (.cells #[.slice A0 s.code.length c0, .slice A1 s.pats.length c1, .int .i64 s.taken] 48) → m3 b5 = some (.cells #[.slice none 0 0, .slice none 0 0, .int .i64 0] 48) → Own m3 w0.heap.size 23 5 A (s.code.length + 1) c (insCells (s.code ++ [i])) → Own m3 w0.heap.size 55 3 A' (putP s kind n).length c' (patCells (putP s kind n)) → (∀ x ∈ obl A, m x = none) →
        StC w0.heap.size m3 ⟨b1, 0, none⟩ (.slice A (s.code.length + 1) c) fun m4 => StC w0.heap.size m4 ⟨b1, 1, none⟩ (.slice A' (putP s kind n).length c') fun m5 =>
          (m.le m5 ∧ ∃ A c, m5 b1 = some (.cells #[.slice A (s.code.length + 1) c, .slice A' (putP s kind n).length c', .int .i64 s.taken] 48) ∧ m5 b5 = some (.cells #[.slice none 0 0, .slice none 0 0, .int .i64 0] 48) ∧ Own m5 w0.heap.size 23 5 A (s.code.length + 1) c (insCells (s.code ++ [i])) ∧ Own m5 w0.heap.size 55 3 A' (putP s kind n).length c' (patCells (putP s kind n)) ∧ ∀ x ∈ obl A, m x = none) := by
      intro A c m3 L3 r1 r5 o1 o2 nA
      refine StC_own r1 hb1 (by simp) ?_
      simp only [cell_upd_same, cell_upd_ne, ne_eq, not_false_eq_true, List.getElem?_toArray, List.getElem?_cons_zero, List.getElem?_cons_succ, Option.some.injEq, Value.int.injEq, Value.slice.injEq, Value.bool.injEq, Value.pointer.injEq, Value.tuple.injEq, Array.mk.injEq, List.cons.injEq, true_and, and_true, exists_eq_left', exists_eq', exists_eq, exists_and_left, exists_and_right, and_assoc, bcase_t, bcase_f, cond_true, cond_false, StC_upd, nilO_some, List.setIfInBounds_toArray, List.set_cons_zero, List.set_cons_succ, List.size_toArray, List.length_cons, List.length_nil, Nat.reduceAdd, Nat.reduceLT, hb1, upd_upd]
      refine ⟨?_, A, c, by rw [upd_get_same], by rw [upd_get_ne h15.symm]; exact r5, o1.upd (o1.ne_type r1 (by decide)), o2.upd (o2.ne_type r1 (by decide)), nA⟩
      intro k o hk
      rw [upd_get]
      by_cases e : k = b1
      · subst e; rw [n1] at hk; cases hk
      · rw [if_neg e]; exact L3 _ _ hk
    refine vr35_111110 w0 m2 σ _ b1 b3 b5 none 0 0 A' (putP s kind n).length c' (fun m5 => m.le m5 ∧ ∃ A c, m5 b1 = some (.cells #[.slice A (s.code.length + 1) c, .slice A' (putP s kind n).length c', .int .i64 s.taken] 48) ∧ m5 b5 = some (.cells #[.slice none 0 0, .slice none 0 0, .int .i64 0] 48) ∧ Own m5 w0.heap.size 23 5 A (s.code.length + 1) c (insCells (s.code ++ [i])) ∧ Own m5 w0.heap.size 55 3 A' (putP s kind n).length c' (patCells (putP s kind n)) ∧ ∀ x ∈ obl A, m x = none) h4 h5 h8 h9 h10 ?_ ?_
    · -- the three orders
      have ord : ∀ (m3 : AM), m2.le m3 → ∀ (A : Option Addr) (c : Nat), Own m3 w0.heap.size 23 5 A s.code.length c (insCells s.code) → (∀ x ∈ obl A, m x = none) → ∀ b, m3 b = some (.cells i.cells.toArray 23) →
          awp Try.prog w0.heap.size (Builtin.append_ #[24, 24] 24 #[.slice A s.code.length c, .slice (some ⟨b, 0, none⟩) 1 1]) m3 fun v m4 => ∃ A4 n4 c4, v = .slice A4 n4 c4 ∧ StC w0.heap.size m4 ⟨b1, 0, none⟩ (.slice A4 n4 c4) fun m5 => StC w0.heap.size m5 ⟨b1, 1, none⟩ (.slice A' (putP s kind n).length c') fun m5 =>
          (m.le m5 ∧ ∃ A c, m5 b1 = some (.cells #[.slice A (s.code.length + 1) c, .slice A' (putP s kind n).length c', .int .i64 s.taken] 48) ∧ m5 b5 = some (.cells #[.slice none 0 0, .slice none 0 0, .int .i64 0] 48) ∧ Own m5 w0.heap.size 23 5 A (s.code.length + 1) c (insCells (s.code ++ [i])) ∧ Own m5 w0.heap.size 55 3 A' (putP s kind n).length c' (patCells (putP s kind n)) ∧ ∀ x ∈ obl A, m x = none) := by
        intro m3 L3 A c oA nA b hb
        have hr : Reads m3 5 (some ⟨b, 0, none⟩) 1 i.cells := ⟨rfl, .inr ⟨_, rfl, fun j u hu => by rw [addn, Nat.zero_add, cell_of hb]; simpa using hu⟩⟩
        refine awp_append_loc (m0 := m) el24 (AM.le_trans L2 L3) oA nA hr (ins_one i) (by omega) (by omega) (fun A4 c4 m4 l4 f4 o4 n4 _ => ?_)
        refine ⟨_, _, _, rfl, fin A4 c4 m4 l4 (f4 _ _ (L3 _ _ q1) (oA.obl_ne (L3 _ _ q1) (by decide))) (f4 _ _ (L3 _ _ q5) (oA.obl_ne (L3 _ _ q5) (by decide))) ?_ ((own'.le L3).fr f4 ((own'.le L3).apart oA (by decide))) n4⟩
        rw [insCells_app]
        simpa [insCells] using o4
      have first : ∀ (m3 : AM), m2.le m3 → ∀ (K : Value → AM → Prop), (∀ (A : Option Addr) (c : Nat) (m4 : AM), m3.le m4 → Own m4 w0.heap.size 23 5 A s.code.length c (insCells s.code) → (∀ x ∈ obl A, m x = none) → (∀ x ∈ obl A, m3 x = none) → K (.slice A s.code.length c) m4) →
          awp Try.prog w0.heap.size (Builtin.append_ #[24, 24] 24 #[.slice none 0 0, .slice A0 s.code.length c0]) m3 K := by
        intro m3 L3 K hK
        refine awp_append_loc (m0 := m) el24 (AM.le_trans L2 L3) (Own.nil m3 w0.heap.size 23 5) (by simp [obl]) (hr0.le (AM.le_trans L2 L3)) (insCells_one _) (by omega) (by omega) (fun A4 c4 m4 l4 f4 o4 n4 k4 => ?_)
        rw [Nat.zero_add] at o4 ⊢
        exact hK A4 c4 m4 (Fr.le (by simpa [obl] using f4)) o4 n4 (fun x hx => (k4 x hx).resolve_left (by simp [obl]))
      simp only [cell_of q1, cell_of q3, Ins.cells, cell_upd_same, cell_upd_ne, ne_eq, not_false_eq_true, List.getElem?_toArray, List.getElem?_cons_zero, List.getElem?_cons_succ, Option.some.injEq, Value.int.injEq, Value.slice.injEq, Value.bool.injEq, Value.pointer.injEq, Value.tuple.injEq, Array.mk.injEq, List.cons.injEq, true_and, and_true, exists_eq_left', exists_eq', exists_eq, exists_and_left, exists_and_right, and_assoc, bcase_t, bcase_f, cond_true, cond_false, StC_upd, nilO_some, List.setIfInBounds_toArray, List.set_cons_zero, List.set_cons_succ, List.size_toArray, List.length_cons, List.length_nil, Nat.reduceAdd, Nat.reduceLT]
      refine ⟨?_, ?_, ?_⟩
      · refine first m2 (AM.le_refl _) _ (fun A c m4 l4 o4 n4 _ => ?_)
        simp only [cell_of (l4 _ _ q3), Ins.cells, cell_upd_same, cell_upd_ne, ne_eq, not_false_eq_true, List.getElem?_toArray, List.getElem?_cons_zero, List.getElem?_cons_succ, Option.some.injEq, Value.int.injEq, Value.slice.injEq, Value.bool.injEq, Value.pointer.injEq, Value.tuple.injEq, Array.mk.injEq, List.cons.injEq, true_and, and_true, exists_eq_left', exists_eq', exists_eq, exists_and_left, exists_and_right, and_assoc, bcase_t, bcase_f, cond_true, cond_false, StC_upd, nilO_some, List.setIfInBounds_toArray, List.set_cons_zero, List.set_cons_succ, List.size_toArray, List.length_cons, List.length_nil, Nat.reduceAdd, Nat.reduceLT]
        intro b38 hb38 hm38
        have l5 := le_new hm38 (.cells i.cells.toArray 23)
        exact ord _ (AM.le_trans l4 l5) A c (o4.le l5) n4 b38 upd_get_same
      · refine first m2 (AM.le_refl _) _ (fun A c m4 l4 o4 n4 _ => ?_)
        simp only [cell_upd_same, cell_upd_ne, ne_eq, not_false_eq_true, List.getElem?_toArray, List.getElem?_cons_zero, List.getElem?_cons_succ, Option.some.injEq, Value.int.injEq, Value.slice.injEq, Value.bool.injEq, Value.pointer.injEq, Value.tuple.injEq, Array.mk.injEq, List.cons.injEq, true_and, and_true, exists_eq_left', exists_eq', exists_eq, exists_and_left, exists_and_right, and_assoc, bcase_t, bcase_f, cond_true, cond_false, StC_upd, nilO_some, List.setIfInBounds_toArray, List.set_cons_zero, List.set_cons_succ, List.size_toArray, List.length_cons, List.length_nil, Nat.reduceAdd, Nat.reduceLT]
        intro b38 hb38 hm38
        have l5 := le_new hm38 (.cells i.cells.toArray 23)
        exact ord _ (AM.le_trans l4 l5) A c (o4.le l5) n4 b38 upd_get_same
      · intro b38 hb38 hm38
        have l5 := le_new hm38 (.cells i.cells.toArray 23)
        refine first _ l5 _ (fun A c m4 l4 o4 n4 k4 => ?_)
        simp only [cell_upd_same, cell_upd_ne, ne_eq, not_false_eq_true, List.getElem?_toArray, List.getElem?_cons_zero, List.getElem?_cons_succ, Option.some.injEq, Value.int.injEq, Value.slice.injEq, Value.bool.injEq, Value.pointer.injEq, Value.tuple.injEq, Array.mk.injEq, List.cons.injEq, true_and, and_true, exists_eq_left', exists_eq', exists_eq, exists_and_left, exists_and_right, and_assoc, bcase_t, bcase_f, cond_true, cond_false, StC_upd, nilO_some, List.setIfInBounds_toArray, List.set_cons_zero, List.set_cons_succ, List.size_toArray, List.length_cons, List.length_nil, Nat.reduceAdd, Nat.reduceLT]
        exact ord _ (AM.le_trans l5 l4) A c o4 n4 b38 (l4 _ _ upd_get_same)
    · rintro σ m5 ⟨L5, A, c, r1, r5, o1, o2, nA⟩
      simp only [cell_of r1, cell_upd_same, cell_upd_ne, ne_eq, not_false_eq_true, List.getElem?_toArray, List.getElem?_cons_zero, List.getElem?_cons_succ, Option.some.injEq, Value.int.injEq, Value.slice.injEq, Value.bool.injEq, Value.pointer.injEq, Value.tuple.injEq, Array.mk.injEq, List.cons.injEq, true_and, and_true, exists_eq_left', exists_eq', exists_eq, exists_and_left, exists_and_right, and_assoc, bcase_t, bcase_f, cond_true, cond_false, StC_upd, nilO_some, List.setIfInBounds_toArray, List.set_cons_zero, List.set_cons_succ, List.size_toArray, List.length_cons, List.length_nil, Nat.reduceAdd, Nat.reduceLT]
      refine StC_own r5 hb5 (by simp) ?_
      simp only [cell_upd_same, cell_upd_ne, ne_eq, not_false_eq_true, List.getElem?_toArray, List.getElem?_cons_zero, List.getElem?_cons_succ, Option.some.injEq, Value.int.injEq, Value.slice.injEq, Value.bool.injEq, Value.pointer.injEq, Value.tuple.injEq, Array.mk.injEq, List.cons.injEq, true_and, and_true, exists_eq_left', exists_eq', exists_eq, exists_and_left, exists_and_right, and_assoc, bcase_t, bcase_f, cond_true, cond_false, StC_upd, nilO_some, List.setIfInBounds_toArray, List.set_cons_zero, List.set_cons_succ, List.size_toArray, List.length_cons, List.length_nil, Nat.reduceAdd, Nat.reduceLT, hb5]
      refine retP_of ⟨?_, A, c, A', c', by simp, ?_, ?_, fun _ k hk hzk => hz k hzk (nA k hk), fun _ k hk hzk => hz k hzk (new' k hk)⟩
      · intro k o hk
        rw [upd_get]
        by_cases e : k = b5
        · subst e; rw [n5] at hk; cases hk
        · rw [if_neg e]; exact L5 _ _ hk
      · have := (o1.upd (o1.ne_type r5 (by decide)) (o := .cells #[.slice A (s.code.length + 1) c, .slice A' (putP s kind n).length c', .int .i64 s.taken] 48)).reads
        simpa using this
      · exact (o2.upd (o2.ne_type r5 (by decide)) (o := .cells #[.slice A (s.code.length + 1) c, .slice A' (putP s kind n).length c', .int .i64 s.taken] 48)).reads
  rw [Nat.zero_add] at o11 ⊢
  rw [List.nil_append] at o11
  have r1 := f11 _ _ p1
  have r3 := f11 _ _ p3
  have r5 := f11 _ _ p5
  by_cases hk : kind ≥ 0
  · have hp : putP s kind n = s.pats ++ [⟨s.code.length, kind, n⟩] := if_pos hk
    simp only [hk, decide_true, cell_upd_same, cell_upd_ne, ne_eq, not_false_eq_true, List.getElem?_toArray, List.getElem?_cons_zero, List.getElem?_cons_succ, Option.some.injEq, Value.int.injEq, Value.slice.injEq, Value.bool.injEq, Value.pointer.injEq, Value.tuple.injEq, Array.mk.injEq, List.cons.injEq, true_and, and_true, exists_eq_left', exists_eq', exists_eq, exists_and_left, exists_and_right, and_assoc, bcase_t, bcase_f, cond_true, cond_false, StC_upd, nilO_some, List.setIfInBounds_toArray, List.set_cons_zero, List.set_cons_succ, List.size_toArray, List.length_cons, List.length_nil, Nat.reduceAdd, Nat.reduceLT, cell_of r1]
    intro b18 hb18 hm18
    have l18 := le_new hm18 (.cells (Pat.cells ⟨s.code.length, kind, n⟩).toArray 55)
    have hr : Reads (m11.upd b18 (.cells (Pat.cells ⟨s.code.length, kind, n⟩).toArray 55)) 3 (some ⟨b18, 0, none⟩) 1 (Pat.cells ⟨s.code.length, kind, n⟩) := Reads.lit rfl
    refine awp_append_loc (m0 := m) el46 (AM.le_trans l11 l18) (o11.le l18) n11 hr (by simp [Pat.cells, Value.oneCell']) (by omega) (by omega) (fun A4 c4 m4 l4 f4 o4 n4 k4 => ?_)
    simp only [cell_upd_same, cell_upd_ne, ne_eq, not_false_eq_true, List.getElem?_toArray, List.getElem?_cons_zero, List.getElem?_cons_succ, Option.some.injEq, Value.int.injEq, Value.slice.injEq, Value.bool.injEq, Value.pointer.injEq, Value.tuple.injEq, Array.mk.injEq, List.cons.injEq, true_and, and_true, exists_eq_left', exists_eq', exists_eq, exists_and_left, exists_and_right, and_assoc, bcase_t, bcase_f, cond_true, cond_false, StC_upd, nilO_some, List.setIfInBounds_toArray, List.set_cons_zero, List.set_cons_succ, List.size_toArray, List.length_cons, List.length_nil, Nat.reduceAdd, Nat.reduceLT]
    have o4' : Own m4 w0.heap.size 55 3 A4 (putP s kind n).length c4 (patCells (putP s kind n)) := by
      rw [hp, List.length_append, patCells_app]
      simpa [patCells] using o4
    have hlen : (putP s kind n).length = s.pats.length + 1 := by rw [hp]; simp
    rw [← hlen]
    exact main _ m4 A4 c4 l4 (f4 _ _ (l18 _ _ r1) ((o11.le l18).obl_ne (l18 _ _ r1) (by decide))) (f4 _ _ (l18 _ _ r3) ((o11.le l18).obl_ne (l18 _ _ r3) (by decide))) (f4 _ _ (l18 _ _ r5) ((o11.le l18).obl_ne (l18 _ _ r5) (by decide))) o4' n4 rfl rfl rfl rfl rfl
  · have hp : putP s kind n = s.pats := if_neg hk
    simp only [hk, decide_false, cell_upd_same, cell_upd_ne, ne_eq, not_false_eq_true, List.getElem?_toArray, List.getElem?_cons_zero, List.getElem?_cons_succ, Option.some.injEq, Value.int.injEq, Value.slice.injEq, Value.bool.injEq, Value.pointer.injEq, Value.tuple.injEq, Array.mk.injEq, List.cons.injEq, true_and, and_true, exists_eq_left', exists_eq', exists_eq, exists_and_left, exists_and_right, and_assoc, bcase_t, bcase_f, cond_true, cond_false, StC_upd, nilO_some, List.setIfInBounds_toArray, List.set_cons_zero, List.set_cons_succ, List.size_toArray, List.length_cons, List.length_nil, Nat.reduceAdd, Nat.reduceLT]
    rw [hp] at main ⊢
    exact main _ m11 A12 c14 l11 r1 r3 r5 o11 n11 rfl rfl rfl rfl rfl
end Go.Proofs.Ytijilloaggeepaa.S
