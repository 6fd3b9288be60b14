/- Ytkfemiloehkmhaa: a text of our own, by an AI agent: Ef14hH -/
import Derived.Test.YtkfemiloehkmhaaEf13H
set_option linter.unusedSimpArgs false
set_option linter.unusedVariables false
set_option maxRecDepth 100000
namespace Go.Proofs.Ytkfemiloehkmhaa.S
open Go Go.RowKit Go.Alog Go.Proofs.Ytkfemiloehkmhaa.T Go.Proofs.Ytkfemiloehkmhaa.V

theorem right_in {i : Ins} (h : rightR i = true) : (0 ≤ i.op ∧ i.op ≤ 20) ∧ (0 ≤ i.a ∧ i.a ≤ 31) ∧ (0 ≤ i.b ∧ i.b ≤ 31) ∧ (0 ≤ i.c ∧ i.c ≤ 31) := by
  rw [← rightI_eq] at h
  unfold rightI pOk regI at h
  simp only [Bool.and_eq_true, decide_eq_true_eq] at h
  omega
theorem fieldL_in {i : Ins} (h : rightR i = true) : ∀ x ∈ fieldL i, 0 ≤ x ∧ x ≤ 31 := by
  obtain ⟨_, ha, hb, hc⟩ := right_in h
  intro x hx
  unfold fieldL at hx
  repeat' split at hx
  all_goals simp at hx
  all_goals omega
/-- At most two registers, rising. -/
inductive Two : List Int → Prop
  | none : Two []
  | one (x : Int) : 1 ≤ x → x ≤ 31 → Two [x]
  | two (x y : Int) : 1 ≤ x → x < y → y ≤ 31 → Two [x, y]
theorem two_of {l : List Int} (h2 : l.length ≤ 2) (h : ∀ x ∈ l, 0 ≤ x ∧ x ≤ 31) : Two (dd (s2 (nz l))) ∧ ∀ n, n ∈ dd (s2 (nz l)) ↔ n ∈ l ∧ n ≠ 0 := by
  match l, h2 with
  | [], _ => exact ⟨.none, fun n => by simp [nz, s2, dd]⟩
  | [x], _ =>
    have hx := h x (by simp)
    by_cases x0 : x = 0
    · have : nz [x] = [] := by simp [nz, x0]
      rw [this]
      refine ⟨.none, fun n => ?_⟩
      simp [s2, dd, x0]
    · have : nz [x] = [x] := by simp [nz, x0]
      rw [this]
      refine ⟨.one x (by omega) hx.2, fun n => ?_⟩
      simp only [s2, dd, List.mem_singleton]
      constructor
      · rintro rfl; exact ⟨rfl, x0⟩
      · rintro ⟨rfl, _⟩; rfl
  | [x, y], _ =>
    have hx := h x (by simp)
    have hy := h y (by simp)
    by_cases x0 : x = 0
    · by_cases y0 : y = 0
      · have : nz [x, y] = [] := by simp [nz, x0, y0]
        rw [this]
        refine ⟨.none, fun n => ?_⟩
        simp [s2, dd, x0, y0]
      · have : nz [x, y] = [y] := by simp [nz, x0, y0]
        rw [this]
        refine ⟨.one y (by omega) hy.2, fun n => ?_⟩
        simp only [s2, dd, List.mem_singleton, List.mem_cons, List.not_mem_nil, or_false]
        constructor
        · rintro rfl; exact ⟨.inr rfl, y0⟩
        · rintro ⟨h | h, h'⟩ <;> omega
    · by_cases y0 : y = 0
      · have : nz [x, y] = [x] := by simp [nz, x0, y0]
        rw [this]
        refine ⟨.one x (by omega) hx.2, fun n => ?_⟩
        simp only [s2, dd, List.mem_singleton, List.mem_cons, List.not_mem_nil, or_false]
        constructor
        · rintro rfl; exact ⟨.inl rfl, x0⟩
        · rintro ⟨h | h, h'⟩ <;> omega
      · have : nz [x, y] = [x, y] := by simp [nz, x0, y0]
        rw [this]
        rcases Int.lt_trichotomy x y with hl | hl | hl
        · have e : dd (s2 [x, y]) = [x, y] := by unfold s2; simp only; rw [if_neg (by omega)]; unfold dd; simp only; rw [if_neg (by omega)]
          rw [e]
          refine ⟨.two x y (by omega) hl hy.2, fun n => ?_⟩
          simp only [List.mem_cons, List.not_mem_nil, or_false]
          constructor
          · intro h; exact ⟨h, by omega⟩
          · exact fun h => h.1
        · have e : dd (s2 [x, y]) = [x] := by unfold s2; simp only; rw [if_neg (by omega)]; unfold dd; simp only; rw [if_pos hl.symm]
          rw [e]
          refine ⟨.one x (by omega) hx.2, fun n => ?_⟩
          simp only [List.mem_cons, List.not_mem_nil, or_false]
          constructor
          · intro h; exact ⟨.inl h, by omega⟩
          · rintro ⟨h | h, _⟩ <;> omega
        · have e : dd (s2 [x, y]) = [y, x] := by unfold s2; simp only; rw [if_pos hl]; unfold dd; simp only; rw [if_neg (by omega)]
          rw [e]
          refine ⟨.two y x (by omega) hl hx.2, fun n => ?_⟩
          simp only [List.mem_cons, List.not_mem_nil, or_false]
          constructor
          · intro h; exact ⟨by omega, by omega⟩
          · rintro ⟨h, _⟩; omega
theorem readsL_two (i : Ins) : Two (readsL i) := by
  unfold readsL
  split
  · exact (two_of (fieldL_len i) (fieldL_in ‹_›)).1
  · exact .none
theorem readsL_c (i : Ins) (n : Int) : (readsL i).contains n = readsR i n := by
  unfold readsL readsR
  by_cases hr : rightR i = true
  · rw [if_pos hr, hr, Bool.true_and, Bool.eq_iff_iff]
    have h := (two_of (fieldL_len i) (fieldL_in hr)).2 n
    have h2 := fieldL_in hr n
    simp only [List.contains_iff_mem, Bool.and_eq_true, decide_eq_true_eq]
    rw [h]
    constructor
    · rintro ⟨a, b⟩; have := h2 a; exact ⟨by omega, a⟩
    · rintro ⟨a, b⟩; exact ⟨b, by omega⟩
  · rw [if_neg hr]
    simp at hr
    rw [hr]; rfl
theorem touchesP_eq (i : Ins) (n : Int) : touchesP i n = (n != 0 && (writesP i == n || readsR i n)) := by unfold touchesP; rw [readsL_c]
theorem writesP_in (i : Ins) : 0 ≤ writesP i ∧ writesP i ≤ 31 := by
  unfold writesP
  split
  · have := right_in ‹_›
    unfold fieldW
    repeat' split
    all_goals omega
  · omega
theorem wrong_reads {i : Ins} (h : rightR i = false) : readsL i = [] := by unfold readsL; rw [h]; rfl
theorem wrong_writes {i : Ins} (h : rightR i = false) : writesP i = 0 := by unfold writesP; rw [h]; rfl
theorem wrong_acts {i : Ins} (h : rightR i = false) : actsP i = false := by unfold actsP; rw [h]; rfl
theorem wrong_goes {i : Ins} (h : rightR i = false) : goesP i = false := by unfold goesP; rw [h]; rfl
theorem wrong_late {i : Ins} (h : rightR i = false) : lateP i = false := by unfold lateP; rw [h]; rfl
theorem wrong_touches {i : Ins} (h : rightR i = false) (n : Int) : touchesP i n = false := by
  rw [touchesP_eq, wrong_writes h]; unfold readsR; rw [h]
  by_cases e : n = 0
  · simp [e]
  · have : ((0 : Int) == n) = false := by simpa using fun h => e h.symm
    rw [this]; simp
theorem goes_acts {i : Ins} (h : goesP i = true) : actsP i = false := by
  unfold goesP at h; unfold actsP
  simp only [Bool.and_eq_true, decide_eq_true_eq] at h
  rw [decide_eq_false (by omega), Bool.and_false]
theorem late_acts {i : Ins} (h : lateP i = true) : actsP i = true := by
  unfold lateP at h; unfold actsP
  simp only [Bool.and_eq_true, Bool.or_eq_true, beq_iff_eq] at h
  rw [h.1, decide_eq_true (by omega)]; rfl
theorem touches_0 (i : Ins) : touchesP i 0 = false := by rw [touchesP_eq]; rfl

end Go.Proofs.Ytkfemiloehkmhaa.S
