/- Ytkfemiloehkmhaa: a text of our own, by an AI agent: Hd0H -/
import Derived.Test.YtkfemiloehkmhaaBkBH
set_option linter.unusedSimpArgs false
set_option linter.unusedVariables false
set_option maxRecDepth 100000
namespace Go.Proofs.Ytkfemiloehkmhaa.S
open Go Go.RowKit Go.Alog

/-! The plain law of the heads. -/
def addS (zs : List Int) (x : Int) : List Int := if zs.contains x then zs else zs ++ [x]
theorem addS_mem {zs : List Int} {x y : Int} : y ∈ addS zs x ↔ y ∈ zs ∨ y = x := by
  unfold addS
  split
  · rename_i h
    have : x ∈ zs := by simpa using h
    constructor
    · exact .inl
    · rintro (h | rfl)
      · exact h
      · exact this
  · simp
theorem addS_nodup {zs : List Int} (h : zs.Nodup) (x : Int) : (addS zs x).Nodup := by
  unfold addS
  split
  · exact h
  · rename_i hx
    rw [List.nodup_append]
    refine ⟨h, by simp, ?_⟩
    intro a ha b hb e
    simp only [List.mem_singleton] at hb
    subst hb; subst e
    exact hx (by simpa using ha)
theorem addS_len (zs : List Int) (x : Int) : zs.length ≤ (addS zs x).length ∧ (addS zs x).length ≤ zs.length + 1 := by
  unfold addS; split <;> simp

def hsStep (code : List Ins) (zs : List Int) (k : Nat) : List Int :=
  let z := if tok (cAt code k) = true then addS zs (tgt (cAt code k) k) else zs
  if goesP (cAt code k) = true then addS z ((k : Int) + 1) else z
def hsL (code : List Ins) (n : Nat) : List Int := (List.range n).foldl (hsStep code) (addS [] 0)
theorem hsL_succ (code : List Ins) (n : Nat) : hsL code (n + 1) = hsStep code (hsL code n) n := by
  unfold hsL; rw [List.range_succ, List.foldl_append]; rfl
theorem hsStep_len (code : List Ins) (zs : List Int) (k : Nat) : (hsStep code zs k).length ≤ zs.length + 2 := by
  unfold hsStep
  have h1 := addS_len zs (tgt (cAt code k) k)
  have h2 := addS_len zs ((k : Int) + 1)
  have h3 := addS_len (addS zs (tgt (cAt code k) k)) ((k : Int) + 1)
  dsimp only
  split <;> split <;> omega
theorem hsL_len (code : List Ins) (n : Nat) : (hsL code n).length ≤ 1 + 2 * n := by
  induction n with
  | zero => simp [hsL, addS]
  | succ n ih => rw [hsL_succ]; have := hsStep_len code (hsL code n) n; omega
theorem hsStep_nodup (code : List Ins) {zs : List Int} (h : zs.Nodup) (k : Nat) : (hsStep code zs k).Nodup := by
  unfold hsStep
  dsimp only
  split <;> split <;> first | exact addS_nodup (addS_nodup h _) _ | exact addS_nodup h _ | exact h
theorem hsL_nodup (code : List Ins) (n : Nat) : (hsL code n).Nodup := by
  induction n with
  | zero => simp [hsL, addS]
  | succ n ih => rw [hsL_succ]; exact hsStep_nodup code ih n
theorem hsL_mem (code : List Ins) (n : Nat) (x : Int) : x ∈ hsL code n ↔ x = 0 ∨ ∃ j, j < n ∧ ((tok (cAt code j) = true ∧ tgt (cAt code j) j = x) ∨ (goesP (cAt code j) = true ∧ x = (j : Int) + 1)) := by
  induction n with
  | zero => simp [hsL, addS]
  | succ n ih =>
    have key : x ∈ hsStep code (hsL code n) n ↔ x ∈ hsL code n ∨ (tok (cAt code n) = true ∧ tgt (cAt code n) n = x) ∨ (goesP (cAt code n) = true ∧ x = (n : Int) + 1) := by
      unfold hsStep
      dsimp only
      by_cases h1 : tok (cAt code n) = true <;> by_cases h2 : goesP (cAt code n) = true <;> simp only [h1, h2, if_true, if_false, addS_mem, true_and, false_and, or_false, false_or, Bool.false_eq_true] <;> constructor <;> (intro h; rcases h with h | h) <;> (try rcases h with h | h) <;> simp_all
    rw [hsL_succ, key, ih]
    constructor
    · rintro ((h | ⟨j, hj, h⟩) | h)
      · exact .inl h
      · exact .inr ⟨j, by omega, h⟩
      · exact .inr ⟨n, by omega, h⟩
    · rintro (h | ⟨j, hj, h⟩)
      · exact .inl (.inl h)
      · by_cases e : j = n
        · subst e; exact .inr h
        · exact .inl (.inr ⟨j, by omega, h⟩)

/-- Two lists that rise and have the same members are one. -/
theorem rise_eq : ∀ {l r : List Int}, l.Pairwise (· < ·) → r.Pairwise (· < ·) → (∀ x, x ∈ l ↔ x ∈ r) → l = r
  | [], [], _, _, _ => rfl
  | [], b :: r, _, _, h => absurd ((h b).2 (by simp)) (by simp)
  | a :: l, [], _, _, h => absurd ((h a).1 (by simp)) (by simp)
  | a :: l, b :: r, hl, hr, h => by
    rw [List.pairwise_cons] at hl hr
    have hab : a = b := by
      have h1 := (h a).1 (by simp)
      have h2 := (h b).2 (by simp)
      simp only [List.mem_cons] at h1 h2
      rcases h1 with h1 | h1
      · exact h1
      · rcases h2 with h2 | h2
        · exact h2.symm
        · have := hl.1 _ h2; have := hr.1 _ h1; omega
    subst hab
    rw [rise_eq hl.2 hr.2 fun x => ?_]
    have := h x
    simp only [List.mem_cons] at this
    constructor
    · intro hx
      rcases this.1 (.inr hx) with e | e
      · have := hl.1 _ hx; omega
      · exact e
    · intro hx
      rcases this.2 (.inr hx) with e | e
      · have := hr.1 _ hx; omega
      · exact e

def sortS (zs : List Int) : List Int := zs.mergeSort fun x y => decide (x ≤ y)
theorem sortS_rise {zs : List Int} (h : zs.Nodup) : (sortS zs).Pairwise (· < ·) := by
  have h1 : (sortS zs).Pairwise (fun x y => decide (x ≤ y) = true) := List.pairwise_mergeSort (fun a b c h1 h2 => by simp at *; omega) (fun a b => by simp; omega) zs
  have h2 : (sortS zs).Nodup := (List.mergeSort_perm zs _).nodup_iff.2 h
  refine (h1.and h2).imp fun {a b} h => ?_
  have := h.1; have := h.2
  simp at *; omega

theorem range_rise (n : Nat) : ((List.range n).map (fun k : Nat => (k : Int))).Pairwise (· < ·) := by
  rw [List.pairwise_map]
  exact List.pairwise_lt_range.imp fun h => by omega

/-- The heads of code. -/
def headsP (code : List Ins) : List Int := if fitP code = true then ((List.range code.length).map (fun k : Nat => (k : Int))).filter (headP code) else []

theorem fitP_at {code : List Ins} (h : fitP code = true) {j : Nat} (hj : j < code.length) : rightR (cAt code j) = true ∧ (tok (cAt code j) = true → 0 ≤ tgt (cAt code j) j ∧ tgt (cAt code j) j ≤ code.length) := by
  unfold fitP at h
  rw [Bool.and_eq_true, List.all_eq_true] at h
  have := h.2 j (List.mem_range.2 hj)
  unfold fitAt at this
  rw [Bool.and_eq_true] at this
  refine ⟨this.1, fun ht => ?_⟩
  have h2 := this.2
  rw [ht] at h2
  simp at h2
  omega

theorem heads_eq {code : List Ins} (hf : fitP code = true) (hn : code ≠ []) : sortS ((hsL code code.length).filter (fun x => x != (code.length : Int))) = headsP code := by
  have hpos : 0 < code.length := by cases code with
    | nil => exact absurd rfl hn
    | cons => simp
  unfold headsP
  rw [if_pos hf]
  refine rise_eq (sortS_rise ((hsL_nodup code _).filter _)) ((range_rise _).filter _) fun x => ?_
  have hp : x ∈ sortS ((hsL code code.length).filter (fun x => x != (code.length : Int))) ↔ x ∈ (hsL code code.length).filter (fun x => x != (code.length : Int)) := (List.mergeSort_perm _ _).mem_iff
  rw [hp, List.mem_filter, List.mem_filter, hsL_mem]
  simp only [List.mem_map, List.mem_range]
  unfold headP
  constructor
  · rintro ⟨h1, h2⟩
    have h2 : x ≠ code.length := by simpa using h2
    rcases h1 with rfl | ⟨j, hj, ⟨ht, e⟩ | ⟨hg, e⟩⟩
    · exact ⟨⟨0, hpos, rfl⟩, by simp⟩
    · have := (fitP_at hf hj).2 ht
      refine ⟨⟨x.toNat, by omega, by omega⟩, ?_⟩
      rw [Bool.or_eq_true]
      right
      refine List.any_eq_true.2 ⟨j, List.mem_range.2 hj, ?_⟩
      unfold toAt
      rw [ht, e]; simp
    · refine ⟨⟨j + 1, by omega, by omega⟩, ?_⟩
      rw [e, show ((j : Int) + 1 - 1) = j by omega, hg]; simp
  · rintro ⟨⟨j, hj, rfl⟩, h⟩
    refine ⟨?_, by simp; omega⟩
    rw [Bool.or_eq_true, Bool.or_eq_true] at h
    rcases h with (h | h) | h
    · exact .inl (by simpa using h)
    · by_cases e : j = 0
      · left; omega
      · right
        refine ⟨j - 1, by omega, .inr ⟨?_, by omega⟩⟩
        rw [show ((j - 1 : Nat) : Int) = (j : Int) - 1 by omega]; exact h
    · obtain ⟨q, hq, hq2⟩ := List.any_eq_true.1 h
      unfold toAt at hq2
      rw [Bool.and_eq_true] at hq2
      exact .inr ⟨q, List.mem_range.1 hq, .inl ⟨hq2.1, by simpa using hq2.2⟩⟩
end Go.Proofs.Ytkfemiloehkmhaa.S
