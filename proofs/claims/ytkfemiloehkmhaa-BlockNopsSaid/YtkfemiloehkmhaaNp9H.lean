/- Ytkfemiloehkmhaa: a text of our own, by an AI agent: Np9H -/
import Derived.Test.YtkfemiloehkmhaaWi9H
set_option linter.unusedSimpArgs false
set_option linter.unusedVariables false
set_option maxRecDepth 100000
namespace Go.Proofs.Ytkfemiloehkmhaa.S
open Go Go.RowKit Go.Alog Go.Proofs.Ytkfemiloehkmhaa.T Go.Proofs.Ytkfemiloehkmhaa.V

abbrev nop : Ins := ⟨0, 0, 0, 0, 0⟩
theorem zeros_nops (n : Nat) : zeros [.int .i64 0, .int .i64 0, .int .i64 0, .int .i64 0, .int .i64 0] n = insCells (List.replicate n nop) := by
  unfold zeros insCells
  induction n with
  | zero => rfl
  | succ n ih => rw [List.replicate_succ, List.replicate_succ, List.flatten_cons, List.flatMap_cons, ih]; rfl
theorem nop_right : rightR nop = true := by decide +kernel
theorem nop_tok : tok nop = false := by decide +kernel
theorem nop_goes : goesP nop = false := by decide +kernel
theorem cAt_nops {n : Nat} {k : Int} : cAt (List.replicate n nop) k = nop := by
  unfold cAt
  rw [List.getD_eq_getElem?_getD, List.getElem?_replicate]
  split <;> rfl
theorem nops_fit {n : Nat} (h : n ≤ 4096) : fitP (List.replicate n nop) = true := by
  refine fitP_true (by simpa using h) fun j hj => ?_
  unfold fitAt
  rw [cAt_nops, nop_right, nop_tok]; rfl
theorem nops_headP {n : Nat} (k : Int) : headP (List.replicate n nop) k = (k == 0) := by
  unfold headP
  rw [cAt_nops, nop_goes, Bool.or_false]
  have : (List.range (List.replicate n nop).length).any (toAt (List.replicate n nop) k) = false := by
    rw [List.any_eq_false]
    intro j _
    unfold toAt
    rw [cAt_nops, nop_tok]; simp
  rw [this, Bool.or_false]
theorem nops_heads {n : Nat} (h0 : 0 < n) (h : n ≤ 4096) : headsP (List.replicate n nop) = [0] := by
  unfold headsP
  rw [if_pos (nops_fit h)]
  refine rise_eq ((range_rise _).filter _) (by simp) fun x => ?_
  rw [List.mem_filter, List.mem_map, nops_headP]
  simp only [List.mem_range, List.length_replicate, List.mem_singleton, beq_iff_eq]
  constructor
  · rintro ⟨_, h⟩; exact h
  · rintro rfl; exact ⟨⟨0, h0, rfl⟩, rfl⟩

theorem cAt_snoc_lt {l : List Ins} {x : Ins} {k : Int} (h : k < l.length) (h0 : 0 < l.length) : cAt (l ++ [x]) k = cAt l k := by
  unfold cAt
  rw [List.getD_eq_getElem?_getD, List.getD_eq_getElem?_getD, List.getElem?_append_left (by omega)]
theorem cAt_snoc_eq {l : List Ins} {x : Ins} : cAt (l ++ [x]) (l.length : Int) = x := by
  unfold cAt
  rw [List.getD_eq_getElem?_getD]
  simp
theorem snoc_fit {l : List Ins} (h : fitP l = true) (hl : l.length ≤ 1000) : fitP (l ++ [nop]) = true := by
  refine fitP_true (by simp; omega) fun j hj => ?_
  simp only [List.length_append, List.length_cons, List.length_nil] at hj
  unfold fitAt
  by_cases e : j = l.length
  · subst e; rw [cAt_snoc_eq, nop_right, nop_tok]; rfl
  · have hb := fitP_at h (j := j) (by omega)
    rw [cAt_snoc_lt (by omega) (by omega), hb.1, Bool.true_and]
    cases ht : tok (cAt l j) with
    | false => rfl
    | true =>
      have := hb.2 ht
      rw [decide_eq_false (by omega), decide_eq_false (by simp; omega)]; rfl
theorem snoc_headP {l : List Ins} (hl : 0 < l.length) {k : Int} (h0 : 0 ≤ k) (h : k ≤ l.length) : headP (l ++ [nop]) k = (k == 0 || goesP (cAt l (k - 1)) || (List.range l.length).any (toAt l k)) := by
  unfold headP
  rw [cAt_snoc_lt (by omega) hl]
  congr 1
  simp only [List.length_append, List.length_cons, List.length_nil, Nat.zero_add]
  rw [List.range_succ, List.any_append]
  have e1 : (List.range l.length).any (toAt (l ++ [nop]) k) = (List.range l.length).any (toAt l k) := by
    rw [Bool.eq_iff_iff, List.any_eq_true, List.any_eq_true]
    constructor
    · rintro ⟨j, hj, hp⟩
      refine ⟨j, hj, ?_⟩
      have := List.mem_range.1 hj
      unfold toAt at hp ⊢
      rwa [cAt_snoc_lt (by omega) hl] at hp
    · rintro ⟨j, hj, hp⟩
      refine ⟨j, hj, ?_⟩
      have := List.mem_range.1 hj
      unfold toAt at hp ⊢
      rwa [cAt_snoc_lt (by omega) hl]
  rw [e1]
  have : toAt (l ++ [nop]) k l.length = false := by unfold toAt; rw [cAt_snoc_eq, nop_tok]; rfl
  simp [this]
theorem snoc_heads {l : List Ins} (hl : 0 < l.length) : ∃ t, hsUp (l ++ [nop]) (l.length + 1) = hsUp l l.length ++ t ∧ (t = [] ∨ t = [(l.length : Int)]) := by
  have e : ∀ a, a ≤ l.length → hsUp (l ++ [nop]) a = hsUp l a := by
    intro a ha
    unfold hsUp
    refine List.filter_congr fun x hx => ?_
    obtain ⟨j, hj, rfl⟩ := List.mem_map.1 hx
    have := List.mem_range.1 hj
    rw [snoc_headP hl (by omega) (by omega)]; rfl
  rw [hsUp_succ, e _ (Nat.le_refl _)]
  refine ⟨_, rfl, ?_⟩
  split
  · exact .inr rfl
  · exact .inl rfl
end Go.Proofs.Ytkfemiloehkmhaa.S
