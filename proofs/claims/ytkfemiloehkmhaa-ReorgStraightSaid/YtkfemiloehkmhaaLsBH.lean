/- Ytkfemiloehkmhaa: a text of our own, by an AI agent: LsBH -/
import Derived.Test.YtkfemiloehkmhaaLrBH
import Derived.Test.YtkfemiloehkmhaaVR13H
import Derived.Test.YtkfemiloehkmhaaPlBH
set_option linter.unusedSimpArgs false
set_option linter.unusedVariables false
set_option maxRecDepth 100000
namespace Go.Proofs.Ytkfemiloehkmhaa.S
open Go Go.RowKit Go.Alog

/-! New code, block by block. -/
theorem oldU_pre (code : List Ins) (j d : Nat) : ∃ t, oldU code (j + d) = oldU code j ++ t := by
  induction d with
  | zero => exact ⟨[], by simp⟩
  | succ d ih =>
    obtain ⟨t, ht⟩ := ih
    refine ⟨t ++ oldB code (j + d), ?_⟩
    show oldU code (j + d) ++ oldB code (j + d) = _
    rw [ht, List.append_assoc]
theorem old_at {code : List Ins} {j : Nat} (hj : j < mB code) {p : Nat} (hp : p < (layP (blkI code j)).length) : (oldU code (mB code)).getD ((outU code j).length + p) 0 = if 0 ≤ (layP (blkI code j)).getD p 0 then nx code j + (layP (blkI code j)).getD p 0 else -1 := by
  obtain ⟨t, ht⟩ := oldU_pre code (j + 1) (mB code - (j + 1))
  rw [show j + 1 + (mB code - (j + 1)) = mB code by omega] at ht
  have e : oldU code (j + 1) = oldU code j ++ oldB code j := rfl
  have e2 : ((oldU code j ++ oldB code j) ++ t)[(oldU code j).length + p]? = some (if 0 ≤ (layP (blkI code j))[p] then nx code j + (layP (blkI code j))[p] else -1) := by
    rw [List.append_assoc, List.getElem?_append_right (by omega), Nat.add_sub_cancel_left, List.getElem?_append_left (by simp [oldB]; exact hp)]
    unfold oldB
    rw [List.getElem?_map, List.getElem?_eq_getElem hp]
    rfl
  have e3 : (layP (blkI code j)).getD p 0 = (layP (blkI code j))[p] := by simp [List.getD, hp]
  rw [ht, e, ← oldU_len, e3]
  show ((oldU code j ++ oldB code j) ++ t)[(oldU code j).length + p]?.getD 0 = _
  rw [e2]; rfl
theorem layP_nodup (l : List Ins) : (nnL (layP l)).Nodup := (layP_perm l).nodup_iff.2 (idL_nodup _)
theorem tok_goes {i : Ins} (h : tok i = true) : goesP i = true := by
  unfold tok at h
  unfold goesP
  simp only [Bool.and_eq_true, decide_eq_true_eq] at h ⊢
  exact ⟨h.1, by omega⟩
theorem last_blk {code : List Ins} {j : Nat} (hj : j < mB code) : lastI (blkI code j) = cAt code (nx code (j + 1) - 1) := by
  have h1 := nx_in hj
  have h2 := blkI_len hj
  unfold lastI
  rw [blkI_at hj (by omega) (by omega)]
  congr 1
  omega
theorem blk_ne {code : List Ins} {j : Nat} (hj : j < mB code) : blkI code j ≠ [] := fun e => by
  have h1 := nx_in hj
  have h2 := blkI_len hj
  rw [e] at h2; simp at h2; omega
theorem step_skip {code : List Ins} {j : Nat} (hj : j < mB code) {p : Nat} (hp : p < (layP (blkI code j)).length) (hs : tok (cAt code (nx code (j + 1) - 1)) = false ∨ p ≠ (layP (blkI code j)).length - 2) (cur : List Ins) : stepAt code ((outU code j).length + p) cur = some cur := by
  unfold stepAt
  rw [old_at hj hp]
  refine if_pos ?_
  have h1 := nx_in hj
  have h2 := blkI_len hj
  have hin := layP_in (blkI code j) ((layP (blkI code j)).getD p 0) (by simp [List.getD, hp])
  by_cases hx : 0 ≤ (layP (blkI code j)).getD p 0
  · rw [if_pos hx]
    right
    cases ht : tok (cAt code (nx code j + (layP (blkI code j)).getD p 0)) with
    | false => rfl
    | true =>
      exfalso
      have hg := tok_goes ht
      have hlast : nx code j + (layP (blkI code j)).getD p 0 = nx code (j + 1) - 1 := by
        refine Classical.byContradiction fun hn => ?_
        have := nogo code code.length j hj (q := nx code j + (layP (blkI code j)).getD p 0) (show nx code j ≤ _ by omega) (show _ < nx code (j + 1) by omega)
        rw [this] at hg; cases hg
      rw [hlast] at ht hg
      rcases hs with h | h
      · rw [h] at ht; cases ht
      · obtain ⟨g1, g2⟩ := layP_goes (blkI code j) (blk_ne hj) (by rw [last_blk hj]; exact hg)
        have hnd := layP_nodup (blkI code j)
        have e : (layP (blkI code j)).getD p 0 = (layP (blkI code j)).getD ((layP (blkI code j)).length - 2) 0 := by rw [g2]; omega
        rcases Nat.lt_or_gt_of_ne h with h3 | h3
        · have := nn_once hnd p _ h3 (by omega) e; omega
        · have := nn_once hnd _ p h3 hp e.symm; omega
  · rw [if_neg hx]; left; omega
theorem posF_skip {code : List Ins} {a : Nat} : ∀ {d : Nat}, (∀ k, k < d → ∀ cur, stepAt code (a + k) cur = some cur) → posF code (a + d) = posF code a
  | 0, _ => rfl
  | d + 1, h => by
    show (posF code (a + d)).bind (stepAt code (a + d)) = _
    rw [posF_skip (d := d) fun k hk => h k (by omega)]
    cases posF code a with
    | none => rfl
    | some cur => exact h d (by omega) cur
theorem outU_succ_len (code : List Ins) (j : Nat) : (outU code (j + 1)).length = (outU code j).length + (layP (blkI code j)).length := by
  show (outU code j ++ layB (blkI code j)).length = _
  rw [List.length_append, layB_len]
/-- A block whose last instruction goes nowhere that is known. -/
theorem posF_no {code : List Ins} {j : Nat} (hj : j < mB code) (ht : tok (cAt code (nx code (j + 1) - 1)) = false) : posF code (outU code (j + 1)).length = posF code (outU code j).length := by
  rw [outU_succ_len]
  exact posF_skip fun k hk cur => step_skip hj hk (.inl ht) cur
end Go.Proofs.Ytkfemiloehkmhaa.S

set_option linter.unusedSimpArgs false
set_option linter.unusedVariables false
set_option maxRecDepth 100000
namespace Go.Proofs.Ytkfemiloehkmhaa.S
open Go Go.RowKit Go.Alog

/-! Code of one block. -/
theorem one_heads {code : List Ins} (hn : code ≠ []) (h : ∀ k : Nat, 0 < k → k < code.length → headP code k = false) : hsUp code code.length = [0] := by
  have key : ∀ a : Nat, 0 < a → a ≤ code.length → hsUp code a = [0] := by
    intro a
    induction a with
    | zero => intro h; omega
    | succ a ih =>
      intro _ ha
      rw [hsUp_succ]
      by_cases e : a = 0
      · subst e
        have h0 : headP code ((0 : Nat) : Int) = true := by unfold headP; simp
        rw [if_pos h0]; rfl
      · rw [ih (by omega) (by omega), h a (by omega) (by omega), if_neg (by simp)]; rfl
  refine key _ ?_ (Nat.le_refl _)
  cases code with
  | nil => exact absurd rfl hn
  | cons => simp
theorem one_blk {code : List Ins} (h : hsUp code code.length = [0]) : mB code = 1 ∧ nx code 1 = code.length ∧ blkI code 0 = code ∧ outU code 1 = layB code := by
  have h1 : mB code = 1 := by unfold mB; rw [h]; rfl
  have h2 : nx code 1 = code.length := by rw [← h1]; exact nx_end code
  have h3 : blkI code 0 = code := by
    unfold blkI
    rw [nx_0, h2]
    simp
  refine ⟨h1, h2, h3, ?_⟩
  show [] ++ layB (blkI code 0) = layB code
  rw [h3, List.nil_append]
theorem reorg_one {code : List Ins} (hf : fitP code = true) (h : hsUp code code.length = [0]) (hl : code.length ≤ 2000) : reorgP code = match posF code (layB code).length with
    | none => ([], [], 3)
    | some out => (out, [0, ((layB code).length : Int)], 0) := by
  obtain ⟨h1, h2, h3, h4⟩ := one_blk h
  have h5 := layP_len code
  have h6 : (layB code).length = (layP code).length := layB_len code
  unfold reorgP
  rw [if_neg (by rw [hf]; simp), h1, h4, if_neg (by omega)]
  have h7 : plU code (1 + 1) = [0, ((layB code).length : Int)] := by rw [plU_succ, h4]; rfl
  rw [h7]
  rfl
theorem straight {code : List Ins} (hf : fitP code = true) (hn : code ≠ []) (hg : ∀ j : Nat, j < code.length → goesP (cAt code j) = false) (hl : code.length ≤ 2000) : reorgP code = (layB code, [0, ((layB code).length : Int)], 0) := by
  have htok : ∀ j : Nat, j < code.length → tok (cAt code j) = false := fun j hj => by
    cases ht : tok (cAt code j) with
    | false => rfl
    | true => rw [← hg j hj, tok_goes ht]
  have hh : hsUp code code.length = [0] := by
    refine one_heads hn fun k k0 k1 => ?_
    unfold headP
    have e1 : ((k : Int) == 0) = false := by simp; omega
    have e2 : goesP (cAt code ((k : Int) - 1)) = false := by
      have := hg (k - 1) (by omega)
      rwa [show ((k - 1 : Nat) : Int) = (k : Int) - 1 by omega] at this
    have e3 : (List.range code.length).any (toAt code k) = false := by
      rw [List.any_eq_false]
      intro q hq
      unfold toAt
      rw [htok q (List.mem_range.1 hq)]; simp
    rw [e1, e2, e3]; rfl
  obtain ⟨h1, h2, h3, h4⟩ := one_blk hh
  have hpos : 0 < code.length := by
    cases code with
    | nil => exact absurd rfl hn
    | cons => simp
  rw [reorg_one hf hh hl]
  have := posF_no (code := code) (j := 0) (by omega) (by
    have := htok (code.length - 1) (by omega)
    rwa [show 0 + 1 = 1 from rfl, h2, show (code.length : Int) - 1 = ((code.length - 1 : Nat) : Int) by omega])
  rw [show 0 + 1 = 1 from rfl, h4] at this
  rw [this]
  have e0 : posF code (outU code 0).length = some (outU code (mB code)) := rfl
  rw [e0, h1, h4]

/-! Nops, and a Jmp behind them. -/
end Go.Proofs.Ytkfemiloehkmhaa.S

