/- Ytkfemiloehkmhaa: a text of our own, by an AI agent: LsBH -/
import Derived.Test.YtkfemiloehkmhaaLrBH
import Derived.Test.YtkfemiloehkmhaaVR13H
import Derived.Test.YtkfemiloehkmhaaPlBH
set_option linter.unusedSimpArgs false
set_option linter.unusedVariables false
set_option maxRecDepth 100000
namespace Go.Proofs.Ytkfemiloehkmhaa.S
open Go Go.RowKit Go.Alog

/-! New code, block by block. -/
theorem oldU_pre (code : List Ins) (j d : Nat) : ∃ t, oldU code (j + d) = oldU code j ++ t := by
  induction d with
  | zero => exact ⟨[], by simp⟩
  | succ d ih =>
    obtain ⟨t, ht⟩ := ih
    refine ⟨t ++ oldB code (j + d), ?_⟩
    show oldU code (j + d) ++ oldB code (j + d) = _
    rw [ht, List.append_assoc]
theorem outU_pre (code : List Ins) (j d : Nat) : ∃ t, outU code (j + d) = outU code j ++ t := by
  induction d with
  | zero => exact ⟨[], by simp⟩
  | succ d ih =>
    obtain ⟨t, ht⟩ := ih
    refine ⟨t ++ layB (blkI code (j + d)), ?_⟩
    show outU code (j + d) ++ layB (blkI code (j + d)) = _
    rw [ht, List.append_assoc]
theorem old_at {code : List Ins} {j : Nat} (hj : j < mB code) {p : Nat} (hp : p < (layP (blkI code j)).length) : (oldU code (mB code)).getD ((outU code j).length + p) 0 = if 0 ≤ (layP (blkI code j)).getD p 0 then nx code j + (layP (blkI code j)).getD p 0 else -1 := by
  obtain ⟨t, ht⟩ := oldU_pre code (j + 1) (mB code - (j + 1))
  rw [show j + 1 + (mB code - (j + 1)) = mB code by omega] at ht
  have e : oldU code (j + 1) = oldU code j ++ oldB code j := rfl
  have e2 : ((oldU code j ++ oldB code j) ++ t)[(oldU code j).length + p]? = some (if 0 ≤ (layP (blkI code j))[p] then nx code j + (layP (blkI code j))[p] else -1) := by
    rw [List.append_assoc, List.getElem?_append_right (by omega), Nat.add_sub_cancel_left, List.getElem?_append_left (by simp [oldB]; exact hp)]
    unfold oldB
    rw [List.getElem?_map, List.getElem?_eq_getElem hp]
    rfl
  have e3 : (layP (blkI code j)).getD p 0 = (layP (blkI code j))[p] := by simp [List.getD, hp]
  rw [ht, e, ← oldU_len, e3]
  show ((oldU code j ++ oldB code j) ++ t)[(oldU code j).length + p]?.getD 0 = _
  rw [e2]; rfl
theorem out_at {code : List Ins} {j : Nat} (hj : j < mB code) {p : Nat} (hp : p < (layP (blkI code j)).length) : cAt (outU code (mB code)) (((outU code j).length + p : Nat) : Int) = pickAt (blkI code j) ((layP (blkI code j)).getD p 0) := by
  obtain ⟨t, ht⟩ := outU_pre code (j + 1) (mB code - (j + 1))
  rw [show j + 1 + (mB code - (j + 1)) = mB code by omega] at ht
  have e : outU code (j + 1) = outU code j ++ layB (blkI code j) := rfl
  have hl := layB_len (blkI code j)
  have e2 : ((outU code j ++ layB (blkI code j)) ++ t)[(outU code j).length + p]? = some (pickAt (blkI code j) (layP (blkI code j))[p]) := by
    rw [List.append_assoc, List.getElem?_append_right (by omega), Nat.add_sub_cancel_left, List.getElem?_append_left (by omega)]
    unfold layB pickP
    rw [List.getElem?_map, List.getElem?_eq_getElem hp]
    rfl
  have e3 : (layP (blkI code j)).getD p 0 = (layP (blkI code j))[p] := by simp [List.getD, hp]
  rw [ht, e, e3]
  unfold cAt
  rw [show (((outU code j).length + p : Nat) : Int).toNat = (outU code j).length + p by omega]
  show ((outU code j ++ layB (blkI code j)) ++ t)[(outU code j).length + p]?.getD default = _
  rw [e2]; rfl
theorem layP_nodup (l : List Ins) : (nnL (layP l)).Nodup := (layP_perm l).nodup_iff.2 (idL_nodup _)
theorem tok_goes {i : Ins} (h : tok i = true) : goesP i = true := by
  unfold tok at h
  unfold goesP
  simp only [Bool.and_eq_true, decide_eq_true_eq] at h ⊢
  exact ⟨h.1, by omega⟩
theorem last_blk {code : List Ins} {j : Nat} (hj : j < mB code) : lastI (blkI code j) = cAt code (nx code (j + 1) - 1) := by
  have h1 := nx_in hj
  have h2 := blkI_len hj
  unfold lastI
  rw [blkI_at hj (by omega) (by omega)]
  congr 1
  omega
theorem blk_ne {code : List Ins} {j : Nat} (hj : j < mB code) : blkI code j ≠ [] := fun e => by
  have h1 := nx_in hj
  have h2 := blkI_len hj
  rw [e] at h2; simp at h2; omega
theorem step_skip {code : List Ins} {j : Nat} (hj : j < mB code) {p : Nat} (hp : p < (layP (blkI code j)).length) (hs : tok (cAt code (nx code (j + 1) - 1)) = false ∨ p ≠ (layP (blkI code j)).length - 2) (cur : List Ins) : stepAt code ((outU code j).length + p) cur = some cur := by
  unfold stepAt
  rw [old_at hj hp]
  refine if_pos ?_
  have h1 := nx_in hj
  have h2 := blkI_len hj
  have hin := layP_in (blkI code j) ((layP (blkI code j)).getD p 0) (by simp [List.getD, hp])
  by_cases hx : 0 ≤ (layP (blkI code j)).getD p 0
  · rw [if_pos hx]
    right
    cases ht : tok (cAt code (nx code j + (layP (blkI code j)).getD p 0)) with
    | false => rfl
    | true =>
      exfalso
      have hg := tok_goes ht
      have hlast : nx code j + (layP (blkI code j)).getD p 0 = nx code (j + 1) - 1 := by
        refine Classical.byContradiction fun hn => ?_
        have := nogo code code.length j hj (q := nx code j + (layP (blkI code j)).getD p 0) (show nx code j ≤ _ by omega) (show _ < nx code (j + 1) by omega)
        rw [this] at hg; cases hg
      rw [hlast] at ht hg
      rcases hs with h | h
      · rw [h] at ht; cases ht
      · obtain ⟨g1, g2⟩ := layP_goes (blkI code j) (blk_ne hj) (by rw [last_blk hj]; exact hg)
        have hnd := layP_nodup (blkI code j)
        have e : (layP (blkI code j)).getD p 0 = (layP (blkI code j)).getD ((layP (blkI code j)).length - 2) 0 := by rw [g2]; omega
        rcases Nat.lt_or_gt_of_ne h with h3 | h3
        · have := nn_once hnd p _ h3 (by omega) e; omega
        · have := nn_once hnd _ p h3 hp e.symm; omega
  · rw [if_neg hx]; left; omega
theorem posF_skip {code : List Ins} {a : Nat} : ∀ {d : Nat}, (∀ k, k < d → ∀ cur, stepAt code (a + k) cur = some cur) → posF code (a + d) = posF code a
  | 0, _ => rfl
  | d + 1, h => by
    show (posF code (a + d)).bind (stepAt code (a + d)) = _
    rw [posF_skip (d := d) fun k hk => h k (by omega)]
    cases posF code a with
    | none => rfl
    | some cur => exact h d (by omega) cur
theorem posF_keep {code : List Ins} : ∀ {k : Nat} {cur : List Ins}, posF code k = some cur → ∀ p : Nat, k ≤ p → cAt cur p = cAt (outU code (mB code)) p := by
  intro k
  induction k with
  | zero => intro cur h p _; injection h with h; rw [← h]
  | succ k ih =>
    intro cur h p hp
    unfold posF at h
    obtain ⟨c1, hc, hs⟩ := Option.bind_eq_some_iff.1 h
    have := ih hc p (by omega)
    unfold stepAt at hs
    split at hs
    · injection hs with hs; rw [← hs]; exact this
    · split at hs
      · injection hs with hs
        rw [← hs, ← this]
        unfold cAt
        simp only [List.getD]
        rw [List.getElem?_set_ne (by omega)]
      · cases hs
theorem outU_succ_len (code : List Ins) (j : Nat) : (outU code (j + 1)).length = (outU code j).length + (layP (blkI code j)).length := by
  show (outU code j ++ layB (blkI code j)).length = _
  rw [List.length_append, layB_len]
/-- A block whose last instruction goes nowhere that is known. -/
theorem posF_no {code : List Ins} {j : Nat} (hj : j < mB code) (ht : tok (cAt code (nx code (j + 1) - 1)) = false) : posF code (outU code (j + 1)).length = posF code (outU code j).length := by
  rw [outU_succ_len]
  exact posF_skip fun k hk cur => step_skip hj hk (.inl ht) cur
/-- The place of the last instruction, if it goes. -/
def atP (code : List Ins) (j : Nat) : Nat := (outU code (j + 1)).length - 2
theorem atP_lt {code : List Ins} {j : Nat} (hj : j < mB code) (hg : goesP (cAt code (nx code (j + 1) - 1)) = true) : (outU code j).length ≤ atP code j ∧ atP code j + 2 = (outU code (j + 1)).length ∧ (oldU code (mB code)).getD (atP code j) 0 = nx code (j + 1) - 1 ∧ cAt (outU code (mB code)) (atP code j : Int) = cAt code (nx code (j + 1) - 1) := by
  obtain ⟨g1, g2⟩ := layP_goes (blkI code j) (blk_ne hj) (by rw [last_blk hj]; exact hg)
  have h0 := outU_succ_len code j
  have h1 := nx_in hj
  have h2 := blkI_len hj
  have e : atP code j = (outU code j).length + ((layP (blkI code j)).length - 2) := by unfold atP; omega
  refine ⟨by omega, by omega, ?_, ?_⟩
  · rw [e, old_at hj (by omega), g2, if_pos (by omega)]; omega
  · rw [e, out_at hj (by omega), g2]
    unfold pickAt
    rw [if_pos ⟨by omega, by omega⟩, ← last_blk hj]
    rfl
theorem posF_to {code : List Ins} {j : Nat} (hj : j < mB code) (hg : goesP (cAt code (nx code (j + 1) - 1)) = true) : posF code (atP code j) = posF code (outU code j).length ∧ posF code (outU code (j + 1)).length = (posF code (atP code j)).bind (stepAt code (atP code j)) := by
  obtain ⟨h1, h2, _⟩ := atP_lt hj hg
  have h0 := outU_succ_len code j
  constructor
  · have := posF_skip (code := code) (a := (outU code j).length) (d := atP code j - (outU code j).length) fun k hk cur => step_skip hj (by omega) (.inr (by omega)) cur
    rwa [show (outU code j).length + (atP code j - (outU code j).length) = atP code j by omega] at this
  · have := posF_skip (code := code) (a := atP code j + 1) (d := 1) fun k hk cur => by
      have e : atP code j + 1 + k = (outU code j).length + (atP code j + 1 - (outU code j).length) := by omega
      rw [e]
      exact step_skip hj (by omega) (.inr (by omega)) cur
    rw [← h2]
    exact this
/-- A block whose last instruction goes somewhere. -/
theorem posF_yes {code : List Ins} {j : Nat} (hj : j < mB code) (ht : tok (cAt code (nx code (j + 1) - 1)) = true) {cur : List Ins} (hc : posF code (outU code j).length = some cur) :
    cAt cur (atP code j) = cAt code (nx code (j + 1) - 1) ∧
    posF code (outU code (j + 1)).length = if rightR (patI code (atP code j) (cAt code (nx code (j + 1) - 1)) (tgt (cAt code (nx code (j + 1) - 1)) (nx code (j + 1) - 1))) = true then some (cur.set (atP code j) (patI code (atP code j) (cAt code (nx code (j + 1) - 1)) (tgt (cAt code (nx code (j + 1) - 1)) (nx code (j + 1) - 1)))) else none := by
  have hg := tok_goes ht
  obtain ⟨h1, h2, h3, h4⟩ := atP_lt hj hg
  obtain ⟨p1, p2⟩ := posF_to hj hg
  have hci : cAt cur (atP code j) = cAt code (nx code (j + 1) - 1) := by
    rw [posF_keep hc _ h1, h4]
  have h5 := nx_in hj
  refine ⟨hci, ?_⟩
  rw [p2, p1, hc]
  show stepAt code (atP code j) cur = _
  unfold stepAt
  rw [h3, hci, if_neg (by rw [ht]; simp; omega)]
end Go.Proofs.Ytkfemiloehkmhaa.S

set_option linter.unusedSimpArgs false
set_option linter.unusedVariables false
set_option maxRecDepth 100000
namespace Go.Proofs.Ytkfemiloehkmhaa.S
open Go Go.RowKit Go.Alog Go.Proofs.Ytkfemiloehkmhaa.T Go.Proofs.Ytkfemiloehkmhaa.V

/-- All but a row of the call's own. -/
theorem own_rest {m : AM} {B : Nat} {e : TypeId} {sz : Nat} {A : Option Addr} {n cp : Nat} {xs : List Value} (h : Alog.Own m B e sz A n cp xs) : ∃ mb : AM, mb.le m ∧ (∀ k ∈ obl A, mb k = none) ∧ (∀ k, k ∉ obl A → mb k = m k) ∧ (∀ {e2 : TypeId} {sz2 : Nat} {A2 : Option Addr} {n2 c2 : Nat} {xs2 : List Value}, e2 ≠ e → Alog.Own m B e2 sz2 A2 n2 c2 xs2 → Alog.Own mb B e2 sz2 A2 n2 c2 xs2) ∧ (∀ m0 : AM, m0.le m → (∀ k ∈ obl A, m0 k = none) → m0.le mb) := by
  have hb : ∀ k, k ∉ obl A → (fun k => if k ∈ obl A then none else m k : AM) k = m k := fun k hk => if_neg hk
  refine ⟨fun k => if k ∈ obl A then none else m k, fun k o hk => ?_, fun k hk => if_pos hk, hb, fun {e2 sz2 A2 n2 c2 xs2} he o2 => o2.keep fun g hg => hb g fun hm => ?_, fun m0 l0 hn k o hk => ?_⟩
  · have hk : (if k ∈ obl A then none else m k) = some o := hk
    split at hk
    · cases hk
    · exact hk
  · obtain ⟨_, c1, h1⟩ := o2.obl_some ((mem_obl hg).2 rfl)
    obtain ⟨_, c2, h2⟩ := h.obl_some hm
    rw [h1] at h2
    injection h2 with h2
    injection h2 with _ h2
    exact he h2
  · have : k ∉ obl A := fun hm => by rw [hn k hm] at hk; cases hk
    exact (hb k this).trans (l0 k o hk)

end Go.Proofs.Ytkfemiloehkmhaa.S

set_option linter.unusedSimpArgs false
set_option linter.unusedVariables false
set_option maxRecDepth 100000
namespace Go.Proofs.Ytkfemiloehkmhaa.S
open Go Go.RowKit Go.Alog

/-! Code of one block. -/
theorem one_heads {code : List Ins} (hn : code ≠ []) (h : ∀ k : Nat, 0 < k → k < code.length → headP code k = false) : hsUp code code.length = [0] := by
  have key : ∀ a : Nat, 0 < a → a ≤ code.length → hsUp code a = [0] := by
    intro a
    induction a with
    | zero => intro h; omega
    | succ a ih =>
      intro _ ha
      rw [hsUp_succ]
      by_cases e : a = 0
      · subst e
        have h0 : headP code ((0 : Nat) : Int) = true := by unfold headP; simp
        rw [if_pos h0]; rfl
      · rw [ih (by omega) (by omega), h a (by omega) (by omega), if_neg (by simp)]; rfl
  refine key _ ?_ (Nat.le_refl _)
  cases code with
  | nil => exact absurd rfl hn
  | cons => simp
theorem one_blk {code : List Ins} (h : hsUp code code.length = [0]) : mB code = 1 ∧ nx code 1 = code.length ∧ blkI code 0 = code ∧ outU code 1 = layB code := by
  have h1 : mB code = 1 := by unfold mB; rw [h]; rfl
  have h2 : nx code 1 = code.length := by rw [← h1]; exact nx_end code
  have h3 : blkI code 0 = code := by
    unfold blkI
    rw [nx_0, h2]
    simp
  refine ⟨h1, h2, h3, ?_⟩
  show [] ++ layB (blkI code 0) = layB code
  rw [h3, List.nil_append]
theorem reorg_one {code : List Ins} (hf : fitP code = true) (h : hsUp code code.length = [0]) (hl : code.length ≤ 2000) : reorgP code = match posF code (layB code).length with
    | none => ([], [], 3)
    | some out => (out, [0, ((layB code).length : Int)], 0) := by
  obtain ⟨h1, h2, h3, h4⟩ := one_blk h
  have h5 := layP_len code
  have h6 : (layB code).length = (layP code).length := layB_len code
  unfold reorgP
  rw [if_neg (by rw [hf]; simp), h1, h4, if_neg (by omega)]
  have h7 : plU code (1 + 1) = [0, ((layB code).length : Int)] := by rw [plU_succ, h4]; rfl
  rw [h7]
  rfl
theorem straight {code : List Ins} (hf : fitP code = true) (hn : code ≠ []) (hg : ∀ j : Nat, j < code.length → goesP (cAt code j) = false) (hl : code.length ≤ 2000) : reorgP code = (layB code, [0, ((layB code).length : Int)], 0) := by
  have htok : ∀ j : Nat, j < code.length → tok (cAt code j) = false := fun j hj => by
    cases ht : tok (cAt code j) with
    | false => rfl
    | true => rw [← hg j hj, tok_goes ht]
  have hh : hsUp code code.length = [0] := by
    refine one_heads hn fun k k0 k1 => ?_
    unfold headP
    have e1 : ((k : Int) == 0) = false := by simp; omega
    have e2 : goesP (cAt code ((k : Int) - 1)) = false := by
      have := hg (k - 1) (by omega)
      rwa [show ((k - 1 : Nat) : Int) = (k : Int) - 1 by omega] at this
    have e3 : (List.range code.length).any (toAt code k) = false := by
      rw [List.any_eq_false]
      intro q hq
      unfold toAt
      rw [htok q (List.mem_range.1 hq)]; simp
    rw [e1, e2, e3]; rfl
  obtain ⟨h1, h2, h3, h4⟩ := one_blk hh
  have hpos : 0 < code.length := by
    cases code with
    | nil => exact absurd rfl hn
    | cons => simp
  rw [reorg_one hf hh hl]
  have := posF_no (code := code) (j := 0) (by omega) (by
    have := htok (code.length - 1) (by omega)
    rwa [show 0 + 1 = 1 from rfl, h2, show (code.length : Int) - 1 = ((code.length - 1 : Nat) : Int) by omega])
  rw [show 0 + 1 = 1 from rfl, h4] at this
  rw [this]
  have e0 : posF code (outU code 0).length = some (outU code (mB code)) := rfl
  rw [e0, h1, h4]

/-! Nops, and a Jmp behind them. -/
def jmpI (k : Int) : Ins := ⟨17, 0, 0, 0, k⟩
theorem jmp_all : ∀ k : Fin 110, rightR (jmpI (k.val : Int)) = true ∧ farP nop (jmpI (k.val : Int)) = 0 ∧ goesP (jmpI (k.val : Int)) = true ∧ tok (jmpI (k.val : Int)) = true ∧ tgt (jmpI (k.val : Int)) 0 = k.val := by decide +kernel
theorem jmp_facts {k : Nat} (h : k < 110) : rightR (jmpI k) = true ∧ farP nop (jmpI k) = 0 ∧ goesP (jmpI k) = true ∧ tok (jmpI k) = true := by
  have := jmp_all ⟨k, h⟩
  exact ⟨this.1, this.2.1, this.2.2.1, this.2.2.2.1⟩
theorem jmp_tgt {k : Nat} (h : k < 110) (a : Int) : tgt (jmpI k) a = k := by
  unfold tgt
  rw [if_pos (jmp_facts h).1, if_neg (by show ¬ ((17 : Int) = 15 ∨ (17 : Int) = 16); decide), if_pos (by show (17 : Int) = 17 ∨ (17 : Int) = 18; decide)]
  rfl
theorem nop_facts : goesP nop = false ∧ tok nop = false ∧ lateP nop = false ∧ farP nop nop = 0 ∧ rightR nop = true := by decide +kernel
def nopsJ (n : Nat) : List Ins := List.replicate n nop ++ [jmpI ((n + 1 : Nat) : Int)]
theorem nopsJ_len (n : Nat) : (nopsJ n).length = n + 1 := by simp [nopsJ]
theorem nopsJ_lt {n : Nat} {k : Int} (h0 : 0 ≤ k) (h1 : k < n) : cAt (nopsJ n) k = nop := by
  unfold cAt nopsJ
  simp only [List.getD]
  rw [List.getElem?_append_left (by simp; omega)]
  simp [show k.toNat < n by omega]
theorem nopsJ_at (n : Nat) : cAt (nopsJ n) (n : Int) = jmpI ((n + 1 : Nat) : Int) := by
  unfold cAt nopsJ
  simp [List.getD]
theorem idL_free_nops (n : Nat) : ordP (List.replicate n nop) = idL n := by
  have : FreeL (List.replicate n nop) := fun i j hij hj => by
    rw [List.length_replicate] at hj
    have e1 : cAt (List.replicate n nop) (i : Int) = nop := cAt_nops
    have e2 : cAt (List.replicate n nop) (j : Int) = nop := cAt_nops
    rw [e1, e2, nop_facts.2.2.2.1]; decide
  rw [ordP_freeL this, List.length_replicate]
theorem lay_nops {n : Nat} (hn : 0 < n) : layB (List.replicate n nop) = List.replicate n nop := by
  have hl : layP (List.replicate n nop) = idL n := by
    unfold layP
    rw [if_neg (by intro h; have := congrArg List.length h; simp at this; omega)]
    have e1 : lastI (List.replicate n nop) = nop := cAt_nops
    rw [e1, nop_facts.1, if_pos rfl, idL_free_nops]
    have e2 : cAt (List.replicate n nop) ((idL n).getD ((idL n).length - 1) 0) = nop := cAt_nops
    rw [e2, nop_facts.2.2.1, if_neg (by simp)]
  unfold layB
  rw [hl]
  have := map_pick (List.replicate n nop)
  rw [List.length_replicate] at this
  exact this
theorem fit_nops {n : Nat} (hn : n ≤ 1000) : fitP (List.replicate n nop) = true := by
  refine fitP_true (by simp; omega) fun j hj => ?_
  unfold fitAt
  have e1 : cAt (List.replicate n nop) (j : Int) = nop := cAt_nops
  rw [e1, nop_facts.2.1, nop_facts.2.2.2.2]; rfl
theorem reorg_nops {n : Nat} (h0 : 0 < n) (h1 : n ≤ 1000) : reorgP (List.replicate n nop) = (List.replicate n nop, [0, (n : Int)], 0) := by
  rw [straight (fit_nops h1) (by intro h; have := congrArg List.length h; simp at this; omega) (fun j hj => by
    have e1 : cAt (List.replicate n nop) (j : Int) = nop := cAt_nops
    rw [e1]; exact nop_facts.1) (by simp; omega), lay_nops h0, List.length_replicate]
theorem fit_nopsJ {n : Nat} (hn : n ≤ 100) : fitP (nopsJ n) = true := by
  refine fitP_true (by rw [nopsJ_len]; omega) fun j hj => ?_
  rw [nopsJ_len] at hj
  unfold fitAt
  by_cases e : j < n
  · rw [nopsJ_lt (by omega) (by omega), nop_facts.2.1, nop_facts.2.2.2.2]; rfl
  · have : j = n := by omega
    subst this
    obtain ⟨f1, f2, f3, f4⟩ := jmp_facts (k := j + 1) (by omega)
    rw [nopsJ_at, f1, f4, jmp_tgt (by omega), nopsJ_len]
    rw [decide_eq_false (by omega), decide_eq_false (by omega)]; rfl
theorem heads_nopsJ {n : Nat} (h0 : 0 < n) (hn : n ≤ 100) : hsUp (nopsJ n) (nopsJ n).length = [0] := by
  refine one_heads (by intro h; have := congrArg List.length h; rw [nopsJ_len] at this; simp at this) fun k k0 k1 => ?_
  rw [nopsJ_len] at k1
  unfold headP
  have e1 : ((k : Int) == 0) = false := by simp; omega
  have e2 : goesP (cAt (nopsJ n) ((k : Int) - 1)) = false := by rw [nopsJ_lt (by omega) (by omega)]; exact nop_facts.1
  have e3 : (List.range (nopsJ n).length).any (toAt (nopsJ n) k) = false := by
    rw [List.any_eq_false]
    intro q hq
    have hq := List.mem_range.1 hq
    rw [nopsJ_len] at hq
    unfold toAt
    by_cases e : q < n
    · rw [nopsJ_lt (by omega) (by omega), nop_facts.2.1]; simp
    · have : q = n := by omega
      subst this
      rw [nopsJ_at, jmp_tgt (by omega)]
      have : ¬ ((q + 1 : Nat) : Int) = k := by omega
      simp; intro _; omega
  rw [e1, e2, e3]; rfl
theorem layP_nopsJ {n : Nat} (h0 : 0 < n) (hn : n ≤ 100) : layP (nopsJ n) = idL (n - 1) ++ [(n : Int), (n : Int) - 1] := by
  obtain ⟨f1, f2, f3, f4⟩ := jmp_facts (k := n + 1) (by omega)
  have hl := nopsJ_len n
  have elast : lastI (nopsJ n) = jmpI ((n + 1 : Nat) : Int) := by
    unfold lastI
    rw [hl, show ((n + 1 : Nat) : Int) - 1 = (n : Int) by omega]
    exact nopsJ_at n
  have etk : (nopsJ n).take ((nopsJ n).length - 1) = List.replicate n nop := by
    rw [hl, Nat.add_sub_cancel]
    unfold nopsJ
    rw [List.take_append_of_le_length (by simp), List.take_of_length_le (by simp)]
  unfold layP
  rw [if_neg (by intro h; rw [h] at hl; simp at hl), elast, f3, if_neg (by simp), etk, idL_free_nops]
  have hidl := idL_len n
  have hget : (idL n).getD ((idL n).length - 1) 0 = (n : Int) - 1 := by
    rw [hidl]
    unfold idL
    simp only [List.getD]
    rw [List.getElem?_map, List.getElem?_range (by omega)]
    show ((n - 1 : Nat) : Int) = _
    omega
  have htake : (idL n).take ((idL n).length - 1) = idL (n - 1) := by
    rw [hidl, idL_pred h0, List.take_append_of_le_length (by rw [idL_len]; omega), List.take_of_length_le (by rw [idL_len]; omega)]
  have hs : slotOk (nopsJ n) (idL n) (jmpI ((n + 1 : Nat) : Int)) = true := by
    unfold slotOk
    rw [hget, htake, hidl, nopsJ_lt (by omega) (by omega), nop_facts.2.2.1, f2]
    rw [clearP_t fun k hk => ?_]
    · rfl
    · rw [idL_len] at hk
      have hk2 : (idL (n - 1)).getD k 0 = k := by
        unfold idL
        simp only [List.getD]
        rw [List.getElem?_map, List.getElem?_range (by omega)]
        rfl
      unfold czA
      rw [hk2, nopsJ_lt (by omega) (by omega), f2, Bool.and_eq_false_iff]
      right
      exact decide_eq_false (by omega)
  rw [if_pos ⟨by intro h; rw [h] at hidl; simp at hidl; omega, hs⟩, htake, hget, hl]
  congr 2
  omega
theorem lay_nopsJ {n : Nat} (h0 : 0 < n) (hn : n ≤ 100) : layB (nopsJ n) = List.replicate (n - 1) nop ++ [jmpI ((n + 1 : Nat) : Int), nop] := by
  unfold layB pickP
  rw [layP_nopsJ h0 hn, List.map_append]
  have e1 : (idL (n - 1)).map (pickAt (nopsJ n)) = List.replicate (n - 1) nop := by
    rw [List.eq_replicate_iff]
    refine ⟨by rw [List.length_map, idL_len], fun b hb => ?_⟩
    obtain ⟨x, hx, rfl⟩ := List.mem_map.1 hb
    have := idL_mem.1 hx
    unfold pickAt
    rw [if_pos ⟨this.1, by rw [nopsJ_len]; omega⟩]
    exact nopsJ_lt this.1 (by omega)
  rw [e1]
  congr 1
  have e2 : pickAt (nopsJ n) (n : Int) = jmpI ((n + 1 : Nat) : Int) := by
    unfold pickAt
    rw [if_pos ⟨by omega, by rw [nopsJ_len]; omega⟩]
    exact nopsJ_at n
  have e3 : pickAt (nopsJ n) ((n : Int) - 1) = nop := by
    unfold pickAt
    rw [if_pos ⟨by omega, by rw [nopsJ_len]; omega⟩]
    exact nopsJ_lt (by omega) (by omega)
  simp only [List.map_cons, List.map_nil, e2, e3]
theorem reorg_nopsJ {n : Nat} (h0 : 0 < n) (hn : n ≤ 100) : reorgP (nopsJ n) = (List.replicate (n - 1) nop ++ [jmpI ((n + 1 : Nat) : Int), nop], [0, (n : Int) + 1], 0) := by
  obtain ⟨f1, f2, f3, f4⟩ := jmp_facts (k := n + 1) (by omega)
  have hh := heads_nopsJ h0 hn
  obtain ⟨h1, h2, h3, h4⟩ := one_blk hh
  have hl := nopsJ_len n
  have hlay := lay_nopsJ h0 hn
  have hll : (layB (nopsJ n)).length = n + 1 := by rw [hlay]; simp; omega
  rw [reorg_one (fit_nopsJ hn) hh (by omega), hll]
  have hlast : nx (nopsJ n) (0 + 1) - 1 = (n : Int) := by rw [show 0 + 1 = 1 from rfl, h2, hl]; omega
  have hc : posF (nopsJ n) (outU (nopsJ n) 0).length = some (layB (nopsJ n)) := by
    have : posF (nopsJ n) (outU (nopsJ n) 0).length = some (outU (nopsJ n) (mB (nopsJ n))) := rfl
    rw [this, h1, h4]
  have hy := posF_yes (code := nopsJ n) (j := 0) (by omega) (by rw [hlast, nopsJ_at]; exact f4) hc
  have hat : atP (nopsJ n) 0 = n - 1 := by unfold atP; rw [show 0 + 1 = 1 from rfl, h4, hll]; omega
  rw [hlast, nopsJ_at, hat, jmp_tgt (by omega), show 0 + 1 = 1 from rfl, h4, hll] at hy
  have hanew : anewP (nopsJ n) ((n + 1 : Nat) : Int) = ((n + 1 : Nat) : Int) := by
    have := anewP_at (code := nopsJ n) (q := 1) (by omega)
    rwa [h2, hl, h4, hll] at this
  have hpat : patI (nopsJ n) ((n - 1 : Nat) : Int) (jmpI ((n + 1 : Nat) : Int)) ((n + 1 : Nat) : Int) = jmpI ((n + 1 : Nat) : Int) := by
    unfold patI
    rw [hanew, if_neg (by show ¬ ((17 : Int) = 15 ∨ (17 : Int) = 16); decide)]
    rfl
  rw [hpat, f1, if_pos rfl] at hy
  have hset : (layB (nopsJ n)).set (n - 1) (jmpI ((n + 1 : Nat) : Int)) = layB (nopsJ n) := by
    rw [hlay]
    rw [List.set_append_right _ _ (by simp)]
    simp
  rw [hset] at hy
  rw [hy.2, hlay]
  rfl
end Go.Proofs.Ytkfemiloehkmhaa.S

