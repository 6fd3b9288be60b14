/- Ytkfemiloehkmhaa: a text of our own, by an AI agent: LsBH -/
import Derived.Test.YtkfemiloehkmhaaLrBH
import Derived.Test.YtkfemiloehkmhaaVR13H
set_option linter.unusedSimpArgs false
set_option linter.unusedVariables false
set_option maxRecDepth 100000
namespace Go.Proofs.Ytkfemiloehkmhaa.S
open Go Go.RowKit Go.Alog

/-! New code, block by block. -/
theorem oldU_pre (code : List Ins) (j d : Nat) : ∃ t, oldU code (j + d) = oldU code j ++ t := by
  induction d with
  | zero => exact ⟨[], by simp⟩
  | succ d ih =>
    obtain ⟨t, ht⟩ := ih
    refine ⟨t ++ oldB code (j + d), ?_⟩
    show oldU code (j + d) ++ oldB code (j + d) = _
    rw [ht, List.append_assoc]
theorem outU_pre (code : List Ins) (j d : Nat) : ∃ t, outU code (j + d) = outU code j ++ t := by
  induction d with
  | zero => exact ⟨[], by simp⟩
  | succ d ih =>
    obtain ⟨t, ht⟩ := ih
    refine ⟨t ++ layB (blkI code (j + d)), ?_⟩
    show outU code (j + d) ++ layB (blkI code (j + d)) = _
    rw [ht, List.append_assoc]
theorem old_at {code : List Ins} {j : Nat} (hj : j < mB code) {p : Nat} (hp : p < (layP (blkI code j)).length) : (oldU code (mB code)).getD ((outU code j).length + p) 0 = if 0 ≤ (layP (blkI code j)).getD p 0 then nx code j + (layP (blkI code j)).getD p 0 else -1 := by
  obtain ⟨t, ht⟩ := oldU_pre code (j + 1) (mB code - (j + 1))
  rw [show j + 1 + (mB code - (j + 1)) = mB code by omega] at ht
  have e : oldU code (j + 1) = oldU code j ++ oldB code j := rfl
  have e2 : ((oldU code j ++ oldB code j) ++ t)[(oldU code j).length + p]? = some (if 0 ≤ (layP (blkI code j))[p] then nx code j + (layP (blkI code j))[p] else -1) := by
    rw [List.append_assoc, List.getElem?_append_right (by omega), Nat.add_sub_cancel_left, List.getElem?_append_left (by simp [oldB]; exact hp)]
    unfold oldB
    rw [List.getElem?_map, List.getElem?_eq_getElem hp]
    rfl
  have e3 : (layP (blkI code j)).getD p 0 = (layP (blkI code j))[p] := by simp [List.getD, hp]
  rw [ht, e, ← oldU_len, e3]
  show ((oldU code j ++ oldB code j) ++ t)[(oldU code j).length + p]?.getD 0 = _
  rw [e2]; rfl
theorem out_at {code : List Ins} {j : Nat} (hj : j < mB code) {p : Nat} (hp : p < (layP (blkI code j)).length) : cAt (outU code (mB code)) (((outU code j).length + p : Nat) : Int) = pickAt (blkI code j) ((layP (blkI code j)).getD p 0) := by
  obtain ⟨t, ht⟩ := outU_pre code (j + 1) (mB code - (j + 1))
  rw [show j + 1 + (mB code - (j + 1)) = mB code by omega] at ht
  have e : outU code (j + 1) = outU code j ++ layB (blkI code j) := rfl
  have hl := layB_len (blkI code j)
  have e2 : ((outU code j ++ layB (blkI code j)) ++ t)[(outU code j).length + p]? = some (pickAt (blkI code j) (layP (blkI code j))[p]) := by
    rw [List.append_assoc, List.getElem?_append_right (by omega), Nat.add_sub_cancel_left, List.getElem?_append_left (by omega)]
    unfold layB pickP
    rw [List.getElem?_map, List.getElem?_eq_getElem hp]
    rfl
  have e3 : (layP (blkI code j)).getD p 0 = (layP (blkI code j))[p] := by simp [List.getD, hp]
  rw [ht, e, e3]
  unfold cAt
  rw [show (((outU code j).length + p : Nat) : Int).toNat = (outU code j).length + p by omega]
  show ((outU code j ++ layB (blkI code j)) ++ t)[(outU code j).length + p]?.getD default = _
  rw [e2]; rfl
theorem layP_nodup (l : List Ins) : (nnL (layP l)).Nodup := (layP_perm l).nodup_iff.2 (idL_nodup _)
theorem tok_goes {i : Ins} (h : tok i = true) : goesP i = true := by
  unfold tok at h
  unfold goesP
  simp only [Bool.and_eq_true, decide_eq_true_eq] at h ⊢
  exact ⟨h.1, by omega⟩
theorem tok_op {i : Ins} (h : tok i = true) : 15 ≤ i.op ∧ i.op ≤ 18 := by
  unfold tok at h
  simp only [Bool.and_eq_true, decide_eq_true_eq] at h
  exact h.2
theorem last_blk {code : List Ins} {j : Nat} (hj : j < mB code) : lastI (blkI code j) = cAt code (nx code (j + 1) - 1) := by
  have h1 := nx_in hj
  have h2 := blkI_len hj
  unfold lastI
  rw [blkI_at hj (by omega) (by omega)]
  congr 1
  omega
theorem blk_ne {code : List Ins} {j : Nat} (hj : j < mB code) : blkI code j ≠ [] := fun e => by
  have h1 := nx_in hj
  have h2 := blkI_len hj
  rw [e] at h2; simp at h2; omega
theorem step_skip {code : List Ins} {j : Nat} (hj : j < mB code) {p : Nat} (hp : p < (layP (blkI code j)).length) (hs : tok (cAt code (nx code (j + 1) - 1)) = false ∨ p ≠ (layP (blkI code j)).length - 2) (cur : List Ins) : stepAt code ((outU code j).length + p) cur = some cur := by
  unfold stepAt
  rw [old_at hj hp]
  refine if_pos ?_
  have h1 := nx_in hj
  have h2 := blkI_len hj
  have hin := layP_in (blkI code j) ((layP (blkI code j)).getD p 0) (by simp [List.getD, hp])
  by_cases hx : 0 ≤ (layP (blkI code j)).getD p 0
  · rw [if_pos hx]
    right
    cases ht : tok (cAt code (nx code j + (layP (blkI code j)).getD p 0)) with
    | false => rfl
    | true =>
      exfalso
      have hg := tok_goes ht
      have hlast : nx code j + (layP (blkI code j)).getD p 0 = nx code (j + 1) - 1 := by
        refine Classical.byContradiction fun hn => ?_
        have := nogo code code.length j hj (q := nx code j + (layP (blkI code j)).getD p 0) (show nx code j ≤ _ by omega) (show _ < nx code (j + 1) by omega)
        rw [this] at hg; cases hg
      rw [hlast] at ht hg
      rcases hs with h | h
      · rw [h] at ht; cases ht
      · obtain ⟨g1, g2⟩ := layP_goes (blkI code j) (blk_ne hj) (by rw [last_blk hj]; exact hg)
        have hnd := layP_nodup (blkI code j)
        have e : (layP (blkI code j)).getD p 0 = (layP (blkI code j)).getD ((layP (blkI code j)).length - 2) 0 := by rw [g2]; omega
        rcases Nat.lt_or_gt_of_ne h with h3 | h3
        · have := nn_once hnd p _ h3 (by omega) e; omega
        · have := nn_once hnd _ p h3 hp e.symm; omega
  · rw [if_neg hx]; left; omega
theorem posF_skip {code : List Ins} {a : Nat} : ∀ {d : Nat}, (∀ k, k < d → ∀ cur, stepAt code (a + k) cur = some cur) → posF code (a + d) = posF code a
  | 0, _ => rfl
  | d + 1, h => by
    show (posF code (a + d)).bind (stepAt code (a + d)) = _
    rw [posF_skip (d := d) fun k hk => h k (by omega)]
    cases posF code a with
    | none => rfl
    | some cur => exact h d (by omega) cur
theorem posF_keep {code : List Ins} : ∀ {k : Nat} {cur : List Ins}, posF code k = some cur → ∀ p : Nat, k ≤ p → cAt cur p = cAt (outU code (mB code)) p := by
  intro k
  induction k with
  | zero => intro cur h p _; injection h with h; rw [← h]
  | succ k ih =>
    intro cur h p hp
    unfold posF at h
    obtain ⟨c1, hc, hs⟩ := Option.bind_eq_some_iff.1 h
    have := ih hc p (by omega)
    unfold stepAt at hs
    split at hs
    · injection hs with hs; rw [← hs]; exact this
    · split at hs
      · injection hs with hs
        rw [← hs, ← this]
        unfold cAt
        simp only [List.getD]
        rw [List.getElem?_set_ne (by omega)]
      · cases hs
theorem outU_succ_len (code : List Ins) (j : Nat) : (outU code (j + 1)).length = (outU code j).length + (layP (blkI code j)).length := by
  show (outU code j ++ layB (blkI code j)).length = _
  rw [List.length_append, layB_len]
/-- A block whose last instruction goes nowhere that is known. -/
theorem posF_no {code : List Ins} {j : Nat} (hj : j < mB code) (ht : tok (cAt code (nx code (j + 1) - 1)) = false) : posF code (outU code (j + 1)).length = posF code (outU code j).length := by
  rw [outU_succ_len]
  exact posF_skip fun k hk cur => step_skip hj hk (.inl ht) cur
/-- The place of the last instruction, if it goes. -/
def atP (code : List Ins) (j : Nat) : Nat := (outU code (j + 1)).length - 2
theorem atP_lt {code : List Ins} {j : Nat} (hj : j < mB code) (hg : goesP (cAt code (nx code (j + 1) - 1)) = true) : (outU code j).length ≤ atP code j ∧ atP code j + 2 = (outU code (j + 1)).length ∧ (oldU code (mB code)).getD (atP code j) 0 = nx code (j + 1) - 1 ∧ cAt (outU code (mB code)) (atP code j : Int) = cAt code (nx code (j + 1) - 1) := by
  obtain ⟨g1, g2⟩ := layP_goes (blkI code j) (blk_ne hj) (by rw [last_blk hj]; exact hg)
  have h0 := outU_succ_len code j
  have h1 := nx_in hj
  have h2 := blkI_len hj
  have e : atP code j = (outU code j).length + ((layP (blkI code j)).length - 2) := by unfold atP; omega
  refine ⟨by omega, by omega, ?_, ?_⟩
  · rw [e, old_at hj (by omega), g2, if_pos (by omega)]; omega
  · rw [e, out_at hj (by omega), g2]
    unfold pickAt
    rw [if_pos ⟨by omega, by omega⟩, ← last_blk hj]
    rfl
theorem posF_to {code : List Ins} {j : Nat} (hj : j < mB code) (hg : goesP (cAt code (nx code (j + 1) - 1)) = true) : posF code (atP code j) = posF code (outU code j).length ∧ posF code (outU code (j + 1)).length = (posF code (atP code j)).bind (stepAt code (atP code j)) := by
  obtain ⟨h1, h2, _⟩ := atP_lt hj hg
  have h0 := outU_succ_len code j
  constructor
  · have := posF_skip (code := code) (a := (outU code j).length) (d := atP code j - (outU code j).length) fun k hk cur => step_skip hj (by omega) (.inr (by omega)) cur
    rwa [show (outU code j).length + (atP code j - (outU code j).length) = atP code j by omega] at this
  · have := posF_skip (code := code) (a := atP code j + 1) (d := 1) fun k hk cur => by
      have e : atP code j + 1 + k = (outU code j).length + (atP code j + 1 - (outU code j).length) := by omega
      rw [e]
      exact step_skip hj (by omega) (.inr (by omega)) cur
    rw [← h2]
    exact this
/-- A block whose last instruction goes somewhere. -/
theorem posF_yes {code : List Ins} {j : Nat} (hj : j < mB code) (ht : tok (cAt code (nx code (j + 1) - 1)) = true) {cur : List Ins} (hc : posF code (outU code j).length = some cur) :
    cAt cur (atP code j) = cAt code (nx code (j + 1) - 1) ∧
    posF code (outU code (j + 1)).length = if rightR (patI code (atP code j) (cAt code (nx code (j + 1) - 1)) (tgt (cAt code (nx code (j + 1) - 1)) (nx code (j + 1) - 1))) = true then some (cur.set (atP code j) (patI code (atP code j) (cAt code (nx code (j + 1) - 1)) (tgt (cAt code (nx code (j + 1) - 1)) (nx code (j + 1) - 1)))) else none := by
  have hg := tok_goes ht
  obtain ⟨h1, h2, h3, h4⟩ := atP_lt hj hg
  obtain ⟨p1, p2⟩ := posF_to hj hg
  have hci : cAt cur (atP code j) = cAt code (nx code (j + 1) - 1) := by
    rw [posF_keep hc _ h1, h4]
  have h5 := nx_in hj
  refine ⟨hci, ?_⟩
  rw [p2, p1, hc]
  show stepAt code (atP code j) cur = _
  unfold stepAt
  rw [h3, hci, if_neg (by rw [ht]; simp; omega)]
end Go.Proofs.Ytkfemiloehkmhaa.S

set_option linter.unusedSimpArgs false
set_option linter.unusedVariables false
set_option maxRecDepth 100000
namespace Go.Proofs.Ytkfemiloehkmhaa.S
open Go Go.RowKit Go.Alog Go.Proofs.Ytkfemiloehkmhaa.T Go.Proofs.Ytkfemiloehkmhaa.V

/-! The document's Reorg. -/
theorem refHeads_spec (w0 : World) (m : AM) (A : Option Addr) (c : Nat) (code : List Ins) (hl : code.length ≤ 100000) (rd : Reads m 5 A code.length (insCells code)) :
    CallsA Try.prog w0 74 #[.slice A code.length c] m (oI w0 m (hsUp code code.length ++ [(code.length : Int)])) := by
  generalize hR : oI w0 m (hsUp code code.length ++ [(code.length : Int)]) = R
  have hul : ∀ a, (hsUp code a).length ≤ a := fun a => by unfold hsUp; exact Nat.le_trans (List.length_filter_le _ _) (by simp)
  refine cf74 w0 m A code.length c R ?_
  refine vl74_11010 w0 m _ R A code.length c none 0 0 0
    (fun q B n3 c3 k m' => m.le m' ∧ 0 ≤ k ∧ k ≤ code.length ∧ (q : Int) = code.length - k ∧ n3 = (hsUp code k.toNat).length ∧ Alog.Own m' w0.heap.size 3 1 B n3 c3 (intCells .i64 (hsUp code k.toNat)) ∧ ∀ x ∈ obl B, m x = none)
    (fun B n3 c3 m' => m.le m' ∧ n3 = (hsUp code code.length).length ∧ Alog.Own m' w0.heap.size 3 1 B n3 c3 (intCells .i64 (hsUp code code.length)) ∧ ∀ x ∈ obl B, m x = none) code.length rfl rfl rfl ⟨AM.le_refl _, by omega, by omega, by omega, rfl, Alog.Own.nil _ _ _ _, by simp [obl]⟩ ?_ ?_
  · rintro q σ B n3 c3 k m' ⟨l', k0, k1, hq, rfl, ob, nb⟩
    refine ⟨rfl, bcP (fun hlt => ?_) (fun hlt => ?_)⟩
    · have wk : IntKind.wrap .i64 (k + 1) = k + 1 := wrap_s (by omega) (by omega)
      have ek : (k + 1).toNat = k.toNat + 1 := by omega
      have hsu := hsUp_succ code k.toNat
      have hu := hul k.toNat
      rw [show ((k.toNat : Nat) : Int) = k by omega, ← ek] at hsu
      rw [wk]
      refine callB (refHead_e w0 m' A c code (by omega) (rd.le l') k k0 (by omega)) ?_
      cases hh : headP code k with
      | true =>
        rw [hh, if_pos rfl] at hsu
        refine bcT ⟨rfl, ?_⟩
        refine snocI l' ob nb (by omega) k (K := fun A n c m11 => _) ?_
        intro B' c' M6 l6 o6 n6
        (repeat (refine And.intro (Eq.refl _) ?_))
        rw [← hsu] at o6 ⊢
        exact ⟨q - 1, by omega, l6, by omega, by omega, by omega, rfl, o6, n6⟩
      | false =>
        rw [hh, if_neg (by simp), List.append_nil] at hsu
        refine bcF ?_
        (repeat (refine And.intro (Eq.refl _) ?_))
        rw [← hsu] at ob ⊢
        exact ⟨q - 1, by omega, l', by omega, by omega, by omega, rfl, ob, nb⟩
    · (repeat (refine And.intro (Eq.refl _) ?_))
      rw [show k.toNat = code.length by omega] at ob ⊢
      exact ⟨l', rfl, ob, nb⟩
  · rintro σ B n3 c3 m' ⟨l', rfl, ob, nb⟩
    have hu := hul code.length
    refine ⟨rfl, ?_⟩
    refine snocI l' ob nb (by omega) (code.length : Int) (K := fun A n c m11 => _) ?_
    intro B' c' M6 l6 o6 n6
    rw [← hR]
    exact retP_of ⟨⟨B', c', rfl, o6, n6⟩, l6⟩

theorem refAnew_e (w0 : World) (m : AM) (A : Option Addr) (c : Nat) (h : List Int) (hl : h.length ≤ 1000000) (rd : Reads m 1 A h.length (intCells .i64 h)) (A1 : Option Addr) (c1 : Nat) (pl : List Int) (hp : pl.length = h.length) (rd1 : Reads m 1 A1 pl.length (intCells .i64 pl)) (to : Int) (hto : to ∈ h) :
    CallsA Try.prog w0 75 #[.slice A h.length c, .slice A1 pl.length c1, .int .i64 to] m (fun r m' => r = .int .i64 (pl.getD (whP h to).toNat 0) ∧ m' = m) := by
  refine cf75 w0 m A h.length c A1 pl.length c1 to _ ?_
  refine vl75_1010 w0 m _ _ A h.length c A1 pl.length c1 to 0 (fun q i m' => m' = m ∧ 0 ≤ i ∧ i ≤ h.length ∧ (q : Int) = h.length - i ∧ to ∉ h.take i.toNat) (fun m' => to ∉ h) h.length rfl rfl rfl rfl ⟨rfl, by omega, by omega, by omega, by simp⟩ ?_ ?_
  · rintro q σ i m' ⟨rfl, i0, i1, hq, hn⟩
    refine ⟨rfl, bcP (fun hlt => ⟨⟨i0, hlt⟩, ?_⟩) (fun hlt => ?_)⟩
    · obtain ⟨ad, rfl, hc⟩ := rd.ex (by omega)
      rw [nilO_some]
      have wi : IntKind.wrap .i64 (i + 1) = i + 1 := wrap_s (by omega) (by omega)
      refine ⟨_, cell_k hc i0 hlt, rfl, bcI (fun hz => ?_) fun hz => ?_⟩
      · have hz : h.getD i.toNat 0 = to := by simpa using hz
        have hw := whP_at (by omega) hz hn
        refine ⟨⟨i0, by omega⟩, ?_⟩
        obtain ⟨ad1, rfl, hc1⟩ := rd1.ex (by omega)
        rw [nilO_some]
        refine ⟨_, cell_k hc1 i0 (by omega), retP_of ⟨?_, rfl⟩⟩
        rw [hw]; rfl
      · rw [wi]
        (repeat (refine And.intro (Eq.refl _) ?_))
        refine ⟨q - 1, by omega, rfl, by omega, by omega, by omega, ?_⟩
        rw [take_stepI i0 hlt, List.mem_append, List.mem_singleton, not_or]
        exact ⟨hn, fun e => by rw [e] at hz; simp at hz⟩
    · (repeat (refine And.intro (Eq.refl _) ?_))
      rw [List.take_of_length_le (by omega)] at hn
      exact hn
  · intro σ m' hn
    exact absurd hto hn

/-- What is appended leaves rows of another type as they are. -/
theorem snocIF {w0 : World} {m0 m : AM} {A : Option Addr} {c : Nat} {l : List Int} (lm : m0.le m) (o : Alog.Own m w0.heap.size 3 1 A l.length c (intCells .i64 l)) (nA : ∀ k ∈ obl A, m0 k = none) (hl : l.length ≤ 1000000) (x : Int) {e : TypeId} {sz : Nat} {A2 : Option Addr} {n2 c2 : Nat} {xs : List Value} (he : 3 ≠ e) (o2 : Alog.Own m w0.heap.size e sz A2 n2 c2 xs) {K : Option Addr → Nat → Nat → AM → Prop}
    (hK : ∀ A' c' m', m0.le m' → Alog.Own m' w0.heap.size 3 1 A' (l ++ [x]).length c' (intCells .i64 (l ++ [x])) → (∀ k ∈ obl A', m0 k = none) → Alog.Own m' w0.heap.size e sz A2 n2 c2 xs → K A' (l ++ [x]).length c' m') :
    ∀ b11 : Nat, w0.heap.size ≤ b11 → m b11 = none → let m12 := AM.upd m b11 (.cells #[.int .i64 x] 3);
      awp Try.prog w0.heap.size (Builtin.append_ #[30, 30] 30 #[.slice A l.length c, .slice (some ⟨b11, 0, none⟩) 1 1]) m12 fun v13 m14 =>
      ∃ (A15 : Option Addr) (n16 c17 : Nat), v13 = .slice A15 n16 c17 ∧ K A15 n16 c17 m14 := by
  intro b11 hb11 hn11
  refine awp_append_loc (m0 := m0) el30' (AM.le_trans lm (le_new hn11 _)) (o.upd (o.ne_none hn11)) nA (A2 := some ⟨b11, 0, none⟩) (k := 1) (news := [.int .i64 x]) (Reads.lit rfl) (by simp [Value.oneCell']) (by omega) (by omega) (fun A2' c2' m28 l28 f28 o28 n28 _ => ?_)
  have e2 : (l ++ [x]).length = l.length + 1 := by simp
  rw [← e2] at o28 ⊢
  refine ⟨A2', _, c2', rfl, hK A2' c2' m28 l28 ?_ n28 ((o2.upd (o2.ne_none hn11)).fr f28 fun k hk hk' => o.apart o2 he k hk' hk)⟩
  rw [show intCells .i64 (l ++ [x]) = intCells .i64 l ++ [.int .i64 x] by simp [intCells]]; exact o28
/-- One cell of an instruction of a row. -/
theorem cells_imm {l : List Ins} {k : Nat} (hk : k < l.length) (v : Int) : (insCells l).take (k * 5 + 4) ++ [.int .i64 v] ++ (insCells l).drop (k * 5 + 4 + 1) = insCells (l.set k { (l.getD k default) with imm := v }) := by
  have hs : l = l.take k ++ l.getD k default :: l.drop (k + 1) := by
    rw [show l.getD k default = l[k] by simp [List.getD, hk], List.getElem_cons_drop, List.take_append_drop]
  have hlen : (l.take k).length = k := by rw [List.length_take]; omega
  generalize l.getD k default = i at hs ⊢
  generalize l.take k = a at hs hlen
  generalize l.drop (k + 1) = b at hs
  subst hs
  have h5 := insCells_len a
  rw [hlen] at h5
  have e1 : insCells (a ++ i :: b) = insCells a ++ (Ins.cells i ++ insCells b) := by simp [insCells]
  have e2 : (a ++ i :: b).set k { i with imm := v } = a ++ { i with imm := v } :: b := by
    rw [List.set_append_right _ _ (by omega), hlen, Nat.sub_self]; rfl
  have e3 : insCells (a ++ { i with imm := v } :: b) = insCells a ++ (Ins.cells { i with imm := v } ++ insCells b) := by simp [insCells]
  rw [e2, e1, e3]
  have e4 : (insCells a ++ (Ins.cells i ++ insCells b)).take (k * 5 + 4) = insCells a ++ (Ins.cells i).take 4 := by
    rw [← h5, List.take_length_add_append, List.take_append_of_le_length (by simp [Ins.cells])]
  have e5 : (insCells a ++ (Ins.cells i ++ insCells b)).drop (k * 5 + 4 + 1) = insCells b := by
    rw [Nat.add_assoc, ← h5, List.drop_append]
    simp [Ins.cells]
  rw [e4, e5]
  simp [Ins.cells]
theorem storeImm {B : Nat} {m : AM} {ad : Addr} {cp : Nat} {l : List Ins} (h : Alog.Own m B 24 5 (some ad) l.length cp (insCells l)) {k : Nat} (hk : k < l.length) (v : Int) {K : AM → Prop}
    (hK : ∀ g cur, ad = ⟨g, 0, none⟩ → Alog.Own (m.upd g (.cells cur 24)) B 24 5 (some ad) (l.set k { (l.getD k default) with imm := v }).length cp (insCells (l.set k { (l.getD k default) with imm := v })) → K (m.upd g (.cells cur 24))) :
    StC B m ((ad.add (k * 5)).add 4) (.int .i64 v) K := by
  have := h.storeL (o := k * 5 + 4) (vs := [.int .i64 v]) (by simp; omega) (K := K) fun g cur hg ho => hK g cur hg (by
    rw [List.length_set, ← cells_imm hk v]; exact ho)
  have e : StL B (ad.add (k * 5 + 4)) 0 [.int .i64 v] m K = StC B m ((ad.add (k * 5 + 4)).add 0) (.int .i64 v) K := rfl
  rw [e] at this
  rw [Addr.add_add]
  have e2 : (ad.add (k * 5 + 4)).add 0 = ad.add (k * 5 + 4) := by unfold Addr.add; simp
  rwa [e2] at this
end Go.Proofs.Ytkfemiloehkmhaa.S

set_option linter.unusedSimpArgs false
set_option linter.unusedVariables false
set_option maxRecDepth 100000
namespace Go.Proofs.Ytkfemiloehkmhaa.S
open Go Go.RowKit Go.Alog Go.Proofs.Ytkfemiloehkmhaa.T Go.Proofs.Ytkfemiloehkmhaa.V

/-- All but a row of the call's own. -/
theorem own_rest {m : AM} {B : Nat} {e : TypeId} {sz : Nat} {A : Option Addr} {n cp : Nat} {xs : List Value} (h : Alog.Own m B e sz A n cp xs) : ∃ mb : AM, mb.le m ∧ (∀ k ∈ obl A, mb k = none) ∧ (∀ k, k ∉ obl A → mb k = m k) ∧ (∀ {e2 : TypeId} {sz2 : Nat} {A2 : Option Addr} {n2 c2 : Nat} {xs2 : List Value}, e2 ≠ e → Alog.Own m B e2 sz2 A2 n2 c2 xs2 → Alog.Own mb B e2 sz2 A2 n2 c2 xs2) ∧ (∀ m0 : AM, m0.le m → (∀ k ∈ obl A, m0 k = none) → m0.le mb) := by
  have hb : ∀ k, k ∉ obl A → (fun k => if k ∈ obl A then none else m k : AM) k = m k := fun k hk => if_neg hk
  refine ⟨fun k => if k ∈ obl A then none else m k, fun k o hk => ?_, fun k hk => if_pos hk, hb, fun {e2 sz2 A2 n2 c2 xs2} he o2 => o2.keep fun g hg => hb g fun hm => ?_, fun m0 l0 hn k o hk => ?_⟩
  · have hk : (if k ∈ obl A then none else m k) = some o := hk
    split at hk
    · cases hk
    · exact hk
  · obtain ⟨_, c1, h1⟩ := o2.obl_some ((mem_obl hg).2 rfl)
    obtain ⟨_, c2, h2⟩ := h.obl_some hm
    rw [h1] at h2
    injection h2 with h2
    injection h2 with _ h2
    exact he h2
  · have : k ∉ obl A := fun hm => by rw [hn k hm] at hk; cases hk
    exact (hb k this).trans (l0 k o hk)

theorem cAt_set {l : List Ins} {k : Nat} (hk : k < l.length) (i : Ins) : cAt (l.set k i) (k : Int) = i := by
  unfold cAt
  simp [List.getD, hk]
theorem getD_cAt (l : List Ins) (k : Nat) : l.getD k default = cAt l (k : Int) := by
  unfold cAt
  rw [show ((k : Nat) : Int).toNat = k by omega]

set_option maxHeartbeats 1000000 in
theorem refReorg_spec (w0 : World) (m : AM) (A0 : Option Addr) (c0 : Nat) (code : List Ins) (hl : code.length ≤ 100000) (hc0 : code.length ≤ c0) (rd0 : Reads m 5 A0 code.length (insCells code)) :
    CallsA Try.prog w0 44 #[.slice A0 code.length c0] m (oRe w0 m (reorgP code)) := by
  generalize hR : oRe w0 m (reorgP code) = R
  refine cf44 w0 m A0 code.length c0 R (callB (refFit_e w0 m A0 c0 code (by omega) rd0) ?_)
  have bad : ∀ (M : AM) (e : Int), m.le M → reorgP code = ([], [], e) → RetP R (.tuple #[.slice none 0 0, .slice none 0 0, .int .i64 e]) M := fun M e hM he => by
    rw [← hR, he]
    exact retP_of ⟨none, 0, none, 0, rfl, Alog.Own.nil _ _ _ _, Alog.Own.nil _ _ _ _, by simp [obl], by simp [obl], hM⟩
  cases hf : fitP code with
  | false => exact bcT (bad m 1 (AM.le_refl _) (by unfold reorgP; rw [if_pos hf]))
  | true =>
    have hl' : code.length ≤ 4096 := by
      refine Classical.byContradiction fun h => ?_
      rw [fitP_len (by omega)] at hf; cases hf
    have hmB := mB_le code
    refine bcF (CallsA.mono (refHeads_spec w0 m A0 c0 code hl rd0) ?_)
    rintro r mX ⟨⟨A5, c5, rfl, o5, n5⟩, lX⟩
    have hh : (hsUp code code.length ++ [(code.length : Int)]).length = mB code + 1 := by rw [List.length_append]; rfl
    have hget := fun q h => hs_get (code := code) (q := q) h
    have hwh := fun q h => hs_wh (code := code) (q := q) h
    have r5 := o5.reads
    have rdX := rd0.le lX
    refine ⟨_, _, _, rfl, ?_⟩
    generalize hsUp code code.length ++ [(code.length : Int)] = h at *
    refine vl44_11111010 w0 mX _ R A0 code.length c0 A5 h.length c5 none 0 0 none 0 0 0
      (fun q A6 n6 c6 A7 n7 c7 k m' => mX.le m' ∧ 0 ≤ k ∧ k ≤ mB code ∧ (q : Int) = mB code - k ∧ n6 = (outU code k.toNat).length ∧ Alog.Own m' w0.heap.size 24 5 A6 n6 c6 (insCells (outU code k.toNat)) ∧ (∀ x ∈ obl A6, mX x = none) ∧ n7 = (plU code k.toNat).length ∧ Alog.Own m' w0.heap.size 3 1 A7 n7 c7 (intCells .i64 (plU code k.toNat)) ∧ ∀ x ∈ obl A7, mX x = none)
      (fun A6 n6 c6 A7 n7 c7 m' => mX.le m' ∧ n6 = (outU code (mB code)).length ∧ Alog.Own m' w0.heap.size 24 5 A6 n6 c6 (insCells (outU code (mB code))) ∧ (∀ x ∈ obl A6, mX x = none) ∧ n7 = (plU code (mB code)).length ∧ Alog.Own m' w0.heap.size 3 1 A7 n7 c7 (intCells .i64 (plU code (mB code))) ∧ ∀ x ∈ obl A7, mX x = none) (mB code) rfl rfl rfl rfl rfl
      ⟨AM.le_refl _, by omega, by omega, by omega, rfl, Alog.Own.nil _ _ _ _, by simp [obl], rfl, Alog.Own.nil _ _ _ _, by simp [obl]⟩ ?_ ?_
    · rintro q σ A6 n6 c6 A7 n7 c7 k m' ⟨l', k0, k1, hq, rfl, o6, f6, rfl, o7, f7⟩
      have wk : IntKind.wrap .i64 (k + 1) = k + 1 := wrap_s (by omega) (by omega)
      have ek : (k + 1).toNat = k.toNat + 1 := by omega
      have hul := outU_le (code := code) (j := k.toNat) (by omega)
      rw [wk]
      refine ⟨rfl, rfl, bcP (fun hlt => ⟨rfl, ?_⟩) (fun hlt => ?_)⟩
      · have hkn : k.toNat < mB code := by omega
        have hnx := nx_in hkn
        have hbk := blkI_len hkn
        have hplen := plU_len code k.toNat
        intro b9 hb9 hn9
        refine awp_mono _ _ _ _ ?_ (snocIF l' o7 f7 (by omega) ((outU code k.toNat).length : Int) (by decide) o6 (K := fun A n c m12 => n = (plU code k.toNat ++ [((outU code k.toNat).length : Int)]).length ∧ mX.le m12 ∧ Alog.Own m12 w0.heap.size 3 1 A n c (intCells .i64 (plU code k.toNat ++ [((outU code k.toNat).length : Int)])) ∧ (∀ x ∈ obl A, mX x = none) ∧ Alog.Own m12 w0.heap.size 24 5 A6 (outU code k.toNat).length c6 (insCells (outU code k.toNat))) (fun A c m h1 h2 h3 h4 => ⟨rfl, h1, h2, h3, h4⟩) b9 hb9 hn9)
        rintro v m12 ⟨A13, n14, c15, rfl, rfl, l12, o13, n13, o6b⟩
        refine ⟨_, _, _, rfl, ?_⟩
        have hps := plU_succ code k.toNat
        rw [← hps] at o13 ⊢
        have r12 := r5.le l12
        obtain ⟨ad, hA, hc⟩ := r12.ex (by omega)
        refine ⟨⟨k0, by omega⟩, ?_⟩
        have g1 := cell_k hc (i := k) k0 (by omega)
        have g2 := cell_k hc (i := k + 1) (by omega) (by omega)
        rw [hget _ (by omega)] at g1
        rw [hget _ (by omega), ek] at g2
        subst hA
        rw [nilO_some]
        refine ⟨_, g1, rfl, ⟨by omega, by omega⟩, ?_⟩
        rw [nilO_some, ek]
        refine ⟨_, g2, by omega, hnx.1, by omega, by omega, ?_⟩
        have rds := ((rdX.le l12)).insSlice (nx code k.toNat).toNat (nx code (k.toNat + 1)).toNat (by omega) (by omega) hc0
        have ebl : (nx code (k.toNat + 1)).toNat - (nx code k.toNat).toNat = (blkI code k.toNat).length := by omega
        change Reads m12 5 _ ((nx code (k.toNat + 1)).toNat - (nx code k.toNat).toNat) (insCells (blkI code k.toNat)) at rds
        rw [ebl] at rds ⊢
        have hll := layP_len (blkI code k.toNat)
        refine CallsA.mono (refLay_spec w0 m12 _ _ (blkI code k.toNat) (by omega) (by omega) rds) ?_
        rintro r m24 ⟨⟨A20, c22, rfl, o20, n20⟩, l24⟩
        refine ⟨_, _, _, rfl, ?_⟩
        obtain ⟨mY, lY, nY, eY, kY, gY⟩ := own_rest (o6b.le l24)
        have oYp := kY (by decide) (o13.le l24)
        have oYo := (kY (by decide) o20).reads
        have lXY := gY mX (AM.le_trans l12 l24) f6
        have rdY := (rdX.le lXY).insSlice (nx code k.toNat).toNat (nx code (k.toNat + 1)).toNat (by omega) (by omega) hc0
        change Reads mY 5 _ ((nx code (k.toNat + 1)).toNat - (nx code k.toNat).toNat) (insCells (blkI code k.toNat)) at rdY
        rw [ebl] at rdY
        have hout : outU code (k.toNat + 1) = outU code k.toNat ++ pickP (blkI code k.toNat) (layP (blkI code k.toNat)) := rfl
        have hin := layP_in (blkI code k.toNat)
        generalize layP (blkI code k.toNat) = ol at *
        refine vl44_11111010010011110 w0 m24 _ R q _ _ A0 code.length c0 (some ad) h.length c5 A13 (plU code (k.toNat + 1)).length c15 k _ (blkI code k.toNat).length _ A20 ol.length c22 ol.length A6 (outU code k.toNat).length c6 0
          (fun q2 B n3 c3 j m' => mY.le m' ∧ 0 ≤ j ∧ j ≤ ol.length ∧ (q2 : Int) = ol.length - j ∧ n3 = (outU code k.toNat ++ pickP (blkI code k.toNat) (ol.take j.toNat)).length ∧ Alog.Own m' w0.heap.size 24 5 B n3 c3 (insCells (outU code k.toNat ++ pickP (blkI code k.toNat) (ol.take j.toNat))) ∧ ∀ x ∈ obl B, mY x = none)
          (fun B n3 c3 m' => mY.le m' ∧ n3 = (outU code (k.toNat + 1)).length ∧ Alog.Own m' w0.heap.size 24 5 B n3 c3 (insCells (outU code (k.toNat + 1))) ∧ ∀ x ∈ obl B, mY x = none) ol.length rfl rfl rfl rfl rfl rfl rfl rfl rfl
          ⟨lY, by omega, by omega, by omega, by simp [pickP], by simpa [pickP] using o6b.le l24, nY⟩ ?_ ?_
        · rintro q2 σ B n3 c3 j m6 ⟨l6, j0, j1, hq2, rfl, ob, nb⟩
          refine ⟨rfl, bcP (fun hlt2 => ⟨⟨j0, hlt2⟩, ?_⟩) (fun hlt2 => ?_)⟩
          · obtain ⟨ad2, hA2, hc2⟩ := (oYo.le l6).ex (by omega)
            subst hA2
            rw [nilO_some]
            have wj : IntKind.wrap .i64 (j + 1) = j + 1 := wrap_s (by omega) (by omega)
            have htk : ol.take (j + 1).toNat = ol.take j.toNat ++ [ol.getD j.toNat 0] := take_stepI j0 hlt2
            have hx := hin (ol.getD j.toNat 0) (by simp [List.getD, show j.toNat < ol.length by omega])
            have hlen6 : (outU code k.toNat ++ pickP (blkI code k.toNat) (ol.take j.toNat)).length ≤ 100000 := by
              rw [List.length_append, pickP_len, List.length_take]; omega
            refine ⟨_, cell_k hc2 j0 hlt2, rfl, ?_⟩
            generalize ol.getD j.toNat 0 = x at htk hx ⊢
            have fin : ∀ (A' : Option Addr) (c' : Nat) (M : AM) (i : Ins), pickAt (blkI code k.toNat) x = i → mY.le M → Alog.Own M w0.heap.size 24 5 A' ((outU code k.toNat ++ pickP (blkI code k.toNat) (ol.take j.toNat)).length + 1) c' (insCells ((outU code k.toNat ++ pickP (blkI code k.toNat) (ol.take j.toNat)) ++ [i])) → (∀ y ∈ obl A', mY y = none) → ∃ n' : Nat, n' < q2 ∧ (mY.le M ∧ 0 ≤ j + 1 ∧ j + 1 ≤ ol.length ∧ (n' : Int) = ol.length - (j + 1) ∧ ((outU code k.toNat ++ pickP (blkI code k.toNat) (ol.take j.toNat)).length + 1) = (outU code k.toNat ++ pickP (blkI code k.toNat) (ol.take (j + 1).toNat)).length ∧ Alog.Own M w0.heap.size 24 5 A' ((outU code k.toNat ++ pickP (blkI code k.toNat) (ol.take j.toNat)).length + 1) c' (insCells (outU code k.toNat ++ pickP (blkI code k.toNat) (ol.take (j + 1).toNat))) ∧ ∀ y ∈ obl A', mY y = none) := by
              intro A' c' M i hi h1 h2 h3
              have e : outU code k.toNat ++ pickP (blkI code k.toNat) (ol.take (j + 1).toNat) = (outU code k.toNat ++ pickP (blkI code k.toNat) (ol.take j.toNat)) ++ [i] := by rw [htk, ← hi]; simp [pickP]
              rw [e]
              exact ⟨q2 - 1, by omega, h1, by omega, by omega, by omega, by simp; omega, h2, h3⟩
            rw [wj]
            refine bcP (fun h1 => ⟨rfl, rfl, ?_⟩) (fun h1 => ?_)
            · refine snoc1 l6 ob nb (by omega) nop (K := fun A n c m11 => _) ?_
              intro A' c' M h2 h3 h4
              (repeat (refine And.intro (Eq.refl _) ?_))
              exact fin A' c' M nop (by unfold pickAt; rw [if_neg (by omega)]) h2 h3 h4
            · refine ldAt (rdY.le l6) rfl (by omega) (by omega) fun a => ⟨rfl, ?_⟩
              refine snoc1 l6 ob nb (by omega) (cAt (blkI code k.toNat) x) (K := fun A n c m11 => _) ?_
              intro A' c' M h2 h3 h4
              (repeat (refine And.intro (Eq.refl _) ?_))
              exact fin A' c' M _ (by unfold pickAt; rw [if_pos ⟨by omega, by omega⟩]) h2 h3 h4
          · (repeat (refine And.intro (Eq.refl _) ?_))
            rw [show j.toNat = ol.length by omega, List.take_of_length_le (Nat.le_refl _), ← hout] at ob ⊢
            exact ⟨l6, rfl, ob, nb⟩
        · rintro σ B n3 c3 m6 ⟨l6, rfl, ob, nb⟩
          (repeat (refine And.intro (Eq.refl _) ?_))
          rw [wk, ek]
          exact ⟨q - 1, by omega, AM.le_trans lXY l6, by omega, by omega, by omega, rfl, ob, fun y hy => AM.le_none lXY (nb y hy), rfl, oYp.le l6, n13⟩
      · (repeat (refine And.intro (Eq.refl _) ?_))
        rw [show k.toNat = mB code by omega] at o6 o7 ⊢
        exact ⟨l', rfl, o6, f6, rfl, o7, f7⟩
    · rintro σ A6 n6 c6 A7 n7 c7 m' ⟨l', rfl, o6, f6, rfl, o7, f7⟩
      have hul := outU_le (code := code) (j := mB code) (Nat.le_refl _)
      have hplen := plU_len code (mB code)
      refine ⟨rfl, ?_⟩
      intro b9 hb9 hn9
      refine awp_mono _ _ _ _ ?_ (snocIF l' o7 f7 (by omega) ((outU code (mB code)).length : Int) (by decide) o6 (K := fun A n c m12 => n = (plU code (mB code) ++ [((outU code (mB code)).length : Int)]).length ∧ mX.le m12 ∧ Alog.Own m12 w0.heap.size 3 1 A n c (intCells .i64 (plU code (mB code) ++ [((outU code (mB code)).length : Int)])) ∧ (∀ x ∈ obl A, mX x = none) ∧ Alog.Own m12 w0.heap.size 24 5 A6 (outU code (mB code)).length c6 (insCells (outU code (mB code)))) (fun A c m h1 h2 h3 h4 => ⟨rfl, h1, h2, h3, h4⟩) b9 hb9 hn9)
      rintro v m28 ⟨A13, n14, c15, rfl, rfl, l28, o13, n13, o6b⟩
      refine ⟨_, _, _, rfl, ?_⟩
      have hps := plU_succ code (mB code)
      rw [← hps] at o13 ⊢
      have hre : reorgP code = if (outU code (mB code)).length > 4096 then ([], [], 4) else match posF code (outU code (mB code)).length with
        | none => ([], [], (3 : Int))
        | some out => (out, plU code (mB code + 1), 0) := by unfold reorgP; rw [if_neg (by rw [hf]; simp)]; rfl
      refine ⟨rfl, bcP (fun hbig => bad m28 4 (AM.le_trans lX l28) (by rw [hre, if_pos (by omega)])) fun hbig => ?_⟩
      rw [if_neg (by omega)] at hre
      obtain ⟨mb, lb, nb, eb, kb, gb⟩ := own_rest o6b
      have oPb := kb (by decide) o13
      have lXb := gb mX l28 f6
      have rPb := oPb.reads
      have rHb := r5.le lXb
      have rdb := rdX.le lXb
      have hplen1 := plU_len code (mB code + 1)
      have hpos := fun k out => posF_len (code := code) (k := k) (out := out)
      have hinit : posF code (outU code 0).length = some (outU code (mB code)) := rfl
      have lmb := AM.le_trans lX lXb
      refine vl44_11111111010 w0 m28 _ R A0 code.length c0 A5 h.length c5 A6 (outU code (mB code)).length c6 A13 (plU code (mB code + 1)).length c15 0
        (fun q j m' => ∃ cur, mb.le m' ∧ posF code (outU code j.toNat).length = some cur ∧ Alog.Own m' w0.heap.size 24 5 A6 cur.length c6 (insCells cur) ∧ 0 ≤ j ∧ j ≤ mB code ∧ (q : Int) = mB code - j)
        (fun m' => ∃ cur, mb.le m' ∧ posF code (outU code (mB code)).length = some cur ∧ Alog.Own m' w0.heap.size 24 5 A6 cur.length c6 (insCells cur)) (mB code) rfl rfl rfl rfl rfl
        ⟨outU code (mB code), lb, hinit, o6b, by omega, by omega, by omega⟩ ?_ ?_
      · rintro q σ j M ⟨cur, lM, hp, ow, j0, j1, hq⟩
        have hcl := hpos _ _ hp
        have wj : IntKind.wrap .i64 (j + 1) = j + 1 := wrap_s (by omega) (by omega)
        have ej : (j + 1).toNat = j.toNat + 1 := by omega
        rw [wj]
        refine ⟨rfl, rfl, bcP (fun hlt => ⟨rfl, ⟨by omega, by omega⟩, ?_⟩) (fun hlt => ?_)⟩
        · have hjn : j.toNat < mB code := by omega
          have hnx := nx_in hjn
          obtain ⟨ad, hA, hc⟩ := (rHb.le lM).ex (by omega)
          subst hA
          rw [nilO_some]
          have g2 := cell_k hc (i := j + 1) (by omega) (by omega)
          rw [hget _ (by omega), ej] at g2
          rw [ej]
          refine ⟨_, g2, ?_⟩
          have hold : IntKind.wrap .i64 (nx code (j.toNat + 1) - 1) = nx code (j.toNat + 1) - 1 := wrap_s (by omega) (by omega)
          rw [hold]
          have hno := fun ht => posF_no hjn ht
          have hyes := fun ht => posF_yes hjn ht hp
          have hat := fun hg => atP_lt hjn hg
          have hto := to_nx hf (k := (nx code (j.toNat + 1) - 1).toNat) (by omega)
          rw [show (((nx code (j.toNat + 1) - 1).toNat : Nat) : Int) = nx code (j.toNat + 1) - 1 by omega] at hto
          generalize hoe : nx code (j.toNat + 1) - 1 = old at *
          refine ⟨rfl, ldAt (rdb.le lM) rfl (by omega) (by omega) fun a => ?_⟩
          refine CallsA.mono (refTarget_e w0 M (cAt code old) old) ?_
          rintro r M2 ⟨rfl, hM2⟩
          replace hM2 := hM2.symm; subst hM2
          refine ⟨_, _, rfl, ?_⟩
          cases ht : tok (cAt code old) with
          | false =>
            refine bcT ?_
            (repeat (refine And.intro (Eq.refl _) ?_))
            exact ⟨q - 1, by omega, cur, lM, by rw [hno ht]; exact hp, ow, by omega, by omega, by omega⟩
          | true =>
            obtain ⟨hci, hnext⟩ := hyes ht
            obtain ⟨a1, a2, _, _⟩ := hat (tok_goes ht)
            obtain ⟨qq, hqq, htq⟩ := hto ht
            have hop := tok_op ht
            have hol := outU_le (code := code) (j := j.toNat + 1) (by omega)
            refine bcF ⟨rfl, ⟨by omega, by omega⟩, ?_⟩
            obtain ⟨adp, hAp, hcp⟩ := (rPb.le lM).ex (by omega)
            rw [hAp, nilO_some]
            have gp := cell_k hcp (i := j + 1) (by omega) (by omega)
            rw [plU_at code (by omega), ej] at gp
            refine ⟨_, gp, ?_⟩
            have hP : IntKind.wrap .i64 (((outU code (j.toNat + 1)).length : Int) - 2) = ((atP code j.toNat : Nat) : Int) := by rw [wrap_s (by omega) (by omega)]; omega
            rw [hP]
            rw [← hAp]
            have hnew : (plU code (mB code + 1)).getD (whP h (tgt (cAt code old) old)).toNat 0 = anewP code (tgt (cAt code old) old) := by
              rw [htq, hwh qq hqq, anewP_at hqq, show ((qq : Nat) : Int).toNat = qq by omega, plU_at code (by omega)]
            have hmem : tgt (cAt code old) old ∈ h := by
              rw [htq, ← hget qq hqq]
              have : qq < h.length := by omega
              simp [List.getD, this]
            refine ⟨rfl, callI (refAnew_e w0 M (some ad) c5 h (by omega) (rHb.le lM) A13 c15 (plU code (mB code + 1)) (by omega) (rPb.le lM) _ hmem) ?_⟩
            rw [hnew]
            have hPlt : atP code j.toNat < cur.length := by
              obtain ⟨t, ht⟩ := outU_pre code (j.toNat + 1) (mB code - (j.toNat + 1))
              rw [show j.toNat + 1 + (mB code - (j.toNat + 1)) = mB code by omega] at ht
              have := congrArg List.length ht
              rw [List.length_append] at this
              omega
            generalize hPe : atP code j.toNat = P at *
            generalize hto2 : tgt (cAt code old) old = to at *
            generalize cAt code old = ci at *
            refine ⟨⟨by omega, by omega⟩, ?_⟩
            obtain ⟨aA, hA6, _⟩ := ow.ex (by omega)
            subst hA6
            rw [nilO_some, show ((P : Nat) : Int).toNat = P by omega]
            refine storeImm ow hPlt (anewP code to) fun g cur1 hg ho => ?_
            rw [getD_cAt, hci] at ho
            have lM3 := le_upd_fresh (o := .cells cur1 24) lM (nb g (by rw [hg]; simp [obl]))
            generalize M.upd g (.cells cur1 24) = M3 at ho lM3 ⊢
            have hlen1 : (cur.set P { ci with imm := anewP code to }).length = cur.length := List.length_set
            have hat1 : cAt (cur.set P { ci with imm := anewP code to }) P = { ci with imm := anewP code to } := cAt_set hPlt _
            have hset2 : ∀ i : Ins, (cur.set P { ci with imm := anewP code to }).set P i = cur.set P i := fun i => List.set_set ..
            generalize cur.set P { ci with imm := anewP code to } = c1 at ho hlen1 hat1 hset2 ⊢
            have hPl1 : P < c1.length := by omega
            obtain ⟨aA', hA', hcc⟩ := ho.ex (by omega)
            injection hA' with hA'
            subst hA'
            have hcI := hcc.ins (k := P) (x := cAt c1 P) (by
              unfold cAt
              rw [show ((P : Nat) : Int).toNat = P by omega]
              simp [List.getD, hPl1])
            rw [hat1] at hcI
            refine ⟨⟨by omega, by omega⟩, ?_⟩
            rw [nilO_some]
            refine ⟨_, hcI.1, rfl, ?_⟩
            have fin : ∀ (M5 : AM) (i2 : Ins), i2 = patI code P ci to → mb.le M5 → Alog.Own M5 w0.heap.size 24 5 (some aA) (cur.set P i2).length c6 (insCells (cur.set P i2)) → rightR i2 = true → ∃ n' : Nat, n' < q ∧ ∃ cur, mb.le M5 ∧ posF code (outU code (j.toNat + 1)).length = some cur ∧ Alog.Own M5 w0.heap.size 24 5 (some aA) cur.length c6 (insCells cur) ∧ 0 ≤ j + 1 ∧ j + 1 ≤ mB code ∧ (n' : Int) = mB code - (j + 1) := by
              intro M5 i2 hi h1 h2 h3
              rw [← hi, h3, if_pos rfl] at hnext
              exact ⟨q - 1, by omega, _, h1, hnext, h2, by omega, by omega, by omega⟩
            have err : ∀ (M5 : AM) (i2 : Ins), i2 = patI code P ci to → mb.le M5 → rightR i2 = false → RetP R (.tuple #[.slice none 0 0, .slice none 0 0, .int .i64 3]) M5 := by
              intro M5 i2 hi h1 h3
              rw [← hi, h3, if_neg (by simp)] at hnext
              refine bad M5 3 (AM.le_trans lmb h1) ?_
              obtain ⟨t, ht⟩ := outU_pre code (j.toNat + 1) (mB code - (j.toNat + 1))
              rw [show j.toNat + 1 + (mB code - (j.toNat + 1)) = mB code by omega] at ht
              have h4 := congrArg List.length ht
              rw [List.length_append] at h4
              have := posF_none hnext ((outU code (mB code)).length - (outU code (j.toNat + 1)).length)
              rw [show (outU code (j.toNat + 1)).length + ((outU code (mB code)).length - (outU code (j.toNat + 1)).length) = (outU code (mB code)).length by omega] at this
              rw [hre, this]
            refine bcP (fun h17 => ⟨⟨by omega, by omega⟩, ?_⟩) (fun h17 => ?_)
            · rw [nilO_some]
              have h17 : ci.op < 17 := h17
              have wP : IntKind.wrap .i64 ((P : Int) + 1) = P + 1 := wrap_s (by omega) (by omega)
              refine ⟨_, hcI.2.2.2.2, rfl, rfl, ⟨by omega, by omega⟩, ?_⟩
              rw [nilO_some]
              refine storeImm ho hPl1 _ fun g2 cur2 hg2 ho2 => ?_
              rw [getD_cAt, hat1, hset2] at ho2
              have hnb2 : mb g2 = none := nb g2 (by rw [hg2]; simp [obl])
              have lM4 := le_upd_fresh (o := .cells cur2 24) lM3 hnb2
              generalize M3.upd g2 (.cells cur2 24) = M4 at ho2 lM4 ⊢
              have hi2 : ({ ci with imm := IntKind.wrap .i64 (anewP code to - IntKind.wrap .i64 ((P : Int) + 1)) } : Ins) = patI code P ci to := by
                unfold patI w64
                rw [if_pos (by omega)]
              have hat2 := cAt_set hPlt ({ ci with imm := IntKind.wrap .i64 (anewP code to - IntKind.wrap .i64 ((P : Int) + 1)) } : Ins)
              have hl2 : (cur.set P ({ ci with imm := IntKind.wrap .i64 (anewP code to - IntKind.wrap .i64 ((P : Int) + 1)) } : Ins)).length = (outU code (mB code)).length := by rw [List.length_set]; exact hcl
              refine ldAt (n := (outU code (mB code)).length) (by rw [← hl2]; exact ho2.reads) hl2 (by omega) (by omega) fun a => ?_
              refine callB (refRight_e w0 M4 _) ?_
              rw [hat2]
              cases hr : rightR ({ ci with imm := IntKind.wrap .i64 (anewP code to - IntKind.wrap .i64 ((P : Int) + 1)) } : Ins) with
              | false => exact bcT (err M4 _ hi2 lM4 hr)
              | true =>
                refine bcF ?_
                (repeat (refine And.intro (Eq.refl _) ?_))
                exact fin M4 _ hi2 lM4 ho2 hr
            · have h17 : ¬ ci.op < 17 := h17
              have hi2 : ({ ci with imm := anewP code to } : Ins) = patI code P ci to := by
                unfold patI
                rw [if_neg (by omega)]
              have hl1 : c1.length = (outU code (mB code)).length := by omega
              have hc1 : c1 = cur.set P { ci with imm := anewP code to } := by
                have := hset2 { ci with imm := anewP code to }
                rw [← this]
                apply List.ext_getElem
                · rw [List.length_set]
                · intro i h1 h2
                  rw [List.getElem_set]
                  split
                  · rename_i e
                    subst e
                    rw [← hat1]
                    unfold cAt
                    simp [List.getD, h1]
                  · rfl
              refine ldAt (n := (outU code (mB code)).length) (by rw [← hl1]; exact ho.reads) hl1 (by omega) (by omega) fun a => ?_
              refine callB (refRight_e w0 M3 _) ?_
              rw [hat1]
              cases hr : rightR ({ ci with imm := anewP code to } : Ins) with
              | false => exact bcT (err M3 _ hi2 lM3 hr)
              | true =>
                refine bcF ?_
                (repeat (refine And.intro (Eq.refl _) ?_))
                exact fin M3 _ hi2 lM3 (by rw [← hc1]; exact ho) hr
        · (repeat (refine And.intro (Eq.refl _) ?_))
          rw [show j.toNat = mB code by omega] at hp
          exact ⟨cur, lM, hp, ow⟩
      · rintro σ M ⟨cur, lM, hp, ow⟩
        have hcl := hpos _ _ hp
        rw [hp] at hre
        rw [← hR, hre, ← hcl]
        exact retP_of ⟨A6, c6, A13, c15, rfl, ow, oPb.le lM, fun y hy => AM.le_none lX (f6 y hy), fun y hy => AM.le_none lX (n13 y hy), AM.le_trans lmb lM⟩
end Go.Proofs.Ytkfemiloehkmhaa.S

