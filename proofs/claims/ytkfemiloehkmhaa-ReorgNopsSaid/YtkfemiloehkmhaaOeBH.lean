/- Ytkfemiloehkmhaa: a text of our own, by an AI agent: OeBH -/
import Derived.Test.YtkfemiloehkmhaaLyBH
set_option linter.unusedSimpArgs false
set_option linter.unusedVariables false
set_option maxRecDepth 100000
namespace Go.Proofs.Ytkfemiloehkmhaa.S
open Go Go.RowKit Go.Alog

/-! What an order keeps: plain laws. -/
def nnL (o : List Int) : List Int := o.filter (fun x => decide (0 ≤ x))
def idL (n : Nat) : List Int := (List.range n).map (fun k : Nat => (k : Int))
theorem nnL_app (a b : List Int) : nnL (a ++ b) = nnL a ++ nnL b := List.filter_append ..
theorem nnL_neg : nnL [-1] = [] := rfl
theorem nnL_new {x : Int} (h : 0 ≤ x) : nnL [x] = [x] := by unfold nnL; simp [h]
theorem idL_mem {n : Nat} {x : Int} : x ∈ idL n ↔ 0 ≤ x ∧ x < n := by
  unfold idL
  rw [List.mem_map]
  constructor
  · rintro ⟨k, hk, rfl⟩
    rw [List.mem_range] at hk; omega
  · rintro ⟨h0, h1⟩
    exact ⟨x.toNat, List.mem_range.2 (by omega), by omega⟩
theorem idL_nodup (n : Nat) : (idL n).Nodup := by
  unfold idL List.Nodup
  rw [List.pairwise_map]
  exact List.Pairwise.imp (fun h e => h (by omega)) (List.nodup_range (n := n))
theorem ordP_nodup (l : List Ins) : (nnL (ordP l)).Nodup := by
  refine ordP_ind (fun out => (nnL out).Nodup) (by unfold nnL; simp) fun out hl h => ?_
  rw [nnL_app]
  rcases next_cases l out with ⟨_, e⟩ | ⟨_, hm⟩
  · rw [e, nnL_neg, List.append_nil]; exact h
  · obtain ⟨h0, h1, h2⟩ := ready_new hm
    rw [nnL_new h0, List.nodup_append]
    refine ⟨h, by simp, fun a ha b hb => ?_⟩
    rw [List.mem_singleton] at hb
    subst hb
    rintro rfl
    exact h2 (List.mem_filter.1 ha).1
theorem ordP_perm (l : List Ins) : (nnL (ordP l)).Perm (idL l.length) := by
  rw [List.perm_ext_iff_of_nodup (ordP_nodup l) (idL_nodup _)]
  intro x
  rw [idL_mem]
  unfold nnL
  rw [List.mem_filter, decide_eq_true_eq]
  constructor
  · rintro ⟨h1, h2⟩
    have := ordP_in l x h1; omega
  · rintro ⟨h0, h1⟩
    have := ordP_all l (q := x.toNat) (by omega)
    rw [show ((x.toNat : Nat) : Int) = x by omega] at this
    exact ⟨this, h0⟩

/-- Where the first of a number stands, of a list whose numbers stand once. -/
theorem nn_once {o : List Int} (h : (nnL o).Nodup) : ∀ i j : Nat, i < j → j < o.length → o.getD i 0 = o.getD j 0 → o.getD i 0 < 0 := by
  induction o with
  | nil => intro i j _ hj; simp at hj
  | cons x o ih =>
    intro i j hij hj he
    have hx : nnL (x :: o) = if 0 ≤ x then x :: nnL o else nnL o := by
      unfold nnL; rw [List.filter_cons]; simp
    have ho : (nnL o).Nodup := by
      rw [hx] at h
      split at h
      · exact (List.nodup_cons.1 h).2
      · exact h
    cases j with
    | zero => omega
    | succ j =>
      rw [List.length_cons] at hj
      cases i with
      | zero =>
        refine Classical.byContradiction fun hn => ?_
        have he' : x = o.getD j 0 := he
        have hn' : ¬ x < 0 := hn
        rw [hx, if_pos (by omega)] at h
        refine (List.nodup_cons.1 h).1 (List.mem_filter.2 ⟨?_, decide_eq_true (by omega)⟩)
        rw [he']
        simp [List.getD, show j < o.length by omega]
      | succ i => exact ih ho i j (by omega) (by omega) he
end Go.Proofs.Ytkfemiloehkmhaa.S

set_option linter.unusedSimpArgs false
set_option linter.unusedVariables false
set_option maxRecDepth 100000
namespace Go.Proofs.Ytkfemiloehkmhaa.S
open Go Go.RowKit Go.Alog

/-! Free places, and laid lists. -/
theorem map_cAt (l : List Ins) : (idL l.length).map (cAt l) = l := by
  apply List.ext_getElem
  · simp [idL]
  · intro i h1 h2
    simp [idL, cAt, List.getD, h2]
theorem map_pick (l : List Ins) : (idL l.length).map (pickAt l) = l := by
  have : (idL l.length).map (pickAt l) = (idL l.length).map (cAt l) := by
    refine List.map_congr_left fun x hx => ?_
    have := idL_mem.1 hx
    unfold pickAt; rw [if_pos this]
  rw [this, map_cAt]
/-- Where none must stay ahead, the order is as it was. -/
def FreeL (l : List Ins) : Prop := ∀ i j : Nat, i < j → j < l.length → farP (cAt l i) (cAt l j) ≤ 0
theorem hgt_free (i : Ins) : ∀ (r : List Ins) (hs : List Int), (∀ j ∈ r, farP i j ≤ 0) → hgt i r hs = 0
  | [], hs, _ => by cases hs <;> rfl
  | j :: r, [], _ => rfl
  | j :: r, h :: hs, hf => by
    unfold hgt
    rw [hgt_free i r hs (fun k hk => hf k (List.mem_cons_of_mem _ hk)), if_neg (by have := hf j (List.mem_cons_self ..); omega)]
    rfl
theorem heights_free : ∀ {l : List Ins}, FreeL l → ∀ x ∈ heightsP l, x = 0
  | [], _, x, hx => by simp [heightsP] at hx
  | i :: r, h, x, hx => by
    unfold heightsP at hx
    rcases List.mem_cons.1 hx with rfl | hx
    · refine hgt_free i r _ fun j hj => ?_
      obtain ⟨k, hk, rfl⟩ := List.mem_iff_getElem.1 hj
      have := h 0 (k + 1) (by omega) (by simp; omega)
      simpa [cAt, List.getD, hk] using this
    · refine heights_free (l := r) (fun a b hab hb => ?_) x hx
      have := h (a + 1) (b + 1) (by omega) (by simp; omega)
      have e1 : cAt (i :: r) ((a + 1 : Nat) : Int) = cAt r a := by simp [cAt]
      have e2 : cAt (i :: r) ((b + 1 : Nat) : Int) = cAt r b := by simp [cAt]
      rwa [e1, e2] at this
theorem least_first (x : Int) (zs : List Int) : leastL (fun _ _ => false) (x :: zs) = (x, true) := by
  unfold leastL
  rw [List.foldl_cons]
  have : ∀ zs : List Int, zs.foldl (fun (bf : Int × Bool) y => if !bf.2 || false then (y, true) else bf) (x, true) = (x, true) := by
    intro zs
    induction zs with
    | nil => rfl
    | cons y zs ih => rw [List.foldl_cons]; exact ih
  exact this zs
theorem idL_succ (n : Nat) : idL (n + 1) = idL n ++ [(n : Int)] := by unfold idL; rw [List.range_succ, List.map_append]; rfl
theorem idL_len (n : Nat) : (idL n).length = n := by simp [idL]
theorem ready_free {l : List Ins} (h : FreeL l) (k j : Nat) (hj : j < l.length) : readyP l (idL k) j = decide (k ≤ j) := by
  by_cases hk : k ≤ j
  · rw [decide_eq_true hk]
    refine readyP_t ?_ fun i hi => ?_
    · rw [whP_neg.2 (fun hm => by have := idL_mem.1 hm; omega)]; omega
    · unfold bz
      rw [decide_eq_false (by have := h i j hi hj; omega), Bool.false_and]
  · rw [decide_eq_false hk]
    refine readyP_wh ?_
    have := whP_in (idL k) j
    have h2 : whP (idL k) j ≠ -1 := fun e => whP_neg.1 e (idL_mem.2 ⟨by omega, by omega⟩)
    omega
theorem rdyL_free {l : List Ins} (h : FreeL l) (k : Nat) (hk : k < l.length) : ∃ r, rdyL l (idL k) l.length = (k : Int) :: r := by
  have key : ∀ n, n ≤ l.length → (n ≤ k → rdyL l (idL k) n = []) ∧ (k < n → ∃ r, rdyL l (idL k) n = (k : Int) :: r) := by
    intro n
    induction n with
    | zero => exact fun _ => ⟨fun _ => rfl, fun h => by omega⟩
    | succ n ih =>
      intro hn
      obtain ⟨h1, h2⟩ := ih (by omega)
      rw [rdyL_succ, ready_free h k n (by omega)]
      refine ⟨fun hk => ?_, fun hk => ?_⟩
      · rw [h1 (by omega), decide_eq_false (by omega)]; rfl
      · by_cases e : n = k
        · subst e
          rw [h1 (Nat.le_refl _), decide_eq_true (Nat.le_refl _)]
          exact ⟨[], rfl⟩
        · obtain ⟨r, hr⟩ := h2 (by omega)
          rw [hr]
          exact ⟨r ++ _, rfl⟩
  exact (key l.length (Nat.le_refl _)).2 hk
theorem next_free {l : List Ins} (h : FreeL l) (k : Nat) (hk : k < l.length) : nextP l (idL k) = k := by
  obtain ⟨r, hr⟩ := rdyL_free h k hk
  have hz : ∀ n : Nat, (heightsP l).getD n 0 = 0 := fun n => by
    by_cases hn : n < (heightsP l).length
    · have : (heightsP l).getD n 0 ∈ heightsP l := by simp [List.getD, hn]
      exact heights_free h _ this
    · simp [List.getD, Nat.le_of_not_lt hn]
  have hlt : ltH l = fun _ _ => false := by
    funext a b
    unfold ltH
    rw [hz, hz]; rfl
  unfold nextP
  rw [hr, hlt, least_first]; rfl
theorem ordP_freeL {l : List Ins} (h : FreeL l) : ordP l = idL l.length := by
  have key : ∃ k, k ≤ l.length ∧ ordP l = idL k := by
    refine ordP_ind (fun out => ∃ k, k ≤ l.length ∧ out = idL k) ⟨0, by omega, rfl⟩ ?_
    rintro out hl ⟨k, hk, rfl⟩
    have hk' : k < l.length := by
      refine Nat.lt_of_le_of_ne hk fun e => hl ?_
      subst e
      unfold leftP
      rw [covN_all.2 fun q hq => idL_mem.2 ⟨by omega, by omega⟩]; omega
    rw [next_free h k hk', ← idL_succ]
    exact ⟨k + 1, hk', rfl⟩
  obtain ⟨k, hk, e⟩ := key
  rw [e]
  by_cases hlt : k < l.length
  · have := ordP_all l hlt
    rw [e] at this
    have := idL_mem.1 this; omega
  · rw [show k = l.length by omega]

/-! What is laid. -/
theorem padL_nn (l : List Ins) (o : List Int) (last : Ins) : nnL (padL l o last) = nnL o := by
  unfold padL
  split
  · rfl
  · rw [nnL_app, nnL_neg, List.append_nil]
theorem padL_len (l : List Ins) (o : List Int) (last : Ins) : o.length ≤ (padL l o last).length ∧ (padL l o last).length ≤ o.length + 1 := by
  unfold padL
  split
  · omega
  · rw [List.length_append, List.length_singleton]; omega
theorem idL_pred {n : Nat} (h : 0 < n) : idL n = idL (n - 1) ++ [(n : Int) - 1] := by
  have := idL_succ (n - 1)
  rw [show n - 1 + 1 = n by omega] at this
  rw [this, show ((n - 1 : Nat) : Int) = (n : Int) - 1 by omega]
theorem split_last {o : List Int} (h : o ≠ []) : o = o.take (o.length - 1) ++ [o.getD (o.length - 1) 0] := by
  have hp : 0 < o.length := by
    cases o with
    | nil => exact absurd rfl h
    | cons => simp
  apply List.ext_getElem
  · rw [List.length_append, List.length_take, List.length_singleton]; omega
  · intro i h1 h2
    by_cases e : i < o.length - 1
    · rw [List.getElem_append_left (by rw [List.length_take]; omega), List.getElem_take]
    · have : i = o.length - 1 := by omega
      subst this
      rw [List.getElem_append_right (by rw [List.length_take]; omega)]
      simp [List.getD, h1]
theorem layP_perm (l : List Ins) : (nnL (layP l)).Perm (idL l.length) := by
  unfold layP
  split
  · rename_i h; rw [h]; exact List.Perm.refl _
  · rename_i hne
    have hpos : 0 < l.length := by
      cases l with
      | nil => exact absurd rfl hne
      | cons => simp
    split
    · split
      · rw [nnL_app, nnL_neg, List.append_nil]; exact ordP_perm l
      · exact ordP_perm l
    · have hp := ordP_perm (l.take (l.length - 1))
      have etk : (l.take (l.length - 1)).length = l.length - 1 := by rw [List.length_take]; omega
      rw [etk] at hp
      rw [idL_pred hpos]
      split
      · rename_i hs
        have hlast := ordP_last (l.take (l.length - 1)) (y := (ordP (l.take (l.length - 1))).getD ((ordP (l.take (l.length - 1))).length - 1) 0) (by
          have hp : 0 < (ordP (l.take (l.length - 1))).length := by
            cases hh : ordP (l.take (l.length - 1)) with
            | nil => exact absurd hh hs.1
            | cons => simp
          exact last_get hp)
        have hsp := split_last hs.1
        generalize ordP (l.take (l.length - 1)) = o at hp hlast hsp hs ⊢
        have e : nnL o = nnL (o.take (o.length - 1)) ++ [o.getD (o.length - 1) 0] := by
          have h2 : nnL o = nnL (o.take (o.length - 1) ++ [o.getD (o.length - 1) 0]) := by rw [← hsp]
          rw [h2, nnL_app, nnL_new hlast]
        rw [e] at hp
        have e2 : nnL (o.take (o.length - 1) ++ [(l.length : Int) - 1, o.getD (o.length - 1) 0]) = nnL (o.take (o.length - 1)) ++ ([(l.length : Int) - 1] ++ [o.getD (o.length - 1) 0]) := by
          rw [nnL_app]
          congr 1
          show nnL ([(l.length : Int) - 1] ++ [o.getD (o.length - 1) 0]) = _
          rw [nnL_app, nnL_new hlast, nnL_new (by omega)]
        rw [e2]
        refine List.Perm.trans (List.Perm.append_left _ List.perm_append_comm) ?_
        rw [← List.append_assoc]
        exact List.Perm.append_right _ hp
      · have e2 : nnL (padL l (ordP (l.take (l.length - 1))) (lastI l) ++ [(l.length : Int) - 1, -1]) = nnL (ordP (l.take (l.length - 1))) ++ [(l.length : Int) - 1] := by
          rw [nnL_app, padL_nn]
          congr 1
          show nnL ([(l.length : Int) - 1] ++ [-1]) = _
          rw [nnL_app, nnL_new (by omega), nnL_neg, List.append_nil]
        rw [e2]
        exact List.Perm.append_right _ hp
theorem layP_len (l : List Ins) : (layP l).length ≤ 2 * l.length + 1 := by
  unfold layP
  split
  · simp
  · rename_i hne
    have hpos : 0 < l.length := by
      cases l with
      | nil => exact absurd rfl hne
      | cons => simp
    have h1 := ordP_len l
    have h2 := ordP_len (l.take (l.length - 1))
    have etk : (l.take (l.length - 1)).length = l.length - 1 := by rw [List.length_take]; omega
    rw [etk] at h2
    split
    · split
      · rw [List.length_append, List.length_singleton]; omega
      · omega
    · split
      · rw [List.length_append, List.length_take]; simp; omega
      · have := (padL_len l (ordP (l.take (l.length - 1))) (lastI l)).2
        rw [List.length_append]; simp; omega
theorem layP_ge (l : List Ins) : l.length ≤ (layP l).length := by
  have hp := (layP_perm l).length_eq
  rw [idL_len] at hp
  have : (nnL (layP l)).length ≤ (layP l).length := List.length_filter_le _ _
  omega
theorem layP_in (l : List Ins) : ∀ x ∈ layP l, x = -1 ∨ (0 ≤ x ∧ x < l.length) := by
  unfold layP
  split
  · simp
  · rename_i hne
    have hpos : 0 < l.length := by
      cases l with
      | nil => exact absurd rfl hne
      | cons => simp
    have h1 := ordP_in l
    have h2 := ordP_in (l.take (l.length - 1))
    have etk : (l.take (l.length - 1)).length = l.length - 1 := by rw [List.length_take]; omega
    rw [etk] at h2
    split
    · split
      · intro x hx
        rw [List.mem_append, List.mem_singleton] at hx
        rcases hx with hx | hx
        · exact h1 x hx
        · exact .inl hx
      · exact h1
    · split
      · rename_i hs
        have hm : (ordP (l.take (l.length - 1))).getD ((ordP (l.take (l.length - 1))).length - 1) 0 ∈ ordP (l.take (l.length - 1)) := by
          have hp : 0 < (ordP (l.take (l.length - 1))).length := by
            cases hh : ordP (l.take (l.length - 1)) with
            | nil => exact absurd hh hs.1
            | cons => simp
          simp [List.getD, show (ordP (l.take (l.length - 1))).length - 1 < (ordP (l.take (l.length - 1))).length by omega]
        intro x hx
        rw [List.mem_append] at hx
        rcases hx with hx | hx
        · have := h2 x (List.mem_of_mem_take hx); omega
        · simp only [List.mem_cons, List.not_mem_nil, or_false] at hx
          rcases hx with rfl | rfl
          · omega
          · have := h2 _ hm; omega
      · intro x hx
        rw [List.mem_append] at hx
        rcases hx with hx | hx
        · unfold padL at hx
          split at hx
          · have := h2 x hx; omega
          · rw [List.mem_append, List.mem_singleton] at hx
            rcases hx with hx | hx
            · have := h2 x hx; omega
            · omega
        · simp only [List.mem_cons, List.not_mem_nil, or_false] at hx
          omega
theorem layP_goes (l : List Ins) (hne : l ≠ []) (hg : goesP (lastI l) = true) : 1 < (layP l).length ∧ (layP l).getD ((layP l).length - 2) 0 = (l.length : Int) - 1 := by
  have snoc2 : ∀ (o : List Int) (y x : Int), 1 < (o ++ [y, x]).length ∧ (o ++ [y, x]).getD ((o ++ [y, x]).length - 2) 0 = y := fun o y x => by
    rw [List.length_append]
    refine ⟨by simp, ?_⟩
    simp [List.getD_eq_getElem?_getD]
  unfold layP
  rw [if_neg hne, if_neg (by rw [hg]; simp)]
  split
  · exact snoc2 _ _ _
  · exact snoc2 _ _ _

end Go.Proofs.Ytkfemiloehkmhaa.S

set_option linter.unusedSimpArgs false
set_option linter.unusedVariables false
set_option maxRecDepth 100000
namespace Go.Proofs.Ytkfemiloehkmhaa.S
open Go Go.RowKit Go.Alog Go.Proofs.Ytkfemiloehkmhaa.T Go.Proofs.Ytkfemiloehkmhaa.V

theorem ins_eq' (i j : Ins) : (i.op == j.op && (i.a == j.a && (i.b == j.b && (i.c == j.c && i.imm == j.imm)))) = decide (i = j) := by
  obtain ⟨a1, a2, a3, a4, a5⟩ := i
  obtain ⟨b1, b2, b3, b4, b5⟩ := j
  rw [Bool.eq_iff_iff]
  simp [Ins.mk.injEq]
theorem eqp_h (i j : Ins) : pval Try.prog (Op.equal 24 i.val j.val) = some (decide (i = j)) := by
  have h2 := eqIn_struct (P := Try.prog) (t := 24) (k := .i64) (xs := i.cells.toArray) (ys := j.cells.toArray) Try.underlying24 (by kernel_rfl) 9998 (fun f => match f.offset with | 0 => i.op == j.op | 1 => i.a == j.a | 2 => i.b == j.b | 3 => i.c == j.c | _ => i.imm == j.imm) (by
    intro f hf
    simp only [List.mem_cons, List.not_mem_nil, or_false] at hf
    rcases hf with rfl | rfl | rfl | rfl | rfl <;> exact ⟨by decide, Try.underlying3, _, _, rfl, rfl, rfl⟩)
  simp only [List.all_cons, List.all_nil, Bool.and_true, ins_eq'] at h2
  exact h2
theorem eqp_i (i j : Ins) : EqP Try.prog .eql 24 i.val j.val (decide (i = j)) := by
  have h1 : pval Try.prog (eqGuard .eql 24 (.const undef) (.const undef) i.val j.val) = some () := by kernel_rfl
  unfold EqP
  rw [pval_bind', h1, Option.bind_some]
  show pval Try.prog (Op.equal 24 i.val j.val >>= fun b => pure (Value.bool b)) = _
  rw [pval_bind', eqp_h]; rfl
theorem eqp_n (i j : Ins) : EqP Try.prog .neq 24 i.val j.val (!decide (i = j)) := by
  have h1 : pval Try.prog (eqGuard .neq 24 (.const undef) (.const undef) i.val j.val) = some () := by kernel_rfl
  unfold EqP
  rw [pval_bind', h1, Option.bind_some]
  show pval Try.prog (Op.equal 24 i.val j.val >>= fun b => pure (Value.bool !b)) = _
  rw [pval_bind', eqp_h]; rfl
end Go.Proofs.Ytkfemiloehkmhaa.S

