/- Ytkfemiloehkmhaa: a text of our own, by an AI agent: OeBH -/
import Derived.Test.YtkfemiloehkmhaaLyBH
import Derived.Test.YtkfemiloehkmhaaLzBH
import Derived.Test.YtkfemiloehkmhaaLw11H

set_option linter.unusedSimpArgs false
set_option linter.unusedVariables false
set_option maxRecDepth 100000
namespace Go.Proofs.Ytkfemiloehkmhaa.S
open Go Go.RowKit Go.Alog

/-! What an order keeps: plain laws. -/
def nnL (o : List Int) : List Int := o.filter (fun x => decide (0 ≤ x))
def idL (n : Nat) : List Int := (List.range n).map (fun k : Nat => (k : Int))
theorem nnL_app (a b : List Int) : nnL (a ++ b) = nnL a ++ nnL b := List.filter_append ..
theorem nnL_neg : nnL [-1] = [] := rfl
theorem nnL_new {x : Int} (h : 0 ≤ x) : nnL [x] = [x] := by unfold nnL; simp [h]
theorem idL_mem {n : Nat} {x : Int} : x ∈ idL n ↔ 0 ≤ x ∧ x < n := by
  unfold idL
  rw [List.mem_map]
  constructor
  · rintro ⟨k, hk, rfl⟩
    rw [List.mem_range] at hk; omega
  · rintro ⟨h0, h1⟩
    exact ⟨x.toNat, List.mem_range.2 (by omega), by omega⟩
theorem idL_nodup (n : Nat) : (idL n).Nodup := by
  unfold idL List.Nodup
  rw [List.pairwise_map]
  exact List.Pairwise.imp (fun h e => h (by omega)) (List.nodup_range (n := n))
theorem ordP_nodup (l : List Ins) : (nnL (ordP l)).Nodup := by
  refine ordP_ind (fun out => (nnL out).Nodup) (by unfold nnL; simp) fun out hl h => ?_
  rw [nnL_app]
  rcases next_cases l out with ⟨_, e⟩ | ⟨_, hm⟩
  · rw [e, nnL_neg, List.append_nil]; exact h
  · obtain ⟨h0, h1, h2⟩ := ready_new hm
    rw [nnL_new h0, List.nodup_append]
    refine ⟨h, by simp, fun a ha b hb => ?_⟩
    rw [List.mem_singleton] at hb
    subst hb
    rintro rfl
    exact h2 (List.mem_filter.1 ha).1
theorem ordP_perm (l : List Ins) : (nnL (ordP l)).Perm (idL l.length) := by
  rw [List.perm_ext_iff_of_nodup (ordP_nodup l) (idL_nodup _)]
  intro x
  rw [idL_mem]
  unfold nnL
  rw [List.mem_filter, decide_eq_true_eq]
  constructor
  · rintro ⟨h1, h2⟩
    have := ordP_in l x h1; omega
  · rintro ⟨h0, h1⟩
    have := ordP_all l (q := x.toNat) (by omega)
    rw [show ((x.toNat : Nat) : Int) = x by omega] at this
    exact ⟨this, h0⟩

/-- Where the first of a number stands, of a list whose numbers stand once. -/
theorem nn_once {o : List Int} (h : (nnL o).Nodup) : ∀ i j : Nat, i < j → j < o.length → o.getD i 0 = o.getD j 0 → o.getD i 0 < 0 := by
  induction o with
  | nil => intro i j _ hj; simp at hj
  | cons x o ih =>
    intro i j hij hj he
    have hx : nnL (x :: o) = if 0 ≤ x then x :: nnL o else nnL o := by
      unfold nnL; rw [List.filter_cons]; simp
    have ho : (nnL o).Nodup := by
      rw [hx] at h
      split at h
      · exact (List.nodup_cons.1 h).2
      · exact h
    cases j with
    | zero => omega
    | succ j =>
      rw [List.length_cons] at hj
      cases i with
      | zero =>
        refine Classical.byContradiction fun hn => ?_
        have he' : x = o.getD j 0 := he
        have hn' : ¬ x < 0 := hn
        rw [hx, if_pos (by omega)] at h
        refine (List.nodup_cons.1 h).1 (List.mem_filter.2 ⟨?_, decide_eq_true (by omega)⟩)
        rw [he']
        simp [List.getD, show j < o.length by omega]
      | succ i => exact ih ho i j (by omega) (by omega) he
theorem wh_once {o : List Int} (h : (nnL o).Nodup) {k : Nat} (hk : k < o.length) (h0 : 0 ≤ o.getD k 0) : whP o (o.getD k 0) = k := by
  refine (whP_fst hk).2 fun hm => ?_
  obtain ⟨i, hi, he⟩ := List.mem_iff_getElem.1 hm
  rw [List.length_take] at hi
  rw [List.getElem_take] at he
  have hi2 : i < o.length := by omega
  have e2 : o.getD i 0 = o.getD k 0 := by
    rw [← he]; simp [List.getD, hi2]
  have := nn_once h i k (by omega) hk e2
  omega

/-- Each stands far enough behind all that must stay ahead. -/
theorem ready_far {l : List Ins} {out : List Int} {x : Int} (h : x ∈ rdyL l out l.length) {p : Nat} (hp : (p : Int) < x) (hf : farP (cAt l p) (cAt l x) > 0) : (p : Int) ∈ out ∧ whP out p + farP (cAt l p) (cAt l x) ≤ out.length := by
  obtain ⟨h0, h1, h2⟩ := rdyL_mem.1 h
  have hx : ((x.toNat : Nat) : Int) = x := by omega
  have hb : bz l out x.toNat p = false := by
    cases hb : bz l out x.toNat p with
    | false => rfl
    | true => rw [readyP_f (i := p) (by omega) hb] at h2; cases h2
  unfold bz at hb
  rw [hx, decide_eq_true hf, Bool.true_and, Bool.or_eq_false_iff] at hb
  have h3 := of_decide_eq_false hb.1
  have h4 := of_decide_eq_false hb.2
  refine ⟨Classical.byContradiction fun hn => ?_, by omega⟩
  rw [whP_neg.2 hn] at h3; omega
theorem ordP_far (l : List Ins) : ∀ (p : Nat) (q : Int), (p : Int) < q → q < l.length → farP (cAt l p) (cAt l q) > 0 → (p : Int) ∈ ordP l ∧ whP (ordP l) p + farP (cAt l p) (cAt l q) ≤ whP (ordP l) q := by
  have key : ∀ (p : Nat) (q : Int), (p : Int) < q → q ∈ ordP l → farP (cAt l p) (cAt l q) > 0 → (p : Int) ∈ ordP l ∧ whP (ordP l) p + farP (cAt l p) (cAt l q) ≤ whP (ordP l) q := by
    refine ordP_ind (fun out => ∀ (p : Nat) (q : Int), (p : Int) < q → q ∈ out → farP (cAt l p) (cAt l q) > 0 → (p : Int) ∈ out ∧ whP out p + farP (cAt l p) (cAt l q) ≤ whP out q) (by simp) fun out hl h p q hpq hq hf => ?_
    have keep : ∀ y : Int, y ∈ out → whP (out ++ [nextP l out]) y = whP out y := fun y hy => by
      rw [whP_snoc, if_pos]
      exact hy
    rw [List.mem_append, List.mem_singleton] at hq
    by_cases hqo : q ∈ out
    · obtain ⟨h1, h2⟩ := h p q hpq hqo hf
      rw [keep _ hqo, keep _ h1]
      exact ⟨List.mem_append_left _ h1, h2⟩
    · have hqe : q = nextP l out := by
        rcases hq with hq | hq
        · exact absurd hq hqo
        · exact hq
      rcases next_cases l out with ⟨_, e⟩ | ⟨_, hm⟩
      · omega
      · rw [← hqe] at hm
        obtain ⟨h1, h2⟩ := ready_far hm hpq hf
        rw [keep _ h1]
        refine ⟨List.mem_append_left _ h1, ?_⟩
        have : whP (out ++ [nextP l out]) q = out.length := by
          rw [whP_snoc, if_neg hqo, if_pos hqe.symm]
        omega
  intro p q h1 h2 h3
  have := ordP_all l (q := q.toNat) (by omega)
  rw [show ((q.toNat : Nat) : Int) = q by omega] at this
  exact key p q h1 this h3
theorem ordP_keeps (l : List Ins) : keepsB l (ordP l) = true := by
  refine keepsB_t ⟨fun q hq => ?_, fun q hq => ordP_all l hq, fun p q hpq hq => ?_⟩
  · unfold OrdQ
    have hm : (ordP l).getD q 0 ∈ ordP l := by simp [List.getD, hq]
    rcases ordP_in l _ hm with h | ⟨h0, h1⟩
    · exact .inl h
    · exact .inr ⟨h0, h1, (whP_fst hq).1 (wh_once (ordP_nodup l) hq h0)⟩
  · unfold PairQ
    intro hf
    have := (ordP_far l p q (by omega) (by omega) hf).2
    have e1 : farP (cAt l p) (cAt l (q : Int)) = farP (l.getD p default) (l.getD q default) := rfl
    omega
end Go.Proofs.Ytkfemiloehkmhaa.S

set_option linter.unusedSimpArgs false
set_option linter.unusedVariables false
set_option maxRecDepth 100000
namespace Go.Proofs.Ytkfemiloehkmhaa.S
open Go Go.RowKit Go.Alog

/-! Free places, and laid lists. -/
theorem map_cAt (l : List Ins) : (idL l.length).map (cAt l) = l := by
  apply List.ext_getElem
  · simp [idL]
  · intro i h1 h2
    simp [idL, cAt, List.getD, h2]
theorem map_pick (l : List Ins) : (idL l.length).map (pickAt l) = l := by
  have : (idL l.length).map (pickAt l) = (idL l.length).map (cAt l) := by
    refine List.map_congr_left fun x hx => ?_
    have := idL_mem.1 hx
    unfold pickAt; rw [if_pos this]
  rw [this, map_cAt]
def lateN (l : List Ins) (o : List Int) : Nat := (nnL o).countP (fun x => lateP (cAt l x))
theorem lateN_ord (l : List Ins) : lateN l (ordP l) = l.countP lateP := by
  unfold lateN
  rw [(ordP_perm l).countP_eq]
  have := List.countP_map (p := lateP) (f := cAt l) (l := idL l.length)
  rw [map_cAt] at this
  rw [this]; rfl
theorem far2_late {a b : Ins} (h : farP a b = 2) : lateP a = true := by
  unfold farP at h
  split at h
  · rename_i h1
    simp only [Bool.and_eq_true] at h1; exact h1.2
  · split at h <;> omega
theorem first_left {l : List Ins} {out : List Int} (h : leftP l out ≠ 0) : ∃ q : Nat, q < l.length ∧ (q : Int) ∉ out ∧ ∀ i, i < q → (i : Int) ∈ out := by
  unfold leftP at h
  have hc : covN l.length out ≠ l.length := by omega
  have hall : ¬ ∀ q : Nat, q < l.length → (q : Int) ∈ out := fun hh => hc (covN_all.2 hh)
  have key : ∀ b, b ≤ l.length → (∀ i, i < b → (i : Int) ∈ out) ∨ ∃ q : Nat, q < b ∧ (q : Int) ∉ out ∧ ∀ i, i < q → (i : Int) ∈ out := by
    intro b
    induction b with
    | zero => exact fun _ => .inl fun i hi => by omega
    | succ b ih =>
      intro hb
      rcases ih (by omega) with h1 | ⟨q, h1, h2, h3⟩
      · by_cases hm : (b : Int) ∈ out
        · refine .inl fun i hi => ?_
          by_cases e : i = b
          · rw [e]; exact hm
          · exact h1 i (by omega)
        · exact .inr ⟨b, by omega, hm, h1⟩
      · exact .inr ⟨q, by omega, h2, h3⟩
  rcases key l.length (Nat.le_refl _) with h1 | ⟨q, h1, h2, h3⟩
  · exact absurd h1 hall
  · exact ⟨q, h1, h2, h3⟩
/-- Where none is ready, the last one is late. -/
theorem none_late {l : List Ins} {out : List Int} (h : leftP l out ≠ 0) (hr : rdyL l out l.length = []) : ∃ y, out.getLast? = some y ∧ 0 ≤ y ∧ lateP (cAt l y) = true := by
  obtain ⟨q, hq, hn, hp⟩ := first_left h
  have hnr : readyP l out q = false := by
    cases hh : readyP l out q with
    | false => rfl
    | true =>
      have : (q : Int) ∈ rdyL l out l.length := rdyL_mem.2 ⟨by omega, by omega, by rw [show ((q : Nat) : Int).toNat = q by omega]; exact hh⟩
      rw [hr] at this; cases this
  have hbz : ∃ i, i < q ∧ bz l out q i = true := by
    refine Classical.byContradiction fun hc => ?_
    rw [readyP_t (by rw [whP_neg.2 hn]; omega) (fun i hi => by
      cases hb : bz l out q i with
      | false => rfl
      | true => exact absurd ⟨i, hi, hb⟩ hc)] at hnr
    cases hnr
  obtain ⟨i, hi, hb⟩ := hbz
  unfold bz at hb
  have hf := farP_in (cAt l i) (cAt l q)
  have hw := whP_in out i
  have hw0 : whP out i ≠ -1 := fun e => (whP_neg.1 e) (hp i hi)
  rw [decide_eq_false (show ¬ whP out i < 0 by omega), Bool.false_or, Bool.and_eq_true, decide_eq_true_eq, decide_eq_true_eq] at hb
  have e1 : whP out i = out.length - 1 := by omega
  have e2 : farP (cAt l i) (cAt l q) = 2 := by omega
  rcases whP_sp out i with ⟨h1, _⟩ | ⟨k, h1, h2, h3, _⟩
  · omega
  · refine ⟨i, ?_, by omega, far2_late e2⟩
    rw [List.getLast?_eq_getElem?, show out.length - 1 = k by omega, List.getElem?_eq_getElem h2]
    rw [List.getD_eq_getElem?_getD, List.getElem?_eq_getElem h2] at h3
    rw [← h3]; rfl
theorem ordP_free (l : List Ins) : (ordP l).length ≤ l.length + l.countP lateP := by
  have key : (ordP l).length ≤ (nnL (ordP l)).length + lateN l (ordP l) ∧ ∀ y, (ordP l).getLast? = some y → 0 ≤ y → lateP (cAt l y) = true → (ordP l).length + 1 ≤ (nnL (ordP l)).length + lateN l (ordP l) := by
    refine ordP_ind (fun out => out.length ≤ (nnL out).length + lateN l out ∧ ∀ y, out.getLast? = some y → 0 ≤ y → lateP (cAt l y) = true → out.length + 1 ≤ (nnL out).length + lateN l out) ⟨by simp, by simp⟩ fun out hl h => ?_
    have la : ∀ x, lateN l (out ++ [x]) = lateN l out + (nnL [x]).countP (fun x => lateP (cAt l x)) := fun x => by unfold lateN; rw [nnL_app, List.countP_append]
    rw [la, nnL_app, List.length_append, List.length_append, List.length_singleton]
    rcases next_cases l out with ⟨hr, e⟩ | ⟨_, hm⟩
    · obtain ⟨y, h1, h2, h3⟩ := none_late hl hr
      have := h.2 y h1 h2 h3
      rw [e, nnL_neg]
      refine ⟨by simp; omega, fun z hz hz0 => ?_⟩
      rw [List.getLast?_append] at hz
      simp at hz; omega
    · obtain ⟨h0, h1, h2⟩ := ready_new hm
      rw [nnL_new h0]
      have h3 := h.1
      refine ⟨by simp; omega, fun z hz hz0 hzl => ?_⟩
      rw [List.getLast?_append] at hz
      simp at hz
      subst hz
      simp [hzl]; omega
  have hp := (ordP_perm l).length_eq
  have hi : (idL l.length).length = l.length := by simp [idL]
  have := lateN_ord l
  omega
theorem ordP_ge (l : List Ins) : l.length ≤ (ordP l).length := by
  have hp := (ordP_perm l).length_eq
  have hi : (idL l.length).length = l.length := by simp [idL]
  have : (nnL (ordP l)).length ≤ (ordP l).length := List.length_filter_le _ _
  omega

/-- How often an instruction stands in what is picked. -/
theorem pick_count (l : List Ins) (o : List Int) (hp : (nnL o).Perm (idL l.length)) (i : Ins) : (pickP l o).countP (fun j => decide (j = i)) = l.countP (fun j => decide (j = i)) + if i = nop then o.length - (nnL o).length else 0 := by
  have h1 : ∀ o : List Int, (pickP l o).countP (fun j => decide (j = i)) = ((nnL o).map (pickAt l)).countP (fun j => decide (j = i)) + if i = nop then o.length - (nnL o).length else 0 := by
    intro o
    induction o with
    | nil => simp [pickP, nnL]
    | cons x o ih =>
      have hle : (nnL o).length ≤ o.length := List.length_filter_le _ _
      have e1 : pickP l (x :: o) = pickAt l x :: pickP l o := rfl
      have e2 : nnL (x :: o) = if 0 ≤ x then x :: nnL o else nnL o := by
        unfold nnL; rw [List.filter_cons]; simp
      rw [e1, List.countP_cons, ih, e2]
      by_cases h : 0 ≤ x
      · rw [if_pos h, List.map_cons, List.countP_cons, List.length_cons, List.length_cons]
        split <;> split <;> omega
      · have e3 : pickAt l x = nop := by unfold pickAt; rw [if_neg (fun h' => h h'.1)]
        rw [if_neg h, e3, List.length_cons]
        by_cases hi : i = nop
        · rw [if_pos hi, if_pos hi, if_pos (by simp [hi])]; omega
        · rw [if_neg hi, if_neg hi, if_neg (by simp; exact fun e => hi e.symm)]
  rw [h1 o, (hp.map _).countP_eq, map_pick]

/-- Where none must stay ahead, the order is as it was. -/
def FreeL (l : List Ins) : Prop := ∀ i j : Nat, i < j → j < l.length → farP (cAt l i) (cAt l j) ≤ 0
theorem hgt_free (i : Ins) : ∀ (r : List Ins) (hs : List Int), (∀ j ∈ r, farP i j ≤ 0) → hgt i r hs = 0
  | [], hs, _ => by cases hs <;> rfl
  | j :: r, [], _ => rfl
  | j :: r, h :: hs, hf => by
    unfold hgt
    rw [hgt_free i r hs (fun k hk => hf k (List.mem_cons_of_mem _ hk)), if_neg (by have := hf j (List.mem_cons_self ..); omega)]
    rfl
theorem heights_free : ∀ {l : List Ins}, FreeL l → ∀ x ∈ heightsP l, x = 0
  | [], _, x, hx => by simp [heightsP] at hx
  | i :: r, h, x, hx => by
    unfold heightsP at hx
    rcases List.mem_cons.1 hx with rfl | hx
    · refine hgt_free i r _ fun j hj => ?_
      obtain ⟨k, hk, rfl⟩ := List.mem_iff_getElem.1 hj
      have := h 0 (k + 1) (by omega) (by simp; omega)
      simpa [cAt, List.getD, hk] using this
    · refine heights_free (l := r) (fun a b hab hb => ?_) x hx
      have := h (a + 1) (b + 1) (by omega) (by simp; omega)
      have e1 : cAt (i :: r) ((a + 1 : Nat) : Int) = cAt r a := by simp [cAt]
      have e2 : cAt (i :: r) ((b + 1 : Nat) : Int) = cAt r b := by simp [cAt]
      rwa [e1, e2] at this
theorem least_first (x : Int) (zs : List Int) : leastL (fun _ _ => false) (x :: zs) = (x, true) := by
  unfold leastL
  rw [List.foldl_cons]
  have : ∀ zs : List Int, zs.foldl (fun (bf : Int × Bool) y => if !bf.2 || false then (y, true) else bf) (x, true) = (x, true) := by
    intro zs
    induction zs with
    | nil => rfl
    | cons y zs ih => rw [List.foldl_cons]; exact ih
  exact this zs
theorem idL_succ (n : Nat) : idL (n + 1) = idL n ++ [(n : Int)] := by unfold idL; rw [List.range_succ, List.map_append]; rfl
theorem idL_len (n : Nat) : (idL n).length = n := by simp [idL]
theorem ready_free {l : List Ins} (h : FreeL l) (k j : Nat) (hj : j < l.length) : readyP l (idL k) j = decide (k ≤ j) := by
  by_cases hk : k ≤ j
  · rw [decide_eq_true hk]
    refine readyP_t ?_ fun i hi => ?_
    · rw [whP_neg.2 (fun hm => by have := idL_mem.1 hm; omega)]; omega
    · unfold bz
      rw [decide_eq_false (by have := h i j hi hj; omega), Bool.false_and]
  · rw [decide_eq_false hk]
    refine readyP_wh ?_
    have := whP_in (idL k) j
    have h2 : whP (idL k) j ≠ -1 := fun e => whP_neg.1 e (idL_mem.2 ⟨by omega, by omega⟩)
    omega
theorem rdyL_free {l : List Ins} (h : FreeL l) (k : Nat) (hk : k < l.length) : ∃ r, rdyL l (idL k) l.length = (k : Int) :: r := by
  have key : ∀ n, n ≤ l.length → (n ≤ k → rdyL l (idL k) n = []) ∧ (k < n → ∃ r, rdyL l (idL k) n = (k : Int) :: r) := by
    intro n
    induction n with
    | zero => exact fun _ => ⟨fun _ => rfl, fun h => by omega⟩
    | succ n ih =>
      intro hn
      obtain ⟨h1, h2⟩ := ih (by omega)
      rw [rdyL_succ, ready_free h k n (by omega)]
      refine ⟨fun hk => ?_, fun hk => ?_⟩
      · rw [h1 (by omega), decide_eq_false (by omega)]; rfl
      · by_cases e : n = k
        · subst e
          rw [h1 (Nat.le_refl _), decide_eq_true (Nat.le_refl _)]
          exact ⟨[], rfl⟩
        · obtain ⟨r, hr⟩ := h2 (by omega)
          rw [hr]
          exact ⟨r ++ _, rfl⟩
  exact (key l.length (Nat.le_refl _)).2 hk
theorem next_free {l : List Ins} (h : FreeL l) (k : Nat) (hk : k < l.length) : nextP l (idL k) = k := by
  obtain ⟨r, hr⟩ := rdyL_free h k hk
  have hz : ∀ n : Nat, (heightsP l).getD n 0 = 0 := fun n => by
    by_cases hn : n < (heightsP l).length
    · have : (heightsP l).getD n 0 ∈ heightsP l := by simp [List.getD, hn]
      exact heights_free h _ this
    · simp [List.getD, Nat.le_of_not_lt hn]
  have hlt : ltH l = fun _ _ => false := by
    funext a b
    unfold ltH
    rw [hz, hz]; rfl
  unfold nextP
  rw [hr, hlt, least_first]; rfl
theorem leftP_id (l : List Ins) (k : Nat) (hk : k < l.length) : leftP l (idL k) ≠ 0 := by
  unfold leftP
  have h1 := covN_le l.length (idL k)
  intro e
  have := (covN_all (n := l.length) (l := idL k)).1 (by omega) k hk
  have := idL_mem.1 this
  omega
theorem ordP_freeL {l : List Ins} (h : FreeL l) : ordP l = idL l.length := by
  have key : ∃ k, k ≤ l.length ∧ ordP l = idL k := by
    refine ordP_ind (fun out => ∃ k, k ≤ l.length ∧ out = idL k) ⟨0, by omega, rfl⟩ ?_
    rintro out hl ⟨k, hk, rfl⟩
    have hk' : k < l.length := by
      refine Nat.lt_of_le_of_ne hk fun e => hl ?_
      subst e
      unfold leftP
      rw [covN_all.2 fun q hq => idL_mem.2 ⟨by omega, by omega⟩]; omega
    rw [next_free h k hk', ← idL_succ]
    exact ⟨k + 1, hk', rfl⟩
  obtain ⟨k, hk, e⟩ := key
  rw [e]
  by_cases hlt : k < l.length
  · have := ordP_all l hlt
    rw [e] at this
    have := idL_mem.1 this; omega
  · rw [show k = l.length by omega]

/-! What is laid. -/
theorem padL_nn (l : List Ins) (o : List Int) (last : Ins) : nnL (padL l o last) = nnL o := by
  unfold padL
  split
  · rfl
  · rw [nnL_app, nnL_neg, List.append_nil]
theorem padL_len (l : List Ins) (o : List Int) (last : Ins) : o.length ≤ (padL l o last).length ∧ (padL l o last).length ≤ o.length + 1 := by
  unfold padL
  split
  · omega
  · rw [List.length_append, List.length_singleton]; omega
theorem idL_pred {n : Nat} (h : 0 < n) : idL n = idL (n - 1) ++ [(n : Int) - 1] := by
  have := idL_succ (n - 1)
  rw [show n - 1 + 1 = n by omega] at this
  rw [this, show ((n - 1 : Nat) : Int) = (n : Int) - 1 by omega]
theorem split_last {o : List Int} (h : o ≠ []) : o = o.take (o.length - 1) ++ [o.getD (o.length - 1) 0] := by
  have hp : 0 < o.length := by
    cases o with
    | nil => exact absurd rfl h
    | cons => simp
  apply List.ext_getElem
  · rw [List.length_append, List.length_take, List.length_singleton]; omega
  · intro i h1 h2
    by_cases e : i < o.length - 1
    · rw [List.getElem_append_left (by rw [List.length_take]; omega), List.getElem_take]
    · have : i = o.length - 1 := by omega
      subst this
      rw [List.getElem_append_right (by rw [List.length_take]; omega)]
      simp [List.getD, h1]
theorem layP_perm (l : List Ins) : (nnL (layP l)).Perm (idL l.length) := by
  unfold layP
  split
  · rename_i h; rw [h]; exact List.Perm.refl _
  · rename_i hne
    have hpos : 0 < l.length := by
      cases l with
      | nil => exact absurd rfl hne
      | cons => simp
    split
    · split
      · rw [nnL_app, nnL_neg, List.append_nil]; exact ordP_perm l
      · exact ordP_perm l
    · have hp := ordP_perm (l.take (l.length - 1))
      have etk : (l.take (l.length - 1)).length = l.length - 1 := by rw [List.length_take]; omega
      rw [etk] at hp
      rw [idL_pred hpos]
      split
      · rename_i hs
        have hlast := ordP_last (l.take (l.length - 1)) (y := (ordP (l.take (l.length - 1))).getD ((ordP (l.take (l.length - 1))).length - 1) 0) (by
          have hp : 0 < (ordP (l.take (l.length - 1))).length := by
            cases hh : ordP (l.take (l.length - 1)) with
            | nil => exact absurd hh hs.1
            | cons => simp
          exact last_get hp)
        have hsp := split_last hs.1
        generalize ordP (l.take (l.length - 1)) = o at hp hlast hsp hs ⊢
        have e : nnL o = nnL (o.take (o.length - 1)) ++ [o.getD (o.length - 1) 0] := by
          have h2 : nnL o = nnL (o.take (o.length - 1) ++ [o.getD (o.length - 1) 0]) := by rw [← hsp]
          rw [h2, nnL_app, nnL_new hlast]
        rw [e] at hp
        have e2 : nnL (o.take (o.length - 1) ++ [(l.length : Int) - 1, o.getD (o.length - 1) 0]) = nnL (o.take (o.length - 1)) ++ ([(l.length : Int) - 1] ++ [o.getD (o.length - 1) 0]) := by
          rw [nnL_app]
          congr 1
          show nnL ([(l.length : Int) - 1] ++ [o.getD (o.length - 1) 0]) = _
          rw [nnL_app, nnL_new hlast, nnL_new (by omega)]
        rw [e2]
        refine List.Perm.trans (List.Perm.append_left _ List.perm_append_comm) ?_
        rw [← List.append_assoc]
        exact List.Perm.append_right _ hp
      · have e2 : nnL (padL l (ordP (l.take (l.length - 1))) (lastI l) ++ [(l.length : Int) - 1, -1]) = nnL (ordP (l.take (l.length - 1))) ++ [(l.length : Int) - 1] := by
          rw [nnL_app, padL_nn]
          congr 1
          show nnL ([(l.length : Int) - 1] ++ [-1]) = _
          rw [nnL_app, nnL_new (by omega), nnL_neg, List.append_nil]
        rw [e2]
        exact List.Perm.append_right _ hp
theorem layP_len (l : List Ins) : (layP l).length ≤ 2 * l.length + 1 := by
  unfold layP
  split
  · simp
  · rename_i hne
    have hpos : 0 < l.length := by
      cases l with
      | nil => exact absurd rfl hne
      | cons => simp
    have h1 := ordP_len l
    have h2 := ordP_len (l.take (l.length - 1))
    have etk : (l.take (l.length - 1)).length = l.length - 1 := by rw [List.length_take]; omega
    rw [etk] at h2
    split
    · split
      · rw [List.length_append, List.length_singleton]; omega
      · omega
    · split
      · rw [List.length_append, List.length_take]; simp; omega
      · have := (padL_len l (ordP (l.take (l.length - 1))) (lastI l)).2
        rw [List.length_append]; simp; omega
theorem layP_ge (l : List Ins) : l.length ≤ (layP l).length := by
  have hp := (layP_perm l).length_eq
  rw [idL_len] at hp
  have : (nnL (layP l)).length ≤ (layP l).length := List.length_filter_le _ _
  omega
theorem layP_in (l : List Ins) : ∀ x ∈ layP l, x = -1 ∨ (0 ≤ x ∧ x < l.length) := by
  unfold layP
  split
  · simp
  · rename_i hne
    have hpos : 0 < l.length := by
      cases l with
      | nil => exact absurd rfl hne
      | cons => simp
    have h1 := ordP_in l
    have h2 := ordP_in (l.take (l.length - 1))
    have etk : (l.take (l.length - 1)).length = l.length - 1 := by rw [List.length_take]; omega
    rw [etk] at h2
    split
    · split
      · intro x hx
        rw [List.mem_append, List.mem_singleton] at hx
        rcases hx with hx | hx
        · exact h1 x hx
        · exact .inl hx
      · exact h1
    · split
      · rename_i hs
        have hm : (ordP (l.take (l.length - 1))).getD ((ordP (l.take (l.length - 1))).length - 1) 0 ∈ ordP (l.take (l.length - 1)) := by
          have hp : 0 < (ordP (l.take (l.length - 1))).length := by
            cases hh : ordP (l.take (l.length - 1)) with
            | nil => exact absurd hh hs.1
            | cons => simp
          simp [List.getD, show (ordP (l.take (l.length - 1))).length - 1 < (ordP (l.take (l.length - 1))).length by omega]
        intro x hx
        rw [List.mem_append] at hx
        rcases hx with hx | hx
        · have := h2 x (List.mem_of_mem_take hx); omega
        · simp only [List.mem_cons, List.not_mem_nil, or_false] at hx
          rcases hx with rfl | rfl
          · omega
          · have := h2 _ hm; omega
      · intro x hx
        rw [List.mem_append] at hx
        rcases hx with hx | hx
        · unfold padL at hx
          split at hx
          · have := h2 x hx; omega
          · rw [List.mem_append, List.mem_singleton] at hx
            rcases hx with hx | hx
            · have := h2 x hx; omega
            · omega
        · simp only [List.mem_cons, List.not_mem_nil, or_false] at hx
          omega
theorem layP_count (l : List Ins) (q : Nat) (hq : q < l.length) : (layP l).countP (fun x => decide (x = (q : Int))) = 1 := by
  have h1 : ∀ o : List Int, o.countP (fun x => decide (x = (q : Int))) = (nnL o).countP (fun x => decide (x = (q : Int))) := by
    intro o
    unfold nnL
    rw [List.countP_filter]
    refine List.countP_congr fun x _ => ?_
    simp only [Bool.and_eq_true, decide_eq_true_eq]
    omega
  rw [h1, (layP_perm l).countP_eq]
  have h2 : ∀ n, q < n → (idL n).countP (fun x => decide (x = (q : Int))) = 1 := by
    intro n
    induction n with
    | zero => intro h; omega
    | succ n ih =>
      intro h
      rw [idL_succ, List.countP_append]
      by_cases e : q = n
      · subst e
        have : (idL q).countP (fun x => decide (x = (q : Int))) = 0 := by
          rw [List.countP_eq_zero]
          intro x hx
          have := idL_mem.1 hx
          simp; omega
        rw [this]; simp
      · rw [ih (by omega)]
        have : ¬ (n : Int) = q := by omega
        simp [this]
  exact h2 _ hq
theorem layP_end (l : List Ins) (hne : l ≠ []) : 0 ≤ (layP l).getD ((layP l).length - 1) 0 → lateP (cAt l ((layP l).getD ((layP l).length - 1) 0)) = false := by
  have hpos : 0 < l.length := by
    cases l with
    | nil => exact absurd rfl hne
    | cons => simp
  have snoc : ∀ (o : List Int) (x : Int), (o ++ [x]).getD ((o ++ [x]).length - 1) 0 = x := fun o x => by
    rw [List.length_append, List.length_singleton, Nat.add_sub_cancel]
    simp [List.getD_eq_getElem?_getD]
  have snoc2 : ∀ (o : List Int) (y x : Int), (o ++ [y, x]).getD ((o ++ [y, x]).length - 1) 0 = x := fun o y x => by
    have := snoc (o ++ [y]) x
    rwa [List.append_assoc] at this
  unfold layP
  rw [if_neg hne]
  split
  · split
    · rw [snoc]; intro h; omega
    · rename_i h; intro _; simpa using h
  · split
    · rename_i hs
      rw [snoc2]
      intro _
      have := hs.2
      unfold slotOk at this
      simp only [Bool.and_eq_true, Bool.not_eq_true'] at this
      exact this.1.1
    · rw [snoc2]; intro h; omega
theorem layP_goes (l : List Ins) (hne : l ≠ []) (hg : goesP (lastI l) = true) : 1 < (layP l).length ∧ (layP l).getD ((layP l).length - 2) 0 = (l.length : Int) - 1 := by
  have snoc2 : ∀ (o : List Int) (y x : Int), 1 < (o ++ [y, x]).length ∧ (o ++ [y, x]).getD ((o ++ [y, x]).length - 2) 0 = y := fun o y x => by
    rw [List.length_append]
    refine ⟨by simp, ?_⟩
    simp [List.getD_eq_getElem?_getD]
  unfold layP
  rw [if_neg hne, if_neg (by rw [hg]; simp)]
  split
  · exact snoc2 _ _ _
  · exact snoc2 _ _ _

theorem alone_ord (i : Ins) : ordP [i] = [0] := by
  have : FreeL [i] := fun a b hab hb => by
    simp at hb; omega
  rw [ordP_freeL this]; rfl
theorem alone_lay (i : Ins) : layP [i] = if goesP i = true ∨ lateP i = true then [0, -1] else [0] := by
  unfold layP
  rw [if_neg (by simp)]
  have e1 : lastI [i] = i := rfl
  rw [e1, alone_ord]
  have e2 : cAt [i] (([0] : List Int).getD (([0] : List Int).length - 1) 0) = i := rfl
  rw [e2]
  have e3 : ordP (([i] : List Ins).take ([i].length - 1)) = [] := by
    show ordP [] = []
    have := ordP_len []
    exact List.eq_nil_of_length_eq_zero (by simpa using this)
  rw [e3]
  cases hg : goesP i with
  | false =>
    rw [if_pos rfl]
    cases hl : lateP i with
    | true => simp
    | false => simp
  | true =>
    rw [if_neg (by simp), if_neg (by simp), if_pos (by simp)]
    have : padL [i] [] i = [] := by
      unfold padL
      rw [if_pos (clearP_t fun k hk => by simp at hk)]
    rw [this]; rfl
end Go.Proofs.Ytkfemiloehkmhaa.S

set_option linter.unusedSimpArgs false
set_option linter.unusedVariables false
set_option maxRecDepth 100000
namespace Go.Proofs.Ytkfemiloehkmhaa.S
open Go Go.RowKit Go.Alog Go.Proofs.Ytkfemiloehkmhaa.T Go.Proofs.Ytkfemiloehkmhaa.V

theorem ins_eq' (i j : Ins) : (i.op == j.op && (i.a == j.a && (i.b == j.b && (i.c == j.c && i.imm == j.imm)))) = decide (i = j) := by
  obtain ⟨a1, a2, a3, a4, a5⟩ := i
  obtain ⟨b1, b2, b3, b4, b5⟩ := j
  rw [Bool.eq_iff_iff]
  simp [Ins.mk.injEq]
theorem eqp_h (i j : Ins) : pval Try.prog (Op.equal 24 i.val j.val) = some (decide (i = j)) := by
  have h2 := eqIn_struct (P := Try.prog) (t := 24) (k := .i64) (xs := i.cells.toArray) (ys := j.cells.toArray) Try.underlying24 (by kernel_rfl) 9998 (fun f => match f.offset with | 0 => i.op == j.op | 1 => i.a == j.a | 2 => i.b == j.b | 3 => i.c == j.c | _ => i.imm == j.imm) (by
    intro f hf
    simp only [List.mem_cons, List.not_mem_nil, or_false] at hf
    rcases hf with rfl | rfl | rfl | rfl | rfl <;> exact ⟨by decide, Try.underlying3, _, _, rfl, rfl, rfl⟩)
  simp only [List.all_cons, List.all_nil, Bool.and_true, ins_eq'] at h2
  exact h2
theorem eqp_i (i j : Ins) : EqP Try.prog .eql 24 i.val j.val (decide (i = j)) := by
  have h1 : pval Try.prog (eqGuard .eql 24 (.const undef) (.const undef) i.val j.val) = some () := by kernel_rfl
  unfold EqP
  rw [pval_bind', h1, Option.bind_some]
  show pval Try.prog (Op.equal 24 i.val j.val >>= fun b => pure (Value.bool b)) = _
  rw [pval_bind', eqp_h]; rfl
theorem eqp_n (i j : Ins) : EqP Try.prog .neq 24 i.val j.val (!decide (i = j)) := by
  have h1 : pval Try.prog (eqGuard .neq 24 (.const undef) (.const undef) i.val j.val) = some () := by kernel_rfl
  unfold EqP
  rw [pval_bind', h1, Option.bind_some]
  show pval Try.prog (Op.equal 24 i.val j.val >>= fun b => pure (Value.bool !b)) = _
  rw [pval_bind', eqp_h]; rfl
end Go.Proofs.Ytkfemiloehkmhaa.S
