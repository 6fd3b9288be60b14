/- Ythocajnpofdbmaa: a text of our own, by an AI agent: Dp2G -/
import Derived.Test.YthocajnpofdbmaaDp1G
set_option linter.unusedSimpArgs false
set_option linter.unusedVariables false
set_option maxRecDepth 100000
namespace Go.Proofs.Ythocajnpofdbmaa.S
open Go Go.RowKit Go.Alog Go.Proofs.Ythocajnpofdbmaa.T Go.Proofs.Ythocajnpofdbmaa.V

theorem farP_in (a b : Ins) : 0 ≤ farP a b ∧ farP a b ≤ 2 := by
  unfold farP
  split
  · omega
  split <;> omega
/-- The greatest of some numbers, that are none below 0. -/
def IsMax (f : Nat → Int) (lo hi : Nat) (v : Int) : Prop := 0 ≤ v ∧ (∀ k, lo ≤ k → k < hi → f k ≤ v) ∧ (v = 0 ∨ ∃ k, lo ≤ k ∧ k < hi ∧ v = f k)
theorem IsMax.uniq {f : Nat → Int} {lo hi : Nat} {v w : Int} (h : IsMax f lo hi v) (h' : IsMax f lo hi w) : v = w := by
  obtain ⟨a1, a2, a3⟩ := h
  obtain ⟨b1, b2, b3⟩ := h'
  rcases a3 with a3 | ⟨k, k1, k2, k3⟩ <;> rcases b3 with b3 | ⟨j, j1, j2, j3⟩
  · omega
  · have := a2 j j1 j2; omega
  · have := b2 k k1 k2; omega
  · have := a2 j j1 j2; have := b2 k k1 k2; omega
theorem IsMax.nil (f : Nat → Int) (lo : Nat) : IsMax f lo lo 0 := ⟨by omega, fun k h1 h2 => by omega, .inl rfl⟩
theorem IsMax.up {f : Nat → Int} {lo hi : Nat} {v : Int} (h : IsMax f lo hi v) (hl : lo ≤ hi) {w : Int} (hw : w = max v (f hi)) : IsMax f lo (hi + 1) w := by
  obtain ⟨a1, a2, a3⟩ := h
  subst hw
  refine ⟨by omega, fun k h1 h2 => ?_, ?_⟩
  · by_cases e : k = hi
    · rw [e]; omega
    · have := a2 k h1 (by omega); omega
  · by_cases e : f hi ≤ v
    · rw [show max v (f hi) = v by omega]
      rcases a3 with a3 | ⟨k, k1, k2, k3⟩
      · exact .inl a3
      · exact .inr ⟨k, k1, by omega, k3⟩
    · exact .inr ⟨hi, hl, by omega, by omega⟩
theorem IsMax.dn {f : Nat → Int} {lo hi : Nat} {v : Int} (h : IsMax f (lo + 1) hi v) (hl : lo < hi) {w : Int} (hw : w = max v (f lo)) : IsMax f lo hi w := by
  obtain ⟨a1, a2, a3⟩ := h
  subst hw
  refine ⟨by omega, fun k h1 h2 => ?_, ?_⟩
  · by_cases e : k = lo
    · rw [e]; omega
    · have := a2 k (by omega) (by omega); omega
  · by_cases e : f lo ≤ v
    · rw [show max v (f lo) = v by omega]
      rcases a3 with a3 | ⟨k, k1, k2, k3⟩
      · exact .inl a3
      · exact .inr ⟨k, by omega, k2, k3⟩
    · exact .inr ⟨lo, by omega, by omega, by omega⟩

/-- The height of one ahead of a list of known heights. -/
def hgt (i : Ins) : List Ins → List Int → Int
  | j :: r, h :: hs => max (hgt i r hs) (if farP i j > 0 then farP i j + h else 0)
  | _, _ => 0
def heightsP : List Ins → List Int
  | [] => []
  | i :: r => hgt i r (heightsP r) :: heightsP r
theorem heightsP_len : ∀ l : List Ins, (heightsP l).length = l.length
  | [] => rfl
  | i :: r => by simp [heightsP, heightsP_len r]
def hAt (l : List Ins) (k : Nat) : Int := (heightsP l).getD k 0
def hTerm (l : List Ins) (i j : Nat) : Int := if farP (l.getD i default) (l.getD j default) > 0 then farP (l.getD i default) (l.getD j default) + hAt l j else 0
theorem hgt_max (i : Ins) : ∀ (r : List Ins) (hs : List Int), r.length = hs.length → ∀ o : Nat, IsMax (fun k => if farP i (r.getD (k - o) default) > 0 then farP i (r.getD (k - o) default) + hs.getD (k - o) 0 else 0) o (o + r.length) (hgt i r hs)
  | [], [], _, o => by simpa [hgt] using IsMax.nil _ o
  | j :: r, h :: hs, hl, o => by
    have ih := hgt_max i r hs (by simpa using hl) (o + 1)
    have e : o + (j :: r).length = o + 1 + r.length := by simp; omega
    rw [e]
    refine IsMax.dn (v := hgt i r hs) ?_ (by omega) (by simp [hgt])
    obtain ⟨a1, a2, a3⟩ := ih
    have key : ∀ k, o + 1 ≤ k → (if farP i ((j :: r).getD (k - o) default) > 0 then farP i ((j :: r).getD (k - o) default) + (h :: hs).getD (k - o) 0 else 0) = (if farP i (r.getD (k - (o + 1)) default) > 0 then farP i (r.getD (k - (o + 1)) default) + hs.getD (k - (o + 1)) 0 else 0) := by
      intro k hk
      rw [show k - o = (k - (o + 1)) + 1 by omega, List.getD_cons_succ, List.getD_cons_succ]
    refine ⟨a1, fun k h1 h2 => Int.le_trans (Int.le_of_eq (key k h1)) (a2 k h1 h2), ?_⟩
    rcases a3 with a3 | ⟨k, k1, k2, k3⟩
    · exact .inl a3
    · exact .inr ⟨k, k1, k2, k3.trans (key k k1).symm⟩
  | [], _ :: _, hl, _ => by simp at hl
  | _ :: _, [], hl, _ => by simp at hl
theorem hAt_max : ∀ (l : List Ins) (i : Nat), i < l.length → IsMax (hTerm l i) (i + 1) l.length (hAt l i)
  | [], i, h => by simp at h
  | x :: r, 0, h => by
    have := hgt_max x r (heightsP r) (heightsP_len r).symm 1
    have e : (x :: r).length = 1 + r.length := by simp; omega
    rw [e]
    obtain ⟨a1, a2, a3⟩ := this
    have key : ∀ k, 1 ≤ k → hTerm (x :: r) 0 k = (if farP x (r.getD (k - 1) default) > 0 then farP x (r.getD (k - 1) default) + (heightsP r).getD (k - 1) 0 else 0) := by
      intro k hk
      obtain ⟨k', rfl⟩ : ∃ k', k = k' + 1 := ⟨k - 1, by omega⟩
      unfold hTerm hAt
      simp only [List.getD_cons_zero, List.getD_cons_succ, heightsP, Nat.add_sub_cancel]
    refine ⟨a1, fun k h1 h2 => Int.le_trans (Int.le_of_eq (key k h1)) (a2 k h1 h2), ?_⟩
    rcases a3 with a3 | ⟨k, k1, k2, k3⟩
    · exact .inl a3
    · exact .inr ⟨k, k1, k2, k3.trans (key k k1).symm⟩
  | x :: r, i + 1, h => by
    have h' : i < r.length := by simpa using h
    obtain ⟨a1, a2, a3⟩ := hAt_max r i h'
    have ev : hAt (x :: r) (i + 1) = hAt r i := by unfold hAt; rw [heightsP, List.getD_cons_succ]
    have key : ∀ k, hTerm (x :: r) (i + 1) (k + 1) = hTerm r i k := by
      intro k
      unfold hTerm hAt
      simp only [List.getD_cons_succ, heightsP]
    rw [ev]
    refine ⟨a1, fun k h1 h2 => ?_, ?_⟩
    · obtain ⟨k', rfl⟩ : ∃ k', k = k' + 1 := ⟨k - 1, by omega⟩
      rw [key]; exact a2 k' (by omega) (by simpa using h2)
    · rcases a3 with a3 | ⟨k, k1, k2, k3⟩
      · exact .inl a3
      · exact .inr ⟨k + 1, by omega, by simpa using k2, by rw [key]; exact k3⟩
theorem hAt_le (l : List Ins) : ∀ (n i : Nat), i < l.length → l.length - i ≤ n → 0 ≤ hAt l i ∧ hAt l i ≤ 2 * ((l.length : Int) - 1 - i)
  | 0, i, h, hn => by omega
  | n + 1, i, h, hn => by
    obtain ⟨a1, a2, a3⟩ := hAt_max l i h
    refine ⟨a1, ?_⟩
    rcases a3 with a3 | ⟨k, k1, k2, k3⟩
    · omega
    · have := hAt_le l n k k2 (by omega)
      rw [k3]
      unfold hTerm
      have hf := farP_in (l.getD i default) (l.getD k default)
      split <;> omega
theorem hAt_bd (l : List Ins) {i : Nat} (h : i < l.length) : 0 ≤ hAt l i ∧ hAt l i ≤ 2 * ((l.length : Int) - 1 - i) := hAt_le l _ i h (Nat.le_refl _)
theorem heights_ext {l : List Ins} {o : List Int} (hl : o.length = l.length) (h : ∀ k, k < l.length → o.getD k 0 = hAt l k) : o = heightsP l := by
  apply List.ext_getElem (by rw [hl, heightsP_len])
  intro k h1 h2
  have := h k (by omega)
  unfold hAt at this
  simpa [List.getD, h1, h2] using this

theorem zeros_int (n : Nat) : zeros [Value.int .i64 0] n = intCells .i64 (List.replicate n 0) := by
  unfold zeros intCells
  induction n with
  | zero => rfl
  | succ n ih => rw [List.replicate_succ, List.flatten_cons, ih, List.replicate_succ]; rfl
theorem getD_set {l : List Int} {k j : Nat} {v : Int} (hk : k < l.length) : (l.set k v).getD j 0 = if j = k then v else l.getD j 0 := by
  by_cases e : j = k
  · subst e; simp [List.getD, hk]
  · rw [if_neg e]; simp [List.getD, List.getElem?_set_ne (Ne.symm e)]
theorem getD_rep (n k : Nat) : (List.replicate n (0 : Int)).getD k 0 = 0 := by
  by_cases h : k < n
  · simp [List.getD, h]
  · simp [List.getD, List.getElem?_replicate, h]
abbrev ownInts (w0 : World) (m0 : AM) (l : List Int) (r : Value) (m' : AM) : Prop := (∃ (A : Option Addr) (c : Nat), r = .slice A l.length c ∧ Own m' w0.heap.size 3 1 A l.length c (intCells .i64 l) ∧ ∀ k ∈ obl A, m0 k = none) ∧ m0.le m'

theorem heights_spec (w0 : World) (m : AM) (A : Option Addr) (c : Nat) (l : List Ins) (hl : l.length ≤ 1000000) (rd : Reads m 5 A l.length (insCells l)) :
    CallsA Try.prog w0 43 #[.slice A l.length c] m (ownInts w0 m (heightsP l)) := by
  refine cf43 w0 m A l.length c _ ⟨⟨by omega, by omega, by omega, by omega⟩, ?_⟩
  intro b hb hn M
  have lM : m.le M := le_new hn _
  have o0 : Own M w0.heap.size 3 1 (some ⟨b, 0, none⟩) l.length l.length (intCells .i64 (List.replicate l.length 0)) := by
    rw [← zeros_int]; exact Own.new m hb 3 1 l.length _ (by rw [zeros_int]; simp [intCells])
  clear_value M
  have hfr : ∀ k ∈ obl (some (⟨b, 0, none⟩ : Addr)), m k = none := fun k hk => by simp [obl] at hk; subst hk; exact hn
  rw [wrap_s (i := (l.length : Int) - 1) (by omega) (by omega)]
  generalize hb0 : (some (⟨b, 0, none⟩ : Addr)) = Ab at o0 hfr ⊢
  -- what stands in the row: the heights behind i, v at i, 0 ahead
  let Q : Int → Int → AM → Prop := fun i v m' => m.le m' ∧ ∃ o : List Int, o.length = l.length ∧ Own m' w0.heap.size 3 1 Ab o.length l.length (intCells .i64 o) ∧ ∀ k : Nat, k < l.length → o.getD k 0 = if i < k then hAt l k else if (k : Int) = i then v else 0
  refine ⟨rfl, vl43_11010 w0 M _ _ A l.length c Ab l.length l.length ((l.length : Int) - 1) (fun k i m' => -1 ≤ i ∧ i < l.length ∧ (k : Int) = i + 1 ∧ Q i 0 m') (fun m' => Q (-1) 0 m') l.length (by rfl) (by rw [← hb0]; rfl) (by rfl) ⟨by omega, by omega, by omega, lM, List.replicate l.length 0, by simp, by simpa using o0, fun k hk => ?_⟩ ?_ ?_⟩
  · rw [getD_rep, if_neg (by omega)]; split <;> rfl
  · rintro k σ i m' ⟨i0, i1, hk, hq⟩
    refine ⟨rfl, bcP (fun c1 => ⟨rfl, ?_⟩) fun c1 => ?_⟩
    · have w1 : IntKind.wrap .i64 (i + 1) = i + 1 := wrap_s (by omega) (by omega)
      rw [w1]
      refine vl43_11010010010 w0 m' _ _ k _ _ A l.length c Ab l.length l.length i (i + 1) (fun k2 j m2 => i + 1 ≤ j ∧ j ≤ l.length ∧ (k2 : Int) = l.length - j ∧ ∃ v, IsMax (hTerm l i.toNat) (i.toNat + 1) j.toNat v ∧ Q i v m2) (fun m2 => Q i (hAt l i.toNat) m2) (l.length - (i.toNat + 1)) rfl rfl rfl rfl ⟨by omega, by omega, by omega, 0, ?_, hq⟩ ?_ ?_
      · rw [show (i + 1).toNat = i.toNat + 1 by omega]; exact IsMax.nil _ _
      · rintro k2 σ j m2 ⟨j0, j1, hk2, v, hv, L2, o, hol, ho, hop⟩
        clear hq
        have wj : IntKind.wrap .i64 (j + 1) = j + 1 := wrap_s (by omega) (by omega)
        refine ⟨rfl, bcP (fun c2 => ldAt (rd.le L2) rfl c1 i1 fun a => ldAt (rd.le L2) rfl (by omega) c2 fun a2 => callI (far_e w0 m2 (cAt l i) (cAt l j)) ⟨rfl, ?_⟩) fun c2 => ?_⟩
        · have hf := farP_in (cAt l i) (cAt l j)
          have hbj := hAt_bd l (i := j.toNat) (by omega)
          have hbi := hAt_bd l (i := i.toNat) (by omega)
          have hT : hTerm l i.toNat j.toNat = if farP (cAt l i) (cAt l j) > 0 then farP (cAt l i) (cAt l j) + hAt l j.toNat else 0 := rfl
          have hvle : v ≤ hAt l i.toNat := by
            obtain ⟨_, m2', _⟩ := hAt_max l i.toNat (by omega)
            rcases hv.2.2 with h | ⟨q, q1, q2, q3⟩
            · omega
            · rw [q3]; exact m2' q q1 (by omega)
          have hv0 := hv.1
          have ej : o.getD j.toNat 0 = hAt l j.toNat := by rw [hop _ (by omega), if_pos (by omega)]
          have ei : o.getD i.toNat 0 = v := by rw [hop _ (by omega), if_neg (by omega), if_pos (by omega)]
          rw [wj]
          refine bcP (fun c3 => ⟨⟨c1, i1⟩, ?_⟩) fun c3 => ?_
          · obtain ⟨ad, rfl, hc⟩ := ho.ex (by omega)
            rw [nilO_some]
            refine ⟨_, cell_k hc c1 (by omega), ⟨by omega, c2⟩, ?_⟩
            rw [nilO_some]
            refine ⟨_, cell_k hc (by omega) (by omega), rfl, rfl, ⟨c1, i1⟩, ?_⟩
            rw [ej, ei, nilO_some, wrap_s (i := farP (cAt l i) (cAt l j) + hAt l j.toNat) (by omega) (by omega)]
            have hw : (if farP (cAt l i) (cAt l j) + hAt l j.toNat > v then farP (cAt l i) (cAt l j) + hAt l j.toNat else v) = max v (hTerm l i.toNat j.toNat) := by
              rw [hT, if_pos c3]; split <;> omega
            refine own_set ho (k := i.toNat) (by omega) _ fun m4 o4 f4 => ?_
            repeat refine ⟨rfl, ?_⟩
            refine ⟨k2 - 1, by omega, by omega, by omega, by omega, max v (hTerm l i.toNat j.toNat), ?_, low_fresh L2 f4 hfr, o.set i.toNat (max v (hTerm l i.toNat j.toNat)), by rw [List.length_set]; exact hol, by rw [List.length_set, ← hw]; exact o4, fun q hq2 => ?_⟩
            · rw [show (j + 1).toNat = j.toNat + 1 by omega]
              exact hv.up (by omega) rfl
            · rw [getD_set (by omega), hop q hq2]
              by_cases e : q = i.toNat
              · rw [if_pos e, if_neg (by omega), if_pos (by omega)]
              · rw [if_neg e]
                by_cases e2 : i < q
                · rw [if_pos e2, if_pos e2]
                · rw [if_neg e2, if_neg e2, if_neg (by omega), if_neg (by omega)]
          · repeat refine ⟨rfl, ?_⟩
            refine ⟨k2 - 1, by omega, by omega, by omega, by omega, v, ?_, L2, o, hol, ho, hop⟩
            rw [show (j + 1).toNat = j.toNat + 1 by omega]
            refine hv.up (by omega) ?_
            rw [hT, if_neg c3]; omega
        · repeat refine ⟨rfl, ?_⟩
          have : v = hAt l i.toNat := by
            rw [show j.toNat = l.length by omega] at hv
            exact hv.uniq (hAt_max l i.toNat (by omega))
          rw [← this]
          exact ⟨L2, o, hol, ho, hop⟩
      · rintro σ m2 ⟨L2, o, hol, ho, hop⟩
        have wi : IntKind.wrap .i64 (i - 1) = i - 1 := wrap_s (by omega) (by omega)
        rw [wi]
        repeat refine ⟨rfl, ?_⟩
        refine ⟨k - 1, by omega, by omega, by omega, by omega, L2, o, hol, ho, fun q hq2 => ?_⟩
        rw [hop q hq2]
        by_cases e : i < q
        · rw [if_pos e, if_pos (by omega)]
        · rw [if_neg e]
          by_cases e2 : (q : Int) = i
          · rw [if_pos e2, if_pos (by omega), show i.toNat = q by omega]
          · rw [if_neg e2, if_neg (by omega)]; split <;> rfl
    · repeat refine ⟨rfl, ?_⟩
      obtain rfl : i = -1 := by omega
      exact hq
  · rintro σ m' ⟨L2, o, hol, ho, hop⟩
    have : o = heightsP l := heights_ext hol fun q hq2 => by rw [hop q hq2, if_pos (by omega)]
    subst this
    refine retP_of ⟨⟨Ab, l.length, by rw [hol], ?_, hfr⟩, L2⟩
    exact ho

theorem refHeights_spec (w0 : World) (m : AM) (A : Option Addr) (c : Nat) (l : List Ins) (hl : l.length ≤ 1000000) (rd : Reads m 5 A l.length (insCells l)) :
    CallsA Try.prog w0 44 #[.slice A l.length c] m (ownInts w0 m (heightsP l)) := by
  refine cf44 w0 m A l.length c _ ⟨⟨by omega, by omega, by omega, by omega⟩, ?_⟩
  intro b hb hn M
  have lM : m.le M := le_new hn _
  have o0 : Own M w0.heap.size 3 1 (some ⟨b, 0, none⟩) l.length l.length (intCells .i64 (List.replicate l.length 0)) := by
    rw [← zeros_int]; exact Own.new m hb 3 1 l.length _ (by rw [zeros_int]; simp [intCells])
  clear_value M
  have hfr : ∀ k ∈ obl (some (⟨b, 0, none⟩ : Addr)), m k = none := fun k hk => by simp [obl] at hk; subst hk; exact hn
  rw [wrap_s (i := (l.length : Int) - 1) (by omega) (by omega)]
  generalize hb0 : (some (⟨b, 0, none⟩ : Addr)) = Ab at o0 hfr ⊢
  let Q : Int → Int → AM → Prop := fun i v m' => m.le m' ∧ ∃ o : List Int, o.length = l.length ∧ Own m' w0.heap.size 3 1 Ab o.length l.length (intCells .i64 o) ∧ ∀ k : Nat, k < l.length → o.getD k 0 = if i < k then hAt l k else if (k : Int) = i then v else 0
  refine ⟨rfl, vl44_11010 w0 M _ _ A l.length c Ab l.length l.length ((l.length : Int) - 1) (fun k i m' => -1 ≤ i ∧ i < l.length ∧ (k : Int) = i + 1 ∧ Q i 0 m') (fun m' => Q (-1) 0 m') l.length (by rfl) (by rw [← hb0]; rfl) (by rfl) ⟨by omega, by omega, by omega, lM, List.replicate l.length 0, by simp, by simpa using o0, fun k hk => ?_⟩ ?_ ?_⟩
  · rw [getD_rep, if_neg (by omega)]; split <;> rfl
  · rintro k σ i m' ⟨i0, i1, hk, hq⟩
    refine ⟨rfl, bcP (fun c1 => ⟨rfl, ?_⟩) fun c1 => ?_⟩
    · rw [wrap_s (i := (l.length : Int) - 1) (by omega) (by omega)]
      refine vl44_11010010010 w0 m' _ _ k _ _ A l.length c Ab l.length l.length i ((l.length : Int) - 1) (fun k2 j m2 => i ≤ j ∧ j < l.length ∧ (k2 : Int) = j - i ∧ ∃ v, IsMax (hTerm l i.toNat) (j.toNat + 1) l.length v ∧ Q i v m2) (fun m2 => Q i (hAt l i.toNat) m2) (l.length - (i.toNat + 1)) rfl rfl rfl rfl ⟨by omega, by omega, by omega, 0, ?_, hq⟩ ?_ ?_
      · rw [show ((l.length : Int) - 1).toNat + 1 = l.length by omega]; exact IsMax.nil _ _
      · rintro k2 σ j m2 ⟨j0, j1, hk2, v, hv, L2, o, hol, ho, hop⟩
        clear hq
        have wj : IntKind.wrap .i64 (j - 1) = j - 1 := wrap_s (by omega) (by omega)
        refine ⟨rfl, bcP (fun c2 => ldAt (rd.le L2) rfl c1 i1 fun a => ldAt (rd.le L2) rfl (by omega) j1 fun a2 => callI (refFar_e w0 m2 (cAt l i) (cAt l j)) ⟨rfl, ?_⟩) fun c2 => ?_⟩
        · have hf := farP_in (cAt l i) (cAt l j)
          have hbj := hAt_bd l (i := j.toNat) (by omega)
          have hbi := hAt_bd l (i := i.toNat) (by omega)
          have hT : hTerm l i.toNat j.toNat = if farP (cAt l i) (cAt l j) > 0 then farP (cAt l i) (cAt l j) + hAt l j.toNat else 0 := rfl
          have hv0 := hv.1
          have ej : o.getD j.toNat 0 = hAt l j.toNat := by rw [hop _ (by omega), if_pos (by omega)]
          have ei : o.getD i.toNat 0 = v := by rw [hop _ (by omega), if_neg (by omega), if_pos (by omega)]
          rw [wj]
          have stay : max v (hTerm l i.toNat j.toNat) = v → ∃ n' : Nat, n' < k2 ∧ (i ≤ j - 1 ∧ j - 1 < l.length ∧ (n' : Int) = j - 1 - i ∧ ∃ v, IsMax (hTerm l i.toNat) ((j - 1).toNat + 1) l.length v ∧ Q i v m2) := by
            intro he
            refine ⟨k2 - 1, by omega, by omega, by omega, by omega, v, ?_, L2, o, hol, ho, hop⟩
            rw [show (j - 1).toNat + 1 = j.toNat by omega]
            exact hv.dn (by omega) he.symm
          refine bcP (fun c3 => ⟨⟨by omega, j1⟩, ?_⟩) fun c3 => ⟨decide_eq_false c3, ?_⟩
          · obtain ⟨ad, rfl, hc⟩ := ho.ex (by omega)
            rw [nilO_some]
            refine ⟨_, cell_k hc (by omega) (by omega), rfl, ⟨c1, i1⟩, ?_⟩
            rw [nilO_some]
            refine ⟨_, cell_k hc c1 (by omega), rfl, ?_⟩
            rw [ej, ei, wrap_s (i := farP (cAt l i) (cAt l j) + hAt l j.toNat) (by omega) (by omega), decide_eq_true c3]
            refine bcP (fun c4 => ⟨⟨by omega, j1⟩, ?_⟩) fun c4 => ?_
            · clear stay
              rw [nilO_some]
              refine ⟨_, cell_k hc (by omega) (by omega), rfl, ⟨c1, i1⟩, ?_⟩
              rw [ej, nilO_some, wrap_s (i := farP (cAt l i) (cAt l j) + hAt l j.toNat) (by omega) (by omega)]
              have hw : farP (cAt l i) (cAt l j) + hAt l j.toNat = max v (hTerm l i.toNat j.toNat) := by
                rw [hT, if_pos c3]; omega
              refine own_set ho (k := i.toNat) (by omega) _ fun m4 o4 f4 => ?_
              repeat refine ⟨rfl, ?_⟩
              refine ⟨k2 - 1, by omega, by omega, by omega, by omega, max v (hTerm l i.toNat j.toNat), ?_, low_fresh L2 f4 hfr, o.set i.toNat (max v (hTerm l i.toNat j.toNat)), by rw [List.length_set]; exact hol, by rw [List.length_set, ← hw]; exact o4, fun q hq2 => ?_⟩
              · rw [show (j - 1).toNat + 1 = j.toNat by omega]
                exact hv.dn (by omega) rfl
              · rw [getD_set (by omega), hop q hq2]
                by_cases e : q = i.toNat
                · rw [if_pos e, if_neg (by omega), if_pos (by omega)]
                · rw [if_neg e]
                  by_cases e2 : i < q
                  · rw [if_pos e2, if_pos e2]
                  · rw [if_neg e2, if_neg e2, if_neg (by omega), if_neg (by omega)]
            · repeat refine ⟨rfl, ?_⟩
              refine stay ?_
              rw [hT, if_pos c3]; omega
          · repeat refine ⟨rfl, ?_⟩
            refine stay ?_
            rw [hT, if_neg c3]; omega
        · repeat refine ⟨rfl, ?_⟩
          have : v = hAt l i.toNat := by
            rw [show j.toNat + 1 = i.toNat + 1 by omega] at hv
            exact hv.uniq (hAt_max l i.toNat (by omega))
          rw [← this]
          exact ⟨L2, o, hol, ho, hop⟩
      · rintro σ m2 ⟨L2, o, hol, ho, hop⟩
        have wi : IntKind.wrap .i64 (i - 1) = i - 1 := wrap_s (by omega) (by omega)
        rw [wi]
        repeat refine ⟨rfl, ?_⟩
        refine ⟨k - 1, by omega, by omega, by omega, by omega, L2, o, hol, ho, fun q hq2 => ?_⟩
        rw [hop q hq2]
        by_cases e : i < q
        · rw [if_pos e, if_pos (by omega)]
        · rw [if_neg e]
          by_cases e2 : (q : Int) = i
          · rw [if_pos e2, if_pos (by omega), show i.toNat = q by omega]
          · rw [if_neg e2, if_neg (by omega)]; split <;> rfl
    · repeat refine ⟨rfl, ?_⟩
      obtain rfl : i = -1 := by omega
      exact hq
  · rintro σ m' ⟨L2, o, hol, ho, hop⟩
    have : o = heightsP l := heights_ext hol fun q hq2 => by rw [hop q hq2, if_pos (by omega)]
    subst this
    refine retP_of ⟨⟨Ab, l.length, by rw [hol], ?_, hfr⟩, L2⟩
    exact ho
end Go.Proofs.Ythocajnpofdbmaa.S
