/- Ythocajnpofdbmaa: a text of our own, by an AI agent: Dp3G -/
import Derived.Test.YthocajnpofdbmaaDp2G
set_option linter.unusedSimpArgs false
set_option linter.unusedVariables false
set_option maxRecDepth 100000
namespace Go.Proofs.Ythocajnpofdbmaa.S
open Go Go.RowKit Go.Alog Go.Proofs.Ythocajnpofdbmaa.T Go.Proofs.Ythocajnpofdbmaa.V

/-- The first place of a number; -1: it has none. -/
def whP : List Int → Int → Int
  | [], _ => -1
  | x :: r, n => if x = n then 0 else if whP r n = -1 then -1 else whP r n + 1
theorem whP_none : ∀ {l : List Int} {n : Int}, n ∉ l → whP l n = -1
  | [], n, _ => rfl
  | x :: r, n, h => by
    simp only [List.mem_cons, not_or] at h
    unfold whP
    rw [if_neg (fun e => h.1 e.symm), whP_none h.2, if_pos rfl]
theorem whP_at : ∀ {l : List Int} {n : Int} {i : Nat}, i < l.length → l.getD i 0 = n → n ∉ l.take i → whP l n = i
  | [], n, i, h, _, _ => by simp at h
  | x :: r, n, 0, h, h2, _ => by
    unfold whP; rw [if_pos (by simpa using h2)]; rfl
  | x :: r, n, i + 1, h, h2, h3 => by
    rw [List.take_succ_cons, List.mem_cons, not_or] at h3
    have := whP_at (l := r) (n := n) (i := i) (by simpa using h) (by simpa using h2) h3.2
    unfold whP
    rw [if_neg (fun e => h3.1 e.symm), this, if_neg (by omega)]
    omega
theorem first_place : ∀ {l : List Int} {n : Int}, n ∈ l → ∃ i : Nat, i < l.length ∧ l.getD i 0 = n ∧ n ∉ l.take i
  | [], n, h => by simp at h
  | x :: r, n, h => by
    by_cases e : x = n
    · exact ⟨0, by simp, by simpa using e, by simp⟩
    · have hm : n ∈ r := by
        rcases List.mem_cons.1 h with h | h
        · exact absurd h.symm e
        · exact h
      obtain ⟨i, h1, h2, h3⟩ := first_place hm
      refine ⟨i + 1, by simpa using h1, by simpa using h2, ?_⟩
      rw [List.take_succ_cons, List.mem_cons, not_or]
      exact ⟨fun h => e h.symm, h3⟩
theorem whP_sp (l : List Int) (n : Int) : (whP l n = -1 ∧ n ∉ l) ∨ ∃ i : Nat, whP l n = i ∧ i < l.length ∧ l.getD i 0 = n ∧ n ∉ l.take i := by
  by_cases h : n ∈ l
  · obtain ⟨i, h1, h2, h3⟩ := first_place h
    exact .inr ⟨i, whP_at h1 h2 h3, h1, h2, h3⟩
  · exact .inl ⟨whP_none h, h⟩
theorem whP_in (l : List Int) (n : Int) : -1 ≤ whP l n ∧ whP l n < l.length := by
  rcases whP_sp l n with ⟨h, _⟩ | ⟨i, h1, h2, _⟩ <;> omega
theorem whP_neg {l : List Int} {n : Int} : whP l n = -1 ↔ n ∉ l := by
  rcases whP_sp l n with ⟨h, h2⟩ | ⟨i, h1, h2, h3, h4⟩
  · exact ⟨fun _ => h2, fun _ => h⟩
  · refine ⟨fun h => by omega, fun h => absurd ?_ h⟩
    rw [← h3]; exact getD_in h2
theorem whP_snoc {l : List Int} {x n : Int} : whP (l ++ [x]) n = if n ∈ l then whP l n else if x = n then (l.length : Int) else -1 := by
  by_cases h : n ∈ l
  · rw [if_pos h]
    obtain ⟨i, h1, h2, h3⟩ := first_place h
    rw [whP_at h1 h2 h3]
    refine whP_at (by simp; omega) ?_ ?_
    · simpa [List.getD, List.getElem?_append_left h1] using h2
    · rwa [List.take_append_of_le_length (by omega)]
  · rw [if_neg h]
    by_cases e : x = n
    · rw [if_pos e]
      refine whP_at (by simp) ?_ ?_
      · simp [e]
      · rwa [List.take_left]
    · rw [if_neg e]
      refine whP_none ?_
      simp only [List.mem_append, List.mem_singleton, not_or]
      exact ⟨h, fun h => e h.symm⟩
theorem take_stepI {l : List Int} {i : Int} (h0 : 0 ≤ i) (h1 : i < l.length) : l.take (i + 1).toNat = l.take i.toNat ++ [l.getD i.toNat 0] := by
  have hi : i.toNat < l.length := by omega
  rw [show (i + 1).toNat = i.toNat + 1 by omega, ← List.take_append_getElem hi]
  congr 2
  simp [List.getD, hi]

theorem where_e (w0 : World) (m : AM) (A : Option Addr) (c : Nat) (l : List Int) (n : Int) (hl : l.length ≤ 1000000) (rd : Reads m 1 A l.length (intCells .i64 l)) :
    CallsA Try.prog w0 56 #[.slice A l.length c, .int .i64 n] m (fun r m' => r = .int .i64 (whP l n) ∧ m' = m) := by
  refine cf56 w0 m A l.length c n _ ?_
  refine vl56_1010 w0 m _ _ A l.length c n 0 (fun k i m' => m' = m ∧ 0 ≤ i ∧ i ≤ l.length ∧ (k : Int) = l.length - i ∧ n ∉ l.take i.toNat) (fun m' => m' = m ∧ n ∉ l) l.length rfl rfl rfl ⟨rfl, by omega, by omega, by omega, by simp⟩ ?_ ?_
  · rintro k σ i m' ⟨rfl, i0, i1, hk, hp⟩
    refine ⟨rfl, bcP (fun c1 => ⟨⟨i0, c1⟩, ?_⟩) fun c1 => ?_⟩
    · obtain ⟨ad, rfl, hc⟩ := rd.ex (by omega)
      rw [nilO_some]
      have w : IntKind.wrap .i64 (i + 1) = i + 1 := wrap_s (by omega) (by omega)
      refine ⟨_, cell_k hc i0 c1, rfl, bcI (fun hz => retP_of ⟨?_, rfl⟩) fun hz => ?_⟩
      · have hz : l.getD i.toNat 0 = n := by simpa using hz
        rw [whP_at (by omega) hz hp, Int.toNat_of_nonneg i0]
      · rw [w]
        repeat refine ⟨rfl, ?_⟩
        refine ⟨k - 1, by omega, rfl, by omega, by omega, by omega, ?_⟩
        rw [take_stepI i0 c1, List.mem_append, List.mem_singleton, not_or]
        exact ⟨hp, fun h => by rw [h] at hz; simp at hz⟩
    · repeat refine ⟨rfl, ?_⟩
      rw [List.take_of_length_le (by omega)] at hp; exact hp
  · rintro σ m' ⟨rfl, hp⟩
    exact retP_of ⟨by rw [whP_none hp], rfl⟩

theorem same_e (w0 : World) (m : AM) (A : Option Addr) (n c : Nat) (l : List Int) (A2 : Option Addr) (n2 c2 : Nat) (l2 : List Int) (hn : l.length = n) (hn2 : l2.length = n2) (hl : l.length ≤ 1000000) (rd : Reads m 1 A n (intCells .i64 l)) (rd2 : Reads m 1 A2 n2 (intCells .i64 l2)) :
    CallsA Try.prog w0 42 #[.slice A n c, .slice A2 n2 c2] m (fun r m' => r = .bool (decide (l = l2)) ∧ m' = m) := by
  subst hn; subst hn2
  refine cf42 w0 m A l.length c A2 l2.length c2 _ ⟨rfl, bcI (fun h => retP_of ⟨?_, rfl⟩) fun h => ?_⟩
  · have : l ≠ l2 := fun e => by rw [e] at h; simp at h
    rw [decide_eq_false this]
  have hlen : l.length = l2.length := by
    have : ¬ ((l.length : Nat) : Int) ≠ ((l2.length : Nat) : Int) := by simpa using h
    omega
  refine vl42_11010 w0 m _ _ A l.length c A2 l2.length c2 0 (fun k i m' => m' = m ∧ 0 ≤ i ∧ i ≤ l.length ∧ (k : Int) = l.length - i ∧ l.take i.toNat = l2.take i.toNat) (fun m' => m' = m ∧ l = l2) l.length rfl rfl rfl ⟨rfl, by omega, by omega, by omega, by simp⟩ ?_ ?_
  · rintro k σ i m' ⟨rfl, i0, i1, hk, hp⟩
    refine ⟨rfl, bcP (fun c1 => ⟨⟨i0, c1⟩, ?_⟩) fun c1 => ?_⟩
    · obtain ⟨ad, rfl, hc⟩ := rd.ex (by omega)
      obtain ⟨ad2, rfl, hc2⟩ := rd2.ex (by omega)
      rw [nilO_some]
      have w : IntKind.wrap .i64 (i + 1) = i + 1 := wrap_s (by omega) (by omega)
      refine ⟨_, cell_k hc i0 c1, ⟨i0, by omega⟩, ?_⟩
      rw [nilO_some]
      refine ⟨_, cell_k hc2 i0 (by omega), rfl, bcI (fun hz => retP_of ⟨?_, rfl⟩) fun hz => ?_⟩
      · have hz : l.getD i.toNat 0 ≠ l2.getD i.toNat 0 := by simpa using hz
        rw [decide_eq_false (fun e => hz (by rw [e]))]
      · have hz : l.getD i.toNat 0 = l2.getD i.toNat 0 := by simpa using hz
        rw [w]
        repeat refine ⟨rfl, ?_⟩
        refine ⟨k - 1, by omega, rfl, by omega, by omega, by omega, ?_⟩
        rw [take_stepI i0 c1, take_stepI i0 (by omega), hp, hz]
    · repeat refine ⟨rfl, ?_⟩
      rw [List.take_of_length_le (by omega), List.take_of_length_le (by omega)] at hp; exact hp
  · rintro σ m' ⟨rfl, hp⟩
    exact retP_of ⟨by rw [decide_eq_true hp], rfl⟩

/-- Is an order one of a list, and does it keep what must stay ahead? -/
def OrdQ (n : Nat) (order : List Int) (k : Nat) : Prop := order.getD k 0 = -1 ∨ (0 ≤ order.getD k 0 ∧ order.getD k 0 < n ∧ order.getD k 0 ∉ order.take k)
def PairQ (l : List Ins) (order : List Int) (i j : Nat) : Prop := farP (l.getD i default) (l.getD j default) > 0 → whP order j - whP order i ≥ farP (l.getD i default) (l.getD j default)
def KeepsQ (l : List Ins) (order : List Int) : Prop :=
  (∀ k, k < order.length → OrdQ l.length order k) ∧ (∀ n : Nat, n < l.length → (n : Int) ∈ order) ∧ ∀ i j : Nat, i < j → j < l.length → PairQ l order i j
open Classical in
noncomputable def keepsB (l : List Ins) (order : List Int) : Bool := decide (KeepsQ l order)
open Classical in
theorem keepsB_t {l : List Ins} {order : List Int} (h : KeepsQ l order) : keepsB l order = true := by unfold keepsB; exact decide_eq_true h
open Classical in
theorem keepsB_f {l : List Ins} {order : List Int} (h : ¬ KeepsQ l order) : keepsB l order = false := by unfold keepsB; exact decide_eq_false h
open Classical in
theorem keepsB_iff {l : List Ins} {order : List Int} : keepsB l order = true ↔ KeepsQ l order := by unfold keepsB; exact decide_eq_true_iff

theorem keeps_e (w0 : World) (m : AM) (A : Option Addr) (n c : Nat) (l : List Ins) (A2 : Option Addr) (n2 c2 : Nat) (order : List Int) (hn : l.length = n) (hn2 : order.length = n2) (hl : l.length ≤ 1000000) (hl2 : order.length ≤ 1000000) (rd : Reads m 5 A n (insCells l)) (rd2 : Reads m 1 A2 n2 (intCells .i64 order)) :
    CallsA Try.prog w0 45 #[.slice A n c, .slice A2 n2 c2] m (fun r m' => r = .bool (keepsB l order) ∧ m' = m) := by
  subst hn; subst hn2
  refine CallsA.down (R := fun r m' => r = .bool (keepsB l order) ∧ m.le m') ?_ fun _ _ h => h
  generalize hR : (fun (r : Value) (m' : AM) => r = .bool (keepsB l order) ∧ m.le m') = R
  have no : ∀ m', m.le m' → ¬ KeepsQ l order → RetP R (.bool false) m' := fun m' L h => by rw [← hR]; exact retP_of ⟨by rw [keepsB_f h], L⟩
  have yes : ∀ m', m.le m' → KeepsQ l order → RetP R (.bool true) m' := fun m' L h => by rw [← hR]; exact retP_of ⟨by rw [keepsB_t h], L⟩
  refine cf45 w0 m A l.length c A2 order.length c2 R ⟨⟨by omega, by omega, by omega, by omega⟩, ?_⟩
  intro b hb hn M
  have lM : m.le M := le_new hn _
  have o0 : Own M w0.heap.size 3 1 (some ⟨b, 0, none⟩) l.length l.length (intCells .i64 (List.replicate l.length 0)) := by
    rw [← zeros_int]; exact Own.new m hb 3 1 l.length _ (by rw [zeros_int]; simp [intCells])
  clear_value M
  have hfr : ∀ k ∈ obl (some (⟨b, 0, none⟩ : Addr)), m k = none := fun k hk => by simp [obl] at hk; subst hk; exact hn
  generalize hb0 : (some (⟨b, 0, none⟩ : Addr)) = Ab at o0 hfr ⊢
  let Q : Nat → AM → Prop := fun k m' => m.le m' ∧ ∃ o : List Int, o.length = l.length ∧ Own m' w0.heap.size 3 1 Ab o.length l.length (intCells .i64 o) ∧ ∀ q : Nat, q < l.length → o.getD q 0 = whP (order.take k) q + 1
  refine vl45_11010 w0 M _ R A l.length c Ab l.length l.length A2 order.length c2 order.length 0 (fun k i m' => 0 ≤ i ∧ i ≤ order.length ∧ (k : Int) = order.length - i ∧ (∀ q : Nat, q < i.toNat → OrdQ l.length order q) ∧ Q i.toNat m') (fun m' => (∀ q : Nat, q < order.length → OrdQ l.length order q) ∧ Q order.length m') order.length (by rfl) (by rw [← hb0]; rfl) (by rfl) (by rfl) (by rfl) ⟨by omega, by omega, by omega, fun q hq => by omega, lM, List.replicate l.length 0, by simp, by simpa using o0, fun q hq => ?_⟩ ?_ ?_
  · rw [getD_rep]; simp [whP]
  · rintro k σ i m' ⟨i0, i1, hk, hok, L, o, hol, ho, hop⟩
    have rd2 := rd2.le L
    refine ⟨rfl, bcP (fun c1 => ⟨⟨i0, c1⟩, ?_⟩) fun c1 => ?_⟩
    · obtain ⟨ad, rfl, hc⟩ := rd2.ex (by omega)
      rw [nilO_some]
      have w : IntKind.wrap .i64 (i + 1) = i + 1 := wrap_s (by omega) (by omega)
      refine ⟨_, cell_k hc i0 c1, rfl, ?_⟩
      rw [w]
      have bad : ¬ OrdQ l.length order i.toNat → ¬ KeepsQ l order := fun h hk => h (hk.1 _ (by omega))
      have tk := take_stepI i0 c1
      have hx : order.getD i.toNat 0 = order.getD i.toNat 0 := rfl
      generalize hxv : order.getD i.toNat 0 = x at tk
      have ot : ∀ (Z : Prop), Z ↔ Z := fun _ => Iff.rfl
      refine bcP (fun c2 => ⟨decide_eq_true c2, rfl, no m' L (bad ?_)⟩) fun c2 => ⟨rfl, ?_⟩
      · unfold OrdQ; rw [hxv]; omega
      rw [decide_eq_false c2]
      refine bifF (bcP (fun c3 => ⟨decide_eq_true c3, no m' L (bad ?_)⟩) fun c3 => ⟨rfl, ?_⟩)
      · unfold OrdQ; rw [hxv]; omega
      rw [show (bif false then true else decide (x ≥ (l.length : Int))) = false from decide_eq_false c3]
      refine bcP (fun c4 => ⟨⟨c4, by omega⟩, ?_⟩) fun c4 => ⟨decide_eq_false c4, bcF ⟨rfl, bcEF (decide_eq_false c4) ?_⟩⟩
      · obtain ⟨ad2, rfl, hc2⟩ := ho.ex (by omega)
        rw [nilO_some]
        refine ⟨_, cell_k hc2 c4 (by omega), rfl, ?_⟩
        rw [decide_eq_true c4]
        have ex : o.getD x.toNat 0 = whP (order.take i.toNat) x + 1 := by rw [hop _ (by omega), Int.toNat_of_nonneg c4]
        rw [ex]
        by_cases hin : x ∈ order.take i.toNat
        · have : whP (order.take i.toNat) x ≠ -1 := fun h => whP_neg.1 h hin
          refine bcET (by simp; omega) (no m' L (bad ?_))
          unfold OrdQ; rw [hxv]
          rintro (h | ⟨_, _, h⟩)
          · omega
          · exact h hin
        · have : whP (order.take i.toNat) x = -1 := whP_none hin
          refine bcEF (by rw [this]; rfl) ⟨rfl, bcET rfl ⟨rfl, ⟨c4, by omega⟩, ?_⟩⟩
          rw [nilO_some]
          refine own_set ho (k := x.toNat) (by omega) _ fun m4 o4 f4 => ?_
          repeat refine ⟨rfl, ?_⟩
          refine ⟨k - 1, by omega, by omega, by omega, by omega, fun q hq => ?_, low_fresh L f4 hfr, o.set x.toNat (i + 1), by rw [List.length_set]; exact hol, by rw [List.length_set]; exact o4, fun q hq => ?_⟩
          · by_cases e : q = i.toNat
            · subst e; unfold OrdQ; rw [hxv]; exact .inr ⟨c4, by omega, hin⟩
            · exact hok q (by omega)
          · rw [getD_set (by omega), tk, whP_snoc]
            by_cases e : q = x.toNat
            · have e' : (q : Int) = x := by omega
              rw [if_pos e, e', if_neg hin, if_pos rfl, List.length_take]; omega
            · rw [if_neg e, hop q hq, if_neg (show ¬ x = (q : Int) by omega)]
              by_cases hq2 : (q : Int) ∈ order.take i.toNat
              · rw [if_pos hq2]
              · rw [if_neg hq2, whP_none hq2]
      · repeat refine ⟨rfl, ?_⟩
        refine ⟨k - 1, by omega, by omega, by omega, by omega, fun q hq => ?_, L, o, hol, ho, fun q hq => ?_⟩
        · by_cases e : q = i.toNat
          · subst e; unfold OrdQ; rw [hxv]; exact .inl (by omega)
          · exact hok q (by omega)
        · rw [hop q hq, tk, whP_snoc, if_neg (show ¬ x = (q : Int) by omega)]
          by_cases hq2 : (q : Int) ∈ order.take i.toNat
          · rw [if_pos hq2]
          · rw [if_neg hq2, whP_none hq2]
    · repeat refine ⟨rfl, ?_⟩
      rw [show i.toNat = order.length by omega] at hok hop
      exact ⟨hok, L, o, hol, ho, hop⟩
  · rintro σ m' ⟨hok, L, o, hol, ho, hop⟩
    rw [List.take_of_length_le (Nat.le_refl _)] at hop
    have := ix_spec w0 m' Ab l.length o 0 (by omega) ho.reads
    rw [hol] at this
    refine callB this ?_
    refine bcI (fun h => no m' L ?_) fun h => ?_
    · intro hk
      obtain ⟨q, hq, e⟩ := List.mem_iff_getElem.1 (List.contains_iff_mem.1 h)
      have h2 := hop q (by omega)
      rw [show o.getD q 0 = o[q] by simp [List.getD, hq], e] at h2
      exact whP_neg.1 (by omega) (hk.2.1 q (by omega))
    · have hall : ∀ q : Nat, q < l.length → (q : Int) ∈ order := fun q hq => by
        apply Classical.byContradiction
        intro hn2
        have h2 := hop q hq
        rw [whP_none hn2] at h2
        have : (0 : Int) ∈ o := by rw [← show o.getD q 0 = 0 from h2]; exact getD_in (by omega)
        rw [List.contains_iff_mem.2 this] at h; cases h
      refine vl45_1111010 w0 m' _ R A l.length c Ab l.length l.length l.length 0 (fun k i m2 => m2 = m' ∧ 0 ≤ i ∧ i ≤ l.length ∧ (k : Int) = l.length - i ∧ ∀ p q : Nat, p < i.toNat → p < q → q < l.length → PairQ l order p q) (fun m2 => m2 = m' ∧ ∀ p q : Nat, p < q → q < l.length → PairQ l order p q) l.length (by rfl) (by first | rfl | (rw [← hol]; rfl)) (by rfl) (by rfl) ⟨rfl, by omega, by omega, by omega, fun p q hp => by omega⟩ ?_ ?_
      · rintro k σ i m2 ⟨rfl, i0, i1, hk, hpr⟩
        have w : IntKind.wrap .i64 (i + 1) = i + 1 := wrap_s (by omega) (by omega)
        refine ⟨rfl, bcP (fun c1 => ⟨rfl, ?_⟩) fun c1 => ?_⟩
        · rw [w]
          refine vl45_111101001100110 w0 m2 _ R k _ _ A l.length c Ab l.length l.length i l.length i (i + 1) (fun k2 j m3 => m3 = m2 ∧ i + 1 ≤ j ∧ j ≤ l.length ∧ (k2 : Int) = l.length - j ∧ ∀ q : Nat, i.toNat < q → q < j.toNat → PairQ l order i.toNat q) (fun m3 => m3 = m2 ∧ ∀ q : Nat, i.toNat < q → q < l.length → PairQ l order i.toNat q) (l.length - (i.toNat + 1)) rfl rfl rfl rfl rfl rfl ⟨rfl, by omega, by omega, by omega, fun q hq => by omega⟩ ?_ ?_
          · rintro k2 σ j m3 ⟨rfl, j0, j1, hk2, hpj⟩
            have wj : IntKind.wrap .i64 (j + 1) = j + 1 := wrap_s (by omega) (by omega)
            refine ⟨rfl, bcP (fun c2 => ldAt (rd.le L) rfl i0 c1 fun a => ldAt (rd.le L) rfl (by omega) c2 fun a2 => callI (far_e w0 m3 (cAt l i) (cAt l j)) ⟨rfl, ?_⟩) fun c2 => ?_⟩
            · have hf := farP_in (cAt l i) (cAt l j)
              have hwi := whP_in order i
              have hwj := whP_in order j
              have hq : PairQ l order i.toNat j.toNat ↔ (farP (cAt l i) (cAt l j) > 0 → whP order j - whP order i ≥ farP (cAt l i) (cAt l j)) := by
                unfold PairQ
                rw [Int.toNat_of_nonneg i0, Int.toNat_of_nonneg (by omega : 0 ≤ j)]; rfl
              rw [wj]
              have stay : PairQ l order i.toNat j.toNat → ∃ n' : Nat, n' < k2 ∧ (m3 = m3 ∧ i + 1 ≤ j + 1 ∧ j + 1 ≤ l.length ∧ (n' : Int) = l.length - (j + 1) ∧ ∀ q : Nat, i.toNat < q → q < (j + 1).toNat → PairQ l order i.toNat q) := fun hp => ⟨k2 - 1, by omega, rfl, by omega, by omega, by omega, fun q h1 h2 => by
                by_cases e : q = j.toNat
                · rw [e]; exact hp
                · exact hpj q h1 (by omega)⟩
              refine bcP (fun c3 => ⟨⟨by omega, by omega⟩, ?_⟩) fun c3 => ⟨decide_eq_false c3, ?_⟩
              · obtain ⟨ad2, rfl, hc2⟩ := ho.ex (by omega)
                rw [nilO_some]
                refine ⟨_, cell_k hc2 (by omega) (by omega), ⟨i0, by omega⟩, ?_⟩
                rw [nilO_some]
                refine ⟨_, cell_k hc2 i0 (by omega), rfl, rfl, ?_⟩
                have ei : o.getD i.toNat 0 = whP order i + 1 := by rw [hop _ (by omega), Int.toNat_of_nonneg i0]
                have ej : o.getD j.toNat 0 = whP order j + 1 := by rw [hop _ (by omega), Int.toNat_of_nonneg (by omega)]
                rw [ei, ej, wrap_s (i := whP order j + 1 - (whP order i + 1)) (by omega) (by omega), decide_eq_true c3]
                refine bcP (fun c4 => no m3 L fun hk => ?_) fun c4 => ?_
                · have := hq.1 (hk.2.2 i.toNat j.toNat (by omega) (by omega)) c3
                  omega
                · repeat refine ⟨rfl, ?_⟩
                  exact stay (hq.2 fun _ => by omega)
              · repeat refine ⟨rfl, ?_⟩
                exact stay (hq.2 fun h => absurd h c3)
            · repeat refine ⟨rfl, ?_⟩
              intro q h1 h2
              exact hpj q h1 (by omega)
          · rintro σ m3 ⟨rfl, hpj⟩
            rw [w]
            repeat refine ⟨rfl, ?_⟩
            refine ⟨k - 1, by omega, rfl, by omega, by omega, by omega, fun p q h1 h2 h3 => ?_⟩
            by_cases e : p = i.toNat
            · subst e; exact hpj q h2 h3
            · exact hpr p q (by omega) h2 h3
        · repeat refine ⟨rfl, ?_⟩
          intro p q h1 h2
          exact hpr p q (by omega) h1 h2
      · rintro σ m2 ⟨rfl, hpr⟩
        exact yes m2 L ⟨hok, hall, hpr⟩
end Go.Proofs.Ythocajnpofdbmaa.S
