/- Ythocajnpofdbmaa: a text of our own, by an AI agent: Dp4G -/
import Derived.Test.YthocajnpofdbmaaDp3G
import Derived.Test.YthocajnpofdbmaaCore16
import Derived.Test.YthocajnpofdbmaaVLaw10G
set_option linter.unusedSimpArgs false
set_option linter.unusedVariables false
set_option maxRecDepth 100000
namespace Go.Proofs.Ythocajnpofdbmaa.S
open Go Go.RowKit Go.Alog Go.Proofs.Ythocajnpofdbmaa.T Go.Proofs.Ythocajnpofdbmaa.V

theorem whP_fst {l : List Int} {k : Nat} (hk : k < l.length) : whP l (l.getD k 0) = k ↔ l.getD k 0 ∉ l.take k := by
  constructor
  · intro h
    rcases whP_sp l (l.getD k 0) with ⟨h1, _⟩ | ⟨i, h1, h2, h3, h4⟩
    · omega
    · have : i = k := by omega
      rw [this] at h4; exact h4
  · intro h; exact whP_at hk rfl h
/-- How many of 0 .. n-1 an order has. -/
def covN (n : Nat) (l : List Int) : Nat := (List.range n).countP (fun q : Nat => l.contains ((q : Nat) : Int))
theorem covN_le (n : Nat) (l : List Int) : covN n l ≤ n := by
  have := List.countP_le_length (p := fun q => l.contains ((q : Nat) : Int)) (l := List.range n)
  rwa [List.length_range] at this
theorem covN_all {n : Nat} {l : List Int} : covN n l = n ↔ ∀ q : Nat, q < n → (q : Int) ∈ l := by
  have : covN n l = n ↔ ∀ a ∈ List.range n, l.contains ((a : Nat) : Int) = true := by
    have h := List.countP_eq_length (p := fun q => l.contains ((q : Nat) : Int)) (l := List.range n)
    rw [List.length_range] at h
    exact h
  rw [this]
  simp
theorem covN_nil (n : Nat) : covN n [] = 0 := by unfold covN; rw [List.countP_eq_zero]; simp
theorem covN_neg {n : Nat} {l : List Int} {x : Int} (h : x = -1) : covN n (l ++ [x]) = covN n l := by
  unfold covN
  apply List.countP_congr
  intro q _
  have : ((q : Nat) : Int) ≠ x := by omega
  simp [List.contains_append, this]
theorem covN_new {n : Nat} {l : List Int} {x : Int} (h0 : 0 ≤ x) (h1 : x < n) (hx : x ∉ l) : covN n (l ++ [x]) = covN n l + 1 := by
  unfold covN
  have hp : l.contains ((x.toNat : Nat) : Int) = false := by
    rw [Int.toNat_of_nonneg h0]
    cases h : l.contains x with
    | false => rfl
    | true => exact absurd (List.contains_iff_mem.1 h) hx
  rw [← countP_add (p := fun q => l.contains ((q : Nat) : Int)) hp n (by omega)]
  apply List.countP_congr
  intro q _
  have : (((q : Nat) : Int) = x) ↔ q = x.toNat := by omega
  simp [List.contains_append, this]

theorem refKeeps_e (w0 : World) (m : AM) (A : Option Addr) (n c : Nat) (l : List Ins) (A2 : Option Addr) (n2 c2 : Nat) (order : List Int) (hn : l.length = n) (hn2 : order.length = n2) (hl : l.length ≤ 1000000) (hl2 : order.length ≤ 1000000) (rd : Reads m 5 A n (insCells l)) (rd2 : Reads m 1 A2 n2 (intCells .i64 order)) :
    CallsA Try.prog w0 46 #[.slice A n c, .slice A2 n2 c2] m (fun r m' => r = .bool (keepsB l order) ∧ m' = m) := by
  subst hn; subst hn2
  generalize hR : (fun (r : Value) (m' : AM) => r = .bool (keepsB l order) ∧ m' = m) = R
  have no : ¬ KeepsQ l order → RetP R (.bool false) m := fun h => by rw [← hR]; exact retP_of ⟨by rw [keepsB_f h], rfl⟩
  have yes : KeepsQ l order → RetP R (.bool true) m := fun h => by rw [← hR]; exact retP_of ⟨by rw [keepsB_t h], rfl⟩
  refine cf46 w0 m A l.length c A2 order.length c2 R ?_
  refine vl46_11010 w0 m _ R A l.length c A2 order.length c2 0 0 (fun k x i m' => m' = m ∧ 0 ≤ i ∧ i ≤ order.length ∧ (k : Int) = order.length - i ∧ (∀ q : Nat, q < i.toNat → OrdQ l.length order q) ∧ x = covN l.length (order.take i.toNat)) (fun x m' => m' = m ∧ (∀ q : Nat, q < order.length → OrdQ l.length order q) ∧ x = covN l.length order) order.length rfl rfl rfl rfl ⟨rfl, by omega, by omega, by omega, fun q hq => by omega, ?_⟩ ?_ ?_
  · show (0 : Int) = ((covN l.length [] : Nat) : Int)
    rw [covN_nil]; rfl
  · rintro k σ x i m' ⟨rfl, i0, i1, hk, hok, hx⟩
    have hcov := covN_le l.length (order.take i.toNat)
    refine ⟨rfl, bcP (fun c1 => ⟨⟨i0, c1⟩, ?_⟩) fun c1 => ?_⟩
    · obtain ⟨ad, rfl, hc⟩ := rd2.ex (by omega)
      rw [nilO_some]
      have w : IntKind.wrap .i64 (i + 1) = i + 1 := wrap_s (by omega) (by omega)
      have wx : IntKind.wrap .i64 (x + 1) = x + 1 := wrap_s (by omega) (by omega)
      have cell := cell_k hc i0 c1
      have bad : ¬ OrdQ l.length order i.toNat → ¬ KeepsQ l order := fun h hk => h (hk.1 _ (by omega))
      have tk := take_stepI i0 c1
      have hwf := whP_fst (l := order) (k := i.toNat) (by omega)
      rw [w, wx]
      refine ⟨_, cell, rfl, ?_⟩
      generalize hxv : order.getD i.toNat 0 = v at tk cell hwf ⊢
      have oq : OrdQ l.length order i.toNat ↔ (v = -1 ∨ (0 ≤ v ∧ v < l.length ∧ v ∉ order.take i.toNat)) := by unfold OrdQ; rw [hxv]
      by_cases hv : v = -1
      · refine bcET (by simp [hv]) ?_
        repeat refine ⟨rfl, ?_⟩
        refine ⟨k - 1, by omega, rfl, by omega, by omega, by omega, fun q hq => ?_, ?_⟩
        · by_cases e : q = i.toNat
          · rw [e]; exact oq.2 (.inl hv)
          · exact hok q (by omega)
        · rw [tk, covN_neg hv]; exact hx
      · refine bcEF (by simp [hv]) ⟨⟨i0, c1⟩, ?_⟩
        rw [nilO_some]
        refine ⟨_, cell, rfl, bcP (fun d2 => ⟨decide_eq_true d2, rfl, no (bad ?_)⟩) fun d2 => ⟨⟨i0, c1⟩, ?_⟩⟩
        · rw [oq]; omega
        rw [nilO_some, decide_eq_false d2]
        refine ⟨_, cell, rfl, bifF (bcP (fun c3 => ⟨decide_eq_true c3, no (bad ?_)⟩) fun c3 => ⟨⟨i0, c1⟩, ?_⟩)⟩
        · rw [oq]; omega
        rw [nilO_some]
        refine ⟨_, cell, callI (where_e w0 m' _ c2 order v hl2 rd2) ⟨rfl, ?_⟩⟩
        rw [show (bif false then true else decide (v ≥ (l.length : Int))) = false from decide_eq_false c3]
        by_cases hin : v ∈ order.take i.toNat
        · have : whP order v ≠ i := fun h => hwf.1 (by omega) hin
          refine bcET (by simpa using this) (no (bad ?_))
          rw [oq]
          rintro (h | ⟨_, _, h⟩)
          · exact hv h
          · exact h hin
        · have : whP order v = i := by have := hwf.2 hin; omega
          refine bcEF (by simp [this]) ?_
          repeat refine ⟨rfl, ?_⟩
          refine ⟨k - 1, by omega, rfl, by omega, by omega, by omega, fun q hq => ?_, ?_⟩
          · by_cases e : q = i.toNat
            · rw [e]; exact oq.2 (.inr ⟨by omega, by omega, hin⟩)
            · exact hok q (by omega)
          · rw [tk, covN_new (by omega) (by omega) hin, hx]; omega
    · repeat refine ⟨rfl, ?_⟩
      rw [show i.toNat = order.length by omega] at hok hx
      rw [List.take_of_length_le (Nat.le_refl _)] at hx
      exact ⟨hok, hx⟩
  · rintro σ x m' ⟨rfl, hok, hx⟩
    by_cases hall : x = l.length
    · refine ⟨rfl, bcEF (by simp [hall]) ?_⟩
      have hall : ∀ q : Nat, q < l.length → (q : Int) ∈ order := covN_all.1 (by omega)
      refine vl46_1111010 w0 m' _ R A l.length c A2 order.length c2 0 (fun k i m2 => m2 = m' ∧ 0 ≤ i ∧ i ≤ l.length ∧ (k : Int) = l.length - i ∧ ∀ p q : Nat, p < i.toNat → p < q → q < l.length → PairQ l order p q) (fun m2 => m2 = m' ∧ ∀ p q : Nat, p < q → q < l.length → PairQ l order p q) l.length rfl rfl rfl ⟨rfl, by omega, by omega, by omega, fun p q hp => by omega⟩ ?_ ?_
      · rintro k σ i m2 ⟨rfl, i0, i1, hk, hpr⟩
        have w : IntKind.wrap .i64 (i + 1) = i + 1 := wrap_s (by omega) (by omega)
        refine ⟨rfl, bcP (fun c1 => ⟨rfl, ?_⟩) fun c1 => ?_⟩
        · rw [w]
          refine vl46_1111010010010 w0 m2 _ R k _ _ A l.length c A2 order.length c2 i (i + 1) (fun k2 j m3 => m3 = m2 ∧ i + 1 ≤ j ∧ j ≤ l.length ∧ (k2 : Int) = l.length - j ∧ ∀ q : Nat, i.toNat < q → q < j.toNat → PairQ l order i.toNat q) (fun m3 => m3 = m2 ∧ ∀ q : Nat, i.toNat < q → q < l.length → PairQ l order i.toNat q) (l.length - (i.toNat + 1)) rfl rfl rfl rfl ⟨rfl, by omega, by omega, by omega, fun q hq => by omega⟩ ?_ ?_
          · rintro k2 σ j m3 ⟨rfl, j0, j1, hk2, hpj⟩
            have wj : IntKind.wrap .i64 (j + 1) = j + 1 := wrap_s (by omega) (by omega)
            refine ⟨rfl, bcP (fun c2' => ldAt rd rfl i0 c1 fun a => ldAt rd rfl (by omega) c2' fun a2 => callI (refFar_e w0 m3 (cAt l i) (cAt l j)) ⟨rfl, ?_⟩) fun c2' => ?_⟩
            · have hf := farP_in (cAt l i) (cAt l j)
              have hwi := whP_in order i
              have hwj := whP_in order j
              have hq : PairQ l order i.toNat j.toNat ↔ (farP (cAt l i) (cAt l j) > 0 → whP order j - whP order i ≥ farP (cAt l i) (cAt l j)) := by
                unfold PairQ
                rw [Int.toNat_of_nonneg i0, Int.toNat_of_nonneg (by omega : 0 ≤ j)]; rfl
              rw [wj]
              have stay : PairQ l order i.toNat j.toNat → ∃ n' : Nat, n' < k2 ∧ (m3 = m3 ∧ i + 1 ≤ j + 1 ∧ j + 1 ≤ l.length ∧ (n' : Int) = l.length - (j + 1) ∧ ∀ q : Nat, i.toNat < q → q < (j + 1).toNat → PairQ l order i.toNat q) := fun hp => ⟨k2 - 1, by omega, rfl, by omega, by omega, by omega, fun q h1 h2 => by
                by_cases e : q = j.toNat
                · rw [e]; exact hp
                · exact hpj q h1 (by omega)⟩
              refine bcP (fun c3 => callI (where_e w0 m3 A2 c2 order j hl2 rd2) (callI (where_e w0 m3 A2 c2 order i hl2 rd2) ⟨rfl, rfl, ?_⟩)) fun c3 => ⟨decide_eq_false c3, ?_⟩
              · rw [wrap_s (i := whP order i + farP (cAt l i) (cAt l j)) (by omega) (by omega), decide_eq_true c3]
                refine bcP (fun c4 => no fun hk => ?_) fun c4 => ?_
                · have := hq.1 (hk.2.2 i.toNat j.toNat (by omega) (by omega)) c3
                  omega
                · repeat refine ⟨rfl, ?_⟩
                  exact stay (hq.2 fun _ => by omega)
              · repeat refine ⟨rfl, ?_⟩
                exact stay (hq.2 fun h => absurd h c3)
            · repeat refine ⟨rfl, ?_⟩
              intro q h1 h2
              exact hpj q h1 (by omega)
          · rintro σ m3 ⟨rfl, hpj⟩
            rw [w]
            repeat refine ⟨rfl, ?_⟩
            refine ⟨k - 1, by omega, rfl, by omega, by omega, by omega, fun p q h1 h2 h3 => ?_⟩
            by_cases e : p = i.toNat
            · subst e; exact hpj q h2 h3
            · exact hpr p q (by omega) h2 h3
        · repeat refine ⟨rfl, ?_⟩
          intro p q h1 h2
          exact hpr p q (by omega) h1 h2
      · rintro σ m2 ⟨rfl, hpr⟩
        exact yes ⟨hok, hall, hpr⟩
    · refine ⟨rfl, bcET (by simpa using hall) (no fun hk => ?_)⟩
      have := covN_all.2 hk.2.1
      omega
end Go.Proofs.Ythocajnpofdbmaa.S
