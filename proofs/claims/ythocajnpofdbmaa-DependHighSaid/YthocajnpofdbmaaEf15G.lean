/- Ythocajnpofdbmaa: a text of our own, by an AI agent: Ef15G -/
import Derived.Test.YthocajnpofdbmaaEf14G
set_option linter.unusedSimpArgs false
set_option linter.unusedVariables false
set_option maxRecDepth 100000
namespace Go.Proofs.Ythocajnpofdbmaa.S
open Go Go.RowKit Go.Alog Go.Proofs.Ythocajnpofdbmaa.T Go.Proofs.Ythocajnpofdbmaa.V

theorem callReads {w0 : World} {m : AM} {i : Ins} {K : Option Addr → Nat → Nat → AM → Prop} (h : ∀ A c m', m.le m' → Reads m' 1 A (readsL i).length (intCells .i64 (readsL i)) → K A (readsL i).length c m') :
    CallsA Try.prog w0 21 #[i.val] m (fun r m' => ∃ (A : Option Addr) (n c : Nat), r = .slice A n c ∧ K A n c m') := by
  refine CallsA.mono (reads_spec w0 m i) ?_
  rintro r m' ⟨⟨A, c, rfl, o, f⟩, l⟩
  exact ⟨_, _, _, rfl, h A c m' l o.reads⟩
theorem two_len {l : List Int} (h : Two l) : l.length ≤ 2 := by cases h <;> simp
theorem two_in {l : List Int} (h : Two l) : ∀ x ∈ l, 1 ≤ x ∧ x ≤ 31 := by
  intro z hz
  cases h <;> simp at hz <;> omega
theorem getD_in {l : List Int} {k : Nat} (h : k < l.length) : l.getD k 0 ∈ l := by simp [List.getD, h]
/-- How many of a list are below a number. -/
def cnt (l : List Int) (n : Int) : Nat := (l.filter (fun x => decide (x < n))).length
theorem cnt_at {l : List Int} (h : Two l) {n : Int} (hn : l.contains n = true) : cnt l n < l.length ∧ l.getD (cnt l n) 0 = n := by
  have hm := List.contains_iff_mem.1 hn
  cases h with
  | none => simp at hm
  | one x h1 h2 =>
    simp at hm; subst hm
    simp [cnt]
  | two x y h1 h2 h3 =>
    simp only [List.mem_cons, List.not_mem_nil, or_false] at hm
    rcases hm with rfl | rfl
    · have a : ¬ y < n := by omega
      simp [cnt, a]
    · simp [cnt, h2]
theorem cnt_step {l : List Int} (h : Two l) (n : Int) : cnt l (n + 1) = cnt l n + (if l.contains n then 1 else 0) := by
  cases h with
  | none => simp [cnt]
  | one x h1 h2 =>
    rcases Int.lt_trichotomy x n with h | h | h
    · have a : x < n + 1 := by omega
      have b : ¬ n = x := by omega
      simp [cnt, h, a, b]
    · subst h
      have a : x < x + 1 := by omega
      simp [cnt, a]
    · have a : ¬ x < n + 1 := by omega
      have b : ¬ n = x := by omega
      have c : ¬ x < n := by omega
      simp [cnt, a, b, c]
  | two x y h1 h2 h3 =>
    have f : ∀ n : Int, cnt [x, y] n = (if x < n then 1 else 0) + (if y < n then 1 else 0) := by
      intro n
      by_cases a : x < n <;> by_cases b : y < n <;> simp [cnt, a, b]
    rw [f, f]
    by_cases hc : ([x, y] : List Int).contains n = true
    · rw [if_pos hc]
      have := List.contains_iff_mem.1 hc
      simp only [List.mem_cons, List.not_mem_nil, or_false] at this
      rcases this with rfl | rfl
      · rw [if_pos (by omega), if_neg (by omega), if_neg (by omega), if_neg (by omega)]
      · rw [if_pos (by omega), if_pos (by omega), if_pos (by omega), if_neg (by omega)]
    · rw [if_neg hc]
      have hn : ¬ (n = x ∨ n = y) := fun h => hc (List.contains_iff_mem.2 (by simpa using h))
      by_cases a : x < n
      · rw [if_pos (by omega), if_pos a]
        by_cases b : y < n
        · rw [if_pos (by omega), if_pos b]
        · rw [if_neg (by omega), if_neg b]
      · rw [if_neg (by omega), if_neg a]
        by_cases b : y < n
        · rw [if_pos (by omega), if_pos b]
        · rw [if_neg (by omega), if_neg b]
theorem cnt_0 {l : List Int} (h : Two l) : cnt l 0 = 0 := by
  unfold cnt
  rw [List.length_eq_zero_iff, List.filter_eq_nil_iff]
  intro x hx
  have := two_in h x hx
  simp; omega
theorem cnt_40 {l : List Int} (h : Two l) : cnt l 40 = l.length := by
  unfold cnt
  congr 1
  rw [List.filter_eq_self]
  intro x hx
  have := two_in h x hx
  simp; omega

theorem law_EffectOne (W : World) (i0 : Ins) (wi0 : i0.wf) : CallsA Try.prog W 5 #[i0.val] (mOf W) (fun r _ => r = .bool true) := by
  refine cf5 W _ _ _ _ _ _ _ ?_
  intro b hBb hNb M
  have l : AM.le _ M := le_new hNb _
  have p : M b = some (.cells (Ins.cells i0).toArray 23) := upd_get_same
  clear_value M
  refine ldIns p (callReads fun A c m1 l1 r1 => ?_)
  have p1 := l1 _ _ p
  have t := readsL_two i0
  have tl := two_len t
  refine vl5_11010 W m1 _ _ _ _ _ _ _ _ _ _ _ (fun k i m' => m' = m1 ∧ 0 ≤ i ∧ i ≤ (readsL i0).length ∧ (k : Int) = (readsL i0).length - i) (fun m' => m' = m1) (readsL i0).length rfl rfl rfl rfl rfl ⟨rfl, by omega, by omega, by omega⟩ ?_ ?_
  · rintro k σ i m' ⟨rfl, i0', i1, hk⟩
    refine ⟨rfl, bcP (fun c1 => ⟨⟨i0', c1⟩, ?_⟩) fun c1 => ⟨rfl, rfl, rfl, rfl, rfl⟩⟩
    obtain ⟨ad, rfl, hc⟩ := r1.ex (by omega)
    rw [nilO_some]
    have hin := two_in t _ (getD_in (iloop_lt i0' c1))
    have w : IntKind.wrap .i64 (i + 1) = i + 1 := by rw [IntKind.wrap_i64]; omega
    have d1 : decide ((readsL i0).getD i.toNat 0 < 1) = false := decide_eq_false (by omega)
    refine ⟨_, cell_k hc i0' c1, rfl, bcEF d1 ⟨rfl, ?_⟩⟩
    rw [d1]
    refine bcEF (decide_eq_false (by omega)) ⟨rfl, rfl, rfl, rfl, rfl, rfl, k - 1, by omega, ?_⟩
    rw [w]
    exact ⟨rfl, by omega, by omega, by omega⟩
  · rintro σ m' rfl
    refine ldIns p1 (callI (writes_e W m' i0) ⟨rfl, ?_⟩)
    have hw := writesP_in i0
    rw [show decide (((readsL i0).length : Int) ≤ 2) = true from decide_eq_true (by omega)]
    refine bcT ⟨rfl, ?_⟩
    rw [show decide (writesP i0 ≥ 0) = true from decide_eq_true hw.1]
    refine bcT ⟨rfl, ?_⟩
    rw [show decide (writesP i0 ≤ 31) = true from decide_eq_true hw.2]
    refine bcT (ldIns p1 (callB (goes_e W m' i0) ?_))
    have tail : ∀ K : Bool → AM → Prop, K true m' → ∃ a : Int, m'.cell ⟨b, 0, none⟩ = some (.int .i64 a) ∧ ∃ a1 : Int, m'.cell ⟨b, 1, none⟩ = some (.int .i64 a1) ∧ ∃ a2 : Int, m'.cell ⟨b, 2, none⟩ = some (.int .i64 a2) ∧ ∃ a3 : Int, m'.cell ⟨b, 3, none⟩ = some (.int .i64 a3) ∧ ∃ a4 : Int, m'.cell ⟨b, 4, none⟩ = some (.int .i64 a4) ∧ True := fun _ _ => ldIns p1 trivial
    clear tail
    cases hg : goesP i0
    · refine ⟨rfl, bcT (ldIns p1 (callB (late_e W m' i0) ?_))⟩
      cases hl : lateP i0
      · refine ⟨rfl, bcT (ldIns p1 (callB (touches_e W m' i0 0) ?_))⟩
        rw [touches_0]
        exact bcT (aw3 W m' rfl)
      · refine bcF (ldIns p1 (callB (acts_e W m' i0) ?_))
        rw [late_acts hl]
        refine bcT (ldIns p1 (callB (touches_e W m' i0 0) ?_))
        rw [touches_0]
        exact bcT (aw3 W m' rfl)
    · refine bcT (ldIns p1 (callB (acts_e W m' i0) ?_))
      have ha := goes_acts hg
      rw [ha]
      refine bcT (ldIns p1 (callB (late_e W m' i0) ?_))
      have hl : lateP i0 = false := by
        cases hl : lateP i0 with
        | false => rfl
        | true => rw [late_acts hl] at ha; cases ha
      rw [hl]
      refine bcT ⟨rfl, bcT (ldIns p1 (callB (touches_e W m' i0 0) ?_))⟩
      rw [touches_0]
      exact bcT (aw3 W m' rfl)

theorem law_EffectReads (W : World) (i0 : Ins) (wi0 : i0.wf) : CallsA Try.prog W 3 #[i0.val] (mOf W) (fun r _ => r = .bool true) := by
  refine cf3 W _ _ _ _ _ _ _ ?_
  intro b hBb hNb M
  have l : AM.le _ M := le_new hNb _
  have p : M b = some (.cells (Ins.cells i0).toArray 23) := upd_get_same
  clear_value M
  refine ldIns p (callReads fun A c m1 l1 r1 => ?_)
  have p1 := l1 _ _ p
  have t := readsL_two i0
  have tl := two_len t
  generalize hI : (fun (k : Nat) (at_ n : Int) (m' : AM) => m' = m1 ∧ 0 ≤ n ∧ n ≤ 40 ∧ (k : Int) = 40 - n ∧ at_ = cnt (readsL i0) n) = I
  have mkI : ∀ (k : Nat) (at_ n : Int), 0 ≤ n → n ≤ 40 → (k : Int) = 40 - n → at_ = cnt (readsL i0) n → I k at_ n m1 := fun k at_ n h1 h2 h3 h4 => by rw [← hI]; exact ⟨rfl, h1, h2, h3, h4⟩
  let E : Int → AM → Prop := fun at_ m' => m' = m1 ∧ at_ = (readsL i0).length
  refine vl3_111010 W m1 _ _ _ _ _ _ 0 0 I E 40 rfl rfl rfl rfl (mkI 40 0 0 (by omega) (by omega) rfl (by rw [cnt_0 t]; rfl)) ?_ ?_
  · intro k σ x4 x5 m' hi
    rw [← hI] at hi
    obtain ⟨rfl, n0, n1, hk, hc⟩ := hi
    have K2 : ∀ σ : Sg, σ 1 = .pointer (some ⟨b, 0, none⟩) → σ 3 = .slice A (readsL i0).length c → σ 4 = .int .i64 x4 → σ 5 = .int .i64 x5 → σ 6 = .bool (readsR i0 x5) → x5 < 40 → (vcS Try.prog W qs3 (sub c3 [1, 1, 1, 0, 1, 0, 0, 1, 0, 0, 1, 1]) σ m' (blockS 1 (thenS (fun σ m' => vcS Try.prog W qs3 (sub c3 [1, 1, 1, 0, 1, 0, 0, 1, 1]) σ m' (lq3_111010 (fun r _ => r = .bool true) b A (readsL i0).length c I E k)) (lq3_111010 (fun r _ => r = .bool true) b A (readsL i0).length c I E k)))) := by
      intro σ h1 h3 h4 h5 h6 hlt
      refine vk3_111010010011 W m' σ _ k I E b A _ c x4 x5 _ h1 h3 h4 h5 h6 ?_
      have w5 : IntKind.wrap .i64 (x5 + 1) = x5 + 1 := by rw [IntKind.wrap_i64]; omega
      have hst := cnt_step t x5
      rw [readsL_c] at hst
      have e1 : ∀ x : Bool, (!(x == x)) = false := fun x => by cases x <;> rfl
      have tq : touchesP i0 x5 = (x5 != 0 && (writesP i0 == x5 || readsR i0 x5)) := touchesP_eq i0 x5
      cases hr : readsR i0 x5
      · rw [hr, Bool.or_false] at tq
        refine bcF (ldIns p1 (callB (touches_e W m' i0 x5) ⟨rfl, bcP (fun c1 => ?_) fun c1 => ?_⟩))
        · refine bcF (ldIns p1 (callI (refWrites_e W m' i0) ⟨rfl, ?_⟩))
          rw [decide_eq_true c1, tq, show (x5 != 0) = true from by simpa using (by omega : ¬ x5 = 0), Bool.true_and]
          refine bcEF (e1 _) ⟨rfl, rfl, rfl, rfl, rfl, k - 1, by omega, ?_⟩
          rw [w5]
          exact mkI _ _ _ (by omega) (by omega) (by omega) (by rw [hst, hr, hc]; simp)
        · refine ⟨decide_eq_false c1, ?_⟩
          have : x5 = 0 := by omega
          rw [tq, show (x5 != 0) = false from by simpa using this]
          refine bcF ⟨rfl, rfl, rfl, rfl, rfl, k - 1, by omega, ?_⟩
          rw [w5]
          exact mkI _ _ _ (by omega) (by omega) (by omega) (by rw [hst, hr, hc]; simp)
      · have h1 : 1 ≤ x5 := by
          unfold readsR at hr
          simp only [Bool.and_eq_true, decide_eq_true_eq] at hr
          exact hr.2.1.1
        have w4 : IntKind.wrap .i64 (x4 + 1) = x4 + 1 := by
          have := (cnt_at t (n := x5) (by rw [readsL_c]; exact hr)).1
          rw [IntKind.wrap_i64]; omega
        rw [hr, Bool.or_true, Bool.and_true, show (x5 != 0) = true from by simpa using (by omega : ¬ x5 = 0)] at tq
        refine bcT ⟨rfl, ldIns p1 (callB (touches_e W m' i0 x5) ⟨rfl, ?_⟩)⟩
        rw [tq]
        refine bcET (decide_eq_true (by omega)) (bcT ⟨rfl, ?_⟩)
        rw [show decide (x5 > 0) = true from decide_eq_true (by omega)]
        refine bcF ⟨rfl, rfl, rfl, rfl, rfl, k - 1, by omega, ?_⟩
        rw [w4, w5]
        exact mkI _ _ _ (by omega) (by omega) (by omega) (by rw [hst, hr, hc]; simp)
    refine ⟨rfl, bcP (fun c1 => ldIns p1 (callB (refReads_e W m' i0 x5) ?_)) fun c1 => ⟨rfl, rfl, rfl, rfl, ?_⟩⟩
    · refine bcI (fun hr => ⟨rfl, ?_⟩) fun hr => ⟨hr, K2 _ rfl rfl rfl rfl rfl c1⟩
      obtain ⟨q1, q2⟩ := cnt_at t (n := x5) (by rw [readsL_c]; exact hr)
      have d : decide (x4 ≥ ((readsL i0).length : Int)) = false := decide_eq_false (by omega)
      refine bcEF d ⟨⟨by omega, by omega⟩, ?_⟩
      obtain ⟨ad, rfl, hcl⟩ := r1.ex (by omega)
      rw [nilO_some]
      refine ⟨_, cell_k hcl (by omega) (by omega), rfl, ?_⟩
      have e : (readsL i0).getD x4.toNat 0 = x5 := by rw [hc]; exact q2
      rw [e]
      refine bcEF (by rw [hr, d]; simp) (K2 _ rfl rfl rfl rfl ?_ c1)
      rw [hr]
      exact hr ▸ rfl
    · have : x5 = 40 := by omega
      rw [hc, this, cnt_40 t]
  · rintro σ x4 m' ⟨rfl, rfl⟩
    refine ⟨rfl, bcET (by simp) (ldIns p1 ⟨_, writes_e W m' i0, ldIns p1 (callI (refWrites_e W m' i0) ⟨rfl, ?_⟩)⟩)⟩
    have e : (bif ((readsL i0).length : Int) == ((readsL i0).length : Int) then writesP i0 == writesP i0 else false) = true := by simp
    exact bcET e (aw3 W m' e)
end Go.Proofs.Ythocajnpofdbmaa.S
