/- Ythocajnpofdbmaa: a text of our own, by an AI agent: Dp1G -/
import Derived.Test.YthocajnpofdbmaaEf15G
import Derived.Test.YthocajnpofdbmaaCore15
import Derived.Test.YthocajnpofdbmaaVDepG
set_option linter.unusedSimpArgs false
set_option linter.unusedVariables false
set_option maxRecDepth 100000
namespace Go.Proofs.Ythocajnpofdbmaa.S
open Go Go.RowKit Go.Alog Go.Proofs.Ythocajnpofdbmaa.T Go.Proofs.Ythocajnpofdbmaa.V

/-- How far one must stay ahead of another one. -/
def farP (a b : Ins) : Int :=
  if (readsR b (writesP a) && lateP a) = true then 2 else
  if (readsR b (writesP a) || (writesP a != 0 && writesP a == writesP b) || readsR a (writesP b) || (actsP a && actsP b)) = true then 1 else 0

theorem readsR_0 (i : Ins) : readsR i 0 = false := by unfold readsR; simp
theorem dreads_e (w0 : World) (m : AM) (i : Ins) (n : Int) : CallsA Try.prog w0 55 #[i.val, .int .i64 n] m (fun r m' => r = .bool (readsR i n) ∧ m' = m) := by
  refine CallsA.down (R := fun r m' => r = .bool (readsR i n) ∧ m.le m') ?_ fun _ _ h => h
  refine cf55 w0 m _ _ _ _ _ n _ ?_
  intro b hBb hNb M
  have l : AM.le _ M := le_new hNb _
  have p : M b = some (.cells (Ins.cells i).toArray 23) := upd_get_same
  clear_value M
  refine ⟨rfl, ?_⟩
  by_cases h : n = 0
  · subst h
    rw [readsR_0]
    exact bcF ⟨rfl, retP_of ⟨rfl, l⟩⟩
  · have e : (n != 0) = true := by simpa using h
    rw [e]
    refine bcT (ldIns p (callReads fun A c m1 l1 r1 => ?_))
    refine callB (ix_spec w0 m1 A c _ n (by have := two_len (readsL_two i); omega) r1) (retP_of ⟨?_, AM.le_trans l l1⟩)
    rw [readsL_c]; rfl

theorem far_e (w0 : World) (m : AM) (i j : Ins) : CallsA Try.prog w0 39 #[i.val, j.val] m (fun r m' => r = .int .i64 (farP i j) ∧ m' = m) := by
  refine CallsA.down (R := fun r m' => r = .int .i64 (farP i j) ∧ m.le m') ?_ fun _ _ h => h
  generalize hR : (fun (r : Value) (m' : AM) => r = .int .i64 (farP i j) ∧ m.le m') = R
  refine cf39 w0 m _ _ _ _ _ _ _ _ _ _ R ?_
  intro b hBb hNb M
  have l : AM.le _ M := le_new hNb _
  have p : M b = some (.cells (Ins.cells i).toArray 23) := upd_get_same
  clear_value M
  intro b3 hBb3 hNb3 M3
  have l3 : AM.le _ M3 := le_new hNb3 _
  have p3 : M3 b3 = some (.cells (Ins.cells j).toArray 23) := upd_get_same
  clear_value M3
  replace p := l3 _ _ p
  have L := AM.le_trans l l3
  have ret : ∀ (v : Int), v = farP i j → RetP R (.int .i64 v) M3 := fun v e => by rw [← hR]; exact retP_of ⟨by rw [e], L⟩
  have K1 : ∀ (σ : Sg) (x : Bool), σ 2 = .pointer (some ⟨b, 0, none⟩) → σ 3 = .pointer (some ⟨b3, 0, none⟩) → σ 5 = .int .i64 (writesP i) → σ 6 = .int .i64 (writesP j) → σ 11 = .bool x → x = (readsR j (writesP i) && lateP i) → (vcS Try.prog w0 qs39 (sub c39 [1, 1, 0, 0, 1]) σ M3 (blockS 0 (thenS (fun σ M3 => vcS Try.prog w0 qs39 (sub c39 [1, 1, 1]) σ M3 (retQ Try.prog Try.f39 R)) (retQ Try.prog Try.f39 R)))) := by
    intro σ x h2 h3 h5 h6 h11 hx
    refine vk39_11001 w0 M3 σ R b b3 _ _ x h2 h3 h5 h6 h11 ?_
    refine bcI (fun h => ret 2 (by unfold farP; rw [← hx, if_pos h])) fun h => ldIns p3 (callB (dreads_e w0 M3 j (writesP i)) ?_)
    have hf : farP i j = if (readsR j (writesP i) || (writesP i != 0 && writesP i == writesP j) || readsR i (writesP j) || (actsP i && actsP j)) = true then 1 else 0 := by
      unfold farP; rw [← hx, if_neg (by rw [h]; simp)]
    cases r1 : readsR j (writesP i)
    · refine bcF ⟨rfl, ?_⟩
      cases ne : (writesP i != 0)
      · refine bcF ⟨rfl, bcF (ldIns p (callB (dreads_e w0 M3 i (writesP j)) ?_))⟩
        cases r2 : readsR i (writesP j)
        · refine bcF (ldIns p (callB (acts_e w0 M3 i) ?_))
          cases aa : actsP i
          · exact bcF ⟨rfl, bcF (ret 0 (by rw [hf]; simp [r1, ne, r2, aa]))⟩
          · refine bcT (ldIns p3 (callB (acts_e w0 M3 j) ?_))
            cases ab : actsP j
            · exact bcF (ret 0 (by rw [hf]; simp [r1, ne, r2, aa, ab]))
            · exact bcT (ret 1 (by rw [hf]; simp [r1, ne, r2, aa, ab]))
        · exact bcT ⟨rfl, ret 1 (by rw [hf]; simp [r2])⟩
      · refine bcT ⟨rfl, ?_⟩
        cases eq : (writesP i == writesP j)
        · refine bcF (ldIns p (callB (dreads_e w0 M3 i (writesP j)) ?_))
          cases r2 : readsR i (writesP j)
          · refine bcF (ldIns p (callB (acts_e w0 M3 i) ?_))
            cases aa : actsP i
            · exact bcF ⟨rfl, bcF (ret 0 (by rw [hf]; simp only [r1, ne, eq, r2, aa]; rfl))⟩
            · refine bcT (ldIns p3 (callB (acts_e w0 M3 j) ?_))
              cases ab : actsP j
              · exact bcF (ret 0 (by rw [hf]; simp only [r1, ne, eq, r2, aa, ab]; rfl))
              · exact bcT (ret 1 (by rw [hf]; simp only [r1, ne, eq, r2, aa, ab]; rfl))
          · exact bcT ⟨rfl, ret 1 (by rw [hf]; simp [r2])⟩
        · exact bcT ⟨rfl, rfl, ret 1 (by rw [hf]; simp only [r1, ne, eq]; simp)⟩
    · exact bcT ⟨rfl, rfl, rfl, ret 1 (by rw [hf]; simp [r1])⟩
  refine ldIns p ⟨_, writes_e w0 M3 i, ldIns p3 (callI (writes_e w0 M3 j) (ldIns p3 (callB (dreads_e w0 M3 j (writesP i)) ?_)))⟩
  cases r1 : readsR j (writesP i)
  · exact bcF ⟨rfl, K1 _ false rfl rfl rfl rfl rfl (by rw [r1]; rfl)⟩
  · exact bcT (ldIns p (callB (late_e w0 M3 i) (K1 _ _ rfl rfl rfl rfl rfl (by rw [r1]; rfl))))

/-- The document's condition at one register. -/
def farC (i j : Ins) (n : Int) : Bool := (writesP i == n && writesP j == n) || (writesP i == n && readsR j n) || (writesP j == n && readsR i n)
/-- .. at one below. -/
def farD (i j : Ins) (n : Int) : Bool := (actsP i && actsP j) || (decide (1 ≤ writesP i ∧ writesP i < n) && (writesP i == writesP j || readsR j (writesP i))) || (decide (1 ≤ writesP j ∧ writesP j < n) && readsR i (writesP j))
theorem farD_step (i j : Ins) {n : Int} (h : 1 ≤ n) : farD i j (n + 1) = (farC i j n || farD i j n) := by
  unfold farD farC
  generalize writesP i = x
  generalize writesP j = y
  rw [Bool.eq_iff_iff]
  simp only [Bool.or_eq_true, Bool.and_eq_true, decide_eq_true_eq, beq_iff_eq]
  constructor
  · rintro ((h1 | ⟨h2, h3⟩) | ⟨h2, h3⟩)
    · exact .inr (.inl (.inl h1))
    · by_cases e : x = n
      · rcases h3 with h3 | h3
        · exact .inl (.inl (.inl ⟨e, by omega⟩))
        · exact .inl (.inl (.inr ⟨e, by rw [← e]; exact h3⟩))
      · exact .inr (.inl (.inr ⟨by omega, h3⟩))
    · by_cases e : y = n
      · exact .inl (.inr ⟨e, by rw [← e]; exact h3⟩)
      · exact .inr (.inr ⟨by omega, h3⟩)
  · rintro (((⟨h1, h2⟩ | ⟨h1, h2⟩) | ⟨h1, h2⟩) | ((h1 | ⟨h2, h3⟩) | ⟨h2, h3⟩))
    · exact .inl (.inr ⟨by omega, .inl (by omega)⟩)
    · exact .inl (.inr ⟨by omega, .inr (by rw [h1]; exact h2)⟩)
    · exact .inr ⟨by omega, by rw [h1]; exact h2⟩
    · exact .inl (.inl h1)
    · exact .inl (.inr ⟨by omega, h3⟩)
    · exact .inr ⟨by omega, h3⟩
theorem farD_1 (i j : Ins) : farD i j 1 = (actsP i && actsP j) := by
  unfold farD
  rw [decide_eq_false (by omega), decide_eq_false (by omega)]; simp
theorem far_end (i j : Ins) : (if (lateP i && readsR j (writesP i)) = true then 2 else if farD i j 32 = true then 1 else 0) = farP i j := by
  have hx := writesP_in i
  have hy := writesP_in j
  unfold farP
  rw [Bool.and_comm]
  have : farD i j 32 = (readsR j (writesP i) || (writesP i != 0 && writesP i == writesP j) || readsR i (writesP j) || (actsP i && actsP j)) := by
    have r1 := readsR_0 j
    have r2 := readsR_0 i
    unfold farD
    generalize writesP i = x at *
    generalize writesP j = y at *
    rw [Bool.eq_iff_iff]
    simp only [Bool.or_eq_true, Bool.and_eq_true, decide_eq_true_eq, beq_iff_eq, bne_iff_ne, ne_eq]
    constructor
    · rintro ((h1 | ⟨h2, h3 | h3⟩) | ⟨h2, h3⟩)
      · exact .inr h1
      · exact .inl (.inl (.inr ⟨by omega, h3⟩))
      · exact .inl (.inl (.inl h3))
      · exact .inl (.inr h3)
    · rintro (((h1 | ⟨h1, h2⟩) | h1) | h1)
      · have : x ≠ 0 := fun e => by rw [e, r1] at h1; cases h1
        exact .inl (.inr ⟨by omega, .inr h1⟩)
      · exact .inl (.inr ⟨by omega, .inl h2⟩)
      · have : y ≠ 0 := fun e => by rw [e, r2] at h1; cases h1
        exact .inr ⟨by omega, h1⟩
      · exact .inl (.inl h1)
  rw [this]

theorem refFar_e (w0 : World) (m : AM) (i j : Ins) : CallsA Try.prog w0 40 #[i.val, j.val] m (fun r m' => r = .int .i64 (farP i j) ∧ m' = m) := by
  refine CallsA.down (R := fun r m' => r = .int .i64 (farP i j) ∧ m.le m') ?_ fun _ _ h => h
  generalize hR : (fun (r : Value) (m' : AM) => r = .int .i64 (farP i j) ∧ m.le m') = R
  refine cf40 w0 m _ _ _ _ _ _ _ _ _ _ R ?_
  intro b hBb hNb M
  have l : AM.le _ M := le_new hNb _
  have p : M b = some (.cells (Ins.cells i).toArray 23) := upd_get_same
  clear_value M
  intro b3 hBb3 hNb3 M3
  have l3 : AM.le _ M3 := le_new hNb3 _
  have p3 : M3 b3 = some (.cells (Ins.cells j).toArray 23) := upd_get_same
  clear_value M3
  replace p := l3 _ _ p
  have L := AM.le_trans l l3
  generalize hI : (fun (k : Nat) (x n : Int) (m' : AM) => m' = M3 ∧ 1 ≤ n ∧ n ≤ 32 ∧ (k : Int) = 32 - n ∧ x = if farD i j n = true then 1 else 0) = I
  have mkI : ∀ (k : Nat) (x n : Int), 1 ≤ n → n ≤ 32 → (k : Int) = 32 - n → x = (if farD i j n = true then 1 else 0) → I k x n M3 := fun k x n h1 h2 h3 h4 => by rw [← hI]; exact ⟨rfl, h1, h2, h3, h4⟩
  let E : Int → AM → Prop := fun x m' => m' = M3 ∧ x = if farD i j 32 = true then 1 else 0
  have go : ∀ (σ : Sg) (x : Int), σ 2 = .pointer (some ⟨b, 0, none⟩) → σ 3 = .pointer (some ⟨b3, 0, none⟩) → σ 5 = .int .i64 x → σ 6 = .int .i64 1 → (x = if (actsP i && actsP j) = true then 1 else 0) → (vcS Try.prog w0 qs40 (sub c40 [1, 1, 1, 0, 1, 0]) σ M3 (blockS 0 (thenS (fun σ M3 => vcS Try.prog w0 qs40 (sub c40 [1, 1, 1, 1]) σ M3 (retQ Try.prog Try.f40 R)) (retQ Try.prog Try.f40 R)))) := by
    intro σ x h2 h3 h5 h6 hx
    refine vl40_111010 w0 M3 σ R b b3 x 1 I E 31 h2 h3 h5 h6 (mkI _ _ _ (by omega) (by omega) (by omega) (by rw [farD_1]; exact hx)) ?_ ?_
    · intro k σ x n m' hi
      rw [← hI] at hi
      obtain ⟨rfl, n0, n1, hk, hx⟩ := hi
      have K5 : ∀ (σ : Sg) (t : Bool), σ 2 = .pointer (some ⟨b, 0, none⟩) → σ 3 = .pointer (some ⟨b3, 0, none⟩) → σ 5 = .int .i64 x → σ 6 = .int .i64 n → σ 47 = .bool t → n < 32 → t = farC i j n → (vcS Try.prog w0 qs40 (sub c40 [1, 1, 1, 0, 1, 0, 0, 1, 0, 0, 1, 1]) σ m' (blockS 1 (thenS (fun σ m' => vcS Try.prog w0 qs40 (sub c40 [1, 1, 1, 0, 1, 0, 0, 1, 1]) σ m' (lq40_111010 R b b3 I E k)) (lq40_111010 R b b3 I E k)))) := by
        intro σ t h2 h3 h5 h6 h47 hlt ht
        refine vk40_111010010011 w0 m' σ R k I E b b3 x n t h2 h3 h5 h6 h47 ?_
        have w : IntKind.wrap .i64 (n + 1) = n + 1 := wrap_s (by omega) (by omega)
        rw [w]
        refine bcI (fun h => ?_) fun h => ?_
        · repeat refine ⟨rfl, ?_⟩
          refine ⟨k - 1, by omega, mkI _ _ _ (by omega) (by omega) (by omega) ?_⟩
          rw [farD_step i j n0, ← ht, h]; rfl
        · repeat refine ⟨rfl, ?_⟩
          refine ⟨k - 1, by omega, mkI _ _ _ (by omega) (by omega) (by omega) ?_⟩
          rw [farD_step i j n0, ← ht, h, Bool.false_or]; exact hx
      refine ⟨rfl, bcP (fun c1 => ldIns p ⟨_, refWrites_e w0 m' i, rfl, ldIns p3 (callI (refWrites_e w0 m' j) ⟨rfl, ?_⟩)⟩) fun c1 => ?_⟩
      · cases h1 : (writesP i == n)
        · refine bcF ⟨rfl, bcF ⟨rfl, bcF ?_⟩⟩
          cases h2 : (writesP j == n)
          · exact bcF ⟨rfl, K5 _ _ rfl rfl rfl rfl rfl c1 (by unfold farC; rw [h1, h2]; rfl)⟩
          · refine bcT (ldIns p (callB (refReads_e w0 m' i n) (K5 _ _ rfl rfl rfl rfl rfl c1 (by unfold farC; rw [h1, h2]; rfl))))
        · refine bcT ?_
          cases h2 : (writesP j == n)
          · refine bcF (bcT (ldIns p3 (callB (refReads_e w0 m' j n) ?_)))
            cases r1 : readsR j n
            · exact bcF (bcF ⟨rfl, K5 _ _ rfl rfl rfl rfl rfl c1 (by unfold farC; rw [h1, h2, r1]; rfl)⟩)
            · exact bcT ⟨rfl, K5 _ _ rfl rfl rfl rfl rfl c1 (by unfold farC; rw [h1, h2, r1]; rfl)⟩
          · exact bcT ⟨rfl, rfl, K5 _ _ rfl rfl rfl rfl rfl c1 (by unfold farC; rw [h1, h2]; rfl)⟩
      · repeat refine ⟨rfl, ?_⟩
        obtain rfl : n = 32 := by omega
        exact hx
    · rintro σ x m' ⟨rfl, hx⟩
      generalize hI2 : (fun (k : Nat) (x n : Int) (m2 : AM) => m2 = m' ∧ 1 ≤ n ∧ n ≤ 32 ∧ (k : Int) = 32 - n ∧ x = if (lateP i && readsR j (writesP i) && decide (writesP i < n)) = true then 2 else if farD i j 32 = true then 1 else 0) = I2
      have mk2 : ∀ (k : Nat) (x n : Int), 1 ≤ n → n ≤ 32 → (k : Int) = 32 - n → (x = if (lateP i && readsR j (writesP i) && decide (writesP i < n)) = true then 2 else if farD i j 32 = true then 1 else 0) → I2 k x n m' := fun k x n h1 h2 h3 h4 => by rw [← hI2]; exact ⟨rfl, h1, h2, h3, h4⟩
      refine vl40_1111010 w0 m' _ R b b3 x 1 I2 (fun x m2 => m2 = m' ∧ x = farP i j) 31 rfl rfl rfl rfl (mk2 _ _ _ (by omega) (by omega) (by omega) ?_) ?_ ?_
      · rw [hx, if_neg (c := (lateP i && readsR j (writesP i) && decide (writesP i < 1)) = true)]
        intro h
        simp only [Bool.and_eq_true, decide_eq_true_eq] at h
        have := writesP_in i
        have e : writesP i = 0 := by omega
        rw [e, readsR_0] at h
        exact absurd h.1.2 (by simp)
      · intro k σ x n m2 hi2
        rw [← hI2] at hi2
        obtain ⟨rfl, n0, n1, hk, hx⟩ := hi2
        have w : IntKind.wrap .i64 (n + 1) = n + 1 := wrap_s (by omega) (by omega)
        rw [w]
        have keep : n < 32 → (lateP i && readsR j (writesP i) && decide (writesP i = n)) = false → ∃ n' : Nat, n' < k ∧ I2 n' x (n + 1) m2 := by
          intro hlt hc
          refine ⟨k - 1, by omega, mk2 _ _ _ (by omega) (by omega) (by omega) ?_⟩
          rw [hx]
          have : (lateP i && readsR j (writesP i) && decide (writesP i < n + 1)) = (lateP i && readsR j (writesP i) && decide (writesP i < n)) := by
            cases h : (lateP i && readsR j (writesP i))
            · rfl
            · rw [h, Bool.true_and] at hc
              have := of_decide_eq_false hc
              rw [Bool.true_and, Bool.true_and]
              exact decide_eq_decide.2 (by omega)
          rw [this]
        refine ⟨rfl, bcP (fun c1 => ldIns p (callB (refLate_e w0 m2 i) ?_)) fun c1 => ?_⟩
        · cases hl : lateP i
          · refine bcF ⟨rfl, ?_⟩
            repeat refine ⟨rfl, ?_⟩
            exact keep c1 (by rw [hl]; rfl)
          · refine bcT (ldIns p (callI (refWrites_e w0 m2 i) ⟨rfl, ?_⟩))
            cases he : (writesP i == n)
            · refine bcF ⟨rfl, ?_⟩
              repeat refine ⟨rfl, ?_⟩
              exact keep c1 (by rw [decide_eq_false (by simpa using he)]; simp)
            · have he' : writesP i = n := by simpa using he
              refine bcT (ldIns p3 (callB (refReads_e w0 m2 j n) ?_))
              cases hr : readsR j n
              · refine bcF ?_
                repeat refine ⟨rfl, ?_⟩
                exact keep c1 (by rw [he', hr]; simp)
              · refine bcT ?_
                repeat refine ⟨rfl, ?_⟩
                refine ⟨k - 1, by omega, mk2 _ _ _ (by omega) (by omega) (by omega) ?_⟩
                rw [hl, he', hr, decide_eq_true (by omega)]; rfl
        · repeat refine ⟨rfl, ?_⟩
          obtain rfl : n = 32 := by omega
          have := writesP_in i
          rw [hx, decide_eq_true (by omega), Bool.and_true, far_end]
      · rintro σ x m2 ⟨rfl, rfl⟩
        rw [← hR]
        exact retP_of ⟨rfl, L⟩
  refine ldIns p (callB (refActs_e w0 M3 i) ?_)
  cases aa : actsP i
  · exact bcF ⟨rfl, go _ 0 rfl rfl rfl rfl (by rw [aa]; rfl)⟩
  · refine bcT (ldIns p3 (callB (refActs_e w0 M3 j) ?_))
    cases ab : actsP j
    · exact bcF (go _ 0 rfl rfl rfl rfl (by rw [aa, ab]; rfl))
    · exact bcT (go _ 1 rfl rfl rfl rfl (by rw [aa, ab]; rfl))
end Go.Proofs.Ythocajnpofdbmaa.S
