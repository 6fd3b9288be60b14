/- Ytadcbnldahcelaa: a text of our own, by an AI agent: F7C -/
import Derived.Test.YtadcbnldahcelaaL7gC
import Derived.Test.YtadcbnldahcelaaVR7C
set_option linter.unusedSimpArgs false
set_option linter.unusedVariables false
set_option maxRecDepth 100000
namespace Go.Proofs.Ytadcbnldahcelaa.S
open Go Go.RowKit Go.Alog Go.Proofs.Ytadcbnldahcelaa.T Go.Proofs.Ytadcbnldahcelaa.V

/-! The document's words. -/
theorem tmod_pos (n d : Int) (hd : 0 < d) : Int.tmod n d = if 0 ≤ n then n % d else -((-n) % d) := by
  split
  · exact Int.tmod_eq_emod_of_nonneg (by assumption)
  · have : Int.tmod (- -n) d = -(Int.tmod (-n) d) := Int.neg_tmod _ _
    rw [Int.neg_neg] at this
    rw [this, Int.tmod_eq_emod_of_nonneg (by omega)]
theorem refWrap (w0 : World) (m : AM) (n : Int) : CallsA Try.prog w0 28 #[.int .i64 n] m (fun r m' => r = .int .i64 (w32 n) ∧ m' = m) := by
  refine cf28 w0 m n _ ⟨rfl, by decide, rfl, ?_⟩
  have ht := tmod_pos n 4294967296 (by decide)
  generalize Int.tmod n 4294967296 = x at ht ⊢
  have hx : -4294967296 < x ∧ x < 4294967296 := by rw [ht]; split <;> omega
  have hw : x % 4294967296 = n % 4294967296 := by rw [ht]; split <;> omega
  have e32 : w32 n = w32 x := by rw [w32_eq, w32_eq]; omega
  rw [e32, w32_eq]
  refine bcP (fun h => ⟨rfl, rfl, ?_⟩) (fun h => ⟨rfl, ?_⟩)
  · have w1 : IntKind.wrap .i64 (x + 4294967296) = x + 4294967296 := by rw [IntKind.wrap_i64]; omega
    rw [w1]
    refine bcP (fun h2 => ⟨rfl, retP_of ⟨?_, rfl⟩⟩) (fun h2 => retP_of ⟨?_, rfl⟩)
    · rw [IntKind.wrap_i64]; congr 1; omega
    · congr 1; omega
  · refine bcP (fun h2 => ⟨rfl, retP_of ⟨?_, rfl⟩⟩) (fun h2 => retP_of ⟨?_, rfl⟩)
    · rw [IntKind.wrap_i64]; congr 1; omega
    · congr 1; omega

theorem mul_halves (a b p q : Int) (hp : a * (b.tmod 65536) = p) (hq : a * (b.tdiv 65536) = q) : a * b = q * 65536 + p := by
  have h := Int.tdiv_mul_add_tmod b 65536
  calc a * b = a * (b.tdiv 65536 * 65536 + b.tmod 65536) := by rw [h]
    _ = a * (b.tdiv 65536) * 65536 + a * (b.tmod 65536) := by rw [Int.mul_add, Int.mul_assoc]
    _ = q * 65536 + p := by rw [hp, hq]
theorem mul_bound (a b : Int) (c d : Int) (h1 : -c ≤ a ∧ a ≤ c) (h2 : -d ≤ b ∧ b ≤ d) : -(c * d) ≤ a * b ∧ a * b ≤ c * d := by
  have hc : 0 ≤ c := by omega
  have hd : 0 ≤ d := by omega
  have e1 : (a.natAbs : Int) ≤ c := by omega
  have e2 : (b.natAbs : Int) ≤ d := by omega
  have e3 : ((a * b).natAbs : Int) ≤ c * d := by
    rw [Int.natAbs_mul]
    push_cast
    exact Int.mul_le_mul e1 e2 (by omega) hc
  omega
theorem refMul (w0 : World) (m : AM) (a b : Int) : CallsA Try.prog w0 45 #[.int .i64 a, .int .i64 b] m (fun r m' => r = .int .i64 (w32 (w32 a * w32 b)) ∧ m' = m) := by
  refine cf45 w0 m a b _ ?_
  refine CallsA.mono (refWrap w0 m a) ?_
  rintro r m1 ⟨rfl, rfl⟩
  refine ⟨_, rfl, CallsA.mono (refWrap w0 _ b) ?_⟩
  rintro r m1 ⟨rfl, rfl⟩
  have ha := w32_le a
  have hb := w32_le b
  generalize w32 a = x at ha ⊢
  generalize w32 b = y at hb ⊢
  have ht := tmod_pos y 65536 (by decide)
  have hd : -32768 ≤ y.tdiv 65536 ∧ y.tdiv 65536 ≤ 32768 := by
    have h := Int.tdiv_mul_add_tmod y 65536
    have : -65536 < y.tmod 65536 ∧ y.tmod 65536 < 65536 := by rw [ht]; split <;> omega
    omega
  have hm : -65536 ≤ y.tmod 65536 ∧ y.tmod 65536 ≤ 65536 := by rw [ht]; split <;> omega
  have p1 := mul_bound x (y.tdiv 65536) 2147483648 32768 (by omega) hd
  have p2 := mul_bound x (y.tmod 65536) 2147483648 65536 (by omega) hm
  have hall := mul_halves x y _ _ rfl rfl
  generalize hq : x * y.tdiv 65536 = q at p1 hall ⊢
  generalize hp : x * y.tmod 65536 = p at p2 hall ⊢
  have wd : IntKind.wrap .i64 (y.tdiv 65536) = y.tdiv 65536 := w64_id (by omega)
  refine ⟨_, rfl, rfl, by decide, rfl, by decide, rfl, rfl, ?_⟩
  rw [wd, hq, hp]
  refine CallsA.mono (refWrap w0 _ _) ?_
  rintro r m1 ⟨rfl, rfl⟩
  have wq : w32 (IntKind.wrap .i64 q) = w32 q := w32_w64 q
  rw [wq]
  have hw := w32_le q
  have hwe := w32_eq q
  have ht2 := tmod_pos (w32 q) 65536 (by decide)
  refine ⟨_, rfl, rfl, by decide, rfl, rfl, ?_⟩
  refine CallsA.mono (refWrap w0 _ _) ?_
  rintro r m1 ⟨rfl, rfl⟩
  refine ⟨_, rfl, retP_of ⟨?_, rfl⟩⟩
  rw [w32_w64, hall]
  generalize w32 q = u at hw hwe ht2 ⊢
  generalize u.tmod 65536 = v at ht2 ⊢
  have hv : -65536 < v ∧ v < 65536 := by rw [ht2]; split <;> omega
  have hv2 : ∃ k : Int, v = u - 65536 * k := by
    rw [ht2]
    split
    · exact ⟨u / 65536, by omega⟩
    · exact ⟨-((-u) / 65536), by omega⟩
  obtain ⟨k, hk⟩ := hv2
  have e1 : IntKind.wrap .i64 p = p := w64_id (by omega)
  have e2 : IntKind.wrap .i64 (v * 65536) = v * 65536 := w64_id (by omega)
  rw [e1, e2]
  congr 1
  rw [w32_eq, w32_eq]
  omega

theorem pow2_fact : ∀ j, j < 32 → (1 ≤ (2 : Int) ^ j ∧ (2 : Int) ^ j ≤ 2147483648) ∧ (0 < j → IntKind.wrap .i64 (Int.tdiv ((2 : Int) ^ j) 2) = 2 ^ (j - 1) ∧ (2 : Int) ^ j = 2 * 2 ^ (j - 1)) := by decide +kernel
theorem refDiv (w0 : World) (m : AM) (a b : Int) (hb0 : w32 b ≠ 0) : CallsA Try.prog w0 46 #[.int .i64 a, .int .i64 b] m (fun r m' => r = .tuple #[.int .i64 (w32 ((w32 a).tdiv (w32 b))), .int .i64 ((w32 a).tmod (w32 b))] ∧ m' = m) := by
  refine cf46 w0 m a b _ ?_
  refine CallsA.mono (refWrap w0 m a) ?_
  rintro r m1 ⟨rfl, hm1⟩
  replace hm1 := hm1.symm; subst hm1
  refine ⟨_, rfl, CallsA.mono (refWrap w0 _ b) ?_⟩
  rintro r m2 ⟨rfl, hm2⟩
  replace hm2 := hm2.symm; subst hm2
  have ha := w32_le a
  have hb := w32_le b
  generalize w32 a = A at ha ⊢
  generalize w32 b = B at hb hb0 ⊢
  have loop : ∀ (σ : Sg) (X Y : Int), X = (if A < 0 then -A else A) → Y = (if B < 0 then -B else B) → σ 0 = .int .i64 A → σ 1 = .int .i64 B → σ 6 = .int .i64 X → σ 7 = .int .i64 Y → σ 8 = .int .i64 0 → σ 9 = .int .i64 2147483648 →
      ∀ (R : Value → AM → Prop), R = (fun r m' => r = .tuple #[.int .i64 (w32 (A.tdiv B)), .int .i64 (A.tmod B)] ∧ m' = m) → (vcS Try.prog w0 qs46 (sub c46 [1, 1, 1, 1, 1, 1, 0, 1, 0]) σ m (blockS 0 (thenS (fun σ m => vcS Try.prog w0 qs46 (sub c46 [1, 1, 1, 1, 1, 1, 1]) σ m (retQ Try.prog Try.f46 R)) (retQ Try.prog Try.f46 R)))) := by
    intro σ X Y hX hY s0 s1 s6 s7 s8 s9 R hR
    have hX0 : 0 ≤ X ∧ X ≤ 2147483648 := by rw [hX]; split <;> omega
    have hY0 : 1 ≤ Y ∧ Y ≤ 2147483648 := by rw [hY]; split <;> omega
    have hd0 : 0 ≤ X / Y := Int.ediv_nonneg hX0.1 (by omega)
    have hd1 : X / Y * Y ≤ X := Int.ediv_mul_le X (by omega)
    have hd2 : X / Y ≤ X := Int.ediv_le_self Y hX0.1
    refine vl46_111111010 w0 m σ R A B X Y 0 2147483648
      (fun k q bit m' => m' = m ∧ 0 ≤ q ∧ q ≤ X / Y ∧ ((bit = 0 ∧ q = X / Y ∧ k = 0) ∨ ∃ j, j < 32 ∧ bit = 2 ^ j ∧ k = j + 1 ∧ X / Y < q + 2 * 2 ^ j))
      (fun q m' => m' = m ∧ q = X / Y) 32 s0 s1 s6 s7 s8 s9 ⟨rfl, by omega, hd0, .inr ⟨31, by omega, rfl, rfl, by show X / Y < 0 + 2 * 2147483648; omega⟩⟩ ?_ ?_
    · rintro k σ q bit m' ⟨hm, h0, h1, hI⟩
      have hm := hm.symm
      subst hm
      refine ⟨rfl, ?_⟩
      rcases hI with ⟨rfl, hq, rfl⟩ | ⟨j, hj, rfl, rfl, hlt⟩
      · refine bcEF rfl ?_
        repeat (first | exact ⟨rfl, hq⟩ | refine ⟨rfl, ?_⟩)
      · obtain ⟨⟨f1, f2⟩, f3⟩ := pow2_fact j hj
        generalize hp : (2 : Int) ^ j = p at f1 f2 f3 hlt ⊢
        have hsum : IntKind.wrap .i64 (q + p) = q + p := w64_id (by omega)
        have b1 : q * Y ≤ X / Y * Y := Int.mul_le_mul_of_nonneg_right h1 (by omega)
        have b2 : p * Y ≤ 2147483648 * 2147483648 := Int.mul_le_mul f2 hY0.2 (by omega) (by omega)
        have b3 : 0 ≤ q * Y := Int.mul_nonneg h0 (by omega)
        have b4 : 0 ≤ p * Y := Int.mul_nonneg (by omega) (by omega)
        have hexp : (q + p) * Y = q * Y + p * Y := Int.add_mul _ _ _
        have hmul : IntKind.wrap .i64 ((q + p) * Y) = (q + p) * Y := w64_id (by omega)
        have hiff : (q + p) * Y ≤ X ↔ q + p ≤ X / Y := (Int.le_ediv_iff_mul_le (by omega)).symm
        refine bcET (decide_eq_true (by omega)) ⟨rfl, rfl, rfl, ?_⟩
        rw [hsum, hmul]
        -- the next bit
        have nxt : ∀ q' : Int, 0 ≤ q' → q' ≤ X / Y → X / Y < q' + p → ∃ n', n' < j + 1 ∧ (m = m ∧ 0 ≤ q' ∧ q' ≤ X / Y ∧ ((IntKind.wrap .i64 (p.tdiv 2) = 0 ∧ q' = X / Y ∧ n' = 0) ∨ ∃ j', j' < 32 ∧ IntKind.wrap .i64 (p.tdiv 2) = 2 ^ j' ∧ n' = j' + 1 ∧ X / Y < q' + 2 * 2 ^ j')) := by
          intro q' g0 g1 g2
          by_cases hj0 : j = 0
          · subst hj0
            have hp1 : p = 1 := by rw [← hp]; rfl
            subst hp1
            exact ⟨0, by omega, rfl, g0, g1, .inl ⟨by decide, by omega, rfl⟩⟩
          · obtain ⟨f4, f5⟩ := f3 (by omega)
            exact ⟨j, by omega, rfl, g0, g1, .inr ⟨j - 1, by omega, f4, by omega, by rw [← f5]; exact g2⟩⟩
        by_cases c1 : (q + p) * Y ≤ X
        · have e1 := decide_eq_true c1
          have hle := hiff.1 c1
          refine bcET e1 ⟨rfl, rfl, bcET (by rw [e1, decide_eq_true (show q + p ≤ X by omega)]; rfl) ?_⟩
          obtain ⟨n', g0, g1⟩ := nxt (q + p) (by omega) hle (by omega)
          repeat (first | exact ⟨n', g0, g1⟩ | refine ⟨rfl, ?_⟩ | refine ⟨by decide, ?_⟩)
        · have e1 := decide_eq_false c1
          have hgt : ¬ q + p ≤ X / Y := fun h => c1 (hiff.2 h)
          refine bcEF e1 ⟨e1, ?_⟩
          obtain ⟨n', g0, g1⟩ := nxt q h0 h1 (by omega)
          repeat (first | exact ⟨n', g0, g1⟩ | refine ⟨rfl, ?_⟩ | refine ⟨by decide, ?_⟩)
    · rintro σ q m' ⟨hm, hq⟩
      have hm := hm.symm
      subst hm
      subst hR
      subst hq
      have hmod : X - X / Y * Y = X % Y := by
        have := Int.emod_add_mul_ediv X Y
        rw [Int.mul_comm] at this
        omega
      have hmod0 : 0 ≤ X % Y ∧ X % Y < Y := ⟨Int.emod_nonneg X (by omega), Int.emod_lt_of_pos X (by omega)⟩
      have hdy : 0 ≤ X / Y * Y := Int.mul_nonneg hd0 (by omega)
      have w1 : IntKind.wrap .i64 (X / Y * Y) = X / Y * Y := w64_id (by omega)
      have w2 : IntKind.wrap .i64 (X - X / Y * Y) = X % Y := by rw [hmod]; exact w64_id (by omega)
      have w3 : IntKind.wrap .i64 (0 - X % Y) = -(X % Y) := by rw [w64_id (by omega)]; omega
      have w4 : IntKind.wrap .i64 (0 - X / Y) = -(X / Y) := by rw [w64_id (by omega)]; omega
      have tX : X.tdiv Y = X / Y := Int.tdiv_eq_ediv_of_nonneg hX0.1
      have mX : X.tmod Y = X % Y := Int.tmod_eq_emod_of_nonneg hX0.1
      refine ⟨rfl, rfl, rfl, rfl, ?_⟩
      rw [w1, w2, w3, w4]
      clear w1 w2 w3 w4 hd1 hd2 hmod
      by_cases c1 : A < 0
      · have eA : A = -X := by rw [hX, if_pos c1]; omega
        by_cases c2 : B < 0
        · have eB : B = -Y := by rw [hY, if_pos c2]; omega
          refine bcEF (by rw [decide_eq_true c1, decide_eq_true c2]; rfl) ⟨rfl, bcET (decide_eq_true c1) ?_⟩
          refine CallsA.mono (refWrap w0 m _) ?_
          rintro r m' ⟨rfl, rfl⟩
          refine ⟨_, rfl, retP_of ⟨?_, rfl⟩⟩
          rw [eA, eB, Int.neg_tdiv, Int.tdiv_neg, Int.neg_tmod, Int.tmod_neg, tX, mX, Int.neg_neg]
        · have eB : B = Y := by rw [hY, if_neg c2]
          refine bcET (by rw [decide_eq_true c1, decide_eq_false c2]; rfl) ⟨rfl, bcET (decide_eq_true c1) ?_⟩
          refine CallsA.mono (refWrap w0 m _) ?_
          rintro r m' ⟨rfl, rfl⟩
          refine ⟨_, rfl, retP_of ⟨?_, rfl⟩⟩
          rw [eA, eB, Int.neg_tdiv, Int.neg_tmod, tX, mX]
      · have eA : A = X := by rw [hX, if_neg c1]
        by_cases c2 : B < 0
        · have eB : B = -Y := by rw [hY, if_pos c2]; omega
          refine bcET (by rw [decide_eq_false c1, decide_eq_true c2]; rfl) ⟨rfl, bcEF (decide_eq_false c1) ?_⟩
          refine CallsA.mono (refWrap w0 m _) ?_
          rintro r m' ⟨rfl, rfl⟩
          refine ⟨_, rfl, retP_of ⟨?_, rfl⟩⟩
          rw [eA, eB, Int.tdiv_neg, Int.tmod_neg, tX, mX]
        · have eB : B = Y := by rw [hY, if_neg c2]
          refine bcEF (by rw [decide_eq_false c1, decide_eq_false c2]; rfl) ⟨rfl, bcEF (decide_eq_false c1) ?_⟩
          refine CallsA.mono (refWrap w0 m _) ?_
          rintro r m' ⟨rfl, rfl⟩
          refine ⟨_, rfl, retP_of ⟨?_, rfl⟩⟩
          rw [eA, eB, tX, mX]
  have nA : A < 0 → IntKind.wrap .i64 (0 - A) = -A := fun h => by rw [w64_id (by omega)]; omega
  have nB : B < 0 → IntKind.wrap .i64 (0 - B) = -B := fun h => by rw [w64_id (by omega)]; omega
  refine ⟨_, rfl, rfl, bcP (fun c1 => ⟨rfl, ?_⟩) (fun c1 => ⟨rfl, ?_⟩)⟩
  · refine bcP (fun c2 => ?_) (fun c2 => ?_)
    · refine loop _ (IntKind.wrap .i64 (0 - A)) (IntKind.wrap .i64 (0 - B)) (by rw [if_pos c1, nA c1]) (by rw [if_pos c2, nB c2]) ?_ ?_ ?_ ?_ ?_ ?_ _ rfl <;> rfl
    · refine loop _ (IntKind.wrap .i64 (0 - A)) B (by rw [if_pos c1, nA c1]) (by rw [if_neg c2]) ?_ ?_ ?_ ?_ ?_ ?_ _ rfl <;> rfl
  · refine bcP (fun c2 => ?_) (fun c2 => ?_)
    · refine loop _ A (IntKind.wrap .i64 (0 - B)) (by rw [if_neg c1]) (by rw [if_pos c2, nB c2]) ?_ ?_ ?_ ?_ ?_ ?_ _ rfl <;> rfl
    · refine loop _ A B (by rw [if_neg c1]) (by rw [if_neg c2]) ?_ ?_ ?_ ?_ ?_ ?_ _ rfl <;> rfl
end Go.Proofs.Ytadcbnldahcelaa.S
