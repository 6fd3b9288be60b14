/- Ytadcbnldahcelaa: a text of our own, by an AI agent: F8C -/
import Derived.Test.YtadcbnldahcelaaF7C
set_option linter.unusedSimpArgs false
set_option linter.unusedVariables false
set_option maxRecDepth 100000
namespace Go.Proofs.Ytadcbnldahcelaa.S
open Go Go.RowKit Go.Alog Go.Proofs.Ytadcbnldahcelaa.T Go.Proofs.Ytadcbnldahcelaa.V

theorem refHalf (w0 : World) (m : AM) (n : Int) (hn : -2147483648 ≤ n ∧ n ≤ 2147483647) : CallsA Try.prog w0 59 #[.int .i64 n] m (fun r m' => r = .int .i64 (n / 2) ∧ m' = m) := by
  refine cf59 w0 m n _ ⟨rfl, bcP (fun h => ⟨rfl, rfl, by decide, ?_⟩) (fun h => ⟨rfl, by decide, ?_⟩)⟩
  · have w1 : IntKind.wrap .i64 (1 - n) = 1 - n := w64_id (by omega)
    have t : Int.tdiv (1 - n) 2 = (1 - n) / 2 := Int.tdiv_eq_ediv_of_nonneg (by omega)
    rw [w1, t, w64_id (n := (1 - n) / 2) (by omega), w64_id (by omega)]
    exact retP_of ⟨by congr 1; omega, rfl⟩
  · rw [Int.tdiv_eq_ediv_of_nonneg (by omega), w64_id (by omega)]
    exact retP_of ⟨rfl, rfl⟩

/-- Bit by bit: the lowest n ones. -/
def bitB (o x y : Bool) : Bool := (x && y) || (o && (x || y))
def bitsF (o : Bool) : Nat → Int → Int → Int
  | 0, _, _ => 0
  | n + 1, a, b => (if bitB o (a % 2 == 1) (b % 2 == 1) then 1 else 0) + 2 * bitsF o n (a / 2) (b / 2)
def opN (o : Bool) (x y : Nat) : Nat := if o then x ||| y else x &&& y

theorem mod_twice (a : Int) (P : Int) (hP : 0 < P) : a % (2 * P) = 2 * ((a / 2) % P) + a % 2 := by
  have h1 := Int.emod_add_mul_ediv (a / 2) P
  have h2 : 0 ≤ (a / 2) % P := Int.emod_nonneg _ (by omega)
  have h3 : (a / 2) % P < P := Int.emod_lt_of_pos _ hP
  have h4 : 2 * P * ((a / 2) / P) = 2 * (P * ((a / 2) / P)) := Int.mul_assoc _ _ _
  have := (Int.ediv_emod_unique (a := a) (b := 2 * P) (r := 2 * ((a / 2) % P) + a % 2) (q := (a / 2) / P) (by omega)).2 ⟨by rw [h4]; omega, by omega, by omega⟩
  exact this.2
theorem opN_step (o : Bool) (x y p q : Nat) (hp : p < 2) (hq : q < 2) : opN o (2 * x + p) (2 * y + q) = 2 * opN o x y + opN o p q := by
  have key : ∀ z : Nat, z = 2 * (z / 2) + z % 2 := fun z => by omega
  have e1 : (2 * x + p) / 2 = x := by omega
  have e2 : (2 * y + q) / 2 = y := by omega
  have e3 : (2 * x + p) % 2 = p := by omega
  have e4 : (2 * y + q) % 2 = q := by omega
  unfold opN
  cases o
  · simp only [Bool.false_eq_true, if_false]
    rw [key ((2 * x + p) &&& (2 * y + q)), Nat.and_div_two, e1, e2]
    have := Nat.and_mod_two_pow (a := 2 * x + p) (b := 2 * y + q) (n := 1)
    rw [Nat.pow_one, e3, e4] at this
    rw [this]
  · simp only [if_true]
    rw [key ((2 * x + p) ||| (2 * y + q)), Nat.or_div_two, e1, e2]
    have := Nat.or_mod_two_pow (a := 2 * x + p) (b := 2 * y + q) (n := 1)
    rw [Nat.pow_one, e3, e4] at this
    rw [this]
theorem bitsF_eq (o : Bool) : ∀ (n : Nat) (a b : Int), bitsF o n a b = (opN o (a % 2 ^ n).toNat (b % 2 ^ n).toNat : Nat)
  | 0, a, b => by
    have e : ∀ x : Int, (x % 2 ^ 0).toNat = 0 := fun x => by
      have : (2 : Int) ^ 0 = 1 := rfl
      rw [this]; omega
    rw [e, e]
    cases o <;> rfl
  | n + 1, a, b => by
    have hP : (0 : Int) < 2 ^ n := Int.pow_pos (by decide)
    have e : ∀ x : Int, (x % 2 ^ (n + 1)).toNat = 2 * ((x / 2) % 2 ^ n).toNat + (x % 2).toNat := fun x => by
      have hp : (2 : Int) ^ (n + 1) = 2 * 2 ^ n := by rw [Int.pow_succ, Int.mul_comm]
      rw [hp, mod_twice x _ hP]
      have : 0 ≤ (x / 2) % 2 ^ n := Int.emod_nonneg _ (by omega)
      omega
    rw [e, e, opN_step o _ _ _ _ (by omega) (by omega)]
    unfold bitsF
    rw [bitsF_eq o n]
    have ha : (a % 2).toNat = 0 ∧ (a % 2 == 1) = false ∨ (a % 2).toNat = 1 ∧ (a % 2 == 1) = true := by
      rcases (show a % 2 = 0 ∨ a % 2 = 1 by omega) with h | h
      · left; rw [h]; exact ⟨rfl, rfl⟩
      · right; rw [h]; exact ⟨rfl, rfl⟩
    have hb : (b % 2).toNat = 0 ∧ (b % 2 == 1) = false ∨ (b % 2).toNat = 1 ∧ (b % 2 == 1) = true := by
      rcases (show b % 2 = 0 ∨ b % 2 = 1 by omega) with h | h
      · left; rw [h]; exact ⟨rfl, rfl⟩
      · right; rw [h]; exact ⟨rfl, rfl⟩
    rcases ha with ⟨h1, h2⟩ | ⟨h1, h2⟩ <;> rcases hb with ⟨h3, h4⟩ | ⟨h3, h4⟩ <;> cases o <;> (rw [h1, h2, h3, h4]; simp [bitB, opN]) <;> omega
theorem bitsF_le (o : Bool) : ∀ (n : Nat) (a b : Int), 0 ≤ bitsF o n a b
  | 0, _, _ => Int.le_refl _
  | n + 1, a, b => by
    have := bitsF_le o n (a / 2) (b / 2)
    unfold bitsF
    split <;> omega

theorem w32_mod (x : Int) : w32 (x % 4294967296) = w32 x := by rw [w32_eq, w32_eq]; omega
theorem opN_mod (o : Bool) (x y : Nat) : opN o x y % 4294967296 = opN o (x % 4294967296) (y % 4294967296) := by
  have e : (4294967296 : Nat) = 2 ^ 32 := rfl
  cases o
  · show (x &&& y) % _ = _ &&& _; rw [e, Nat.and_mod_two_pow]
  · show (x ||| y) % _ = _ ||| _; rw [e, Nat.or_mod_two_pow]
theorem bits_wrap (o : Bool) (a b : Int) : w32 (bitsF o 32 a b) = w32 (IntKind.wrap .i64 (opN o (a % 18446744073709551616).toNat (b % 18446744073709551616).toNat : Nat)) := by
  rw [w32_w64, bitsF_eq, ← w32_mod ((opN o (a % 18446744073709551616).toNat (b % 18446744073709551616).toNat : Nat) : Int)]
  have e1 : ∀ x : Int, (x % 18446744073709551616).toNat % 4294967296 = (x % 4294967296).toNat := fun x => by omega
  have e2 : (((opN o (a % 18446744073709551616).toNat (b % 18446744073709551616).toNat : Nat) : Int) % 4294967296) = ((opN o (a % 18446744073709551616).toNat (b % 18446744073709551616).toNat % 4294967296 : Nat) : Int) := by omega
  rw [e2, opN_mod, e1, e1]
  rfl
theorem and_w32 (a b : Int) : w32 (bitsF false 32 a b) = w32 (andI a b) := by
  rw [bits_wrap]
  unfold andI
  rw [BitVec.toNat_and, BitVec.toNat_ofInt, BitVec.toNat_ofInt]
  rfl
theorem or_w32 (a b : Int) : w32 (bitsF true 32 a b) = w32 (orI a b) := by
  rw [bits_wrap]
  unfold orI
  rw [BitVec.toNat_or, BitVec.toNat_ofInt, BitVec.toNat_ofInt]
  rfl

theorem pow32 : ∀ j, j < 32 → IntKind.wrap .i64 ((2 : Int) ^ j * 2) = 2 ^ (j + 1) ∧ 1 ≤ (2 : Int) ^ j ∧ (2 : Int) ^ j ≤ 2147483648 := by decide +kernel
theorem tmod2 (a : Int) : (Int.tmod a 2 != 0) = (a % 2 == 1) := by
  have h := tmod_pos a 2 (by decide)
  rcases (show a % 2 = 0 ∨ a % 2 = 1 by omega) with e | e
  · have : Int.tmod a 2 = 0 := by rw [h]; split <;> omega
    rw [this, e]; rfl
  · have : Int.tmod a 2 ≠ 0 := by rw [h]; split <;> omega
    rw [e]; simpa using this
theorem refBits (w0 : World) (m : AM) (a b : Int) (o : Bool) (ha : -2147483648 ≤ a ∧ a ≤ 2147483647) (hb : -2147483648 ≤ b ∧ b ≤ 2147483647) : CallsA Try.prog w0 47 #[.int .i64 a, .int .i64 b, .bool o] m (fun r m' => r = .int .i64 (bitsF o 32 a b) ∧ m' = m) := by
  refine cf47 w0 m a b o _ ?_
  have hT : bitsF o 32 a b < 4294967296 := by
    rw [bitsF_eq]
    have e : (2 : Int) ^ 32 = 4294967296 := rfl
    rw [e]
    have h1 : (a % 4294967296).toNat < 2 ^ 32 := by have : (2 : Nat) ^ 32 = 4294967296 := rfl
                                                    omega
    have h2 : (b % 4294967296).toNat < 2 ^ 32 := by have : (2 : Nat) ^ 32 = 4294967296 := rfl
                                                    omega
    have h3 : opN o (a % 4294967296).toNat (b % 4294967296).toNat < 2 ^ 32 := by
      cases o
      · exact Nat.and_lt_two_pow _ h2
      · exact Nat.or_lt_two_pow h1 h2
    have : (2 : Nat) ^ 32 = 4294967296 := rfl
    omega
  refine vl47_11010 w0 m _ _ o a b 0 1 0
    (fun k x y out bit i m' => m' = m ∧ (-2147483648 ≤ x ∧ x ≤ 2147483647) ∧ (-2147483648 ≤ y ∧ y ≤ 2147483647) ∧ 0 ≤ out ∧ ∃ j : Nat, j ≤ 32 ∧ i = (j : Int) ∧ bit = (2 : Int) ^ j ∧ k = 32 - j ∧ out + 2 ^ j * bitsF o (32 - j) x y = bitsF o 32 a b)
    (fun out m' => m' = m ∧ out = bitsF o 32 a b) 32 rfl rfl rfl rfl rfl rfl ⟨rfl, ha, hb, by omega, 0, by omega, rfl, rfl, rfl, by show 0 + 1 * bitsF o 32 a b = _; omega⟩ ?_ ?_
  · rintro k σ x y out bit i m' ⟨hm, hx, hy, h0, j, hj, rfl, rfl, hk, hsum⟩
    replace hm := hm.symm; subst hm
    refine ⟨rfl, ?_⟩
    by_cases c1 : (j : Int) < 32
    · obtain ⟨p1, p2, p3⟩ := pow32 j (by omega)
      have hj2 : 32 - j = (31 - j) + 1 := by omega
      rw [hj2] at hsum
      have hF := bitsF_le o (31 - j) (x / 2) (y / 2)
      have hw : IntKind.wrap .i64 ((j : Int) + 1) = ((j + 1 : Nat) : Int) := by rw [w64_id (by omega)]; omega
      have hps : (2 : Int) ^ (j + 1) = 2 ^ j * 2 := Int.pow_succ _ _
      generalize hp : (2 : Int) ^ j = p at p1 p2 p3 hsum hps ⊢
      have hk1 : k - 1 < k := by omega
      have hk2 : k - 1 = 32 - (j + 1) := by omega
      have hj3 : 32 - (j + 1) = 31 - j := by omega
      have hx2 : -2147483648 ≤ x / 2 ∧ x / 2 ≤ 2147483647 := by omega
      have hy2 : -2147483648 ≤ y / 2 ∧ y / 2 ≤ 2147483647 := by omega
      have hj4 : j + 1 ≤ 32 := by omega
      -- the bit's own part
      have step : ∀ (t : Bool), t = bitB o (x % 2 == 1) (y % 2 == 1) → ∀ σ : Sg, σ 0 = .int .i64 x → σ 1 = .int .i64 y → σ 2 = .bool o → σ 7 = .int .i64 out → σ 8 = .int .i64 p → σ 9 = .int .i64 (j : Int) → σ 34 = .bool t →
          ∀ (R : Value → AM → Prop) (n0 : Nat) (I0 : Nat → Int → Int → Int → Int → Int → AM → Prop) (E0_0 : Int → AM → Prop), n0 = k → R = (fun r m' => r = .int .i64 (bitsF o 32 a b) ∧ m' = m) →
          I0 = (fun k x y out bit i m' => m' = m ∧ (-2147483648 ≤ x ∧ x ≤ 2147483647) ∧ (-2147483648 ≤ y ∧ y ≤ 2147483647) ∧ 0 ≤ out ∧ ∃ j : Nat, j ≤ 32 ∧ i = (j : Int) ∧ bit = (2 : Int) ^ j ∧ k = 32 - j ∧ out + 2 ^ j * bitsF o (32 - j) x y = bitsF o 32 a b) → ∀ x2 : Bool, x2 = o → (vcS Try.prog w0 qs47 (sub c47 [1, 1, 0, 1, 0, 0, 1, 0, 0, 1, 0, 1]) σ m (thenS (fun σ m => vcS Try.prog w0 qs47 (sub c47 [1, 1, 0, 1, 0, 0, 1, 0, 0, 1, 1]) σ m (blockS 1 (thenS (fun σ m => vcS Try.prog w0 qs47 (sub c47 [1, 1, 0, 1, 0, 0, 1, 1]) σ m (lq47_11010 R x2 I0 E0_0 n0)) (lq47_11010 R x2 I0 E0_0 n0)))) (blockS 1 (thenS (fun σ m => vcS Try.prog w0 qs47 (sub c47 [1, 1, 0, 1, 0, 0, 1, 1]) σ m (lq47_11010 R x2 I0 E0_0 n0)) (lq47_11010 R x2 I0 E0_0 n0))))) := by
        intro t ht σ s0 s1 s2 s7 s8 s9 s34 R n0 I0 E0_0 hn0 hR hI0 x2 hx2'
        subst hx2'
        refine vk47_110100100101 w0 m σ R n0 I0 E0_0 x y x2 out p (j : Int) t s0 s1 s2 s7 s8 s9 s34 ?_
        subst hn0
        subst hI0
        have hbF : bitsF x2 (31 - j + 1) x y = (if t then 1 else 0) + 2 * bitsF x2 (31 - j) (x / 2) (y / 2) := by rw [ht]; rfl
        rw [hbF] at hsum
        rw [hw]
        have fin : ∀ (q : Int), 0 ≤ q → q + p * 2 * bitsF x2 (31 - j) (x / 2) (y / 2) = bitsF x2 32 a b → ∃ n', n' < n0 ∧ (m = m ∧ (-2147483648 ≤ x / 2 ∧ x / 2 ≤ 2147483647) ∧ (-2147483648 ≤ y / 2 ∧ y / 2 ≤ 2147483647) ∧ 0 ≤ q ∧ ∃ j' : Nat, j' ≤ 32 ∧ ((j + 1 : Nat) : Int) = j' ∧ IntKind.wrap .i64 (p * 2) = 2 ^ j' ∧ n' = 32 - j' ∧ q + 2 ^ j' * bitsF x2 (32 - j') (x / 2) (y / 2) = bitsF x2 32 a b) := by
          intro q g0 g1
          exact ⟨n0 - 1, hk1, rfl, hx2, hy2, g0, j + 1, hj4, rfl, p1, hk2, by rw [hj3, hps]; exact g1⟩
        cases t with
        | true =>
          simp only [if_true] at hsum
          have hpF : 0 ≤ p * (2 * bitsF x2 (31 - j) (x / 2) (y / 2)) := Int.mul_nonneg (by omega) (by omega)
          have he : p * (1 + 2 * bitsF x2 (31 - j) (x / 2) (y / 2)) = p + p * (2 * bitsF x2 (31 - j) (x / 2) (y / 2)) := by rw [Int.mul_add, Int.mul_one]
          rw [he] at hsum
          have hout : IntKind.wrap .i64 (out + p) = out + p := w64_id (by omega)
          refine bcT ⟨rfl, ?_⟩
          refine CallsA.mono (refHalf w0 m x hx) ?_
          rintro r m3 ⟨rfl, h3⟩
          replace h3 := h3.symm; subst h3
          refine ⟨_, rfl, CallsA.mono (refHalf w0 m y hy) ?_⟩
          rintro r m3 ⟨rfl, h3⟩
          replace h3 := h3.symm; subst h3
          rw [hout]
          refine ⟨_, rfl, ?_⟩
          obtain ⟨n', g0, g1⟩ := fin (out + p) (by omega) (by rw [Int.mul_assoc]; omega)
          repeat (first | exact ⟨n', g0, g1⟩ | refine ⟨rfl, ?_⟩)
        | false =>
          simp only [Bool.false_eq_true, if_false, Int.zero_add] at hsum
          refine bcF ?_
          refine CallsA.mono (refHalf w0 m x hx) ?_
          rintro r m3 ⟨rfl, h3⟩
          replace h3 := h3.symm; subst h3
          refine ⟨_, rfl, CallsA.mono (refHalf w0 m y hy) ?_⟩
          rintro r m3 ⟨rfl, h3⟩
          replace h3 := h3.symm; subst h3
          refine ⟨_, rfl, ?_⟩
          obtain ⟨n', g0, g1⟩ := fin out h0 (by rw [Int.mul_assoc]; exact hsum)
          repeat (first | exact ⟨n', g0, g1⟩ | refine ⟨rfl, ?_⟩)
      refine bcET (decide_eq_true c1) ⟨rfl, by decide, rfl, rfl, by decide, rfl, ?_⟩
      have tx := tmod2 x
      have ty := tmod2 y
      cases hx1 : (x % 2 == 1) <;> cases hy1 : (y % 2 == 1) <;> cases o <;> (rw [hx1] at tx; rw [hy1] at ty; rw [hx1, hy1] at step; simp only [tx, ty, cond_true, cond_false, bcase_t, bcase_f, true_and, bcase, Bool.true_eq_false, Bool.false_eq_true, false_and]) <;> (refine step _ rfl _ ?_ ?_ ?_ ?_ ?_ ?_ ?_ _ _ _ _ rfl rfl rfl _ rfl <;> rfl)
    · have hj32 : j = 32 := by omega
      subst hj32
      refine bcEF (decide_eq_false c1) ?_
      have : out = bitsF o 32 a b := by
        have e : bitsF o (32 - 32) x y = 0 := rfl
        rw [e, Int.mul_zero] at hsum
        omega
      repeat (first | exact ⟨rfl, this⟩ | refine ⟨rfl, ?_⟩)
  · rintro σ out m' ⟨hm, rfl⟩
    exact retP_of ⟨rfl, hm⟩
end Go.Proofs.Ytadcbnldahcelaa.S
