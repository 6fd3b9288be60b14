/- Ytijilloaggeepaa: a text of our own, by an AI agent: E9E -/
import Derived.Test.YtijilloaggeepaaE8E
set_option linter.unusedSimpArgs false
set_option linter.unusedVariables false
set_option maxRecDepth 100000
namespace Go.Proofs.Ytijilloaggeepaa.S
open Go Go.RowKit Go.Alog Go.Proofs.Ytijilloaggeepaa.T Go.Proofs.Ytijilloaggeepaa.V

theorem tmod_pos (n d : Int) (hd : 0 < d) : Int.tmod n d = if 0 ≤ n then n % d else -((-n) % d) := by
  split
  · exact Int.tmod_eq_emod_of_nonneg (by assumption)
  · have : Int.tmod (- -n) d = -(Int.tmod (-n) d) := Int.neg_tmod _ _
    rw [Int.neg_neg] at this
    rw [this, Int.tmod_eq_emod_of_nonneg (by omega)]
theorem refWrap (w0 : World) (m : AM) (n : Int) : CallsA Try.prog w0 26 #[.int .i64 n] m (fun r m' => r = .int .i64 (w32 n) ∧ m' = m) := by
  refine cf26 w0 m n _ ⟨rfl, by decide, rfl, ?_⟩
  have ht := tmod_pos n 4294967296 (by decide)
  generalize Int.tmod n 4294967296 = x at ht ⊢
  have hx : -4294967296 < x ∧ x < 4294967296 := by rw [ht]; split <;> omega
  have hw : x % 4294967296 = n % 4294967296 := by rw [ht]; split <;> omega
  have e32 : w32 n = w32 x := by rw [w32_eq, w32_eq]; omega
  rw [e32, w32_eq]
  refine bcP (fun h => ⟨rfl, rfl, ?_⟩) (fun h => ⟨rfl, ?_⟩)
  · have w1 : IntKind.wrap .i64 (x + 4294967296) = x + 4294967296 := by rw [IntKind.wrap_i64]; omega
    rw [w1]
    refine bcP (fun h2 => ⟨rfl, retP_of ⟨?_, rfl⟩⟩) (fun h2 => retP_of ⟨?_, rfl⟩)
    · rw [IntKind.wrap_i64]; congr 1; omega
    · congr 1; omega
  · refine bcP (fun h2 => ⟨rfl, retP_of ⟨?_, rfl⟩⟩) (fun h2 => retP_of ⟨?_, rfl⟩)
    · rw [IntKind.wrap_i64]; congr 1; omega
    · congr 1; omega
theorem ext16_eq (n : Int) : ext16 n = (n + 32768) % 65536 - 32768 := by
  unfold ext16
  rw [IntKind.wrap_i32, IntKind.wrap_i32, Int.fdiv_eq_ediv_of_nonneg _ (by omega), IntKind.wrap_i64]
  omega
theorem pow_step : ∀ j, j < 16 → IntKind.wrap .i64 ((2 : Int) ^ j * 2) = 2 ^ (j + 1) := by decide +kernel
theorem refExt (w0 : World) (m : AM) (n : Int) (hn : InI n) : CallsA Try.prog w0 44 #[.int .i64 n, .int .i64 16] m (fun r m' => r = .int .i64 (ext16 n) ∧ m' = m) := by
  refine cf44 w0 m n 16 _ ⟨rfl, bcEF rfl ⟨rfl, bcEF rfl ?_⟩⟩
  refine vl44_111010 w0 m _ _ n 16 1 0 (fun k e i m' => m' = m ∧ ∃ j : Nat, j ≤ 16 ∧ i = j ∧ e = 2 ^ j ∧ k = 16 - j) (fun e m' => m' = m ∧ e = 65536) 16 rfl rfl rfl rfl ⟨rfl, 0, by omega, rfl, rfl, rfl⟩ ?_ ?_
  · rintro k σ e i m' ⟨hm, j, hj, rfl, rfl, hk⟩
    subst hm
    refine ⟨rfl, ?_⟩
    by_cases c1 : (j : Int) < 16
    · have w : IntKind.wrap .i64 ((j : Int) + 1) = ((j + 1 : Nat) : Int) := by rw [IntKind.wrap_i64]; omega
      refine bcET (decide_eq_true c1) ⟨rfl, rfl, rfl, rfl, rfl, rfl, k - 1, by omega, rfl, j + 1, by omega, w, pow_step j (by omega), by omega⟩
    · have : j = 16 := by omega
      subst this
      exact bcEF (decide_eq_false c1) ⟨rfl, rfl, rfl, rfl, rfl⟩
  · rintro σ e m' ⟨hm, rfl⟩
    subst hm
    have ht := tmod_pos n 65536 (by decide)
    rw [ext16_eq]
    unfold InI at hn
    refine ⟨rfl, by decide, rfl, ?_⟩
    generalize Int.tmod n 65536 = x at ht ⊢
    have hx : -65536 < x ∧ x < 65536 := by rw [ht]; split <;> omega
    have hw : x % 65536 = n % 65536 := by rw [ht]; split <;> omega
    have e2 : IntKind.wrap .i64 (Int.tdiv 65536 2) = 32768 := by decide
    rw [e2]
    refine bcP (fun h => ⟨rfl, rfl, by decide, rfl, ?_⟩) (fun h => ⟨rfl, by decide, rfl, ?_⟩)
    · have w1 : IntKind.wrap .i64 (x + 65536) = x + 65536 := by rw [IntKind.wrap_i64]; omega
      rw [w1]
      refine bcP (fun h2 => ⟨rfl, retP_of ⟨?_, rfl⟩⟩) (fun h2 => retP_of ⟨?_, rfl⟩)
      · rw [IntKind.wrap_i64]; congr 1; omega
      · congr 1; omega
    · refine bcP (fun h2 => ⟨rfl, retP_of ⟨?_, rfl⟩⟩) (fun h2 => retP_of ⟨?_, rfl⟩)
      · rw [IntKind.wrap_i64]; congr 1; omega
      · congr 1; omega

theorem const18_spec (w0 : World) (m : AM) (Z : Nat → Prop) (hz : ∀ k, Z k → m k ≠ none) (s : St) (A0 A1 : Option Addr) (c0 c1 : Nat) (reg n : Int) (hn : InI n) (hr0 : Reads m 5 A0 s.code.length (insCells s.code)) (hr1 : Reads m 3 A1 s.pats.length (patCells s.pats)) (hl : s.code.length ≤ 999998) (hl2 : s.pats.length ≤ 999999) :
    CallsA Try.prog w0 39 #[.agg #[.slice A0 s.code.length c0, .slice A1 s.pats.length c1, .int .i64 s.taken], .int .i64 reg, .int .i64 n] m (fun r m' => m.le m' ∧ RB m' Z r ⟨s.code ++ constI reg n, s.pats, s.taken⟩) := by
  have hl1 : s.code.length + 1 ≤ 999999 := by omega
  have hl3 : s.code.length ≤ 999999 := by omega
  refine cf39 w0 m _ _ _ _ _ _ _ _ _ _ ?_
  intro b1 hb1 hm1 m1
  have l1 : m.le m1 := le_new hm1 _
  have p1 : m1 b1 = some (.cells #[.slice A0 s.code.length c0, .slice A1 s.pats.length c1, .int .i64 s.taken] 48) := upd_get_same
  clear_value m1
  intro b3 hb3 hm3 M
  have l3 : m1.le M := le_new hm3 _
  have p3 : M b3 = some (.cells #[.slice none 0 0, .slice none 0 0, .int .i64 0] 48) := upd_get_same
  clear_value M
  have h13 : b1 ≠ b3 := ne_new p1 hm3
  replace p1 := l3 _ _ p1
  have L := AM.le_trans l1 l3
  have n3 : m b3 = none := AM.le_none l1 hm3
  have hzM : ∀ k, Z k → M k ≠ none := fun k hk hn => hz k hk (AM.le_none L hn)
  -- the last Put, and what is handed back
  have last : ∀ (M2 : AM) (s2 : St) (B0 B1 : Option Addr) (d0 d1 : Nat) (j : Ins), m.le M2 → (∀ k, Z k → M2 k ≠ none) → M2 b3 = some (.cells #[.slice none 0 0, .slice none 0 0, .int .i64 0] 48) → Reads M2 5 B0 s2.code.length (insCells s2.code) → Reads M2 3 B1 s2.pats.length (patCells s2.pats) → s2.code.length ≤ 999999 → s2.pats.length ≤ 999999 → (⟨s2.code ++ [j], s2.pats, s2.taken⟩ : St) = ⟨s.code ++ constI reg n, s.pats, s.taken⟩ →
      CallsA Try.prog w0 35 #[.agg #[.slice B0 s2.code.length d0, .slice B1 s2.pats.length d1, .int .i64 s2.taken], j.val, .int .i64 (-1), .int .i64 0] M2 fun r m28 =>
      ∃ (A20 : Option Addr) (n21 c22 : Nat), ∃ (A23 : Option Addr) (n24 c25 : Nat), ∃ i26 : Int, r = .agg #[.slice A20 n21 c22, .slice A23 n24 c25, .int .i64 i26] ∧ StC w0.heap.size m28 ⟨b3, 0, none⟩ (.slice A20 n21 c22) fun m29 => StC w0.heap.size m29 ⟨b3, 1, none⟩ (.slice A23 n24 c25) fun m30 => StC w0.heap.size m30 ⟨b3, 2, none⟩ (.int .i64 i26) fun m31 =>
      ∃ (A32 : Option Addr) (n33 c34 : Nat), m31.cell ⟨b3, 0, none⟩ = some (.slice A32 n33 c34) ∧ ∃ (A35 : Option Addr) (n36 c37 : Nat), m31.cell ⟨b3, 1, none⟩ = some (.slice A35 n36 c37) ∧ ∃ i38 : Int, m31.cell ⟨b3, 2, none⟩ = some (.int .i64 i38) ∧ RetP (fun r m' => m.le m' ∧ RB m' Z r ⟨s.code ++ constI reg n, s.pats, s.taken⟩) (.agg #[.slice A32 n33 c34, .slice A35 n36 c37, .int .i64 i38]) m31 := by
    intro M2 s2 B0 B1 d0 d1 j L2 hz2 q3 g0 g1 hl3 hl4 hs
    refine CallsA.mono (put18_spec w0 M2 (fun k => Z k ∨ k = b3) (fun k hk => hk.elim (hz2 k) (fun e => by rw [e, q3]; simp)) s2 B0 B1 d0 d1 j (-1) 0 g0 g1 hl3 hl4) ?_
    rintro r m2 ⟨l2, C0, e0, C1, e1, rfl, q0, q1, z0, z1⟩
    have r3 := l2 _ _ q3
    refine ⟨_, _, _, _, _, _, _, rfl, ?_⟩
    refine keep3 hb3 r3 fun m' hm' => ?_
    have hf : Fr m2 m' [b3] := by rw [hm']; exact Fr.upd (Fr.refl _ _) (.inl (by simp)) _
    have hp : putP s2 (-1) 0 = s2.pats := rfl
    rw [hp] at q1
    rw [← hs]
    exact retP_of ⟨by rw [hm']; exact le_upd0 (AM.le_trans L2 l2) n3, C0, e0, C1, e1, rfl, Reads_fr q0 hf (fun h0 k hk hin => z0 h0 k hk (.inr (by simpa using hin))), Reads_fr q1 hf (fun h0 k hk hin => z1 h0 k hk (.inr (by simpa using hin))), fun h0 k hk hz => z0 h0 k hk (.inl hz), fun h0 k hk hz => z1 h0 k hk (.inl hz)⟩
  have two : ¬ (-32768 ≤ n ∧ n < 32768) → CallsA Try.prog w0 26 #[.int .i64 n] M fun r32 m33 =>
      ∃ i31 : Int, r32 = .int .i64 i31 ∧ CallsA Try.prog w0 44 #[.int .i64 i31, .int .i64 16] m33 fun r35 m36 =>
      ∃ i34 : Int, r35 = .int .i64 i34 ∧ ∃ (A37 : Option Addr) (n38 c39 : Nat), m36.cell ⟨b1, 0, none⟩ = some (.slice A37 n38 c39) ∧ ∃ (A40 : Option Addr) (n41 c42 : Nat), m36.cell ⟨b1, 1, none⟩ = some (.slice A40 n41 c42) ∧ ∃ i43 : Int, m36.cell ⟨b1, 2, none⟩ = some (.int .i64 i43) ∧
      IntKind.i64 = IntKind.i64 ∧ IntKind.i64 = IntKind.i64 ∧ (65536 : Int) ≠ 0 ∧ ∃ i44 : Int, CallsA Try.prog w0 44 #[.int .i64 (IntKind.wrap .i64 (Int.tdiv (IntKind.wrap .i64 (i31 - i34)) 65536)), .int .i64 16] m36 (fun r45 m46 => r45 = .int .i64 i44 ∧ m46 = m36) ∧
      true = true ∧ CallsA Try.prog w0 35 #[.agg #[.slice A37 n38 c39, .slice A40 n41 c42, .int .i64 i43], .agg #[.int .i64 11, .int .i64 reg, .int .i64 0, .int .i64 0, .int .i64 i44], .int .i64 (-1), .int .i64 0] m36 fun r54 m55 =>
      ∃ (A47 : Option Addr) (n48 c49 : Nat), ∃ (A50 : Option Addr) (n51 c52 : Nat), ∃ i53 : Int, r54 = .agg #[.slice A47 n48 c49, .slice A50 n51 c52, .int .i64 i53] ∧ StC w0.heap.size m55 ⟨b1, 0, none⟩ (.slice A47 n48 c49) fun m56 => StC w0.heap.size m56 ⟨b1, 1, none⟩ (.slice A50 n51 c52) fun m57 => StC w0.heap.size m57 ⟨b1, 2, none⟩ (.int .i64 i53) fun m58 =>
      ∃ (A59 : Option Addr) (n60 c61 : Nat), m58.cell ⟨b1, 0, none⟩ = some (.slice A59 n60 c61) ∧ ∃ (A62 : Option Addr) (n63 c64 : Nat), m58.cell ⟨b1, 1, none⟩ = some (.slice A62 n63 c64) ∧ ∃ i65 : Int, m58.cell ⟨b1, 2, none⟩ = some (.int .i64 i65) ∧
      true = true ∧ CallsA Try.prog w0 35 #[.agg #[.slice A59 n60 c61, .slice A62 n63 c64, .int .i64 i65], .agg #[.int .i64 10, .int .i64 reg, .int .i64 reg, .int .i64 0, .int .i64 i34], .int .i64 (-1), .int .i64 0] m58 fun r m28 =>
      ∃ (A20 : Option Addr) (n21 c22 : Nat), ∃ (A23 : Option Addr) (n24 c25 : Nat), ∃ i26 : Int, r = .agg #[.slice A20 n21 c22, .slice A23 n24 c25, .int .i64 i26] ∧ StC w0.heap.size m28 ⟨b3, 0, none⟩ (.slice A20 n21 c22) fun m29 => StC w0.heap.size m29 ⟨b3, 1, none⟩ (.slice A23 n24 c25) fun m30 => StC w0.heap.size m30 ⟨b3, 2, none⟩ (.int .i64 i26) fun m31 =>
      ∃ (A32 : Option Addr) (n33 c34 : Nat), m31.cell ⟨b3, 0, none⟩ = some (.slice A32 n33 c34) ∧ ∃ (A35 : Option Addr) (n36 c37 : Nat), m31.cell ⟨b3, 1, none⟩ = some (.slice A35 n36 c37) ∧ ∃ i38 : Int, m31.cell ⟨b3, 2, none⟩ = some (.int .i64 i38) ∧ RetP (fun r m' => m.le m' ∧ RB m' Z r ⟨s.code ++ constI reg n, s.pats, s.taken⟩) (.agg #[.slice A32 n33 c34, .slice A35 n36 c37, .int .i64 i38]) m31 := by
    intro hbig
    have hw := w32_le n
    refine CallsA.mono (refWrap w0 M n) ?_
    rintro r m33 ⟨rfl, rfl⟩
    refine ⟨_, rfl, CallsA.mono (refExt w0 _ (w32 n) (by unfold InI; omega)) ?_⟩
    rintro r m36 ⟨rfl, rfl⟩
    have hx := ext16_eq (w32 n)
    have w1 : IntKind.wrap .i64 (w32 n - ext16 (w32 n)) = w32 n - ext16 (w32 n) := w64_id (by omega)
    have ht : Int.tdiv (w32 n - ext16 (w32 n)) 65536 = Int.fdiv (w32 n + 32768) 65536 := by
      rw [Int.fdiv_eq_ediv_of_nonneg _ (by omega)]
      have : w32 n - ext16 (w32 n) = (w32 n + 32768) / 65536 * 65536 := by omega
      rw [this, Int.mul_tdiv_cancel _ (by decide)]
    have w2 : IntKind.wrap .i64 (Int.fdiv (w32 n + 32768) 65536) = Int.fdiv (w32 n + 32768) 65536 := by
      rw [Int.fdiv_eq_ediv_of_nonneg _ (by omega)]; exact w64_id (by omega)
    refine ⟨_, rfl, _, _, _, cel p1 rfl, _, _, _, cel p1 rfl, _, cel p1 rfl, rfl, rfl, by decide, ext16 (Int.fdiv (w32 n + 32768) 65536), ?_, rfl, ?_⟩
    · rw [w1, ht, w2]
      refine refExt w0 _ _ ?_
      rw [Int.fdiv_eq_ediv_of_nonneg _ (by omega)]; unfold InI; omega
    have hc : constI reg n = [⟨11, reg, 0, 0, ext16 (Int.fdiv (w32 n + 32768) 65536)⟩, ⟨10, reg, reg, 0, ext16 (w32 n)⟩] := by
      have e1 : IntKind.wrap .i64 (IntKind.wrap .i32 n) = w32 n := w64_w32 n
      have e2 : IntKind.wrap .i64 (w32 n + 32768) = w32 n + 32768 := w64_id (by omega)
      unfold constI
      rw [if_neg hbig, e1, e2]
    refine CallsA.mono (put18_spec w0 _ (fun k => Z k ∨ k = b1) (fun k hk => hk.elim (hzM k) (fun e => by rw [e, p1]; simp)) s A0 A1 c0 c1 ⟨11, reg, 0, 0, ext16 (Int.fdiv (w32 n + 32768) 65536)⟩ (-1) 0 (hr0.le L) (hr1.le L) hl3 hl2) ?_
    rintro r m2 ⟨l2, C0, e0, C1, e1, hv, q0, q1, z0, z1⟩
    have hp : putP s (-1) 0 = s.pats := rfl
    dsimp only at hv q0 q1 z0 z1
    rw [hp] at hv q1 z1
    subst hv
    have r1 := l2 _ _ p1
    generalize ext16 (Int.fdiv (w32 n + 32768) 65536) = hi at q0 z0 hc ⊢
    generalize ext16 (w32 n) = lo at hc ⊢
    refine ⟨_, _, _, _, _, _, _, rfl, ?_⟩
    refine keep3 hb1 r1 fun m' hm' => ?_
    have hf : Fr m2 m' [b1] := by rw [hm']; exact Fr.upd (Fr.refl _ _) (.inl (by simp)) _
    have hlm : m.le m' := by rw [hm']; exact le_upd0 (AM.le_trans L l2) hm1
    refine ⟨rfl, ?_⟩
    have h9 := last m' ⟨s.code ++ [⟨11, reg, 0, 0, hi⟩], s.pats, s.taken⟩ C0 C1 e0 e1 ⟨10, reg, reg, 0, lo⟩ hlm (fun k hk hn => hz k hk (AM.le_none hlm hn)) (by rw [hm', upd_get_ne h13.symm]; exact l2 _ _ p3) (Reads_fr q0 hf (fun h0 k hk hin => z0 h0 k hk (.inr (by simpa using hin)))) (Reads_fr q1 hf (fun h0 k hk hin => z1 h0 k hk (.inr (by simpa using hin)))) (by simpa using hl1) hl2 (by rw [hc]; simp)
    exact h9
  refine ⟨rfl, ?_⟩
  by_cases h1 : n > -32769
  · have e1 := decide_eq_true h1
    refine bcET e1 ⟨rfl, ?_⟩
    by_cases h2 : n < 32768
    · refine bcET (by rw [e1, decide_eq_true h2]; rfl) ⟨_, _, _, cel p1 rfl, _, _, _, cel p1 rfl, _, cel p1 rfl, rfl, ?_⟩
      refine last M s A0 A1 c0 c1 ⟨10, reg, 0, 0, n⟩ L hzM p3 (hr0.le L) (hr1.le L) (by omega) hl2 ?_
      have : constI reg n = [⟨10, reg, 0, 0, n⟩] := if_pos (by omega)
      rw [this]
    · exact bcEF (by rw [e1, decide_eq_false h2]; rfl) (two (by omega))
  · have e1 := decide_eq_false h1
    exact bcEF e1 ⟨e1, two (by omega)⟩
end Go.Proofs.Ytijilloaggeepaa.S
