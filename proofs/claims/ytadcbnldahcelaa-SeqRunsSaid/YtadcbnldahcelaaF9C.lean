/- Ytadcbnldahcelaa: a text of our own, by an AI agent: F9C -/
import Derived.Test.YtadcbnldahcelaaF8C
set_option linter.unusedSimpArgs false
set_option linter.unusedVariables false
set_option maxRecDepth 100000
namespace Go.Proofs.Ytadcbnldahcelaa.S
open Go Go.RowKit Go.Alog Go.Proofs.Ytadcbnldahcelaa.T Go.Proofs.Ytadcbnldahcelaa.V

/-- What a right instruction of 1 to 11 writes, of two words. -/
def reckV (i : Ins) (b c : Int) : Int :=
  match reckP i b c with
  | some x => w32 x
  | none => if i.op = 5 then b.tmod c else w32 (b.tdiv c)
def valRel (i : Ins) (b c v : Int) (ok : Bool) : Prop :=
  if 1 ≤ i.op ∧ i.op ≤ 11 then (if (i.op = 4 ∨ i.op = 5) ∧ c = 0 then ok = false ∧ v = 0 else ok = true ∧ w32 v = reckV i b c) else ok = false ∧ v = 0
theorem valRel_some {i : Ins} {b c v x : Int} (h : 1 ≤ i.op ∧ i.op ≤ 11) (h4 : i.op ≠ 4) (h5 : i.op ≠ 5) (hr : reckP i b c = some x) (hv : w32 v = w32 x) : valRel i b c v true := by
  unfold valRel reckV
  rw [if_pos h, if_neg (by omega), hr]
  exact ⟨rfl, hv⟩

theorem value_spec (w0 : World) (m : AM) (i : Ins) (b c : Int) (hb : -2147483648 ≤ b ∧ b ≤ 2147483647) (hc : -2147483648 ≤ c ∧ c ≤ 2147483647) :
    CallsA Try.prog w0 27 #[i.val, .int .i64 b, .int .i64 c] m (fun r m' => m.le m' ∧ ∃ v ok, r = .tuple #[.int .i64 v, .bool ok] ∧ valRel i b c v ok) := by
  have wb : w32 b = b := w32_id hb
  have wc : w32 c = c := w32_id hc
  refine cf27 w0 m _ _ _ _ _ b c _ ?_
  intro b1 hb1 hm1 M
  have L : m.le M := le_new hm1 _
  have p1 : M b1 = some (.cells #[.int .i64 i.op, .int .i64 i.a, .int .i64 i.b, .int .i64 i.c, .int .i64 i.imm] 34) := upd_get_same
  clear_value M
  have no : ∀ {k : Int}, ¬ i.op = k → (i.op == k) = false := fun h => by simpa using h
  have yes : ∀ {k : Int}, i.op = k → (i.op == k) = true := fun h => by simpa using h
  refine ⟨_, cel p1 rfl, rfl, ?_⟩
  by_cases c1 : i.op = 1
  · exact bcET (yes c1) ⟨rfl, retP_of ⟨L, _, _, rfl, valRel_some (x := IntKind.wrap .i64 (b + c)) (by omega) (by omega) (by omega) (by unfold reckP; rw [if_pos c1]) rfl⟩⟩
  refine bcEF (no c1) ⟨rfl, ?_⟩
  by_cases c2 : i.op = 2
  · exact bcET (yes c2) ⟨rfl, retP_of ⟨L, _, _, rfl, valRel_some (x := IntKind.wrap .i64 (b - c)) (by omega) (by omega) (by omega) (by unfold reckP; rw [if_neg c1, if_pos c2]) rfl⟩⟩
  refine bcEF (no c2) ⟨rfl, ?_⟩
  by_cases c3 : i.op = 3
  · refine bcET (yes c3) ?_
    refine CallsA.mono (refMul w0 M b c) ?_
    rintro r m2 ⟨rfl, h2⟩
    replace h2 := h2.symm; subst h2
    refine ⟨_, rfl, retP_of ⟨L, _, _, rfl, valRel_some (x := IntKind.wrap .i64 (b * c)) (by omega) (by omega) (by omega) (by unfold reckP; rw [if_neg c1, if_neg c2, if_pos c3]) ?_⟩⟩
    rw [wb, wc, w32_w32, w32_w64]
  refine bcEF (no c3) ⟨rfl, ?_⟩
  have hnone : i.op = 4 ∨ i.op = 5 → reckP i b c = none := fun h => by
    unfold reckP
    rw [if_neg c1, if_neg c2, if_neg c3, if_neg (by omega), if_neg (by omega), if_neg (by omega), if_neg (by omega), if_neg (by omega), if_neg (by omega)]
  have divT : i.op = 4 ∨ i.op = 5 → IntKind.i64 = IntKind.i64 ∧ (bcase ((c : Int) == 0) (
      RetP (fun r m' => m.le m' ∧ ∃ v ok, r = .tuple #[.int .i64 v, .bool ok] ∧ valRel i b c v ok) (.tuple #[.int .i64 0, .bool false]) M) (
      CallsA Try.prog w0 46 #[.int .i64 b, .int .i64 c] M fun r9 m10 =>
      ∃ i7 : Int, ∃ i8 : Int, r9 = .tuple #[.int .i64 i7, .int .i64 i8] ∧ ∃ i13 : Int, m10.cell ⟨b1, 0, none⟩ = some (.int .i64 i13) ∧
      IntKind.i64 = IntKind.i64 ∧ (bcase ((i13 : Int) == 5) (
      RetP (fun r m' => m.le m' ∧ ∃ v ok, r = .tuple #[.int .i64 v, .bool ok] ∧ valRel i b c v ok) (.tuple #[.int .i64 i8, .bool true]) m10) (
      RetP (fun r m' => m.le m' ∧ ∃ v ok, r = .tuple #[.int .i64 v, .bool ok] ∧ valRel i b c v ok) (.tuple #[.int .i64 i7, .bool true]) m10)))) := by
    intro h45
    refine ⟨rfl, ?_⟩
    by_cases h0 : c = 0
    · refine bcET (by simpa using h0) (retP_of ⟨L, _, _, rfl, ?_⟩)
      unfold valRel
      rw [if_pos (by omega), if_pos ⟨h45, h0⟩]
      exact ⟨rfl, rfl⟩
    · refine bcEF (by simpa using h0) ?_
      refine CallsA.mono (refDiv w0 M b c (by rw [wc]; exact h0)) ?_
      rintro r m2 ⟨rfl, h2⟩
      replace h2 := h2.symm; subst h2
      rw [wb, wc]
      refine ⟨_, _, rfl, _, cel p1 rfl, rfl, ?_⟩
      have hv : ∀ v, w32 v = (if i.op = 5 then b.tmod c else w32 (b.tdiv c)) → valRel i b c v true := fun v hv => by
        unfold valRel reckV
        rw [if_pos (by omega), if_neg (fun h => h0 h.2), hnone h45]
        exact ⟨rfl, hv⟩
      by_cases h5 : i.op = 5
      · refine bcET (yes h5) (retP_of ⟨L, _, _, rfl, hv _ ?_⟩)
        rw [if_pos h5]
        have h3 : (b.tmod c).natAbs ≤ b.natAbs := by rw [Int.natAbs_tmod]; exact Nat.mod_le _ _
        have h6 : b < 0 → b.tmod c ≤ 0 := fun hb => by
          have e : (- -b).tmod c = -((-b).tmod c) := Int.neg_tmod _ _
          rw [Int.neg_neg] at e
          have := Int.tmod_nonneg c (show 0 ≤ -b by omega)
          omega
        exact w32_id (by omega)
      · refine bcEF (no h5) (retP_of ⟨L, _, _, rfl, hv _ ?_⟩)
        rw [if_neg h5, w32_w32]
  by_cases c4 : i.op = 4
  · refine bcET (yes c4) ?_
    refine vk27_10101111111 w0 M _ _ b c b1 i.op true rfl rfl rfl rfl (by show Value.bool (i.op == 4) = _; rw [yes c4]) ?_
    exact bcT (divT (.inl c4))
  refine bcEF (no c4) ⟨rfl, ?_⟩
  by_cases c5 : i.op = 5
  · refine vk27_10101111111 w0 M _ _ b c b1 i.op true rfl rfl rfl rfl (by show Value.bool (i.op == 5) = _; rw [yes c5]) ?_
    exact bcT (divT (.inr c5))
  refine vk27_10101111111 w0 M _ _ b c b1 i.op false rfl rfl rfl rfl (by show Value.bool (i.op == 5) = _; rw [no c5]) ?_
  refine bcF ⟨rfl, ?_⟩
  have bitsT : ∀ o : Bool, (i.op == 7) = o → i.op = 6 ∨ i.op = 7 → ∃ i14 : Int, M.cell ⟨b1, 0, none⟩ = some (.int .i64 i14) ∧ IntKind.i64 = IntKind.i64 ∧ CallsA Try.prog w0 47 #[.int .i64 b, .int .i64 c, .bool ((i14 : Int) == 7)] M fun r16 m17 =>
      ∃ i15 : Int, r16 = .int .i64 i15 ∧ RetP (fun r m' => m.le m' ∧ ∃ v ok, r = .tuple #[.int .i64 v, .bool ok] ∧ valRel i b c v ok) (.tuple #[.int .i64 i15, .bool true]) m17 := by
    intro o ho h67
    refine ⟨_, cel p1 rfl, rfl, ?_⟩
    rw [ho]
    refine CallsA.mono (refBits w0 M b c o hb hc) ?_
    rintro r m2 ⟨rfl, h2⟩
    replace h2 := h2.symm; subst h2
    refine ⟨_, rfl, retP_of ⟨L, _, _, rfl, ?_⟩⟩
    cases o with
    | false =>
      have h7 : ¬ i.op = 7 := by simpa using ho
      exact valRel_some (x := andI b c) (by omega) (by omega) (by omega) (by unfold reckP; rw [if_neg c1, if_neg c2, if_neg c3, if_pos (by omega)]) (and_w32 b c)
    | true =>
      have h7 : i.op = 7 := by simpa using ho
      exact valRel_some (x := orI b c) (by omega) (by omega) (by omega) (by unfold reckP; rw [if_neg c1, if_neg c2, if_neg c3, if_neg (by omega), if_pos (by omega)]) (or_w32 b c)
  by_cases c6 : i.op = 6
  · refine bcET (yes c6) ?_
    refine vk27_1010111111111 w0 M _ _ b c b1 i.op true rfl rfl rfl rfl (by show Value.bool (i.op == 6) = _; rw [yes c6]) ?_
    exact bcT (bitsT false (no (by omega)) (.inl c6))
  refine bcEF (no c6) ⟨rfl, ?_⟩
  by_cases c7 : i.op = 7
  · refine vk27_1010111111111 w0 M _ _ b c b1 i.op true rfl rfl rfl rfl (by show Value.bool (i.op == 7) = _; rw [yes c7]) ?_
    exact bcT (bitsT true (yes c7) (.inr c7))
  refine vk27_1010111111111 w0 M _ _ b c b1 i.op false rfl rfl rfl rfl (by show Value.bool (i.op == 7) = _; rw [no c7]) ?_
  refine bcF ⟨rfl, ?_⟩
  have fin : ∀ (v : Int) (ok : Bool), valRel i b c v ok → RetP (fun r m' => m.le m' ∧ ∃ v ok, r = .tuple #[.int .i64 v, .bool ok] ∧ valRel i b c v ok) (.tuple #[.int .i64 v, .bool ok]) M := fun v ok h => retP_of ⟨L, v, ok, rfl, h⟩
  by_cases c8 : i.op = 8
  · have hr : reckP i b c = some (truthI (decide (b < c))) := by unfold reckP; rw [if_neg c1, if_neg c2, if_neg c3, if_neg c6, if_neg c7, if_pos c8]
    have hv : ∀ v, v = truthI (decide (b < c)) → valRel i b c v true := fun v hv => valRel_some (by omega) (by omega) (by omega) hr (by rw [hv])
    have e8 := yes c8
    have e9 : (i.op == 9) = false := no (by omega)
    refine bcET e8 (bcET e8 ⟨_, cel p1 rfl, rfl, bcET e8 ⟨rfl, ?_⟩⟩)
    by_cases h : b < c
    · have d := decide_eq_true h
      exact bcET (by rw [e8, d]; rfl) ⟨by rw [e8, d]; rfl, fin 1 true (hv 1 (by rw [d]; rfl))⟩
    · have d := decide_eq_false h
      refine bcEF (by rw [e8, d]; rfl) ⟨_, cel p1 rfl, rfl, bcEF e9 ⟨e9, bcEF (by rw [e8, d]; rfl) (fin 0 true (hv 0 (by rw [d]; rfl)))⟩⟩
  refine bcEF (no c8) ⟨rfl, ?_⟩
  by_cases c9 : i.op = 9
  · have hr : reckP i b c = some (truthI (b == c)) := by unfold reckP; rw [if_neg c1, if_neg c2, if_neg c3, if_neg c6, if_neg c7, if_neg c8, if_pos c9]
    have hv : ∀ v, v = truthI (b == c) → valRel i b c v true := fun v hv => valRel_some (by omega) (by omega) (by omega) hr (by rw [hv])
    have e9 := yes c9
    have e8 : (i.op == 8) = false := no (by omega)
    refine bcET e9 ⟨_, cel p1 rfl, rfl, bcEF e8 ⟨e8, _, cel p1 rfl, rfl, bcET e9 ⟨rfl, ?_⟩⟩⟩
    cases h : (b == c)
    · exact bcEF (by rw [e9]; rfl) (fin 0 true (hv 0 (by rw [h]; rfl)))
    · exact bcET (by rw [e9]; rfl) (fin 1 true (hv 1 (by rw [h]; rfl)))
  refine bcEF (no c9) ⟨rfl, ?_⟩
  by_cases c10 : i.op = 10
  · refine bcET (yes c10) ⟨_, cel p1 rfl, rfl, ?_⟩
    exact fin _ true (valRel_some (x := IntKind.wrap .i64 (b + i.imm)) (by omega) (by omega) (by omega) (by unfold reckP; rw [if_neg c1, if_neg c2, if_neg c3, if_neg c6, if_neg c7, if_neg c8, if_neg c9, if_pos c10]) rfl)
  refine bcEF (no c10) ⟨rfl, ?_⟩
  by_cases c11 : i.op = 11
  · refine bcET (yes c11) ⟨_, cel p1 rfl, rfl, ?_⟩
    exact fin _ true (valRel_some (x := IntKind.wrap .i64 (i.imm * 65536)) (by omega) (by omega) (by omega) (by unfold reckP; rw [if_neg c1, if_neg c2, if_neg c3, if_neg c6, if_neg c7, if_neg c8, if_neg c9, if_neg c10, if_pos c11]) (by rw [Int.mul_comm]))
  refine bcEF (no c11) (fin 0 false ?_)
  unfold valRel
  rw [if_neg (by omega)]
  exact ⟨rfl, rfl⟩

theorem law_SeqReckons (W : World) (i : Ins) (hi : i.wf) (a1 : Int) (w1 : (Lit.int .i64 a1).wf = true) (a2 : Int) (w2 : (Lit.int .i64 a2).wf = true) : CallsA Try.prog W 7 #[i.val, .int .i64 a1, .int .i64 a2] (mOf W) (fun r _ => r = .bool true) := by
  refine cf7 W _ _ _ _ _ _ a1 a2 _ ?_
  intro b1 hb1 hm1 M
  have p1 : M b1 = some (.cells #[.int .i64 i.op, .int .i64 i.a, .int .i64 i.b, .int .i64 i.c, .int .i64 i.imm] 34) := upd_get_same
  clear_value M
  have no : ∀ {k : Int}, ¬ i.op = k → (i.op == k) = false := fun h => by simpa using h
  refine ⟨_, cel p1 rfl, _, cel p1 rfl, _, cel p1 rfl, _, cel p1 rfl, _, cel p1 rfl, ?_⟩
  refine CallsA.mono (Reckon_spec W M i a1 a2) ?_
  rintro r m12 ⟨rfl, l12⟩
  have p12 := l12 _ _ p1
  refine ⟨_, _, _, rfl, _, cel p12 rfl, _, cel p12 rfl, _, cel p12 rfl, _, cel p12 rfl, _, cel p12 rfl, ?_⟩
  refine CallsA.mono (right_spec W m12 i) ?_
  rintro r m23 ⟨rfl, l23⟩
  have p23 := l23 _ _ p12
  refine ⟨_, rfl, ?_⟩
  -- nothing is told
  have nil : ∀ (x t : Int) (ok : Bool), reckonP i a1 a2 = (x, t, ok) → x = 0 → t = 0 → ok = false → IntKind.i64 = IntKind.i64 ∧ (bcase (((reckonP i a1 a2).1 : Int) == 0) (
      IntKind.i64 = IntKind.i64 ∧ (bcase (bif ((reckonP i a1 a2).1 : Int) == 0 then ((reckonP i a1 a2).2.1 : Int) == 0 else false) (
      (bcase (bif bif ((reckonP i a1 a2).1 : Int) == 0 then ((reckonP i a1 a2).2.1 : Int) == 0 else false then !(reckonP i a1 a2).2.2 else false) (
      CallsA Try.prog W 21 #[] m23 fun r25 m26 =>
      ∃ t24 : Bool, r25 = .bool t24 ∧ RetP (fun r _ => r = .bool true) (.bool (bif bif bif ((reckonP i a1 a2).1 : Int) == 0 then ((reckonP i a1 a2).2.1 : Int) == 0 else false then !(reckonP i a1 a2).2.2 else false then t24 else false)) m26) (
      (bif bif ((reckonP i a1 a2).1 : Int) == 0 then ((reckonP i a1 a2).2.1 : Int) == 0 else false then !(reckonP i a1 a2).2.2 else false) = false ∧ RetP (fun r _ => r = .bool true) (.bool false) m23))) (
      (bif ((reckonP i a1 a2).1 : Int) == 0 then ((reckonP i a1 a2).2.1 : Int) == 0 else false) = false ∧ false = false ∧ RetP (fun r _ => r = .bool true) (.bool false) m23))) (
      (((reckonP i a1 a2).1 : Int) == 0) = false ∧ false = false ∧ false = false ∧ RetP (fun r _ => r = .bool true) (.bool false) m23)) := by
    intro x t ok h h1 h2 h3
    subst h1; subst h2; subst h3
    rw [h]
    exact ⟨rfl, bcT ⟨rfl, bcT (bcT (awB W _ rfl))⟩⟩
  cases hr : rightR i with
  | false =>
    refine bcT ⟨rfl, rfl, nil 0 0 false ?_ rfl rfl rfl⟩
    unfold reckonP; rw [if_pos hr]
  | true =>
    have hnr : ¬ rightR i = false := by rw [hr]; decide
    refine bcF ⟨_, cel p23 rfl, rfl, ?_⟩
    have zero : ∀ (h : ¬ (1 ≤ i.op ∧ i.op ≤ 11)), reckonP i a1 a2 = (0, 0, false) := by
      intro h
      unfold reckonP
      rw [if_neg hnr]
      have : reckP i (w32 a1) (w32 a2) = none := by
        unfold reckP
        rw [if_neg (by omega), if_neg (by omega), if_neg (by omega), if_neg (by omega), if_neg (by omega), if_neg (by omega), if_neg (by omega), if_neg (by omega), if_neg (by omega)]
      rw [this]
      simp only
      rw [if_pos (by omega)]
    by_cases o1 : i.op < 1
    · have e1 := decide_eq_true o1
      exact bcET (by rw [e1]; rfl) ⟨by rw [e1]; rfl, nil 0 0 false (zero (by omega)) rfl rfl rfl⟩
    have e1 := decide_eq_false o1
    refine bcEF (by rw [e1]; rfl) ⟨_, cel p23 rfl, rfl, ?_⟩
    by_cases o2 : i.op > 11
    · have e2 := decide_eq_true o2
      exact bcET (by rw [e1, e2]; rfl) (nil 0 0 false (zero (by omega)) rfl rfl rfl)
    have e2 := decide_eq_false o2
    refine bcEF (by rw [e1, e2]; rfl) ?_
    have hop : 1 ≤ i.op ∧ i.op ≤ 11 := by omega
    have wb := w32_le a1
    have wc := w32_le a2
    refine vr7_1110 W m23 _ _ a1 a2 b1 (reckonP i a1 a2).1 (reckonP i a1 a2).2.1 (reckonP i a1 a2).2.2 (fun v ok _ => valRel i (w32 a1) (w32 a2) v ok) rfl rfl rfl rfl rfl rfl ?_ ?_
    · have val : ∀ (m2 : AM) (K : Value → AM → Prop), (∀ v ok m3, valRel i (w32 a1) (w32 a2) v ok → K (.tuple #[.int .i64 v, .bool ok]) m3) → CallsA Try.prog W 27 #[i.val, .int .i64 (w32 a1), .int .i64 (w32 a2)] m2 K := by
        intro m2 K hK
        refine CallsA.mono (value_spec W m2 i (w32 a1) (w32 a2) wb wc) ?_
        rintro r m3 ⟨_, v, ok, rfl, hv⟩
        exact hK v ok m3 hv
      refine ⟨?_, ?_⟩
      · refine ⟨_, cel p23 rfl, _, cel p23 rfl, _, cel p23 rfl, _, cel p23 rfl, _, cel p23 rfl, ?_⟩
        refine CallsA.mono (refWrap W m23 a1) ?_
        rintro r m3 ⟨rfl, h3⟩
        replace h3 := h3.symm; subst h3
        refine ⟨_, rfl, CallsA.mono (refWrap W _ a2) ?_⟩
        rintro r m3 ⟨rfl, h3⟩
        replace h3 := h3.symm; subst h3
        exact ⟨_, rfl, val _ _ fun v ok m3 hv => ⟨_, _, rfl, rfl, rfl, rfl, rfl, rfl, rfl, hv⟩⟩
      · refine CallsA.mono (refWrap W m23 a1) ?_
        rintro r m3 ⟨rfl, h3⟩
        replace h3 := h3.symm; subst h3
        refine ⟨_, rfl, ⟨_, cel p23 rfl, _, cel p23 rfl, _, cel p23 rfl, _, cel p23 rfl, _, cel p23 rfl, ?_⟩, ?_⟩
        · refine CallsA.mono (refWrap W _ a2) ?_
          rintro r m3 ⟨rfl, h3⟩
          replace h3 := h3.symm; subst h3
          exact ⟨_, rfl, val _ _ fun v ok m3 hv => ⟨_, _, rfl, rfl, rfl, rfl, rfl, rfl, rfl, hv⟩⟩
        · refine CallsA.mono (refWrap W _ a2) ?_
          rintro r m3 ⟨rfl, h3⟩
          replace h3 := h3.symm; subst h3
          exact ⟨_, rfl, _, cel p23 rfl, _, cel p23 rfl, _, cel p23 rfl, _, cel p23 rfl, _, cel p23 rfl, val _ _ fun v ok m3 hv => ⟨_, _, rfl, rfl, rfl, rfl, rfl, rfl, rfl, hv⟩⟩
    · rintro σ v ok m2 hv
      unfold valRel at hv
      rw [if_pos hop] at hv
      by_cases h0 : (i.op = 4 ∨ i.op = 5) ∧ w32 a2 = 0
      · rw [if_pos h0] at hv
        obtain ⟨rfl, rfl⟩ := hv
        have hR : reckonP i a1 a2 = (0, 4, true) := by
          unfold reckonP
          rw [if_neg hnr]
          have : reckP i (w32 a1) (w32 a2) = none := by
            unfold reckP
            rw [if_neg (by omega), if_neg (by omega), if_neg (by omega), if_neg (by omega), if_neg (by omega), if_neg (by omega), if_neg (by omega), if_neg (by omega), if_neg (by omega)]
          rw [this]
          simp only
          rw [if_neg (by omega), if_pos h0.2]
        rw [hR]
        exact bcT ⟨rfl, bcT ⟨rfl, bcT (bcT (awB W _ rfl))⟩⟩
      · rw [if_neg h0] at hv
        obtain ⟨rfl, hv⟩ := hv
        have hR : reckonP i a1 a2 = (w32 v, 0, true) := by
          unfold reckonP
          rw [if_neg hnr, hv]
          unfold reckV
          cases hk : reckP i (w32 a1) (w32 a2) with
          | some x => rfl
          | none =>
            have h45 : i.op = 4 ∨ i.op = 5 := by
              unfold reckP at hk
              rcases Classical.em (i.op = 4 ∨ i.op = 5) with h | h
              · exact h
              · exfalso
                revert hk
                by_cases g1 : i.op = 1
                · rw [if_pos g1]; intro hk; cases hk
                rw [if_neg g1]
                by_cases g2 : i.op = 2
                · rw [if_pos g2]; intro hk; cases hk
                rw [if_neg g2]
                by_cases g3 : i.op = 3
                · rw [if_pos g3]; intro hk; cases hk
                rw [if_neg g3]
                by_cases g6 : i.op = 6
                · rw [if_pos g6]; intro hk; cases hk
                rw [if_neg g6]
                by_cases g7 : i.op = 7
                · rw [if_pos g7]; intro hk; cases hk
                rw [if_neg g7]
                by_cases g8 : i.op = 8
                · rw [if_pos g8]; intro hk; cases hk
                rw [if_neg g8]
                by_cases g9 : i.op = 9
                · rw [if_pos g9]; intro hk; cases hk
                rw [if_neg g9]
                by_cases g10 : i.op = 10
                · rw [if_pos g10]; intro hk; cases hk
                rw [if_neg g10, if_pos (by omega)]; intro hk; cases hk
            simp only
            rw [if_neg (by omega), if_neg (fun h => h0 ⟨h45, h⟩)]
            split <;> rfl
        rw [hR]
        refine bcF ?_
        refine CallsA.mono (refWrap W m2 v) ?_
        rintro r m3 ⟨rfl, h3⟩
        replace h3 := h3.symm; subst h3
        have e : (w32 v == w32 v) = true := by simp
        exact ⟨_, rfl, rfl, bcET e ⟨rfl, bcET (by rw [e]; rfl) (bcET (by rw [e]; rfl) (awB W _ (by rw [e]; rfl)))⟩⟩
end Go.Proofs.Ytadcbnldahcelaa.S
