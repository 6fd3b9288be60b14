/- Ytadcbnldahcelaa: a text of our own, by an AI agent: Q8cC -/
import Derived.Test.YtadcbnldahcelaaQ8bC
import Derived.Test.YtadcbnldahcelaaP8DC
set_option linter.unusedSimpArgs false
set_option linter.unusedVariables false
set_option maxRecDepth 100000
namespace Go.Proofs.Ytadcbnldahcelaa.S
open Go Go.RowKit Go.Alog Go.Proofs.Ytadcbnldahcelaa.T Go.Proofs.Ytadcbnldahcelaa.V

theorem nilO_of {A : Option Addr} {a : Addr} {K : Addr → Prop} (h : A = some a) (hK : K a) : nilO A K := by subst h; exact hK
theorem spC_app (a b : List Ins) : spC (a ++ b) = spC a ++ spC b := by simp [spC]

theorem spaced_spec (W : World) (m : AM) (A0 : Option Addr) (n0 c0 : Nat) (l0 : List Ins) (z0 : l0.length = n0) (rd0 : Reads m 5 A0 n0 (insCells l0)) (hn : n0 ≤ 1000) :
    CallsA Try.prog W 32 #[.slice A0 n0 c0] m (fun r m' => m.le m' ∧ ∃ A c, r = .slice A (2 * n0) c ∧ Own m' W.heap.size 34 5 A (2 * n0) c (insCells (spC l0))) := by
  generalize hR : (fun (r : Value) (m' : AM) => m.le m' ∧ ∃ A c, r = .slice A (2 * n0) c ∧ Own m' W.heap.size 34 5 A (2 * n0) c (insCells (spC l0))) = R
  refine cf32 W m A0 n0 c0 R ?_
  let I : Nat → Option Addr → Nat → Nat → Int → AM → Prop := fun k A n c i m' => m.le m' ∧ 0 ≤ i ∧ i ≤ n0 ∧ (k : Int) = n0 - i ∧ n = 2 * i.toNat ∧ Own m' W.heap.size 34 5 A n c (insCells (spC (l0.take i.toNat))) ∧ ∀ k ∈ obl A, m k = none
  let E : Option Addr → Nat → Nat → AM → Prop := fun A n c m' => m.le m' ∧ n = 2 * n0 ∧ Own m' W.heap.size 34 5 A n c (insCells (spC l0))
  refine vl32_11010 W m _ R A0 n0 c0 (n0 : Int) none 0 0 0 I E n0 rfl rfl rfl rfl ⟨AM.le_refl _, by omega, by omega, by omega, rfl, Own.nil _ _ _ _, by simp [obl]⟩ ?_ ?_
  · rintro k σ A n c i m' ⟨L, i0, i1, hk, hn', ho, hnew⟩
    refine ⟨rfl, ?_⟩
    by_cases c1 : i < n0
    · refine bcET (decide_eq_true c1) ⟨⟨i0, c1⟩, ?_⟩
      obtain ⟨ad, hA, hc⟩ := (rd0.le L).ex (by omega)
      have hlt : i.toNat < l0.length := by omega
      have hi := hc.ins (List.getElem?_eq_getElem hlt)
      have htake : l0.take (i + 1).toNat = l0.take i.toNat ++ [l0[i.toNat]] := by
        rw [show (i + 1).toNat = i.toNat + 1 by omega]
        exact (List.take_append_getElem hlt).symm
      generalize l0[i.toNat] = x at hi htake
      refine nilO_of hA ?_
      refine ⟨_, hi.1, _, hi.2.1, _, hi.2.2.1, _, hi.2.2.2.1, _, hi.2.2.2.2, ?_⟩
      refine blk5 fun b M lM nb hb pb => ?_
      have w : IntKind.wrap .i64 (i + 1) = i + 1 := by rw [IntKind.wrap_i64]; omega
      have hAb : ∀ off, A ≠ some ⟨b, off, none⟩ := fun off e => by
        obtain ⟨_, cur, hk⟩ := ho.obl_some (k := b) (by rw [e]; simp [obl])
        rw [hk] at nb; cases nb
      -- the last part
      have K2 : ∀ (m5 : AM) (y : Ins) (σ : Sg), y = spI x → m.le m5 → m5 b = some (.cells y.cells.toArray 34) → Own m5 W.heap.size 34 5 A n c (insCells (spC (l0.take i.toNat))) →
          σ 3 = .slice A n c → σ 5 = .pointer (some ⟨b, 0, none⟩) → σ 6 = .slice A0 n0 c0 → σ 7 = .int .i64 n0 → σ 8 = .int .i64 i → ∀ m, m = m5 →
          (vcS Try.prog W qs32 (sub c32 [1, 1, 0, 1, 0, 0, 1, 1, 0, 0, 1, 1]) σ m (blockS 1 (thenS (fun σ m => vcS Try.prog W qs32 (sub c32 [1, 1, 0, 1, 0, 0, 1, 1, 1]) σ m (lq32_11010 R A0 n0 c0 (n0:Int) I E k)) (lq32_11010 R A0 n0 c0 (n0:Int) I E k)))) := by
        intro m5 y σ hy l5 p5 o5 s3 s5 s6 s7 s8 m6 hm6
        subst hm6
        refine vk32_110100110011 W m6 σ R k I E A n c b A0 n0 c0 (n0 : Int) i s3 s5 s6 s7 s8 ?_
        refine ⟨_, cel p5 rfl, _, cel p5 rfl, _, cel p5 rfl, _, cel p5 rfl, _, cel p5 rfl, rfl, rfl, ?_⟩
        intro b24 hb24 hm24 m25
        have l25 : m6.le m25 := le_new hm24 _
        have rd : Reads m25 5 (some ⟨b24, 0, none⟩) 2 (insCells [y, nopI]) := Reads.lit rfl
        clear_value m25
        refine awp_append_loc (m0 := m) el22 (AM.le_trans l5 l25) (o5.le l25) hnew rd (insCells_one _) (by omega) (by omega) (fun A' c' m27 l27 f27 o27 n27 _ => ?_)
        refine ⟨A', n + 2, c', rfl, rfl, rfl, rfl, rfl, rfl, k - 1, by omega, ?_⟩
        rw [w]
        refine ⟨l27, by omega, by omega, by omega, by omega, ?_, n27⟩
        rw [htake, spC_app, insCells_app]
        rw [hy] at o27
        exact o27
      have K1 : ∀ (σ : Sg) (t : Bool), t = decide (x.op = 15 ∨ x.op = 16) → σ 3 = .slice A n c → σ 5 = .pointer (some ⟨b, 0, none⟩) → σ 6 = .slice A0 n0 c0 → σ 7 = .int .i64 n0 → σ 8 = .int .i64 i → σ 13 = .int .i64 x.op → σ 14 = .bool t → ∀ m, m = M → (vcS Try.prog W qs32 (sub c32 [1, 1, 0, 1, 0, 0, 1, 1, 0, 0, 1, 0, 1, 0, 1]) σ m (blockS 2 (thenS (fun σ m => vcS Try.prog W qs32 (sub c32 [1, 1, 0, 1, 0, 0, 1, 1, 0, 0, 1, 1]) σ m (blockS 1 (thenS (fun σ m => vcS Try.prog W qs32 (sub c32 [1, 1, 0, 1, 0, 0, 1, 1, 1]) σ m (lq32_11010 R A0 n0 c0 (n0:Int) I E k)) (lq32_11010 R A0 n0 c0 (n0:Int) I E k)))) (blockS 1 (thenS (fun σ m => vcS Try.prog W qs32 (sub c32 [1, 1, 0, 1, 0, 0, 1, 1, 1]) σ m (lq32_11010 R A0 n0 c0 (n0:Int) I E k)) (lq32_11010 R A0 n0 c0 (n0:Int) I E k)))))) := by
        intro σ t ht s3 s5 s6 s7 s8 s13 s14 m6 hm6
        subst hm6
        refine vk32_110100110010101 W m6 σ R k I E A n c b A0 n0 c0 (n0 : Int) i x.op t s3 s5 s6 s7 s8 s13 s14 ?_
        have lm6 := AM.le_trans L lM
        have put : ∀ (v : Int) (K : AM → Prop), spI x = { x with imm := v } → (∀ m7, m.le m7 → m7 b = some (.cells (spI x).cells.toArray 34) → Own m7 W.heap.size 34 5 A n c (insCells (spC (l0.take i.toNat))) → K m7) → StC W.heap.size m6 ⟨b, 4, none⟩ (.int .i64 v) K := by
          intro v K hv hK
          refine StC_own pb hb (by simp) ?_
          refine hK _ ?_ (by rw [hv]; exact upd_get_same) ((ho.le lM).upd hAb)
          intro z o hz
          have : z ≠ b := fun e => by subst e; rw [L _ _ hz] at nb; cases nb
          rw [upd_get_ne this]
          exact lm6 _ _ hz
        refine bcI (fun h => ?_) fun h => ?_
        · rw [ht] at h
          have h := of_decide_eq_true h
          refine ⟨_, cel pb rfl, rfl, rfl, put _ _ (by unfold spI; rw [if_pos h]) fun m7 l7 p7 o7 => ?_⟩
          exact K2 m7 _ _ rfl l7 p7 o7 rfl rfl rfl rfl rfl _ rfl
        · rw [ht] at h
          have h := of_decide_eq_false h
          refine ⟨rfl, bcI (fun h17 => ?_) fun h17 => ?_⟩
          · have h17 : x.op = 17 := by simpa using h17
            refine ⟨_, cel pb rfl, rfl, put _ _ (by unfold spI; rw [if_neg h, if_pos h17]) fun m7 l7 p7 o7 => ?_⟩
            exact K2 m7 _ _ rfl l7 p7 o7 rfl rfl rfl rfl rfl _ rfl
          · have h17 : x.op ≠ 17 := by simpa using h17
            exact K2 m6 x _ (by unfold spI; rw [if_neg h, if_neg h17]) lm6 pb (ho.le lM) rfl rfl rfl rfl rfl _ rfl
      refine ⟨_, cel pb rfl, rfl, bcI (fun h => ?_) fun h => ⟨rfl, ?_⟩⟩
      · have h : x.op = 15 := by simpa using h
        exact K1 _ _ (by simp [h]) rfl rfl rfl rfl rfl rfl rfl _ rfl
      · have h : x.op ≠ 15 := by simpa using h
        refine K1 _ _ ?_ rfl rfl rfl rfl rfl rfl rfl _ rfl
        by_cases e : x.op = 16 <;> simp [e, h]
    · refine bcEF (decide_eq_false c1) ⟨rfl, rfl, rfl, L, by omega, ?_⟩
      rw [List.take_of_length_le (by omega)] at ho
      exact ho
  · rintro σ A n c m' ⟨L, hn', ho⟩
    refine retP_of ?_
    rw [← hR]
    subst hn'
    exact ⟨L, A, c, rfl, ho⟩

theorem law_PipeSpaced (W : World) (A0 : Option Addr) (n0 c0 : Nat) (l0 : List Ins) (z0 : l0.length = n0) (hlc0 : n0 ≤ c0) (rd0 : Reads (mOf W) 5 A0 n0 (insCells l0)) (y0 : n0 * 40 ≤ 140737488351232) (hw0 : ∀ i ∈ l0, i.wf) (a1 : Int) (w1 : (Lit.int .i64 a1).wf = true)
    (A2 : Option Addr) (n2 c2 : Nat) (l2 : List Int) (z2 : l2.length = n2) (hlc2 : n2 ≤ c2) (rd2 : Reads (mOf W) 1 A2 n2 (intCells .i64 l2)) (y2 : n2 * 8 ≤ 140737488351232) (hw2 : ∀ i ∈ l2, (Lit.int .i64 i).wf = true) (a3 : Int) (w3 : (Lit.int .i64 a3).wf = true) :
    CallsA Try.prog W 18 #[.slice A0 n0 c0, .int .i64 a1, .slice A2 n2 c2, .int .i64 a3] (mOf W) (fun r _ => r = .bool true) := by
  refine cf18 W _ A0 n0 c0 a1 A2 n2 c2 a3 _ ?_
  refine CallsA.mono (small8 W _ A0 n0 c0 a1 A2 n2 c2 a3) ?_
  rintro r m3 ⟨rfl, rfl⟩
  refine ⟨_, rfl, ?_⟩
  cases hs : smallB n0 a1 n2 a3 with
  | false => exact ⟨rfl, rfl, rfl, aw8 W _⟩
  | true =>
  obtain ⟨s1, s2, s3, s4⟩ := smallB_sp8 hs
  refine bcF ⟨rfl, ?_⟩
  by_cases h0 : ((n0 : Nat) : Int) > 100
  · exact bcET (by rw [decide_eq_true h0]; rfl) ⟨by rw [decide_eq_true h0]; rfl, rfl, aw8 W _⟩
  refine bcEF (by rw [decide_eq_false h0]; rfl) ⟨rfl, ?_⟩
  by_cases h1 : a3 < 0
  · exact bcET (by rw [decide_eq_true h1, decide_eq_false h0]; rfl) ⟨by rw [decide_eq_true h1, decide_eq_false h0]; rfl, aw8 W _⟩
  refine bcEF (by rw [decide_eq_false h1, decide_eq_false h0]; rfl) ⟨rfl, ?_⟩
  by_cases h3 : a3 > 300
  · exact bcET (by rw [decide_eq_true h3, decide_eq_false h1, decide_eq_false h0]; rfl) (aw8 W _)
  refine bcEF (by rw [decide_eq_false h3, decide_eq_false h1, decide_eq_false h0]; rfl) ?_
  let I : Nat → Int → AM → Prop := fun k i m' => (mOf W).le m' ∧ 0 ≤ i ∧ i ≤ n0 ∧ (k : Int) = n0 - i ∧ (∀ j, j < i.toNat → fitI (l0.getD j default))
  let E : AM → Prop := fun m' => (mOf W).le m' ∧ (∀ j, j < n0 → fitI (l0.getD j default))
  refine vl18_11010 W _ _ _ A0 n0 c0 a1 A2 n2 c2 a3 A0 n0 c0 (n0 : Int) 0 I E n0 rfl rfl rfl rfl rfl rfl rfl ⟨AM.le_refl _, by omega, by omega, by omega, fun j hj => by omega⟩ ?_ ?_
  · rintro k σ i m' ⟨L, i0, i1, hk, hp⟩
    refine ⟨rfl, ?_⟩
    by_cases c1 : i < n0
    · refine bcET (decide_eq_true c1) ⟨⟨i0, c1⟩, ?_⟩
      obtain ⟨ad, hA, hc⟩ := (rd0.le L).ex (by omega)
      have hlt : i.toNat < l0.length := by omega
      have hi := hc.ins (List.getElem?_eq_getElem hlt)
      have hd : l0.getD i.toNat default = l0[i.toNat] := by simp [List.getD, hlt]
      rw [← hd] at hi
      refine nilO_of hA ?_
      refine ⟨_, hi.1, _, hi.2.1, _, hi.2.2.1, _, hi.2.2.2.1, _, hi.2.2.2.2, ?_⟩
      refine blk5 fun b M lM nb hb pb => ?_
      have w : IntKind.wrap .i64 (i + 1) = i + 1 := by rw [IntKind.wrap_i64]; omega
      have hx := fun (h : fitI (l0.getD i.toNat default)) (j : Nat) (hj : j < (i + 1).toNat) => show fitI (l0.getD j default) from if e : j = i.toNat then e ▸ h else hp j (by omega)
      generalize l0.getD i.toNat default = x at hx pb ⊢
      have K : ∀ (σ : Sg) (t : Bool), (t = false → fitI x) → σ 0 = .slice A0 n0 c0 → σ 1 = .int .i64 a1 → σ 2 = .slice A2 n2 c2 → σ 3 = .int .i64 a3 → σ 33 = .slice A0 n0 c0 → σ 34 = .int .i64 n0 → σ 35 = .int .i64 i → σ 71 = .bool t → ∀ m (RR : Value → AM → Prop), m = M → RR = (fun r _ => r = .bool true) → (vcS Try.prog W qs18 (sub c18 [1, 1, 0, 1, 0, 0, 1, 1, 0, 0, 1, 1]) σ m (blockS 1 (thenS (fun σ m => vcS Try.prog W qs18 (sub c18 [1, 1, 0, 1, 0, 0, 1, 1, 1]) σ m (lq18_11010 RR A0 n0 c0 a1 A2 n2 c2 a3 A0 n0 c0 (n0:Int) I E k)) (lq18_11010 RR A0 n0 c0 a1 A2 n2 c2 a3 A0 n0 c0 (n0:Int) I E k)))) := by
        intro σ t ht q0 q1 q2 q3 q33 q34 q35 q71 m6 RR hm6 hRR
        subst hm6 hRR
        refine vk18_110100110011 W m6 σ _ k I E A0 n0 c0 a1 A2 n2 c2 a3 A0 n0 c0 (n0 : Int) i t q0 q1 q2 q3 q33 q34 q35 q71 ?_
        refine bcI (fun _ => aw8 W _) fun h => ⟨rfl, rfl, rfl, rfl, rfl, rfl, rfl, rfl, k - 1, by omega, ?_⟩
        rw [w]
        exact ⟨AM.le_trans L lM, by omega, by omega, by omega, hx (ht h)⟩
      refine ⟨_, cel pb rfl, rfl, bcI (fun h18 => ?_) fun h18 => ⟨_, cel pb rfl, rfl, bcI (fun h19 => ?_) fun h19 => ⟨_, cel pb rfl, rfl, bcI (fun h17 => ?_) fun h17 => ⟨_, cel pb rfl, rfl, bcI (fun h15 => ?_) fun h15 => ⟨_, cel pb rfl, rfl, bcI (fun h16 => ?_) fun h16 => ?_⟩⟩⟩⟩⟩
      · refine ⟨h18, rfl, K _ _ ?_ rfl rfl rfl rfl rfl rfl rfl rfl _ _ rfl rfl⟩
        intro h; cases h
      · refine ⟨h19, K _ _ ?_ rfl rfl rfl rfl rfl rfl rfl rfl _ _ rfl rfl⟩
        intro h; cases h
      all_goals
        have n18 : x.op ≠ 18 := by simpa using h18
        have n19 : x.op ≠ 19 := by simp [n18] at h19; exact h19
      · have e17 : x.op = 17 := by simpa using h17
        refine ⟨h17, rfl, _, cel pb rfl, rfl, bcI (fun hlt => ⟨hlt, ?_⟩) fun hlt => ⟨_, cel pb rfl, rfl, ?_⟩⟩
        · refine K _ _ ?_ rfl rfl rfl rfl rfl rfl rfl rfl _ _ rfl rfl
          intro hx; rw [h19] at hx; cases hx
        · refine K _ _ ?_ rfl rfl rfl rfl rfl rfl rfl rfl _ _ rfl rfl
          intro hx
          rw [h19, hlt] at hx
          have hg := of_decide_eq_false hx
          have hl := of_decide_eq_false hlt
          exact ⟨n18, n19, fun _ => by omega⟩
      · have n17 : x.op ≠ 17 := by simpa using h17
        have e15 : x.op = 15 := by simp [n17] at h15; exact h15
        refine ⟨h15, _, cel pb rfl, rfl, bcI (fun hlt => ⟨hlt, ?_⟩) fun hlt => ⟨_, cel pb rfl, rfl, ?_⟩⟩
        · refine K _ _ ?_ rfl rfl rfl rfl rfl rfl rfl rfl _ _ rfl rfl
          intro hx; rw [h19] at hx; cases hx
        · refine K _ _ ?_ rfl rfl rfl rfl rfl rfl rfl rfl _ _ rfl rfl
          intro hx
          rw [h19, hlt] at hx
          have hg := of_decide_eq_false hx
          have hl := of_decide_eq_false hlt
          exact ⟨n18, n19, fun _ => by omega⟩
      · refine ⟨_, cel pb rfl, rfl, bcI (fun hlt => ⟨hlt, ?_⟩) fun hlt => ⟨_, cel pb rfl, rfl, ?_⟩⟩
        · refine K _ _ ?_ rfl rfl rfl rfl rfl rfl rfl rfl _ _ rfl rfl
          intro hx; rw [h19, h16] at hx; cases hx
        · refine K _ _ ?_ rfl rfl rfl rfl rfl rfl rfl rfl _ _ rfl rfl
          intro hx
          rw [h19, h16, hlt] at hx
          have hg := of_decide_eq_false hx
          have hl := of_decide_eq_false hlt
          exact ⟨n18, n19, fun _ => by omega⟩
      · have n17 : x.op ≠ 17 := by simpa using h17
        have n15 : x.op ≠ 15 := by simp [n17] at h15; exact h15
        have n16 : x.op ≠ 16 := by simp [n17, n15] at h16; exact h16
        refine ⟨h16, K _ _ ?_ rfl rfl rfl rfl rfl rfl rfl rfl _ _ rfl rfl⟩
        exact fun hx => ⟨n18, n19, fun h => by omega⟩
    · refine bcEF (decide_eq_false c1) ⟨rfl, rfl, rfl, rfl, rfl, rfl, L, fun j hj => hp j (by omega)⟩
  · rintro σ m' ⟨L, hp⟩
    have hfit : ∀ x ∈ l0, fitI x := by
      intro x hx
      obtain ⟨j, hj, rfl⟩ := List.mem_iff_getElem.1 hx
      have := hp j (by omega)
      simpa [List.getD, hj] using this
    refine CallsA.mono (run_of W m' A0 n0 c0 l0 a1 A2 n2 c2 l2 a3 z0 z2 (wf_i64 w3) (rd0.le L) (rd2.le L) (by omega)) ?_
    rintro r m49 ⟨l49, Ao, co, Am, cm, rfl, hao, ham⟩
    refine ⟨_, _, _, _, _, _, _, _, rfl, ?_⟩
    refine blk4 fun b50 m55 l55 n50 hb50 p50 => ?_
    have hsp := runPP_spaced l0 hfit (by omega) a1 l2 a3 (by omega) (by omega)
    have hln := runP_len l0 a1 l2 a3
    have L55 := AM.le_trans (AM.le_trans L l49) l55
    refine ⟨_, cel p50 rfl, rfl, bcI (fun h0 => aw8 W _) fun h0 => ?_⟩
    have hne : (runP l0 a1 l2 a3).trap ≠ 0 := by simpa using h0
    have hsp := hsp hne
    refine CallsA.mono (spaced_spec W m55 A0 n0 c0 l0 z0 (rd0.le L55) (by omega)) ?_
    rintro r m64 ⟨l64, A, c, rfl, hoS⟩
    refine ⟨_, _, _, rfl, rfl, rfl, ?_⟩
    have wf : IntKind.wrap .i64 (IntKind.wrap .i64 (2 * a3) + 10) = 2 * a3 + 10 := by rw [IntKind.wrap_i64, IntKind.wrap_i64]; omega
    rw [wf]
    have L64 := AM.le_trans L55 l64
    refine CallsA.mono (run_ofP W m64 A (2 * n0) c (spC l0) a1 A2 n2 c2 l2 (2 * a3 + 10) (by rw [spC_len, z0]) z2 (by unfold InI; omega) hoS.reads (rd2.le L64) (by omega)) ?_
    rintro r m74 ⟨l74, Bo, cbo, Bm, cbm, rfl, hbo, hbm⟩
    refine ⟨_, _, _, _, _, _, _, _, rfl, ?_⟩
    refine blk4 fun b75 M lM n75 hb75 p75 => ?_
    have l5580 := AM.le_trans (AM.le_trans l64 l74) lM
    have q50 := l5580 _ _ p50
    have hne2 : b50 ≠ b75 := fun e => by subst e; rw [AM.le_trans l64 l74 _ _ p50] at n75; cases n75
    have hao' := (hao.le l55).le l5580
    have ham' := (ham.le l55).le l5580
    have hbo' := hbo.le lM
    have hbm' := hbm.le lM
    clear hao ham hbo hbm p50
    generalize runP l0 a1 l2 a3 = ra at *
    generalize runPP (spC l0) a1 l2 (2 * a3 + 10) = rb at *
    refine ⟨_, cel p75 rfl, ?_⟩
    refine StC_own q50 hb50 (by simp) ?_
    have pb2 : (M.upd b50 (.cells ((#[.int .i64 ra.trap, .int .i64 ra.steps, .slice Ao ra.out.length co, .slice Am ra.mem.length cm] : Array Value).setIfInBounds 1 (.int .i64 rb.steps)) 29)) b50 = some (.cells #[.int .i64 ra.trap, .int .i64 rb.steps, .slice Ao ra.out.length co, .slice Am ra.mem.length cm] 29) := upd_get_same
    have pc2 : (M.upd b50 (.cells ((#[.int .i64 ra.trap, .int .i64 ra.steps, .slice Ao ra.out.length co, .slice Am ra.mem.length cm] : Array Value).setIfInBounds 1 (.int .i64 rb.steps)) 29)) b75 = M b75 := upd_get_ne (Ne.symm hne2)
    rw [p75] at pc2
    have hao2 := hao'.upd (hao'.ne_type q50 (by decide)) (o := .cells ((#[.int .i64 ra.trap, .int .i64 ra.steps, .slice Ao ra.out.length co, .slice Am ra.mem.length cm] : Array Value).setIfInBounds 1 (.int .i64 rb.steps)) 29)
    have ham2 := ham'.upd (ham'.ne_type q50 (by decide)) (o := .cells ((#[.int .i64 ra.trap, .int .i64 ra.steps, .slice Ao ra.out.length co, .slice Am ra.mem.length cm] : Array Value).setIfInBounds 1 (.int .i64 rb.steps)) 29)
    have hbo2 := hbo'.upd (hbo'.ne_type q50 (by decide)) (o := .cells ((#[.int .i64 ra.trap, .int .i64 ra.steps, .slice Ao ra.out.length co, .slice Am ra.mem.length cm] : Array Value).setIfInBounds 1 (.int .i64 rb.steps)) 29)
    have hbm2 := hbm'.upd (hbm'.ne_type q50 (by decide)) (o := .cells ((#[.int .i64 ra.trap, .int .i64 ra.steps, .slice Ao ra.out.length co, .slice Am ra.mem.length cm] : Array Value).setIfInBounds 1 (.int .i64 rb.steps)) 29)
    generalize M.upd b50 (.cells ((#[.int .i64 ra.trap, .int .i64 ra.steps, .slice Ao ra.out.length co, .slice Am ra.mem.length cm] : Array Value).setIfInBounds 1 (.int .i64 rb.steps)) 29) = M2 at pb2 pc2 hao2 ham2 hbo2 hbm2 ⊢
    refine ⟨_, cel pb2 rfl, _, cel pb2 rfl, _, _, _, cel pb2 rfl, _, _, _, cel pb2 rfl, _, cel pc2 rfl, _, cel pc2 rfl, _, _, _, cel pc2 rfl, _, _, _, cel pc2 rfl, ?_⟩
    refine CallsA.mono (equal_spec W M2 { ra with steps := rb.steps } rb Ao Am Bo Bm co cm cbo cbm hao2.reads ham2.reads hbo2.reads hbm2.reads hln) ?_
    rintro r m' ⟨rfl, _⟩
    have heq : decide ({ ra with steps := rb.steps } = rb) = true := decide_eq_true hsp.symm
    exact ⟨_, rfl, bcET heq (aw8B W _ heq)⟩
end Go.Proofs.Ytadcbnldahcelaa.S
