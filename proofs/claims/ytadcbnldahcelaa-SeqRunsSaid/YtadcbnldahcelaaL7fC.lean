/- Ytadcbnldahcelaa: a text of our own, by an AI agent: L7fC -/
import Derived.Test.YtadcbnldahcelaaL7eC
set_option linter.unusedSimpArgs false
set_option linter.unusedVariables false
set_option maxRecDepth 100000
namespace Go.Proofs.Ytadcbnldahcelaa.S
open Go Go.RowKit Go.Alog Go.Proofs.Ytadcbnldahcelaa.T Go.Proofs.Ytadcbnldahcelaa.V

theorem awB (w0 : World) (M : AM) {b : Bool} (hb : b = true) : CallsA Try.prog w0 21 #[] M (fun r m' => ∃ t : Bool, r = .bool t ∧ RetP (fun r _ => r = .bool true) (.bool (bif b then t else false)) m') := by
  subst hb
  exact aw7 w0 M

theorem law_SeqMore (W : World) (A0 : Option Addr) (n0 c0 : Nat) (l0 : List Ins) (z0 : l0.length = n0) (hlc0 : n0 ≤ c0) (rd0 : Reads (mOf W) 5 A0 n0 (insCells l0)) (y0 : n0 * 40 ≤ 140737488351232) (hw0 : ∀ i ∈ l0, i.wf) (a1 : Int) (w1 : (Lit.int .i64 a1).wf = true)
    (A2 : Option Addr) (n2 c2 : Nat) (l2 : List Int) (z2 : l2.length = n2) (hlc2 : n2 ≤ c2) (rd2 : Reads (mOf W) 1 A2 n2 (intCells .i64 l2)) (y2 : n2 * 8 ≤ 140737488351232) (hw2 : ∀ i ∈ l2, (Lit.int .i64 i).wf = true) (a3 : Int) (w3 : (Lit.int .i64 a3).wf = true) (a4 : Int) (w4 : (Lit.int .i64 a4).wf = true) :
    CallsA Try.prog W 4 #[.slice A0 n0 c0, .int .i64 a1, .slice A2 n2 c2, .int .i64 a3, .int .i64 a4] (mOf W) (fun r _ => r = .bool true) := by
  refine cf4 W _ A0 n0 c0 a1 A2 n2 c2 a3 a4 _ ?_
  refine CallsA.mono (small7 W _ A0 n0 c0 a1 A2 n2 c2 a3) ?_
  rintro r m3 ⟨rfl, rfl⟩
  refine ⟨_, rfl, ?_⟩
  cases hs : smallB n0 a1 n2 a3 with
  | false => exact ⟨rfl, rfl, aw7 W _⟩
  | true =>
  refine bcF ?_
  refine CallsA.mono (small7 W _ A0 n0 c0 a1 A2 n2 c2 a4) ?_
  rintro r m9 ⟨rfl, rfl⟩
  refine ⟨_, rfl, ?_⟩
  cases hs2 : smallB n0 a1 n2 a4 with
  | false => exact ⟨rfl, aw7 W _⟩
  | true =>
  obtain ⟨s1, s2, s3, s4⟩ := smallB_spec hs
  refine bcF ⟨rfl, ?_⟩
  by_cases h0 : a3 > a4
  · exact bcET (by rw [decide_eq_true h0]; rfl) (aw7 W _)
  refine bcEF (by rw [decide_eq_false h0]; rfl) ?_
  refine CallsA.mono (run_of W _ A0 n0 c0 l0 a1 A2 n2 c2 l2 a3 z0 z2 (wf_i64 w3) rd0 rd2 (by omega)) ?_
  rintro r m25 ⟨l25, Ao, co, Am, cm, rfl, hao, ham⟩
  refine ⟨_, _, _, _, _, _, _, _, rfl, ?_⟩
  refine CallsA.mono (run_of W m25 A0 n0 c0 l0 a1 A2 n2 c2 l2 a4 z0 z2 (wf_i64 w4) (rd0.le l25) (rd2.le l25) (by omega)) ?_
  rintro r m35 ⟨l35, Bo, cbo, Bm, cbm, rfl, hbo, hbm⟩
  refine ⟨_, _, _, _, _, _, _, _, rfl, ?_⟩
  refine blk4x2 fun b c M lM nb nc hne pb pc => ?_
  obtain ⟨q1, q2⟩ := runP_more l0 a1 l2 a3 a4 (by omega)
  have hln := runP_len l0 a1 l2 a3
  have hao' := (hao.le l35).le lM
  have ham' := (ham.le l35).le lM
  have hbo' := hbo.le lM
  have hbm' := hbm.le lM
  clear hao ham hbo hbm
  generalize runP l0 a1 l2 a3 = ra at q1 q2 hln hao' ham' pb ⊢
  generalize runP l0 a1 l2 a4 = rb at q1 q2 hbo' hbm' pc ⊢
  refine ⟨_, cel pb rfl, rfl, ?_⟩
  by_cases ht : ra.trap = 0
  · refine bcEF (by rw [ht]; rfl) ?_
    obtain ⟨q3, q4, q5⟩ := q2 ht
    have hlen := q3.length_le
    have loop : ∀ σ : Sg, σ 11 = .pointer (some ⟨b, 0, none⟩) → σ 12 = .pointer (some ⟨c, 0, none⟩) → vcS Try.prog W qs4 (sub c4 [1, 1, 1, 1, 1]) σ M (retQ Try.prog Try.f4 (fun r _ => r = .bool true)) := by
      intro σ s11 s12
      refine vk4_11111 W M σ _ b c s11 s12 ?_
      refine ⟨_, _, _, cel pb rfl, ?_⟩
      refine vl4_11111010 W M _ _ b c ra.out.length 0 (fun k i m' => m' = M ∧ 0 ≤ i ∧ i ≤ ra.out.length ∧ (k : Int) = ra.out.length - i) (fun m' => True) ra.out.length rfl rfl rfl rfl ⟨rfl, by omega, by omega, by omega⟩ ?_ ?_
      · rintro k σ i m' ⟨hm, h0, h1, hk⟩
        subst hm
        refine ⟨rfl, ?_⟩
        by_cases c1 : i < ra.out.length
        · refine bcET (decide_eq_true c1) ?_
          obtain ⟨ad, hA, hc⟩ := hao'.ex (by omega)
          obtain ⟨bd, hB, hd⟩ := hbo'.ex (by omega)
          subst hA
          subst hB
          refine ⟨_, _, _, cel pb rfl, ⟨h0, c1⟩, ?_⟩
          refine ⟨_, cell_k hc h0 c1, _, _, _, cel pc rfl, ⟨h0, by omega⟩, ?_⟩
          refine ⟨_, cell_k hd h0 (by omega), rfl, ?_⟩
          have e : ra.out.getD i.toNat 0 = rb.out.getD i.toNat 0 := by
            obtain ⟨t, ht⟩ := q3
            rw [← ht]
            have : i.toNat < ra.out.length := by omega
            simp [List.getD, List.getElem?_append_left this]
          have w : IntKind.wrap .i64 (i + 1) = i + 1 := by rw [IntKind.wrap_i64]; omega
          refine bcEF (by rw [e]; simp) ⟨rfl, rfl, rfl, rfl, rfl, k - 1, by omega, rfl, ?_⟩
          rw [w]
          exact ⟨by omega, by omega, by omega⟩
        · exact bcEF (decide_eq_false c1) ⟨rfl, rfl, rfl, trivial⟩
      · rintro σ m' _
        exact aw7 W m'
    refine ⟨_, _, _, cel pb rfl, _, _, _, cel pc rfl, rfl, ?_⟩
    have d1 : decide (((ra.out.length : Nat) : Int) > ((rb.out.length : Nat) : Int)) = false := decide_eq_false (by omega)
    have d2 : decide (ra.steps > rb.steps) = false := decide_eq_false (by omega)
    refine bcEF d1 ⟨_, cel pb rfl, _, cel pc rfl, rfl, ?_⟩
    refine bcEF (by rw [d1, d2]; rfl) ⟨_, cel pb rfl, rfl, rfl, ?_⟩
    by_cases hk : ra.steps = (if (0 : Int) > a3 then 0 else a3)
    · have d3 : (ra.steps != (if (0 : Int) > a3 then 0 else a3)) = false := by rw [← hk]; simp
      refine bcEF d3 ⟨d3, bcEF (by rw [d1, d2]; rfl) ?_⟩
      exact loop _ rfl rfl
    · have d3 : (ra.steps != (if (0 : Int) > a3 then 0 else a3)) = true := by simpa using hk
      obtain ⟨g1, g2⟩ : rb.out = [] ∧ rb.steps = 0 := by
        rcases q5 with h | h
        · refine absurd ?_ hk
          rw [h]; split <;> omega
        · exact h
      have d4 : decide (IntKind.wrap .i64 (((rb.out.length : Nat) : Int) + rb.steps) > 0) = false := by rw [g1, g2]; decide
      refine bcET d3 ⟨_, _, _, cel pc rfl, _, cel pc rfl, rfl, rfl, bcEF (by rw [d1, d2, d3, d4]; rfl) ?_⟩
      exact loop _ rfl rfl
  · refine bcET (by simpa using ht) ?_
    refine ⟨_, cel pb rfl, _, cel pb rfl, _, _, _, cel pb rfl, _, _, _, cel pb rfl, _, cel pc rfl, _, cel pc rfl, _, _, _, cel pc rfl, _, _, _, cel pc rfl, ?_⟩
    have heq := q1 ht
    refine CallsA.mono (equal_spec W M ra rb Ao Am Bo Bm co cm cbo cbm hao'.reads ham'.reads hbo'.reads hbm'.reads hln) ?_
    rintro r m' ⟨rfl, _⟩
    exact ⟨_, rfl, bcET (decide_eq_true heq) (awB W _ (decide_eq_true heq))⟩

theorem law_SeqLines (W : World) (A0 : Option Addr) (n0 c0 : Nat) (l0 : List Ins) (z0 : l0.length = n0) (hlc0 : n0 ≤ c0) (rd0 : Reads (mOf W) 5 A0 n0 (insCells l0)) (y0 : n0 * 40 ≤ 140737488351232) (hw0 : ∀ i ∈ l0, i.wf) :
    CallsA Try.prog W 5 #[.slice A0 n0 c0] (mOf W) (fun r _ => r = .bool true) := by
  refine cf5 W _ A0 n0 c0 _ ?_
  refine vl5_1010 W _ _ _ A0 n0 c0 A0 n0 c0 (n0 : Int) 0 (fun k i m' => (mOf W).le m' ∧ 0 ≤ i ∧ i ≤ n0 ∧ (k : Int) = n0 - i ∧ (∀ j, j < i.toNat → plainI (l0.getD j default)) ∧ (0 < i → n0 ≤ 200)) (fun m' => (mOf W).le m' ∧ (∀ j, j < n0 → plainI (l0.getD j default)) ∧ n0 ≤ 200) n0 rfl rfl rfl rfl ⟨AM.le_refl _, by omega, by omega, by omega, fun j hj => by omega, by omega⟩ ?_ ?_
  · rintro k σ i m' ⟨L, h0, h1, hk, hp, h200⟩
    refine ⟨rfl, ?_⟩
    by_cases c1 : i < n0
    · refine bcET (decide_eq_true c1) ⟨⟨h0, c1⟩, ?_⟩
      obtain ⟨ad, hA, hc⟩ := (rd0.le L).ex (by omega)
      have hlt : i.toNat < l0.length := by omega
      have hi := hc.ins (List.getElem?_eq_getElem hlt)
      have hd : l0.getD i.toNat default = l0[i.toNat] := by simp [List.getD, hlt]
      rw [← hd] at hi
      rw [hA]
      refine ⟨_, hi.1, _, hi.2.1, _, hi.2.2.1, _, hi.2.2.2.1, _, hi.2.2.2.2, ?_⟩
      refine blk5 fun b M lM nb hb pb => ?_
      refine ⟨_, cel pb rfl, rfl, ?_⟩
      have hx := fun (h : plainI (l0.getD i.toNat default)) (j : Nat) (hj : j < (i + 1).toNat) => show plainI (l0.getD j default) from if e : j = i.toNat then e ▸ h else hp j (by omega)
      generalize l0.getD i.toNat default = x at hx pb ⊢
      by_cases g1 : x.op > 11
      · exact bcET (decide_eq_true g1) ⟨decide_eq_true g1, rfl, rfl, aw7 W _⟩
      have d1 := decide_eq_false g1
      refine bcEF d1 ⟨_, cel pb rfl, rfl, ?_⟩
      by_cases g2 : x.op = 4
      · have d2 : (x.op == 4) = true := by simpa using g2
        exact bcET (by rw [d1, d2]; rfl) ⟨by rw [d1, d2]; rfl, rfl, aw7 W _⟩
      have d2 : (x.op == 4) = false := by simpa using g2
      refine bcEF (by rw [d1, d2]; rfl) ⟨_, cel pb rfl, rfl, ?_⟩
      by_cases g3 : x.op = 5
      · have d3 : (x.op == 5) = true := by simpa using g3
        exact bcET (by rw [d1, d2, d3]; rfl) ⟨by rw [d1, d2, d3]; rfl, aw7 W _⟩
      have d3 : (x.op == 5) = false := by simpa using g3
      refine bcEF (by rw [d1, d2, d3]; rfl) ⟨rfl, ?_⟩
      by_cases g4 : ((n0 : Nat) : Int) > 200
      · exact bcET (by rw [d1, d2, d3, decide_eq_true g4]; rfl) (aw7 W _)
      have w : IntKind.wrap .i64 (i + 1) = i + 1 := by rw [IntKind.wrap_i64]; omega
      refine bcEF (by rw [d1, d2, d3, decide_eq_false g4]; rfl) ⟨rfl, rfl, rfl, rfl, rfl, k - 1, by omega, ?_⟩
      rw [w]
      exact ⟨AM.le_trans L lM, by omega, by omega, by omega, hx ⟨by omega, g2, g3⟩, fun _ => by omega⟩
    · refine bcEF (decide_eq_false c1) ⟨rfl, rfl, rfl, L, fun j hj => hp j (by omega), ?_⟩
      rcases Nat.eq_zero_or_pos n0 with e | e
      · omega
      · exact h200 (by omega)
  · rintro σ m' ⟨L, hp, h2⟩
    have hpl : ∀ x ∈ l0, plainI x := by
      intro x hx
      obtain ⟨j, hj, rfl⟩ := List.mem_iff_getElem.1 hx
      have := hp j (by omega)
      simpa [List.getD, hj] using this
    refine CallsA.mono (run_of W m' A0 n0 c0 l0 10 none 0 0 [] 1000 z0 rfl (by constructor <;> decide) (rd0.le L) (Reads.nil _ 1) (by decide)) ?_
    rintro r m38 ⟨l38, Ao, co, Am, cm, rfl, hao, ham⟩
    refine ⟨_, _, _, _, _, _, _, _, rfl, ?_⟩
    refine blk4 fun b M lM nb hb pb => ?_
    refine ⟨_, cel pb rfl, rfl, ?_⟩
    rcases runP_lines l0 hpl (by omega) with ⟨h1, h2⟩ | ⟨h1, h2, h3, h4⟩
    · refine bcET (by rw [h1]; rfl) ⟨_, cel pb rfl, rfl, ?_⟩
      have e : decide ((runP l0 10 [] 1000).steps ≤ ((n0 : Nat) : Int)) = true := decide_eq_true (by omega)
      exact bcET e (awB W _ e)
    · refine bcEF (by rw [h1]; rfl) ⟨_, cel pb rfl, rfl, ?_⟩
      have e1 : ((runP l0 10 [] 1000).trap == 2) = true := by rw [h1]; rfl
      have w : IntKind.wrap .i64 (((n0 : Nat) : Int) + 1) = n0 + 1 := by rw [IntKind.wrap_i64]; omega
      have e2 : ((runP l0 10 [] 1000).steps == IntKind.wrap .i64 (((n0 : Nat) : Int) + 1)) = true := by rw [h2, w, z0]; simp
      have e3 : (IntKind.wrap .i64 ((((runP l0 10 [] 1000).out.length : Nat) : Int) + (((runP l0 10 [] 1000).mem.length : Nat) : Int)) == 0) = true := by rw [h3, h4]; decide
      refine bcET e1 ⟨_, cel pb rfl, rfl, rfl, ?_⟩
      refine bcET (by rw [e1, e2]; rfl) ⟨_, _, _, cel pb rfl, _, _, _, cel pb rfl, rfl, rfl, ?_⟩
      exact bcET (by rw [e1, e2, e3]; rfl) (awB W _ (by rw [e1, e2, e3]; rfl))
end Go.Proofs.Ytadcbnldahcelaa.S
