/- Ytadcbnldahcelaa: a text of our own, by an AI agent: Q8C -/
import Derived.Test.YtadcbnldahcelaaP8iC
import Derived.Test.YtadcbnldahcelaaL7qC
import Derived.Test.YtadcbnldahcelaaL7mC
import Derived.Test.YtadcbnldahcelaaVLaw8C
set_option linter.unusedSimpArgs false
set_option linter.unusedVariables false
set_option maxRecDepth 100000
namespace Go.Proofs.Ytadcbnldahcelaa.S
open Go Go.RowKit Go.Alog Go.Proofs.Ytadcbnldahcelaa.T Go.Proofs.Ytadcbnldahcelaa.V

theorem run_ofP (w0 : World) (m : AM) (Ac : Option Addr) (nc cc : Nat) (code : List Ins) (mem : Int) (Ai : Option Addr) (ni ci : Nat) (inp : List Int) (fuel : Int) (h1 : code.length = nc) (h2 : inp.length = ni) (hf : InI fuel) (hc : Reads m 5 Ac nc (insCells code)) (hi : Reads m 1 Ai ni (intCells .i64 inp)) (hin : ni ≤ 1000000) :
    CallsA Try.prog w0 31 #[.slice Ac nc cc, .int .i64 mem, .slice Ai ni ci, .int .i64 fuel] m (fun r m' => m.le m' ∧ RRes m' w0.heap.size r (runPP code mem inp fuel)) := by
  subst h1; subst h2
  exact runPP_spec w0 m Ac cc code mem Ai ci inp fuel hf hc hi hin

theorem awake8_run : runPP [⟨10, 4, 0, 0, 7⟩, ⟨20, 0, 0, 0, 2⟩, ⟨20, 0, 0, 0, 0⟩] 0 [] 20 = ⟨1, 6, [7], []⟩ := by decide +kernel

theorem awake8 (w0 : World) (m : AM) : CallsA Try.prog w0 30 #[] m (fun r m' => r = .bool true) := by
  refine cf30 w0 m _ ?_
  refine ⟨rfl, rfl, rfl, rfl, ?_⟩
  intro b1 hb1 hm1 M
  have hr : Reads M 5 (some ⟨b1, 0, none⟩) 3 (insCells [⟨10, 4, 0, 0, 7⟩, ⟨20, 0, 0, 0, 2⟩, ⟨20, 0, 0, 0, 0⟩]) := Reads.lit rfl
  clear_value M
  refine CallsA.mono (runPP_spec w0 M (some ⟨b1, 0, none⟩) 3 [⟨10, 4, 0, 0, 7⟩, ⟨20, 0, 0, 0, 2⟩, ⟨20, 0, 0, 0, 0⟩] 0 none 0 [] 20 (by constructor <;> decide) hr (Reads.nil M 1) (by decide)) ?_
  rintro r m2 ⟨l2, Ao, co, Am, cm, hv, ho, hm⟩
  rw [awake8_run] at hv ho hm
  subst hv
  refine ⟨_, _, _, _, _, _, _, _, rfl, ?_⟩
  intro b13 hb13 hm13
  have l13 := le_new hm13 (.cells #[.int .i64 1, .int .i64 6, .slice Ao 1 co, .slice Am 0 cm] 29)
  simp only [cell_upd_same, cell_upd_ne, ne_eq, not_false_eq_true, List.getElem?_toArray, List.getElem?_cons_zero, List.getElem?_cons_succ, Option.some.injEq, Value.int.injEq, Value.slice.injEq, Value.bool.injEq, Value.pointer.injEq, Value.tuple.injEq, Array.mk.injEq, List.cons.injEq, true_and, and_true, exists_eq_left', exists_eq', exists_eq, exists_and_left, exists_and_right, and_assoc, bcase_t, bcase_f, cond_true, cond_false, StC_upd, nilO_some, List.setIfInBounds_toArray, List.set_cons_zero, List.set_cons_succ, List.size_toArray, List.length_cons, List.length_nil, Nat.reduceAdd, Nat.reduceLT, hb13]
  obtain ⟨ad, rfl, hc⟩ := (ho.le l13).ex (by decide)
  have hx := hc 0 (.int .i64 7) rfl
  simp only [show ((1 : Int) == 1) = true from rfl, show ((6 : Int) == 6) = true from rfl, show ((([7] : List Int).length : Nat) : Int) = 1 from rfl, cell_upd_same, cell_upd_ne, ne_eq, not_false_eq_true, List.getElem?_toArray, List.getElem?_cons_zero, List.getElem?_cons_succ, Option.some.injEq, Value.int.injEq, Value.slice.injEq, Value.bool.injEq, Value.pointer.injEq, Value.tuple.injEq, Array.mk.injEq, List.cons.injEq, true_and, and_true, exists_eq_left', exists_eq', exists_eq, exists_and_left, exists_and_right, and_assoc, bcase_t, bcase_f, cond_true, cond_false, StC_upd, nilO_some, List.setIfInBounds_toArray, List.set_cons_zero, List.set_cons_succ, List.size_toArray, List.length_cons, List.length_nil, Nat.reduceAdd, Nat.reduceLT]
  refine ⟨by decide, by decide, ?_⟩
  simp only [hx, cell_upd_same, cell_upd_ne, ne_eq, not_false_eq_true, List.getElem?_toArray, List.getElem?_cons_zero, List.getElem?_cons_succ, Option.some.injEq, Value.int.injEq, Value.slice.injEq, Value.bool.injEq, Value.pointer.injEq, Value.tuple.injEq, Array.mk.injEq, List.cons.injEq, true_and, and_true, exists_eq_left', exists_eq', exists_eq, exists_and_left, exists_and_right, and_assoc, bcase_t, bcase_f, cond_true, cond_false, StC_upd, nilO_some, List.setIfInBounds_toArray, List.set_cons_zero, List.set_cons_succ, List.size_toArray, List.length_cons, List.length_nil, Nat.reduceAdd, Nat.reduceLT]
  exact retP_of rfl

theorem small8 (w0 : World) (m : AM) (A : Option Addr) (n c : Nat) (mem : Int) (A2 : Option Addr) (n2 c2 : Nat) (fuel : Int) :
    CallsA Try.prog w0 29 #[.slice A n c, .int .i64 mem, .slice A2 n2 c2, .int .i64 fuel] m (fun r m' => r = .bool (smallB n mem n2 fuel) ∧ m' = m) := by
  refine cf29 w0 m A n c mem A2 n2 c2 fuel _ ?_
  have fin : ∀ b c, b = c → RetP (fun r m' => r = Value.bool c ∧ m' = m) (.bool b) m := fun b c h => retP_of ⟨by rw [h], rfl⟩
  have e1 : decide (((n : Nat) : Int) ≤ 200) = decide (n ≤ 200) := by congr 1; apply propext; omega
  have e2 : decide (((n2 : Nat) : Int) ≤ 100) = decide (n2 ≤ 100) := by congr 1; apply propext; omega
  rw [e1, e2]
  unfold smallB
  cases decide (n ≤ 200) <;> cases decide (mem ≤ 300) <;> cases decide (mem > 32000) <;> cases decide (n2 ≤ 100) <;> cases decide (fuel ≤ 2000) <;> simp only [cell_upd_same, cell_upd_ne, ne_eq, not_false_eq_true, List.getElem?_toArray, List.getElem?_cons_zero, List.getElem?_cons_succ, Option.some.injEq, Value.int.injEq, Value.slice.injEq, Value.bool.injEq, Value.pointer.injEq, Value.tuple.injEq, Array.mk.injEq, List.cons.injEq, true_and, and_true, exists_eq_left', exists_eq', exists_eq, exists_and_left, exists_and_right, and_assoc, bcase_t, bcase_f, cond_true, cond_false, StC_upd, nilO_some, List.setIfInBounds_toArray, List.set_cons_zero, List.set_cons_succ, List.size_toArray, List.length_cons, List.length_nil, Nat.reduceAdd, Nat.reduceLT] <;> exact fin _ _ rfl

theorem smallB_sp8 {code : Nat} {mem : Int} {inp : Nat} {fuel : Int} (h : smallB code mem inp fuel = true) : code ≤ 200 ∧ (mem ≤ 300 ∨ mem > 32000) ∧ inp ≤ 100 ∧ fuel ≤ 2000 := by
  unfold smallB at h
  simp only [Bool.and_eq_true, Bool.or_eq_true, decide_eq_true_eq] at h
  exact ⟨h.1.1.1, h.1.1.2, h.1.2, h.2⟩
theorem aw8 (w0 : World) (M : AM) : CallsA Try.prog w0 30 #[] M (fun r m' => ∃ t : Bool, r = .bool t ∧ RetP (fun r _ => r = .bool true) (.bool t) m') := by
  refine CallsA.mono (awake8 w0 M) ?_
  rintro r m' rfl
  exact ⟨_, rfl, retP_of rfl⟩
theorem aw8B (w0 : World) (M : AM) {b : Bool} (hb : b = true) : CallsA Try.prog w0 30 #[] M (fun r m' => ∃ t : Bool, r = .bool t ∧ RetP (fun r _ => r = .bool true) (.bool (bif b then t else false)) m') := by
  subst hb
  exact aw8 w0 M

theorem law_PipeMore (W : World) (A0 : Option Addr) (n0 c0 : Nat) (l0 : List Ins) (z0 : l0.length = n0) (hlc0 : n0 ≤ c0) (rd0 : Reads (mOf W) 5 A0 n0 (insCells l0)) (y0 : n0 * 40 ≤ 140737488351232) (hw0 : ∀ i ∈ l0, i.wf) (a1 : Int) (w1 : (Lit.int .i64 a1).wf = true)
    (A2 : Option Addr) (n2 c2 : Nat) (l2 : List Int) (z2 : l2.length = n2) (hlc2 : n2 ≤ c2) (rd2 : Reads (mOf W) 1 A2 n2 (intCells .i64 l2)) (y2 : n2 * 8 ≤ 140737488351232) (hw2 : ∀ i ∈ l2, (Lit.int .i64 i).wf = true) (a3 : Int) (w3 : (Lit.int .i64 a3).wf = true) (a4 : Int) (w4 : (Lit.int .i64 a4).wf = true) :
    CallsA Try.prog W 13 #[.slice A0 n0 c0, .int .i64 a1, .slice A2 n2 c2, .int .i64 a3, .int .i64 a4] (mOf W) (fun r _ => r = .bool true) := by
  refine cf13 W _ A0 n0 c0 a1 A2 n2 c2 a3 a4 _ ?_
  refine CallsA.mono (small8 W _ A0 n0 c0 a1 A2 n2 c2 a3) ?_
  rintro r m3 ⟨rfl, rfl⟩
  refine ⟨_, rfl, ?_⟩
  cases hs : smallB n0 a1 n2 a3 with
  | false => exact ⟨rfl, rfl, aw8 W _⟩
  | true =>
  refine bcF ?_
  refine CallsA.mono (small8 W _ A0 n0 c0 a1 A2 n2 c2 a4) ?_
  rintro r m3 ⟨rfl, rfl⟩
  refine ⟨_, rfl, ?_⟩
  cases hs2 : smallB n0 a1 n2 a4 with
  | false => exact ⟨rfl, aw8 W _⟩
  | true =>
  obtain ⟨s1, s2, s3, s4⟩ := smallB_sp8 hs
  refine bcF ⟨rfl, ?_⟩
  by_cases h0 : a3 > a4
  · exact bcET (by rw [decide_eq_true h0]; rfl) (aw8 W _)
  refine bcEF (by rw [decide_eq_false h0]; rfl) ?_
  refine CallsA.mono (run_ofP W _ A0 n0 c0 l0 a1 A2 n2 c2 l2 a3 z0 z2 (wf_i64 w3) rd0 rd2 (by omega)) ?_
  rintro r m25 ⟨l25, Ao, co, Am, cm, rfl, hao, ham⟩
  refine ⟨_, _, _, _, _, _, _, _, rfl, ?_⟩
  refine CallsA.mono (run_ofP W m25 A0 n0 c0 l0 a1 A2 n2 c2 l2 a4 z0 z2 (wf_i64 w4) (rd0.le l25) (rd2.le l25) (by omega)) ?_
  rintro r m35 ⟨l35, Bo, cbo, Bm, cbm, rfl, hbo, hbm⟩
  refine ⟨_, _, _, _, _, _, _, _, rfl, ?_⟩
  refine blk4x2 fun b c M lM nb nc hne pb pc => ?_
  obtain ⟨q1, q2⟩ := runPP_more l0 a1 l2 a3 a4 (by omega)
  have hln := runPP_len l0 a1 l2 a3
  have hao' := (hao.le l35).le lM
  have ham' := (ham.le l35).le lM
  have hbo' := hbo.le lM
  have hbm' := hbm.le lM
  clear hao ham hbo hbm
  generalize runPP l0 a1 l2 a3 = ra at q1 q2 hln hao' ham' pb ⊢
  generalize runPP l0 a1 l2 a4 = rb at q1 q2 hbo' hbm' pc ⊢
  refine ⟨_, cel pb rfl, rfl, ?_⟩
  by_cases ht : ra.trap = 0
  · refine bcEF (by rw [ht]; rfl) ?_
    have q3 := q2 ht
    have hlen := q3.length_le
    refine ⟨_, _, _, cel pb rfl, _, _, _, cel pc rfl, rfl, ?_⟩
    have d1 : decide (((ra.out.length : Nat) : Int) > ((rb.out.length : Nat) : Int)) = false := decide_eq_false (by omega)
    refine bcEF d1 ⟨_, _, _, cel pb rfl, ?_⟩
    refine vl13_11111010 W M _ _ b c ra.out.length 0 (fun k i m' => m' = M ∧ 0 ≤ i ∧ i ≤ ra.out.length ∧ (k : Int) = ra.out.length - i) (fun m' => True) ra.out.length rfl rfl rfl rfl ⟨rfl, by omega, by omega, by omega⟩ ?_ ?_
    · rintro k σ i m' ⟨hm, h0, h1, hk⟩
      subst hm
      refine ⟨rfl, ?_⟩
      by_cases c1 : i < ra.out.length
      · refine bcET (decide_eq_true c1) ?_
        obtain ⟨ad, hA, hc⟩ := hao'.ex (by omega)
        obtain ⟨bd, hB, hd⟩ := hbo'.ex (by omega)
        subst hA
        subst hB
        refine ⟨_, _, _, cel pb rfl, ⟨h0, c1⟩, ?_⟩
        refine ⟨_, cell_k hc h0 c1, _, _, _, cel pc rfl, ⟨h0, by omega⟩, ?_⟩
        refine ⟨_, cell_k hd h0 (by omega), rfl, ?_⟩
        have e : ra.out.getD i.toNat 0 = rb.out.getD i.toNat 0 := by
          obtain ⟨t, ht⟩ := q3
          rw [← ht]
          have : i.toNat < ra.out.length := by omega
          simp [List.getD, List.getElem?_append_left this]
        have w : IntKind.wrap .i64 (i + 1) = i + 1 := by rw [IntKind.wrap_i64]; omega
        refine bcEF (by rw [e]; simp) ⟨rfl, rfl, rfl, rfl, rfl, k - 1, by omega, rfl, ?_⟩
        rw [w]
        exact ⟨by omega, by omega, by omega⟩
      · exact bcEF (decide_eq_false c1) ⟨rfl, rfl, rfl, trivial⟩
    · rintro σ m' _
      exact aw8 W m'
  · refine bcET (by simpa using ht) ?_
    refine ⟨_, cel pb rfl, _, cel pb rfl, _, _, _, cel pb rfl, _, _, _, cel pb rfl, _, cel pc rfl, _, cel pc rfl, _, _, _, cel pc rfl, _, _, _, cel pc rfl, ?_⟩
    have heq := q1 ht
    refine CallsA.mono (equal_spec W M ra rb Ao Am Bo Bm co cm cbo cbm hao'.reads ham'.reads hbo'.reads hbm'.reads hln) ?_
    rintro r m' ⟨rfl, _⟩
    exact ⟨_, rfl, bcET (decide_eq_true heq) (aw8B W _ (decide_eq_true heq))⟩

theorem law_PipeRoom (W : World) (A0 : Option Addr) (n0 c0 : Nat) (l0 : List Ins) (z0 : l0.length = n0) (hlc0 : n0 ≤ c0) (rd0 : Reads (mOf W) 5 A0 n0 (insCells l0)) (y0 : n0 * 40 ≤ 140737488351232) (hw0 : ∀ i ∈ l0, i.wf) (a1 : Int) (w1 : (Lit.int .i64 a1).wf = true)
    (A2 : Option Addr) (n2 c2 : Nat) (l2 : List Int) (z2 : l2.length = n2) (hlc2 : n2 ≤ c2) (rd2 : Reads (mOf W) 1 A2 n2 (intCells .i64 l2)) (y2 : n2 * 8 ≤ 140737488351232) (hw2 : ∀ i ∈ l2, (Lit.int .i64 i).wf = true)
    (A3 : Option Addr) (n3 c3 : Nat) (l3 : List Int) (z3 : l3.length = n3) (hlc3 : n3 ≤ c3) (rd3 : Reads (mOf W) 1 A3 n3 (intCells .i64 l3)) (y3 : n3 * 8 ≤ 140737488351232) (hw3 : ∀ i ∈ l3, (Lit.int .i64 i).wf = true) (a4 : Int) (w4 : (Lit.int .i64 a4).wf = true) (a5 : Int) (w5 : (Lit.int .u16 a5).wf = true) :
    CallsA Try.prog W 14 #[.slice A0 n0 c0, .int .i64 a1, .slice A2 n2 c2, .slice A3 n3 c3, .int .i64 a4, .int .u16 a5] (mOf W) (fun r _ => r = .bool true) := by
  refine cf14 W _ A0 n0 c0 a1 A2 n2 c2 A3 n3 c3 a4 a5 _ ?_
  refine CallsA.mono (small8 W _ A0 n0 c0 a1 A2 n2 c2 a4) ?_
  rintro r m3 ⟨rfl, rfl⟩
  refine ⟨_, rfl, ?_⟩
  cases hs : smallB n0 a1 n2 a4 with
  | false => exact ⟨rfl, rfl, rfl, aw8 W _⟩
  | true =>
  obtain ⟨s1, s2, s3, s4⟩ := smallB_sp8 hs
  refine bcF ⟨rfl, ?_⟩
  by_cases h0 : a1 < 0
  · exact bcET (by rw [decide_eq_true h0]; rfl) ⟨by rw [decide_eq_true h0]; rfl, rfl, aw8 W _⟩
  refine bcEF (by rw [decide_eq_false h0]; rfl) ⟨rfl, ?_⟩
  by_cases h1 : a1 > 300
  · exact bcET (by rw [decide_eq_true h1, decide_eq_false h0]; rfl) ⟨by rw [decide_eq_true h1, decide_eq_false h0]; rfl, aw8 W _⟩
  refine bcEF (by rw [decide_eq_false h1, decide_eq_false h0]; rfl) ⟨rfl, ?_⟩
  by_cases h3 : ((n3 : Nat) : Int) > 100
  · exact bcET (by rw [decide_eq_true h3, decide_eq_false h1, decide_eq_false h0]; rfl) (aw8 W _)
  refine bcEF (by rw [decide_eq_false h3, decide_eq_false h1, decide_eq_false h0]; rfl) ?_
  have h5 := wf_u16 w5
  have ek : IntKind.wrap .i64 (a1 + IntKind.wrap .i64 (Int.tmod a5 300)) = a1 + a5 % 300 := by
    rw [Int.tmod_eq_emod_of_nonneg h5.1, IntKind.wrap_i64, IntKind.wrap_i64]; omega
  refine CallsA.mono (run_ofP W _ A0 n0 c0 l0 a1 A2 n2 c2 l2 a4 z0 z2 (wf_i64 w4) rd0 rd2 (by omega)) ?_
  rintro r m25 ⟨l25, Ao, co, Am, cm, rfl, hao, ham⟩
  refine ⟨_, _, _, _, _, _, _, _, rfl, ?_⟩
  refine blk4 fun b26 m31 l31 n26 hb26 p26 => ?_
  refine ⟨rfl, by decide, rfl, ?_⟩
  rw [ek]
  have L31 := AM.le_trans l25 l31
  refine CallsA.mono (run_ofP W m31 A0 n0 c0 l0 (a1 + a5 % 300) A2 n2 c2 l2 a4 z0 z2 (wf_i64 w4) (rd0.le L31) (rd2.le L31) (by omega)) ?_
  rintro r m41 ⟨l41, Bo, cbo, Bm, cbm, rfl, hbo, hbm⟩
  refine ⟨_, _, _, _, _, _, _, _, rfl, ?_⟩
  refine blk4 fun b42 m47 l47 n42 hb42 p42 => ?_
  have L47 := AM.le_trans L31 (AM.le_trans l41 l47)
  refine ⟨rfl, ?_⟩
  refine app2 el23 (rd2.le L47) (rd3.le L47) (int_one l2) (int_one l3) (by omega) (by omega) fun A c m56 l56 o56 n56 => ?_
  have e : intCells .i64 l2 ++ intCells .i64 l3 = intCells .i64 (l2 ++ l3) := by simp [intCells]
  rw [e] at o56
  have L56 := AM.le_trans L47 l56
  refine CallsA.mono (run_ofP W m56 A0 n0 c0 l0 a1 A (n2 + n3) c (l2 ++ l3) a4 z0 (by simp [z2, z3]) (wf_i64 w4) (rd0.le L56) o56.reads (by omega)) ?_
  rintro r m69 ⟨l69, Co, cco, Cm, ccm, rfl, hco, hcm⟩
  refine ⟨_, _, _, _, _, _, _, _, rfl, ?_⟩
  refine blk4 fun b70 m75 l75 n70 hb70 p70 => ?_
  have l4775 := AM.le_trans (AM.le_trans l56 l69) l75
  have l3175 := AM.le_trans (AM.le_trans l41 l47) l4775
  have q26 := l3175 _ _ p26
  have q42 := l4775 _ _ p42
  have g1 := runPP_room l0 a1 l2 a4 (a5 % 300) (by omega) (by omega) (by omega) (by omega)
  have g2 := runPP_input l0 a1 l2 l3 a4
  have hln := runPP_len l0 a1 l2 a4
  have hao' := (hao.le l31).le l3175
  have ham' := (ham.le l31).le l3175
  have hbo' := (hbo.le l47).le l4775
  have hbm' := (hbm.le l47).le l4775
  have hco' := hco.le l75
  have hcm' := hcm.le l75
  clear p26 p42 hao ham hbo hbm hco hcm
  generalize runPP l0 a1 l2 a4 = ra at *
  generalize runPP l0 (a1 + a5 % 300) l2 a4 = rb at *
  generalize runPP l0 a1 (l2 ++ l3) a4 = rc at *
  refine ⟨_, cel q26 rfl, _, cel q26 rfl, _, _, _, cel q26 rfl, _, _, _, cel q26 rfl, ?_⟩
  refine blk4 fun b84 M lM n84 hb84 p84 => ?_
  have r26 := lM _ _ q26
  have r42 := lM _ _ q42
  have r70 := lM _ _ p70
  have eqB : ∀ (K : Bool → Prop), K (decide (ra = rb)) → True := fun _ _ => trivial
  have tail : ∀ (x : Bool) (M' : AM), x = true → M.le M' → ∃ i136 : Int, M'.cell ⟨b26, 0, none⟩ = some (.int .i64 i136) ∧ IntKind.i64 = IntKind.i64 ∧ (bcase ((i136 : Int) == 6) (
      ((i136 : Int) == 6) = true ∧ (bcase (bif x then true else false) (CallsA Try.prog W 30 #[] M' fun r m' => ∃ t : Bool, r = .bool t ∧ RetP (fun r _ => r = .bool true) (.bool (bif (bif x then true else false) then t else false)) m') ((bif x then true else false) = false ∧ RetP (fun r _ => r = .bool true) (.bool false) M')))
      (∃ i140 : Int, M'.cell ⟨b84, 0, none⟩ = some (.int .i64 i140) ∧ ∃ i141 : Int, M'.cell ⟨b84, 1, none⟩ = some (.int .i64 i141) ∧ ∃ (A142 : Option Addr) (n143 c144 : Nat), M'.cell ⟨b84, 2, none⟩ = some (.slice A142 n143 c144) ∧ ∃ (A145 : Option Addr) (n146 c147 : Nat), M'.cell ⟨b84, 3, none⟩ = some (.slice A145 n146 c147) ∧
      ∃ i148 : Int, M'.cell ⟨b70, 0, none⟩ = some (.int .i64 i148) ∧ ∃ i149 : Int, M'.cell ⟨b70, 1, none⟩ = some (.int .i64 i149) ∧ ∃ (A150 : Option Addr) (n151 c152 : Nat), M'.cell ⟨b70, 2, none⟩ = some (.slice A150 n151 c152) ∧ ∃ (A153 : Option Addr) (n154 c155 : Nat), M'.cell ⟨b70, 3, none⟩ = some (.slice A153 n154 c155) ∧
      CallsA Try.prog W 22 #[.agg #[.int .i64 i140, .int .i64 i141, .slice A142 n143 c144, .slice A145 n146 c147], .agg #[.int .i64 i148, .int .i64 i149, .slice A150 n151 c152, .slice A153 n154 c155]] M' fun r157 m158 => ∃ t156 : Bool, r157 = .bool t156 ∧ (bcase (bif x then bif (i136 : Int) == 6 then true else t156 else false) (
        CallsA Try.prog W 30 #[] m158 fun r m' => ∃ t : Bool, r = .bool t ∧ RetP (fun r _ => r = .bool true) (.bool (bif (bif x then bif (i136 : Int) == 6 then true else t156 else false) then t else false)) m')
        ((bif x then bif (i136 : Int) == 6 then true else t156 else false) = false ∧ RetP (fun r _ => r = .bool true) (.bool false) m158)))) := by
    intro x M' hx lM'
    subst hx
    refine ⟨_, cel (lM' _ _ r26) rfl, rfl, ?_⟩
    by_cases h6 : ra.trap = 6
    · have e6 : (ra.trap == 6) = true := by simpa using h6
      exact bcET e6 ⟨e6, bcT (aw8B W _ rfl)⟩
    · have e6 : (ra.trap == 6) = false := by simpa using h6
      have heq := g2.resolve_left h6
      have t84 := lM' _ _ p84
      have t70 := lM' _ _ r70
      refine bcEF e6 ⟨_, cel t84 rfl, _, cel t84 rfl, _, _, _, cel t84 rfl, _, _, _, cel t84 rfl, _, cel t70 rfl, _, cel t70 rfl, _, _, _, cel t70 rfl, _, _, _, cel t70 rfl, ?_⟩
      refine CallsA.mono (equal_spec W M' ra rc Ao Am Co Cm co cm cco ccm ((hao'.le lM).le lM').reads ((ham'.le lM).le lM').reads ((hco'.le lM).le lM').reads ((hcm'.le lM).le lM').reads hln) ?_
      rintro r m' ⟨rfl, _⟩
      have e8 : (bif true then bif (ra.trap == 6) then true else decide (ra = rc) else false) = true := by rw [decide_eq_true heq, e6]; rfl
      exact ⟨_, rfl, bcET e8 (aw8B W _ e8)⟩
  refine ⟨_, cel r26 rfl, rfl, ?_⟩
  by_cases ht : ra.trap = 3
  · have et : (ra.trap == 3) = true := by simpa using ht
    refine bcET et ⟨et, ?_⟩
    exact tail true M rfl (AM.le_refl _)
  · have et : (ra.trap == 3) = false := by simpa using ht
    have heq := g1.resolve_left ht
    refine bcEF et ⟨_, cel p84 rfl, _, cel p84 rfl, _, _, _, cel p84 rfl, _, _, _, cel p84 rfl, _, cel r42 rfl, _, cel r42 rfl, _, _, _, cel r42 rfl, _, _, _, cel r42 rfl, ?_⟩
    refine CallsA.mono (equal_spec W M ra rb Ao Am Bo Bm co cm cbo cbm (hao'.le lM).reads (ham'.le lM).reads (hbo'.le lM).reads (hbm'.le lM).reads hln) ?_
    rintro r m' ⟨rfl, l'⟩
    have e8 : (bif (ra.trap == 3) then true else decide (ra = rb)) = true := by rw [decide_eq_true heq, et]; rfl
    exact ⟨_, rfl, bcET e8 (tail _ m' e8 l')⟩

theorem law_PipeFour (W : World) (A0 : Option Addr) (n0 c0 : Nat) (l0 : List Ins) (z0 : l0.length = n0) (hlc0 : n0 ≤ c0) (rd0 : Reads (mOf W) 5 A0 n0 (insCells l0)) (y0 : n0 * 40 ≤ 140737488351232) (hw0 : ∀ i ∈ l0, i.wf) (a1 : Int) (w1 : (Lit.int .i64 a1).wf = true)
    (A2 : Option Addr) (n2 c2 : Nat) (l2 : List Int) (z2 : l2.length = n2) (hlc2 : n2 ≤ c2) (rd2 : Reads (mOf W) 1 A2 n2 (intCells .i64 l2)) (y2 : n2 * 8 ≤ 140737488351232) (hw2 : ∀ i ∈ l2, (Lit.int .i64 i).wf = true) (a3 : Int) (w3 : (Lit.int .i64 a3).wf = true) :
    CallsA Try.prog W 15 #[.slice A0 n0 c0, .int .i64 a1, .slice A2 n2 c2, .int .i64 a3] (mOf W) (fun r _ => r = .bool true) := by
  refine cf15 W _ A0 n0 c0 a1 A2 n2 c2 a3 _ ?_
  refine CallsA.mono (small8 W _ A0 n0 c0 a1 A2 n2 c2 a3) ?_
  rintro r m3 ⟨rfl, rfl⟩
  refine ⟨_, rfl, ?_⟩
  cases hs : smallB n0 a1 n2 a3 with
  | false => exact ⟨rfl, rfl, aw8 W _⟩
  | true =>
  obtain ⟨s1, s2, s3, s4⟩ := smallB_sp8 hs
  refine bcF ⟨rfl, ?_⟩
  by_cases h0 : a1 < 0
  · exact bcET (by rw [decide_eq_true h0]; rfl) ⟨by rw [decide_eq_true h0]; rfl, aw8 W _⟩
  refine bcEF (by rw [decide_eq_false h0]; rfl) ⟨rfl, ?_⟩
  by_cases h1 : a1 > 300
  · exact bcET (by rw [decide_eq_true h1, decide_eq_false h0]; rfl) (aw8 W _)
  refine bcEF (by rw [decide_eq_false h1, decide_eq_false h0]; rfl) ⟨rfl, ?_⟩
  have hf : InI (if 3 < a3 then 3 else a3) := by
    have := wf_i64 w3
    unfold InI at this ⊢
    split <;> omega
  refine CallsA.mono (run_ofP W _ A0 n0 c0 l0 a1 A2 n2 c2 l2 (if 3 < a3 then 3 else a3) z0 z2 hf rd0 rd2 (by omega)) ?_
  rintro r m22 ⟨l22, Ao, co, Am, cm, rfl, hao, ham⟩
  refine ⟨_, _, _, _, _, _, _, _, rfl, ?_⟩
  refine CallsA.mono (run_ofP W m22 A0 n0 c0 l0 a1 A2 n2 c2 l2 a3 z0 z2 (wf_i64 w3) (rd0.le l22) (rd2.le l22) (by omega)) ?_
  rintro r m32 ⟨l32, Bo, cbo, Bm, cbm, rfl, hbo, hbm⟩
  refine ⟨_, _, _, _, _, _, _, _, rfl, ?_⟩
  refine blk4x2 fun b c M lM nb nc hne pb pc => ?_
  obtain ⟨f1, f2, f3⟩ := (runPP_four l0 a1 l2 (if 3 < a3 then 3 else a3) (by omega) (by omega) (by omega))
  obtain ⟨g1, g2, g3⟩ := (runPP_four l0 a1 l2 a3 (by omega) (by omega) (by omega))
  obtain ⟨t1, t2, t3, t4⟩ := f1 (by split <;> omega)
  clear hao ham hbo hbm f1 f2 f3 g1
  generalize runPP l0 a1 l2 (if 3 < a3 then 3 else a3) = ra at *
  generalize runPP l0 a1 l2 a3 = rb at *
  refine ⟨_, cel pb rfl, rfl, bcEF (by rw [t1]; rfl) ⟨_, _, _, cel pb rfl, _, _, _, cel pb rfl, rfl, rfl, ?_⟩⟩
  have e1 : (ra.trap != 0) = false := by rw [t1]; rfl
  have e2 : decide (IntKind.wrap .i64 (((ra.out.length : Nat) : Int) + ((ra.mem.length : Nat) : Int)) > 0) = false := by rw [t2, t3]; decide
  have e3 : (ra.steps != (if (0 : Int) > (if 3 < a3 then 3 else a3) then 0 else if 3 < a3 then 3 else a3)) = false := by
    rw [t4]
    have : max (if 3 < a3 then 3 else a3) 0 = (if (0 : Int) > (if 3 < a3 then 3 else a3) then 0 else if 3 < a3 then 3 else a3) := by
      split <;> split <;> omega
    rw [this]; simp
  refine bcEF (by rw [e1, e2]; rfl) ⟨_, cel pb rfl, rfl, rfl, rfl, bcEF (by rw [e1, e2, e3]; rfl) ⟨_, cel pc rfl, rfl, ?_⟩⟩
  by_cases hz : rb.trap = 0
  · have z1 : (rb.trap == 0) = true := by simpa using hz
    have hst := g2 hz
    have z2' : (rb.steps == (if (0 : Int) > a3 then 0 else a3)) = true := by
      rw [hst]
      have : max a3 0 = (if (0 : Int) > a3 then 0 else a3) := by split <;> omega
      rw [this]; simp
    have z3' : (bif rb.trap == 0 then rb.steps == (if (0 : Int) > a3 then 0 else a3) else false) = true := by rw [z1, z2']; rfl
    exact bcET z1 ⟨_, cel pc rfl, rfl, rfl, bcET z3' ⟨z3', aw8 W _⟩⟩
  · have z1 : (rb.trap == 0) = false := by simpa using hz
    have z0' : (rb.trap != 0) = true := by simpa using hz
    obtain ⟨hs1, hs2⟩ := g3 hz
    have z4 : (bif rb.trap != 0 then decide (rb.steps ≥ 4) else false) = true := by rw [z0', decide_eq_true (by omega)]; rfl
    have z5 : (bif false then true else bif bif rb.trap != 0 then decide (rb.steps ≥ 4) else false then decide (rb.steps ≤ a3) else false) = true := by rw [z4, decide_eq_true hs2]; rfl
    refine bcEF z1 ⟨z1, _, cel pc rfl, rfl, bcET z0' ⟨_, cel pc rfl, rfl, bcET z4 ⟨_, cel pc rfl, rfl, bcET z5 (aw8B W _ z5)⟩⟩⟩
end Go.Proofs.Ytadcbnldahcelaa.S
