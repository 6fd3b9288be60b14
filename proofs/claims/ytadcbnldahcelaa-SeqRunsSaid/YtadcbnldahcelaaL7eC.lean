/- Ytadcbnldahcelaa: a text of our own, by an AI agent: L7eC -/
import Derived.Test.YtadcbnldahcelaaL7dC
import Derived.Test.YtadcbnldahcelaaL7mC
import Derived.Test.YtadcbnldahcelaaCore12
set_option linter.unusedSimpArgs false
set_option linter.unusedVariables false
set_option maxRecDepth 100000
namespace Go.Proofs.Ytadcbnldahcelaa.S
open Go Go.RowKit Go.Alog Go.Proofs.Ytadcbnldahcelaa.T Go.Proofs.Ytadcbnldahcelaa.V

theorem aw7 (w0 : World) (M : AM) : CallsA Try.prog w0 21 #[] M (fun r m' => ∃ t : Bool, r = .bool t ∧ RetP (fun r _ => r = .bool true) (.bool t) m') := by
  refine CallsA.mono (awake7 w0 M) ?_
  rintro r m' rfl
  exact ⟨_, rfl, retP_of rfl⟩

theorem smallB_spec {code : Nat} {mem : Int} {inp : Nat} {fuel : Int} (h : smallB code mem inp fuel = true) : code ≤ 200 ∧ (mem ≤ 300 ∨ mem > 32000) ∧ inp ≤ 100 ∧ fuel ≤ 2000 := by
  unfold smallB at h
  simp only [Bool.and_eq_true, Bool.or_eq_true, decide_eq_true_eq] at h
  exact ⟨h.1.1.1, h.1.1.2, h.1.2, h.2⟩

theorem law_SeqRoom (W : World) (A0 : Option Addr) (n0 c0 : Nat) (l0 : List Ins) (z0 : l0.length = n0) (hlc0 : n0 ≤ c0) (rd0 : Reads (mOf W) 5 A0 n0 (insCells l0)) (y0 : n0 * 40 ≤ 140737488351232) (hw0 : ∀ i ∈ l0, i.wf) (a1 : Int) (w1 : (Lit.int .i64 a1).wf = true)
    (A2 : Option Addr) (n2 c2 : Nat) (l2 : List Int) (z2 : l2.length = n2) (hlc2 : n2 ≤ c2) (rd2 : Reads (mOf W) 1 A2 n2 (intCells .i64 l2)) (y2 : n2 * 8 ≤ 140737488351232) (hw2 : ∀ i ∈ l2, (Lit.int .i64 i).wf = true) (a3 : Int) (w3 : (Lit.int .i64 a3).wf = true) (a4 : Int) (w4 : (Lit.int .u16 a4).wf = true) :
    CallsA Try.prog W 8 #[.slice A0 n0 c0, .int .i64 a1, .slice A2 n2 c2, .int .i64 a3, .int .u16 a4] (mOf W) (fun r _ => r = .bool true) := by
  refine cf8 W _ A0 n0 c0 a1 A2 n2 c2 a3 a4 _ ?_
  refine CallsA.mono (small7 W _ A0 n0 c0 a1 A2 n2 c2 a3) ?_
  rintro r m3 ⟨rfl, rfl⟩
  refine ⟨_, rfl, ?_⟩
  cases hs : smallB n0 a1 n2 a3 with
  | false => exact ⟨rfl, rfl, aw7 W _⟩
  | true =>
    obtain ⟨s1, s2, s3, s4⟩ := smallB_spec hs
    refine bcF ⟨rfl, ?_⟩
    by_cases h0 : a1 < 0
    · exact bcET (by rw [decide_eq_true h0]; rfl) ⟨by rw [decide_eq_true h0]; rfl, aw7 W _⟩
    refine bcEF (by rw [decide_eq_false h0]; rfl) ⟨rfl, ?_⟩
    by_cases h1 : a1 > 300
    · exact bcET (by rw [decide_eq_true h1, decide_eq_false h0]; rfl) (aw7 W _)
    refine bcEF (by rw [decide_eq_false h1, decide_eq_false h0]; rfl) ?_
    have h4 := wf_u16 w4
    have ek : IntKind.wrap .i64 (a1 + IntKind.wrap .i64 (Int.tmod a4 300)) = a1 + a4 % 300 := by
      rw [Int.tmod_eq_emod_of_nonneg h4.1, IntKind.wrap_i64, IntKind.wrap_i64]; omega
    rw [ek]
    refine CallsA.mono (run_of W _ A0 n0 c0 l0 a1 A2 n2 c2 l2 a3 z0 z2 (wf_i64 w3) rd0 rd2 (by omega)) ?_
    rintro r m22 ⟨l22, Ao, co, Am, cm, rfl, hao, ham⟩
    refine ⟨_, _, _, _, _, _, _, _, rfl, rfl, by decide, rfl, ?_⟩
    refine CallsA.mono (run_of W m22 A0 n0 c0 l0 (a1 + a4 % 300) A2 n2 c2 l2 a3 z0 z2 (wf_i64 w3) (rd0.le l22) (rd2.le l22) (by omega)) ?_
    rintro r m32 ⟨l32, Bo, cbo, Bm, cbm, rfl, hbo, hbm⟩
    refine ⟨_, _, _, _, _, _, _, _, rfl, ?_⟩
    exact two_tail W m32 _ _ 3 _ _ _ _ _ _ _ _ (hao.le l32) (ham.le l32) hbo hbm (runP_len _ _ _ _) (runP_room l0 a1 l2 a3 (a4 % 300) (by omega) (by omega) (by omega) (by omega))

theorem law_SeqInput (W : World) (A0 : Option Addr) (n0 c0 : Nat) (l0 : List Ins) (z0 : l0.length = n0) (hlc0 : n0 ≤ c0) (rd0 : Reads (mOf W) 5 A0 n0 (insCells l0)) (y0 : n0 * 40 ≤ 140737488351232) (hw0 : ∀ i ∈ l0, i.wf) (a1 : Int) (w1 : (Lit.int .i64 a1).wf = true)
    (A2 : Option Addr) (n2 c2 : Nat) (l2 : List Int) (z2 : l2.length = n2) (hlc2 : n2 ≤ c2) (rd2 : Reads (mOf W) 1 A2 n2 (intCells .i64 l2)) (y2 : n2 * 8 ≤ 140737488351232) (hw2 : ∀ i ∈ l2, (Lit.int .i64 i).wf = true)
    (A3 : Option Addr) (n3 c3 : Nat) (l3 : List Int) (z3 : l3.length = n3) (hlc3 : n3 ≤ c3) (rd3 : Reads (mOf W) 1 A3 n3 (intCells .i64 l3)) (y3 : n3 * 8 ≤ 140737488351232) (hw3 : ∀ i ∈ l3, (Lit.int .i64 i).wf = true) (a4 : Int) (w4 : (Lit.int .i64 a4).wf = true) :
    CallsA Try.prog W 9 #[.slice A0 n0 c0, .int .i64 a1, .slice A2 n2 c2, .slice A3 n3 c3, .int .i64 a4] (mOf W) (fun r _ => r = .bool true) := by
  refine cf9 W _ A0 n0 c0 a1 A2 n2 c2 A3 n3 c3 a4 _ ?_
  refine CallsA.mono (small7 W _ A0 n0 c0 a1 A2 n2 c2 a4) ?_
  rintro r m3 ⟨rfl, rfl⟩
  refine ⟨_, rfl, ?_⟩
  cases hs : smallB n0 a1 n2 a4 with
  | false => exact ⟨rfl, aw7 W _⟩
  | true =>
    obtain ⟨s1, s2, s3, s4⟩ := smallB_spec hs
    refine bcF ⟨rfl, ?_⟩
    by_cases h0 : ((n3 : Nat) : Int) > 100
    · exact bcET (by rw [decide_eq_true h0]; rfl) (aw7 W _)
    refine bcEF (by rw [decide_eq_false h0]; rfl) ?_
    refine CallsA.mono (run_of W _ A0 n0 c0 l0 a1 A2 n2 c2 l2 a4 z0 z2 (wf_i64 w4) rd0 rd2 (by omega)) ?_
    rintro r m19 ⟨l19, Ao, co, Am, cm, rfl, hao, ham⟩
    refine ⟨_, _, _, _, _, _, _, _, rfl, rfl, ?_⟩
    refine app2 el23 (rd2.le l19) (rd3.le l19) (int_one l2) (int_one l3) (by omega) (by omega) fun A c m28 l28 o28 n28 => ?_
    have e : intCells .i64 l2 ++ intCells .i64 l3 = intCells .i64 (l2 ++ l3) := by simp [intCells]
    rw [e] at o28
    refine CallsA.mono (run_of W m28 A0 n0 c0 l0 a1 A (n2 + n3) c (l2 ++ l3) a4 z0 (by simp [z2, z3]) (wf_i64 w4) ((rd0.le l19).le l28) o28.reads (by omega)) ?_
    rintro r m41 ⟨l41, Bo, cbo, Bm, cbm, rfl, hbo, hbm⟩
    refine ⟨_, _, _, _, _, _, _, _, rfl, ?_⟩
    exact two_tail W m41 _ _ 6 _ _ _ _ _ _ _ _ ((hao.le l28).le l41) ((ham.le l28).le l41) hbo hbm (runP_len _ _ _ _) (runP_input l0 a1 l2 l3 a4)

theorem law_SeqBehind (W : World) (A0 : Option Addr) (n0 c0 : Nat) (l0 : List Ins) (z0 : l0.length = n0) (hlc0 : n0 ≤ c0) (rd0 : Reads (mOf W) 5 A0 n0 (insCells l0)) (y0 : n0 * 40 ≤ 140737488351232) (hw0 : ∀ i ∈ l0, i.wf)
    (A1 : Option Addr) (n1 c1 : Nat) (l1 : List Ins) (z1 : l1.length = n1) (hlc1 : n1 ≤ c1) (rd1 : Reads (mOf W) 5 A1 n1 (insCells l1)) (y1 : n1 * 40 ≤ 140737488351232) (hw1 : ∀ i ∈ l1, i.wf) (a2 : Int) (w2 : (Lit.int .i64 a2).wf = true)
    (A3 : Option Addr) (n3 c3 : Nat) (l3 : List Int) (z3 : l3.length = n3) (hlc3 : n3 ≤ c3) (rd3 : Reads (mOf W) 1 A3 n3 (intCells .i64 l3)) (y3 : n3 * 8 ≤ 140737488351232) (hw3 : ∀ i ∈ l3, (Lit.int .i64 i).wf = true) (a4 : Int) (w4 : (Lit.int .i64 a4).wf = true) :
    CallsA Try.prog W 10 #[.slice A0 n0 c0, .slice A1 n1 c1, .int .i64 a2, .slice A3 n3 c3, .int .i64 a4] (mOf W) (fun r _ => r = .bool true) := by
  refine cf10 W _ A0 n0 c0 A1 n1 c1 a2 A3 n3 c3 a4 _ ?_
  refine CallsA.mono (small7 W _ A0 n0 c0 a2 A3 n3 c3 a4) ?_
  rintro r m3 ⟨rfl, rfl⟩
  refine ⟨_, rfl, ?_⟩
  cases hs : smallB n0 a2 n3 a4 with
  | false => exact ⟨rfl, aw7 W _⟩
  | true =>
    obtain ⟨s1, s2, s3, s4⟩ := smallB_spec hs
    refine bcF ⟨rfl, ?_⟩
    by_cases h0 : ((n1 : Nat) : Int) > 200
    · exact bcET (by rw [decide_eq_true h0]; rfl) (aw7 W _)
    refine bcEF (by rw [decide_eq_false h0]; rfl) ?_
    refine CallsA.mono (run_of W _ A0 n0 c0 l0 a2 A3 n3 c3 l3 a4 z0 z3 (wf_i64 w4) rd0 rd3 (by omega)) ?_
    rintro r m19 ⟨l19, Ao, co, Am, cm, rfl, hao, ham⟩
    refine ⟨_, _, _, _, _, _, _, _, rfl, rfl, ?_⟩
    refine app2 el22 (rd0.le l19) (rd1.le l19) (insCells_one l0) (insCells_one l1) (by omega) (by omega) fun A c m28 l28 o28 n28 => ?_
    rw [← insCells_app] at o28
    refine CallsA.mono (run_of W m28 A (n0 + n1) c (l0 ++ l1) a2 A3 n3 c3 l3 a4 (by simp [z0, z1]) z3 (wf_i64 w4) o28.reads ((rd3.le l19).le l28) (by omega)) ?_
    rintro r m41 ⟨l41, Bo, cbo, Bm, cbm, rfl, hbo, hbm⟩
    refine ⟨_, _, _, _, _, _, _, _, rfl, ?_⟩
    exact two_tail W m41 _ _ 2 _ _ _ _ _ _ _ _ ((hao.le l28).le l41) ((ham.le l28).le l41) hbo hbm (runP_len _ _ _ _) (runP_behind l0 l1 a2 l3 a4 (by omega))
end Go.Proofs.Ytadcbnldahcelaa.S
