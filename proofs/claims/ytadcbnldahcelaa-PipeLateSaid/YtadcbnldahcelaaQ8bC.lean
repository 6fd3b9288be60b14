/- Ytadcbnldahcelaa: a text of our own, by an AI agent: Q8bC -/
import Derived.Test.YtadcbnldahcelaaQ8C
import Derived.Test.YtadcbnldahcelaaP8DC
import Derived.Test.YtadcbnldahcelaaL7bC
import Derived.Test.YtadcbnldahcelaaVLaw8sC
set_option linter.unusedSimpArgs false
set_option linter.unusedVariables false
set_option maxRecDepth 100000
namespace Go.Proofs.Ytadcbnldahcelaa.S
open Go Go.RowKit Go.Alog Go.Proofs.Ytadcbnldahcelaa.T Go.Proofs.Ytadcbnldahcelaa.V

theorem mOf_ge {W : World} {b : Nat} (h : mOf W b = none) : W.heap.size ≤ b := by
  rcases Nat.lt_or_ge b W.heap.size with h1 | h1
  · simp [mOf, h1] at h
  · exact h1

theorem law_PipeStraight (W : World) (A0 : Option Addr) (n0 c0 : Nat) (l0 : List Ins) (z0 : l0.length = n0) (hlc0 : n0 ≤ c0) (rd0 : Reads (mOf W) 5 A0 n0 (insCells l0)) (y0 : n0 * 40 ≤ 140737488351232) (hw0 : ∀ i ∈ l0, i.wf) (a1 : Int) (w1 : (Lit.int .u8 a1).wf = true) :
    CallsA Try.prog W 19 #[.slice A0 n0 c0, .int .u8 a1] (mOf W) (fun r _ => r = .bool true) := by
  refine cf19 W _ A0 n0 c0 a1 _ ?_
  refine vl19_1010 W _ _ _ A0 n0 c0 a1 A0 n0 c0 (n0 : Int) 0 (fun k i m' => (mOf W).le m' ∧ 0 ≤ i ∧ i ≤ n0 ∧ (k : Int) = n0 - i ∧ (∀ j, j < i.toNat → (l0.getD j default).op ≤ 11) ∧ (0 < i → n0 ≤ 100)) (fun m' => (mOf W).le m' ∧ (∀ j, j < n0 → (l0.getD j default).op ≤ 11) ∧ n0 ≤ 100) n0 rfl rfl rfl rfl rfl ⟨AM.le_refl _, by omega, by omega, by omega, fun j hj => by omega, by omega⟩ ?_ ?_
  · rintro k σ i m' ⟨L, h0, h1, hk, hp, h200⟩
    refine ⟨rfl, ?_⟩
    by_cases c1 : i < n0
    · refine bcET (decide_eq_true c1) ⟨⟨h0, c1⟩, ?_⟩
      obtain ⟨ad, hA, hc⟩ := (rd0.le L).ex (by omega)
      have hlt : i.toNat < l0.length := by omega
      have hi := hc.ins (List.getElem?_eq_getElem hlt)
      have hd : l0.getD i.toNat default = l0[i.toNat] := by simp [List.getD, hlt]
      rw [← hd] at hi
      rw [hA]
      refine ⟨_, hi.1, _, hi.2.1, _, hi.2.2.1, _, hi.2.2.2.1, _, hi.2.2.2.2, ?_⟩
      refine blk5 fun b M lM nb hb pb => ?_
      refine ⟨_, cel pb rfl, rfl, ?_⟩
      have hx := fun (h : (l0.getD i.toNat default).op ≤ 11) (j : Nat) (hj : j < (i + 1).toNat) => show (l0.getD j default).op ≤ 11 from if e : j = i.toNat then e ▸ h else hp j (by omega)
      generalize l0.getD i.toNat default = x at hx pb ⊢
      by_cases g1 : x.op > 11
      · exact bcET (decide_eq_true g1) ⟨decide_eq_true g1, aw8 W _⟩
      have d1 := decide_eq_false g1
      refine bcEF d1 ⟨rfl, ?_⟩
      by_cases g4 : ((n0 : Nat) : Int) > 100
      · exact bcET (by rw [d1, decide_eq_true g4]; rfl) (aw8 W _)
      have w : IntKind.wrap .i64 (i + 1) = i + 1 := by rw [IntKind.wrap_i64]; omega
      refine bcEF (by rw [d1, decide_eq_false g4]; rfl) ⟨rfl, rfl, rfl, rfl, rfl, rfl, k - 1, by omega, ?_⟩
      rw [w]
      exact ⟨AM.le_trans L lM, by omega, by omega, by omega, hx (by omega), fun _ => by omega⟩
    · refine bcEF (decide_eq_false c1) ⟨rfl, rfl, rfl, rfl, L, fun j hj => hp j (by omega), ?_⟩
      rcases Nat.eq_zero_or_pos n0 with e | e
      · omega
      · exact h200 (by omega)
  · rintro σ m' ⟨L, hp, h2⟩
    have hpl : ∀ x ∈ l0, x.op ≤ 11 := by
      intro x hx
      obtain ⟨j, hj, rfl⟩ := List.mem_iff_getElem.1 hx
      have := hp j (by omega)
      simpa [List.getD, hj] using this
    refine ⟨rfl, ?_⟩
    intro b hb hmb m1
    have l1 : m'.le m1 := le_new hmb _
    have ow1 : Own m1 W.heap.size 34 5 (some ⟨b, 0, none⟩) 0 0 [] := Own.new m' hb 34 5 0 [] (by simp)
    have hfresh : ∀ k ∈ obl (some (⟨b, 0, none⟩ : Addr)), m' k = none := fun k hk => by simp [obl] at hk; subst hk; exact hmb
    clear_value m1
    refine awp_append_loc (m0 := m') el22 l1 ow1 hfresh ((rd0.le L).le l1) (insCells_one l0) (by omega) (by omega) (fun A' c' m24 l24 f24 o24 n24 _ => ?_)
    refine ⟨A', 0 + n0, c', rfl, rfl, by decide, rfl, rfl, rfl, ?_⟩
    intro b28 hb28 hm28 m29
    have l29 : m24.le m29 := le_new hm28 _
    have h8 : 0 ≤ a1 ∧ a1 ≤ 255 := by
      have h := w1
      unfold Lit.wf at h
      simp only [Bool.and_eq_true, decide_eq_true_eq] at h
      exact h
    have hmod : IntKind.wrap .i64 (Int.tmod a1 32) = a1 % 32 := by rw [Int.tmod_eq_emod_of_nonneg h8.1, IntKind.wrap_i64]; omega
    have rd28 : Reads m29 5 (some ⟨b28, 0, none⟩) 2 (insCells [⟨13, a1 % 32, 0, 0, 3⟩, ⟨20, 0, 0, 0, 0⟩]) := by
      simp only [m29, hmod]
      exact Reads.lit rfl
    clear_value m29
    refine awp_append_loc (m0 := m') el22 (AM.le_trans l24 l29) (o24.le l29) n24 rd28 (insCells_one _) (by omega) (by omega) (fun A2 c2 m31 l31 f31 o31 n31 _ => ?_)
    refine ⟨A2, 0 + n0 + 2, c2, rfl, ?_⟩
    rw [List.nil_append, ← insCells_app] at o31
    have hall : ∀ i ∈ l0 ++ [⟨13, a1 % 32, 0, 0, 3⟩, ⟨20, 0, 0, 0, 0⟩], calmI i := by
      intro i hi
      rcases List.mem_append.1 hi with h | h
      · exact .inl (hpl i h)
      · simp only [List.mem_cons, List.not_mem_nil, or_false] at h
        rcases h with rfl | rfl
        · exact .inr (.inl rfl)
        · exact .inr (.inr ⟨rfl, rfl⟩)
    have hlen : (l0 ++ [(⟨13, a1 % 32, 0, 0, 3⟩ : Ins), ⟨20, 0, 0, 0, 0⟩]).length = 0 + n0 + 2 := by simp [z0]
    generalize l0 ++ [(⟨13, a1 % 32, 0, 0, 3⟩ : Ins), ⟨20, 0, 0, 0, 0⟩] = all at o31 hall hlen
    have L31 := AM.le_trans L l31
    refine CallsA.mono (run_of W m31 A2 (0 + n0 + 2) c2 all 9 none 0 0 [] 1000 hlen rfl (by constructor <;> decide) o31.reads (Reads.nil _ 1) (by decide)) ?_
    rintro r m44 ⟨l44, Ao, co, Am, cm, rfl, hao, ham⟩
    refine ⟨_, _, _, _, _, _, _, _, rfl, ?_⟩
    refine CallsA.mono (run_ofP W m44 A2 (0 + n0 + 2) c2 all 9 none 0 0 [] 1000 hlen rfl (by constructor <;> decide) (o31.reads.le l44) (Reads.nil _ 1) (by decide)) ?_
    rintro r m54 ⟨l54, Bo, cbo, Bm, cbm, rfl, hbo, hbm⟩
    refine ⟨_, _, _, _, _, _, _, _, rfl, ?_⟩
    refine blk4x2 fun b55 b57 M lM nb nc hne pb pc => ?_
    have hst := runPP_straight all hall (by omega)
    have hln := runP_len all 9 [] 1000
    have hk : 0 ≤ (runP all 9 [] 1000).steps ∧ (runP all 9 [] 1000).steps ≤ 1000 := by
      unfold runP
      rw [if_neg (by omega)]
      have h := runG_steps all (1000 : Int).toNat (beginS 9 [], 0, 0)
      exact ⟨h.1, by simpa using h.2.1⟩
    have hao' := ((hao.le l54).le lM)
    have ham' := ((ham.le l54).le lM)
    have hbo' := hbo.le lM
    have hbm' := hbm.le lM
    clear hao ham hbo hbm
    generalize runP all 9 [] 1000 = ra at *
    generalize runPP all 9 [] 1000 = rb at *
    refine ⟨_, cel pb rfl, rfl, ?_⟩
    have hbB : W.heap.size ≤ b55 := mOf_ge (AM.le_none (AM.le_trans (AM.le_trans L31 l44) l54) nb)
    have w3 : IntKind.wrap .i64 (ra.steps + 3) = ra.steps + 3 := by rw [IntKind.wrap_i64]; omega
    refine StC_own pb hbB (by simp) ?_
    rw [w3]
    have pb2 : (M.upd b55 (.cells ((#[.int .i64 ra.trap, .int .i64 ra.steps, .slice Ao ra.out.length co, .slice Am ra.mem.length cm] : Array Value).setIfInBounds 1 (.int .i64 (ra.steps + 3))) 29)) b55 = some (.cells #[.int .i64 ra.trap, .int .i64 (ra.steps + 3), .slice Ao ra.out.length co, .slice Am ra.mem.length cm] 29) := upd_get_same
    have pc2 : (M.upd b55 (.cells ((#[.int .i64 ra.trap, .int .i64 ra.steps, .slice Ao ra.out.length co, .slice Am ra.mem.length cm] : Array Value).setIfInBounds 1 (.int .i64 (ra.steps + 3))) 29)) b57 = M b57 := upd_get_ne (Ne.symm hne)
    rw [pc] at pc2
    have hao2 := hao'.upd (hao'.ne_type pb (by decide)) (o := .cells ((#[.int .i64 ra.trap, .int .i64 ra.steps, .slice Ao ra.out.length co, .slice Am ra.mem.length cm] : Array Value).setIfInBounds 1 (.int .i64 (ra.steps + 3))) 29)
    have ham2 := ham'.upd (ham'.ne_type pb (by decide)) (o := .cells ((#[.int .i64 ra.trap, .int .i64 ra.steps, .slice Ao ra.out.length co, .slice Am ra.mem.length cm] : Array Value).setIfInBounds 1 (.int .i64 (ra.steps + 3))) 29)
    have hbo2 := hbo'.upd (hbo'.ne_type pb (by decide)) (o := .cells ((#[.int .i64 ra.trap, .int .i64 ra.steps, .slice Ao ra.out.length co, .slice Am ra.mem.length cm] : Array Value).setIfInBounds 1 (.int .i64 (ra.steps + 3))) 29)
    have hbm2 := hbm'.upd (hbm'.ne_type pb (by decide)) (o := .cells ((#[.int .i64 ra.trap, .int .i64 ra.steps, .slice Ao ra.out.length co, .slice Am ra.mem.length cm] : Array Value).setIfInBounds 1 (.int .i64 (ra.steps + 3))) 29)
    generalize M.upd b55 (.cells ((#[.int .i64 ra.trap, .int .i64 ra.steps, .slice Ao ra.out.length co, .slice Am ra.mem.length cm] : Array Value).setIfInBounds 1 (.int .i64 (ra.steps + 3))) 29) = M2 at pb2 pc2 hao2 ham2 hbo2 hbm2 ⊢
    refine ⟨_, cel pb2 rfl, _, cel pb2 rfl, _, _, _, cel pb2 rfl, _, _, _, cel pb2 rfl, _, cel pc2 rfl, _, cel pc2 rfl, _, _, _, cel pc2 rfl, _, _, _, cel pc2 rfl, ?_⟩
    refine CallsA.mono (equal_spec W M2 { ra with steps := ra.steps + 3 } rb Ao Am Bo Bm co cm cbo cbm hao2.reads ham2.reads hbo2.reads hbm2.reads hln) ?_
    rintro r m' ⟨rfl, _⟩
    have heq : decide ({ ra with steps := ra.steps + 3 } = rb) = true := decide_eq_true hst.symm
    exact ⟨_, rfl, bcET heq (aw8B W _ heq)⟩

theorem law_PipeSlots (W : World) (a0 : Int) (w0 : (Lit.int .u16 a0).wf = true) (a1 : Int) (w1 : (Lit.int .u16 a1).wf = true) (a2 : Int) (w2 : (Lit.int .u8 a2).wf = true) :
    CallsA Try.prog W 16 #[.int .u16 a0, .int .u16 a1, .int .u8 a2] (mOf W) (fun r _ => r = .bool true) := by
  refine cf16 W _ a0 a1 a2 _ ?_
  refine ⟨rfl, by decide, rfl, by decide, rfl, by decide, rfl, rfl, rfl, rfl, ?_⟩
  have h0 := wf_u16 w0
  have h1 := wf_u16 w1
  have h2 := wf_u8 w2
  have e0 : IntKind.wrap .i64 (Int.tmod a0 32768) = a0 % 32768 := by rw [Int.tmod_eq_emod_of_nonneg h0.1, IntKind.wrap_i64]; omega
  have e1 : IntKind.wrap .i64 (Int.tmod a1 32768) = a1 % 32768 := by rw [Int.tmod_eq_emod_of_nonneg h1.1, IntKind.wrap_i64]; omega
  have e2 : IntKind.wrap .i64 (Int.tmod a2 51) = a2 % 51 := by rw [Int.tmod_eq_emod_of_nonneg h2.1, IntKind.wrap_i64]; omega
  have e3 : IntKind.wrap .i64 (a2 % 51 + 2) = a2 % 51 + 2 := by rw [IntKind.wrap_i64]; omega
  obtain ⟨N, hN⟩ : ∃ N : Nat, a2 % 51 = N := ⟨(a2 % 51).toNat, by omega⟩
  have hN5 : N ≤ 50 := by omega
  have hx : 0 ≤ a0 % 32768 ∧ a0 % 32768 < 32768 := by omega
  have hy : 0 ≤ a1 % 32768 ∧ a1 % 32768 < 32768 := by omega
  rw [e0, e1, e2, e3, hN]
  generalize a0 % 32768 = x at hx ⊢
  generalize a1 % 32768 = y at hy ⊢
  intro b1 hb1 hm1 m2
  have l2 : (mOf W).le m2 := le_new hm1 _
  have o2 : Own m2 W.heap.size 34 5 (some ⟨b1, 0, none⟩) 2 2 (insCells [⟨17, 0, 0, 0, (N : Int) + 2⟩, ⟨10, 4, 0, 0, x⟩]) := Own.new (mOf W) hb1 34 5 2 (insCells [⟨17, 0, 0, 0, (N : Int) + 2⟩, ⟨10, 4, 0, 0, x⟩]) rfl
  have n2 : ∀ k ∈ obl (some (⟨b1, 0, none⟩ : Addr)), mOf W k = none := fun k hk => by simp [obl] at hk; subst hk; exact hm1
  clear_value m2
  refine vl16_1111010 W m2 _ _ x y (N : Int) (some ⟨b1, 0, none⟩) 2 2 0
    (fun k A n c i m' => (mOf W).le m' ∧ 0 ≤ i ∧ i ≤ N ∧ (k : Int) = N - i ∧ n = 2 + i.toNat ∧ Own m' W.heap.size 34 5 A n c (insCells ([⟨17, 0, 0, 0, (N : Int) + 2⟩, ⟨10, 4, 0, 0, x⟩] ++ List.replicate i.toNat ⟨20, 0, 0, 0, 2⟩)) ∧ ∀ k ∈ obl A, mOf W k = none)
    (fun A n c m' => (mOf W).le m' ∧ n = 2 + N ∧ Own m' W.heap.size 34 5 A n c (insCells ([⟨17, 0, 0, 0, (N : Int) + 2⟩, ⟨10, 4, 0, 0, x⟩] ++ List.replicate N ⟨20, 0, 0, 0, 2⟩)) ∧ ∀ k ∈ obl A, mOf W k = none) N rfl rfl rfl rfl rfl ⟨l2, by omega, by omega, by omega, rfl, o2, n2⟩ ?_ ?_
  · rintro k σ A n c i m' ⟨L, i0, i1, hk, hn, ho, hnew⟩
    refine ⟨rfl, ?_⟩
    by_cases c1 : i < N
    · refine bcET (decide_eq_true c1) ⟨rfl, rfl, ?_⟩
      intro b3 hb3 hm3 m4
      have l4 : m'.le m4 := le_new hm3 _
      have rd : Reads m4 5 (some ⟨b3, 0, none⟩) 1 (insCells [⟨20, 0, 0, 0, 2⟩]) := Reads.lit rfl
      clear_value m4
      refine awp_append_loc (m0 := mOf W) el22 (AM.le_trans L l4) (ho.le l4) hnew rd (insCells_one _) (by omega) (by omega) (fun A' c' m6 l6 f6 o6 n6 _ => ?_)
      have w : IntKind.wrap .i64 (i + 1) = i + 1 := by rw [IntKind.wrap_i64]; omega
      refine ⟨A', n + 1, c', rfl, rfl, rfl, rfl, rfl, rfl, rfl, k - 1, by omega, ?_⟩
      rw [w]
      refine ⟨l6, by omega, by omega, by omega, by omega, ?_, n6⟩
      rw [← insCells_app, List.append_assoc] at o6
      rw [show (i + 1).toNat = i.toNat + 1 by omega, List.replicate_succ']
      exact o6
    · refine bcEF (decide_eq_false c1) ⟨rfl, rfl, rfl, rfl, L, by omega, ?_, hnew⟩
      have : i.toNat = N := by omega
      rw [this] at ho
      exact ho
  · rintro σ A n c m' ⟨L, hn, ho, hnew⟩
    refine ⟨rfl, rfl, rfl, rfl, rfl, ?_⟩
    intro b10 hb10 hm10 m11
    have l11 : m'.le m11 := le_new hm10 _
    have rd : Reads m11 5 (some ⟨b10, 0, none⟩) 4 (insCells [⟨20, 0, 0, 0, 2⟩, ⟨10, 4, 0, 0, y⟩, ⟨20, 0, 0, 0, 2⟩, ⟨20, 0, 0, 0, 0⟩]) := Reads.lit rfl
    clear_value m11
    refine awp_append_loc (m0 := mOf W) el22 (AM.le_trans L l11) (ho.le l11) hnew rd (insCells_one _) (by omega) (by omega) (fun A' c' m13 l13 f13 o13 n13 _ => ?_)
    refine ⟨A', n + 4, c', rfl, ?_⟩
    rw [← insCells_app] at o13
    have hlen : (slotsC N x y).length = n + 4 := by rw [slotsC_len]; omega
    refine CallsA.mono (run_ofP W m13 A' (n + 4) c' (slotsC N x y) 0 none 0 0 [] 50 hlen rfl (by constructor <;> decide) o13.reads (Reads.nil _ 1) (by decide)) ?_
    rintro r m26 ⟨l26, Ao, co, Am, cm, rfl, hao, ham⟩
    refine ⟨_, _, _, _, _, _, _, _, rfl, ?_⟩
    refine blk4 fun b27 M lM n27 hb27 p27 => ?_
    obtain ⟨r1, r2, r3⟩ := runPP_slots N hN5 x y hx hy
    have hao' := hao.le lM
    clear hao ham
    generalize runPP (slotsC N x y) 0 [] 50 = ra at *
    rw [r3] at hao'
    obtain ⟨ad, hA, hc⟩ := hao'.ex (by simp)
    have x0 : M.cell (ad.add 0) = some (.int .i64 x) := hc 0 _ rfl
    have x1 : M.cell (ad.add 1) = some (.int .i64 y) := hc 1 _ rfl
    have hl2 : ra.out.length = 2 := by rw [r3]; rfl
    have t1 : (ra.trap == 1) = true := by rw [r1]; rfl
    have t2 : (ra.steps == 9) = true := by rw [r2]; rfl
    have t3 : (((ra.out.length : Nat) : Int) == 2) = true := by rw [hl2]; rfl
    refine ⟨_, cel p27 rfl, rfl, bcET t1 ⟨_, cel p27 rfl, rfl, bcET (by rw [t1, t2]; rfl) ⟨_, _, _, cel p27 rfl, rfl, bcET (by rw [t1, t2, t3]; rfl) ⟨_, _, _, cel p27 rfl, ⟨by decide, by omega⟩, ?_⟩⟩⟩⟩
    rw [hA, nilO_some]
    have e8 : (bif bif bif ra.trap == 1 then ra.steps == 9 else false then ((ra.out.length : Nat) : Int) == 2 else false then x == x else false) = true := by rw [t1, t2, t3]; simp
    refine ⟨_, x0, rfl, bcET e8 ⟨_, _, _, cel p27 rfl, ⟨by decide, by omega⟩, ?_⟩⟩
    rw [hA, nilO_some]
    have e9 : (bif (bif bif bif ra.trap == 1 then ra.steps == 9 else false then ((ra.out.length : Nat) : Int) == 2 else false then x == x else false) then y == y else false) = true := by rw [e8]; simp
    exact ⟨_, x1, rfl, bcET e9 (aw8B W _ e9)⟩
end Go.Proofs.Ytadcbnldahcelaa.S
