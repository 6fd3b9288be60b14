/- Ytkfemiloehkmhaa: a text of our own, by an AI agent: La11H -/
import Derived.Test.YtkfemiloehkmhaaOeBH
import Derived.Test.YtkfemiloehkmhaaVLaw11dH
set_option linter.unusedSimpArgs false
set_option linter.unusedVariables false
set_option maxRecDepth 100000
namespace Go.Proofs.Ytkfemiloehkmhaa.S
open Go Go.RowKit Go.Alog Go.Proofs.Ytkfemiloehkmhaa.T Go.Proofs.Ytkfemiloehkmhaa.V

theorem law_SchedFree (W : World) (A0 : Option Addr) (n0 c0 : Nat) (l0 : List Ins) (z0 : l0.length = n0) (hlc0 : n0 ≤ c0) (rd0 : Reads (mOf W) 5 A0 n0 (insCells l0)) (y0 : n0 * 40 ≤ 140737488351232) (hw0 : ∀ i ∈ l0, i.wf) :
    CallsA Try.prog W 14 #[.slice A0 n0 c0] (mOf W) (fun r _ => r = .bool true) := by
  subst z0
  generalize hm : mOf W = m
  rw [hm] at rd0
  generalize hR : (fun (r : Value) (_ : AM) => r = Value.bool true) = R
  have aw : ∀ M : AM, CallsA Try.prog W 32 #[] M (fun r m' => ∃ t : Bool, r = .bool t ∧ RetP R (.bool t) m') := fun M => by rw [← hR]; exact aw11' W M
  have awB : ∀ (M : AM) {b : Bool}, b = true → CallsA Try.prog W 32 #[] M (fun r m' => ∃ t : Bool, r = .bool t ∧ RetP R (.bool (bif b then t else false)) m') := fun M b hb => by rw [← hR]; exact aw11 W M hb
  refine cf14 W m A0 _ c0 R ⟨rfl, bcP (fun h => aw m) fun h => ?_⟩
  refine vl14_11010 W m _ R A0 _ c0 l0.length 0 (fun q k m' => m' = m ∧ 0 ≤ k ∧ k ≤ l0.length ∧ (q : Int) = l0.length - k ∧ ∀ i j : Nat, i < j → j < l0.length → (i : Int) < k → farP (cAt l0 i) (cAt l0 j) ≤ 0) (fun m' => m' = m ∧ FreeL l0) l0.length rfl rfl rfl ⟨rfl, by omega, by omega, by omega, fun i j h1 h2 h3 => by omega⟩ ?_ ?_
  · rintro q σ k m' ⟨rfl, k0, k1, hq, hp⟩
    refine ⟨rfl, bcP (fun hlt => ⟨rfl, ?_⟩) (fun hlt => ?_)⟩
    · have wk : IntKind.wrap .i64 (k + 1) = k + 1 := wrap_s (by omega) (by omega)
      rw [wk]
      refine vl14_1101001100110 W m' _ R q _ _ A0 _ c0 k l0.length k (k + 1) (fun q2 j m2 => m2 = m' ∧ k + 1 ≤ j ∧ j ≤ l0.length ∧ (q2 : Int) = l0.length - j ∧ ∀ p : Nat, k < p → (p : Int) < j → farP (cAt l0 k) (cAt l0 p) ≤ 0) (fun m2 => m2 = m' ∧ ∀ p : Nat, k < p → p < l0.length → farP (cAt l0 k) (cAt l0 p) ≤ 0) (l0.length - (k.toNat + 1)) rfl rfl rfl rfl rfl ⟨rfl, by omega, by omega, by omega, fun p h1 h2 => by omega⟩ ?_ ?_
      · rintro q2 σ j m2 ⟨rfl, j0, j1, hq2, hpj⟩
        refine ⟨rfl, bcP (fun hlt2 => ?_) (fun hlt2 => ?_)⟩
        · have wj : IntKind.wrap .i64 (j + 1) = j + 1 := wrap_s (by omega) (by omega)
          rw [wj]
          refine ldAt rd0 rfl k0 hlt fun a => ldAt rd0 rfl (by omega) hlt2 fun a2 => callI (refFar_e W m2 (cAt l0 k) (cAt l0 j)) ⟨rfl, bcP (fun h3 => aw m2) fun h3 => ?_⟩
          (repeat (refine And.intro (Eq.refl _) ?_))
          refine ⟨q2 - 1, by omega, rfl, by omega, by omega, by omega, fun p h1 h2 => ?_⟩
          by_cases e : (p : Int) = j
          · rw [e]; omega
          · exact hpj p h1 (by omega)
        · (repeat (refine And.intro (Eq.refl _) ?_))
          exact fun p h1 h2 => hpj p h1 (by omega)
      · rintro σ m2 ⟨rfl, hpj⟩
        (repeat (refine And.intro (Eq.refl _) ?_))
        rw [wk]
        refine ⟨q - 1, by omega, rfl, by omega, by omega, by omega, fun i j h1 h2 h3 => ?_⟩
        by_cases e : (i : Int) = k
        · rw [e]; exact hpj j (by omega) h2
        · exact hp i j h1 h2 (by omega)
    · (repeat (refine And.intro (Eq.refl _) ?_))
      exact fun i j h1 h2 => hp i j h1 h2 (by omega)
  · rintro σ m' ⟨rfl, hfree⟩
    refine CallsA.mono (order_spec W m' A0 c0 l0 (by omega) rd0) ?_
    rintro r m1 ⟨⟨A5, c5, rfl, o5, n5⟩, l1⟩
    rw [ordP_freeL hfree] at o5 ⊢
    have hlen := idL_len l0.length
    have hget : ∀ k : Nat, k < l0.length → (idL l0.length).getD k 0 = k := fun k hk => by unfold idL; simp [List.getD, hk]
    generalize idL l0.length = o at hlen o5 hget ⊢
    refine ⟨_, _, _, rfl, ?_⟩
    refine vl14_1111010 W m1 _ R A0 _ c0 A5 o.length c5 o.length 0 (fun q k m2 => m2 = m1 ∧ 0 ≤ k ∧ k ≤ o.length ∧ (q : Int) = o.length - k) (fun m2 => m2 = m1) o.length rfl rfl rfl rfl ⟨rfl, by omega, by omega, by omega⟩ ?_ ?_
    · rintro q σ k m2 ⟨rfl, k0, k1, hq⟩
      refine ⟨rfl, bcP (fun hlt => ⟨⟨k0, hlt⟩, ?_⟩) (fun hlt => by (repeat (refine And.intro (Eq.refl _) ?_)); rfl)⟩
      obtain ⟨a1, hA1, hc⟩ := o5.ex (by omega)
      have wk : IntKind.wrap .i64 (k + 1) = k + 1 := wrap_s (by omega) (by omega)
      have hx := cell_k hc k0 hlt
      rw [hget k.toNat (by omega), show ((k.toNat : Nat) : Int) = k by omega] at hx
      subst hA1
      rw [nilO_some, wk]
      refine ⟨_, hx, rfl, bcEF (by simp) ?_⟩
      (repeat (refine And.intro (Eq.refl _) ?_))
      exact ⟨q - 1, by omega, rfl, by omega, by omega, by omega⟩
    · rintro σ m2 rfl
      have e : ((o.length : Int) == l0.length) = true := by rw [hlen]; simp
      exact ⟨rfl, bcET e (awB m2 e)⟩

theorem law_SchedAlone (W : World) (i0 : Ins) (wi0 : i0.wf) :
    CallsA Try.prog W 16 #[i0.val] (mOf W) (fun r _ => r = .bool true) := by
  generalize hm : mOf W = m
  generalize hR : (fun (r : Value) (_ : AM) => r = Value.bool true) = R
  have awB : ∀ (M : AM) {b : Bool}, b = true → CallsA Try.prog W 32 #[] M (fun r m' => ∃ t : Bool, r = .bool t ∧ RetP R (.bool (bif b then t else false)) m') := fun M b hb => by rw [← hR]; exact aw11 W M hb
  refine cf16 W m _ _ _ _ _ R ?_
  intro b hBb hNb M
  have l : AM.le _ M := le_new hNb _
  have p : M b = some (.cells (Ins.cells i0).toArray 24) := upd_get_same
  clear_value M
  refine ⟨rfl, fun b3 hb3 hn3 => ?_⟩
  have l4 := le_new hn3 (.cells #[.int .i64 0] 3)
  have r4 : Reads (M.upd b3 (.cells #[.int .i64 0] 3)) 1 (some ⟨b3, 0, none⟩) 1 (intCells .i64 [0]) := Reads.lit (cs := intCells .i64 [0]) rfl
  try dsimp only
  generalize M.upd b3 (.cells #[.int .i64 0] 3) = M4 at l4 r4 ⊢
  replace p := l4 _ _ p
  have K : ∀ (M5 : AM) (σ : Sg) (A3 : Option Addr) (n3 c3 : Nat) (w : List Int), M4.le M5 → σ 1 = .pointer (some ⟨b, 0, none⟩) → σ 3 = .slice A3 n3 c3 → w.length = n3 → Reads M5 1 A3 n3 (intCells .i64 w) → w = layP [i0] → (vcS Try.prog W qs16 (sub c16 [1, 1, 1]) σ M5 (retQ Try.prog Try.f16 R)) := by
    intro M5 σ A3 n3 c3 w l5 h1 h3 hw r3 hlay
    refine vk16_111 W M5 σ R b A3 n3 c3 h1 h3 ?_
    have p5 := l5 _ _ p
    refine ldIns p5 ⟨rfl, fun b30 hb30 hn30 => ?_⟩
    have l6 := le_new hn30 (.cells #[.int .i64 i0.op, .int .i64 i0.a, .int .i64 i0.b, .int .i64 i0.c, .int .i64 i0.imm] 24)
    have r6 : Reads (M5.upd b30 (.cells #[.int .i64 i0.op, .int .i64 i0.a, .int .i64 i0.b, .int .i64 i0.c, .int .i64 i0.imm] 24)) 5 (some ⟨b30, 0, none⟩) [i0].length (insCells [i0]) := Reads.lit (cs := insCells [i0]) rfl
    try dsimp only
    generalize M5.upd b30 (.cells #[.int .i64 i0.op, .int .i64 i0.a, .int .i64 i0.b, .int .i64 i0.c, .int .i64 i0.imm] 24) = M6 at l6 r6 ⊢
    have hll : (layP [i0]).length ≤ 3 := layP_len [i0]
    refine CallsA.mono (lay_spec W M6 (some ⟨b30, 0, none⟩) 1 [i0] (by simp) (by simp) r6) ?_
    rintro r M7 ⟨⟨A7, c7, rfl, o7, n7⟩, l7⟩
    subst hlay; subst hw
    refine ⟨_, _, _, rfl, callB (same_e W M7 A7 _ c7 (layP [i0]) A3 _ c3 (layP [i0]) rfl rfl (by omega) o7.reads ((r3.le l6).le l7)) ?_⟩
    rw [decide_eq_true rfl]
    have p7 := l7 _ _ (l6 _ _ p5)
    refine bcT (ldIns p7 ⟨rfl, fun b45 hb45 hn45 => ?_⟩)
    have l8 := le_new hn45 (.cells #[.int .i64 i0.op, .int .i64 i0.a, .int .i64 i0.b, .int .i64 i0.c, .int .i64 i0.imm] 24)
    have r8 : Reads (M7.upd b45 (.cells #[.int .i64 i0.op, .int .i64 i0.a, .int .i64 i0.b, .int .i64 i0.c, .int .i64 i0.imm] 24)) 5 (some ⟨b45, 0, none⟩) [i0].length (insCells [i0]) := Reads.lit (cs := insCells [i0]) rfl
    try dsimp only
    generalize M7.upd b45 (.cells #[.int .i64 i0.op, .int .i64 i0.a, .int .i64 i0.b, .int .i64 i0.c, .int .i64 i0.imm] 24) = M8 at l8 r8 ⊢
    refine CallsA.mono (order_spec W M8 (some ⟨b45, 0, none⟩) 1 [i0] (by simp) r8) ?_
    rintro r M9 ⟨⟨A9, c9, rfl, o9, n9⟩, l9⟩
    rw [alone_ord] at o9 ⊢
    refine ⟨_, _, _, rfl, rfl, fun b52 hb52 hn52 => ?_⟩
    have l10 := le_new hn52 (.cells #[.int .i64 0] 3)
    have r10 : Reads (M9.upd b52 (.cells #[.int .i64 0] 3)) 1 (some ⟨b52, 0, none⟩) 1 (intCells .i64 [0]) := Reads.lit (cs := intCells .i64 [0]) rfl
    try dsimp only
    generalize M9.upd b52 (.cells #[.int .i64 0] 3) = M10 at l10 r10 ⊢
    refine callB (same_e W M10 A9 _ c9 [0] (some ⟨b52, 0, none⟩) 1 1 [0] rfl rfl (by decide) (o9.le l10).reads r10) ?_
    rw [decide_eq_true rfl]
    exact bcT (awB M10 rfl)
  have two : ∀ (M5 : AM) (b13 : Nat), M4.le M5 → M5 b13 = none → M4.le (M5.upd b13 (.cells #[.int .i64 0, .int .i64 (-1)] 3)) ∧ Reads (M5.upd b13 (.cells #[.int .i64 0, .int .i64 (-1)] 3)) 1 (some ⟨b13, 0, none⟩) 2 (intCells .i64 [0, -1]) := fun M5 b13 l5 hn => ⟨AM.le_trans l5 (le_new hn _), Reads.lit (cs := intCells .i64 [0, -1]) rfl⟩
  have hal := alone_lay i0
  refine ldIns p (callB (refGoes_e W M4 i0) ?_)
  cases hg : goesP i0 with
  | true =>
    refine bcT ⟨rfl, rfl, fun b13 hb13 hn13 => ?_⟩
    obtain ⟨l5, r5⟩ := two M4 b13 (AM.le_refl _) hn13
    refine K _ _ _ 2 2 [0, -1] l5 rfl rfl rfl r5 ?_
    rw [hal, hg, if_pos (.inl rfl)]
  | false =>
    refine bcF (ldIns p (callB (refLate_e W M4 i0) ?_))
    cases hl : lateP i0 with
    | true =>
      refine bcT ⟨rfl, fun b23 hb23 hn23 => ?_⟩
      obtain ⟨l5, r5⟩ := two M4 b23 (AM.le_refl _) hn23
      refine K _ _ _ 2 2 [0, -1] l5 rfl rfl rfl r5 ?_
      rw [hal, hg, hl, if_pos (.inr rfl)]
    | false =>
      refine bcF ?_
      refine K M4 _ _ 1 1 [0] (AM.le_refl _) rfl rfl rfl r4 ?_
      rw [hal, hg, hl, if_neg (by simp)]
end Go.Proofs.Ytkfemiloehkmhaa.S
