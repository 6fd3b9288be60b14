/- Ytkfemiloehkmhaa: a text of our own, by an AI agent: Lc13H -/
import Derived.Test.YtkfemiloehkmhaaLw13H
import Derived.Test.YtkfemiloehkmhaaVLaw13cH
set_option linter.unusedSimpArgs false
set_option linter.unusedVariables false
set_option maxRecDepth 100000
namespace Go.Proofs.Ytkfemiloehkmhaa.S
open Go Go.RowKit Go.Alog Go.Proofs.Ytkfemiloehkmhaa.T Go.Proofs.Ytkfemiloehkmhaa.V

theorem law_ReorgNops (W : World) (a0 : Int) (w0 : (Lit.int .u8 a0).wf = true) :
    CallsA Try.prog W 19 #[.int .u8 a0] (mOf W) (fun r _ => r = .bool true) := by
  generalize hm : mOf W = m
  generalize hR : (fun (r : Value) (_ : AM) => r = Value.bool true) = R
  have hT : ∀ M : AM, R (.bool true) M := fun M => by rw [← hR]
  have ha : 0 ≤ a0 ∧ a0 ≤ 255 := by simpa [Lit.wf, IntKind.min, IntKind.max, IntKind.bits, IntKind.signed] using w0
  refine cf19 W m a0 R ?_
  have hmod : Int.tmod a0 100 = a0 % 100 := Int.tmod_eq_emod_of_nonneg ha.1
  have ew : IntKind.wrap .i64 (1 + IntKind.wrap .i64 (Int.tmod a0 100)) = 1 + a0 % 100 := by rw [hmod, wrap_s (i := a0 % 100) (by omega) (by omega), wrap_s (by omega) (by omega)]
  rw [ew]
  obtain ⟨N, hN⟩ : ∃ N, N = (1 + a0 % 100).toNat := ⟨_, rfl⟩
  have hNN : (1 + a0 % 100) = (N : Int) := by omega
  have hN0 : 0 < N := by omega
  have hN1 : N ≤ 100 := by omega
  rw [hNN, show ((N : Nat) : Int).toNat = N by omega]
  have w1 : IntKind.wrap .i64 ((N : Int) + 1) = N + 1 := wrap_s (by omega) (by omega)
  rw [w1]
  clear hNN hN ew hmod ha w0
  refine ⟨rfl, by decide, rfl, ⟨by omega, by omega, by omega, by omega⟩, fun b1 hb1 hn1 => ?_⟩
  have l1 := le_new hn1 (.cells (zeros [.int .i64 0, .int .i64 0, .int .i64 0, .int .i64 0, .int .i64 0] N).toArray 24 (0, 0))
  have r1 := nops_reads (m := m) (b := b1) N
  have eN : (List.replicate N nop).length = N := by simp
  try dsimp only
  generalize m.upd b1 (.cells (zeros [.int .i64 0, .int .i64 0, .int .i64 0, .int .i64 0, .int .i64 0] N).toArray 24 (0, 0)) = M at l1 r1 ⊢
  have hs := reorg_spec W M (some ⟨b1, 0, none⟩) N (List.replicate N nop) (by omega) (by omega) r1
  rw [reorg_nops hN0 (by omega), eN] at hs
  refine CallsA.mono hs ?_
  rintro r m11 ⟨A3, c5, A6, c8, rfl, o3, o6, n3, n6, l2⟩
  refine ⟨_, _, _, _, _, _, _, rfl, ⟨by omega, by omega, by omega, by omega⟩, fun b15 hb15 hn15 => ?_⟩
  have l3 := le_new hn15 (.cells (zeros [.int .i64 0, .int .i64 0, .int .i64 0, .int .i64 0, .int .i64 0] N).toArray 24 (0, 0))
  have o15 : Alog.Own (m11.upd b15 (.cells (zeros [.int .i64 0, .int .i64 0, .int .i64 0, .int .i64 0, .int .i64 0] N).toArray 24)) W.heap.size 24 5 (some ⟨b15, 0, none⟩) (List.replicate N nop).length N (insCells (List.replicate N nop)) := by
    have := Alog.Own.new m11 hb15 24 5 N (insCells (List.replicate N nop)) (by rw [insCells_len5, eN])
    rw [zeros_nops, eN]; exact this
  try dsimp only
  generalize m11.upd b15 (.cells (zeros [.int .i64 0, .int .i64 0, .int .i64 0, .int .i64 0, .int .i64 0] N).toArray 24 (0, 0)) = M2 at l3 o15 ⊢
  refine ⟨rfl, rfl, rfl, fun b17 hb17 hn17 => ?_⟩
  obtain ⟨mb, lb, nb, eb, kb, gb⟩ := own_rest o15
  have l11b := gb m11 l3 (by intro k hk; simp [obl] at hk; subst hk; exact hn15)
  have hsn := snoc1 (w0 := W) (m0 := mb) lb o15 nb (by omega) (jmpI ((N : Int) + 1)) (K := fun A n c m2 => n = N + 1 ∧ mb.le m2 ∧ Alog.Own m2 W.heap.size 24 5 A (N + 1) c (insCells (List.replicate N nop ++ [jmpI ((N : Int) + 1)]))) (fun A c m2 h1 h2 h3 => by rw [eN] at h2 ⊢; exact ⟨rfl, h1, h2⟩) b17 hb17 hn17
  rw [eN] at hsn
  refine awp_mono _ _ _ _ ?_ hsn
  rintro v m20 ⟨A21, n22, c23, rfl, rfl, l4, o21⟩
  have hJ : nopsJ N = List.replicate N nop ++ [jmpI ((N : Int) + 1)] := rfl
  rw [← hJ] at o21
  have eJ := nopsJ_len N
  have hcap := o21.2.1
  rw [← eJ] at o21 hcap
  have hs2 := reorg_spec W m20 A21 c23 (nopsJ N) (by omega) hcap o21.reads
  rw [reorg_nopsJ hN0 hN1, eJ] at hs2
  refine ⟨_, _, _, rfl, CallsA.mono hs2 ?_⟩
  rintro r m32 ⟨A24, c26, A27, c29, rfl, o24, o27, n24, n27, l5⟩
  have el2 : (List.replicate (N - 1) nop ++ [jmpI ((N + 1 : Nat) : Int), nop]).length = N + 1 := by simp; omega
  refine ⟨_, _, _, _, _, _, _, rfl, rfl, bcF ⟨rfl, bcF ⟨rfl, bcEF (by simp) ⟨rfl, fun b36 hb36 hn36 => ?_⟩⟩⟩⟩
  have l6 := le_new hn36 (.cells #[.int .i64 0, .int .i64 N] 3)
  have r6 : Reads (m32.upd b36 (.cells #[.int .i64 0, .int .i64 N] 3)) 1 (some ⟨b36, 0, none⟩) 2 (intCells .i64 [0, (N : Int)]) := Reads.lit (cs := intCells .i64 [0, (N : Int)]) rfl
  try dsimp only
  generalize m32.upd b36 (.cells #[.int .i64 0, .int .i64 N] 3) = M6 at l6 r6 ⊢
  have l116 : m11.le M6 := AM.le_trans l11b (AM.le_trans l4 (AM.le_trans l5 l6))
  refine callB (same_e W M6 A6 _ c8 [0, (N : Int)] (some ⟨b36, 0, none⟩) 2 2 [0, (N : Int)] rfl rfl (by simp) (o6.le l116).reads r6) ?_
  rw [decide_eq_true rfl]
  refine bcEF (by simp) ⟨rfl, rfl, bcEF (by rw [el2]; simp) ⟨rfl, rfl, fun b41 hb41 hn41 => ?_⟩⟩
  have l7 := le_new hn41 (.cells #[.int .i64 0, .int .i64 ((N : Int) + 1)] 3)
  have r7 : Reads (M6.upd b41 (.cells #[.int .i64 0, .int .i64 ((N : Int) + 1)] 3)) 1 (some ⟨b41, 0, none⟩) 2 (intCells .i64 [0, (N : Int) + 1]) := Reads.lit (cs := intCells .i64 [0, (N : Int) + 1]) rfl
  try dsimp only
  generalize M6.upd b41 (.cells #[.int .i64 0, .int .i64 ((N : Int) + 1)] 3) = M7 at l7 r7 ⊢
  refine callB (same_e W M7 A27 _ c29 [0, (N : Int) + 1] (some ⟨b41, 0, none⟩) 2 2 [0, (N : Int) + 1] rfl rfl (by simp) ((o27.le l6).le l7).reads r7) ?_
  rw [decide_eq_true rfl]
  refine bcEF (by rw [el2]; simp) ?_
  have r3 := (o3.le (AM.le_trans l116 l7)).reads
  have r24 := ((o24.le l6).le l7).reads
  rw [el2] at r24 ⊢
  rw [eN] at r3 ⊢
  have wm : IntKind.wrap .i64 ((N : Int) - 1) = N - 1 := wrap_s (by omega) (by omega)
  have at24 : ∀ k : Int, 0 ≤ k → k < N - 1 → cAt (List.replicate (N - 1) nop ++ [jmpI ((N + 1 : Nat) : Int), nop]) k = nop := fun k h0 h1 => by
    unfold cAt
    simp only [List.getD]
    rw [List.getElem?_append_left (by simp; omega)]
    simp [show k.toNat < N - 1 by omega]
  have at24j : cAt (List.replicate (N - 1) nop ++ [jmpI ((N + 1 : Nat) : Int), nop]) ((N : Int) - 1) = jmpI ((N : Int) + 1) := by
    unfold cAt
    simp only [List.getD]
    rw [List.getElem?_append_right (by simp), show ((N : Int) - 1).toNat - (List.replicate (N - 1) nop).length = 0 by simp]
    rfl
  have at24n : cAt (List.replicate (N - 1) nop ++ [jmpI ((N + 1 : Nat) : Int), nop]) (N : Int) = nop := by
    unfold cAt
    simp only [List.getD]
    rw [List.getElem?_append_right (by simp), show ((N : Int)).toNat - (List.replicate (N - 1) nop).length = 1 by simp; omega]
    rfl
  refine vl19_111111010 W M7 _ R N A3 N c5 A24 (N + 1) c26 N 0 (fun q k m' => m' = M7 ∧ 0 ≤ k ∧ k ≤ N ∧ (q : Int) = N - k) (fun m' => m' = M7) N rfl rfl rfl rfl rfl ⟨rfl, by omega, by omega, by omega⟩ ?_ ?_
  · rintro q σ k M8 ⟨rfl, k0, k1, hq⟩
    refine ⟨rfl, bcP (fun hlt => ?_) (fun hlt => by (repeat (refine And.intro (Eq.refl _) ?_)); rfl)⟩
    have wk : IntKind.wrap .i64 (k + 1) = k + 1 := wrap_s (by omega) (by omega)
    rw [wk, wm]
    refine ldAt r3 eN k0 hlt fun a => ⟨rfl, _, eqp_n _ nop, ?_⟩
    rw [cAt_nops, decide_eq_true rfl]
    refine bcF ⟨rfl, rfl, ?_⟩
    have fin : ∃ n' : Nat, n' < q ∧ (M8 = M8 ∧ 0 ≤ k + 1 ∧ k + 1 ≤ N ∧ (n' : Int) = N - (k + 1)) := ⟨q - 1, by omega, rfl, by omega, by omega, by omega⟩
    by_cases e : k = (N : Int) - 1
    · refine bcEF (by simp [e]) ⟨by simp [e], bcF ?_⟩
      (repeat (refine And.intro (Eq.refl _) ?_))
      exact fin
    · have e1 : (k != (N : Int) - 1) = true := by simp; omega
      rw [e1]
      refine bcT (ldAt r24 el2 k0 (by omega) fun a => ⟨rfl, _, eqp_n _ nop, ?_⟩)
      rw [at24 k k0 (by omega), decide_eq_true rfl]
      refine bcF ?_
      (repeat (refine And.intro (Eq.refl _) ?_))
      exact fin
  · rintro σ M8 rfl
    rw [wm, w1]
    refine ⟨rfl, ldAt r24 el2 (by omega) (by omega) fun a => ⟨rfl, rfl, _, eqp_i _ (jmpI ((N : Int) + 1)), ?_⟩⟩
    rw [at24j, decide_eq_true rfl]
    refine bcT (ldAt r24 el2 (by omega) (by omega) fun a => ⟨rfl, _, eqp_i _ nop, ?_⟩)
    rw [at24n, decide_eq_true rfl]
    exact bcT (aw13 W M8 hT rfl)
end Go.Proofs.Ytkfemiloehkmhaa.S

