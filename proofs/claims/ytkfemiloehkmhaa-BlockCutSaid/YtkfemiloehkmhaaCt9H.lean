/- Ytkfemiloehkmhaa: a text of our own, by an AI agent: Ct9H -/
import Derived.Test.YtkfemiloehkmhaaNpBH
set_option linter.unusedSimpArgs false
set_option linter.unusedVariables false
set_option maxRecDepth 100000
namespace Go.Proofs.Ytkfemiloehkmhaa.S
open Go Go.RowKit Go.Alog Go.Proofs.Ytkfemiloehkmhaa.T Go.Proofs.Ytkfemiloehkmhaa.V

abbrev beq0 : Ins := ⟨15, 0, 0, 0, 0⟩
def codeC (n k : Nat) : List Ins := (List.replicate n nop).set k beq0
theorem codeC_len (n k : Nat) : (codeC n k).length = n := by simp [codeC]
theorem codeC_at {n k : Nat} (hk : k < n) {j : Int} (h0 : 0 ≤ j) : cAt (codeC n k) j = if j = k then beq0 else nop := by
  unfold cAt codeC
  rw [List.getD_eq_getElem?_getD, List.getElem?_set]
  by_cases e : j = k
  · rw [if_pos e, if_pos (by omega)]
    rw [if_pos (by simp <;> omega)]; rfl
  · rw [if_neg e, if_neg (by omega), List.getElem?_replicate]
    split <;> rfl
theorem beq_right : rightR beq0 = true := by decide +kernel
theorem beq_tok : tok beq0 = true := by decide +kernel
theorem beq_goes : goesP beq0 = true := by decide +kernel
theorem beq_tgt {k : Int} (h0 : 0 ≤ k) (h1 : k ≤ 1000) : tgt beq0 k = k + 1 := by
  unfold tgt
  rw [if_pos beq_right, if_pos (.inl rfl)]
  unfold w64
  rw [wrap_s (i := k + 1) (by omega) (by omega)]
  show IntKind.wrap .i64 (k + 1 + 0) = k + 1
  rw [wrap_s (by omega) (by omega)]; omega
theorem codeC_fit {n k : Nat} (hk : k + 2 ≤ n) (hn : n ≤ 1000) : fitP (codeC n k) = true := by
  refine fitP_true (by rw [codeC_len]; omega) fun j hj => ?_
  rw [codeC_len] at hj
  unfold fitAt
  rw [codeC_at (by omega) (by omega), codeC_len]
  by_cases e : (j : Int) = k
  · rw [if_pos e, beq_right, beq_tok, beq_tgt (by omega) (by omega), decide_eq_false (by omega), decide_eq_false (by omega)]; rfl
  · rw [if_neg e, nop_right, nop_tok]; rfl
theorem codeC_headP {n k : Nat} (hk : k + 2 ≤ n) (hn : n ≤ 1000) {x : Int} (h0 : 0 ≤ x) : headP (codeC n k) x = true ↔ x = 0 ∨ x = k + 1 := by
  unfold headP
  rw [Bool.or_eq_true, Bool.or_eq_true, List.any_eq_true]
  constructor
  · rintro ((h | h) | ⟨j, hj, h⟩)
    · exact .inl (by simpa using h)
    · by_cases e0 : x = 0
      · exact .inl e0
      rw [codeC_at (by omega) (by omega)] at h
      by_cases e : x - 1 = k
      · right; omega
      · rw [if_neg e, nop_goes] at h; cases h
    · unfold toAt at h
      rw [codeC_at (by omega) (by omega)] at h
      by_cases e : (j : Int) = k
      · rw [if_pos e, beq_tok, beq_tgt (by omega) (by omega), Bool.true_and] at h
        right
        have : (j : Int) + 1 = x := by simpa using h
        omega
      · rw [if_neg e, nop_tok] at h; cases h
  · rintro (rfl | rfl)
    · exact .inl (.inl rfl)
    · refine .inl (.inr ?_)
      rw [codeC_at (by omega) (by omega), if_pos (by omega)]; exact beq_goes
theorem codeC_heads {n k : Nat} (hk : k + 2 ≤ n) (hn : n ≤ 1000) : headsP (codeC n k) = [0, (k : Int) + 1] := by
  unfold headsP
  rw [if_pos (codeC_fit hk hn)]
  refine rise_eq ((range_rise _).filter _) (by simp <;> omega) fun x => ?_
  rw [List.mem_filter, List.mem_map, codeC_len]
  simp only [List.mem_range, List.mem_cons, List.not_mem_nil, or_false]
  constructor
  · rintro ⟨⟨j, hj, rfl⟩, h⟩
    exact (codeC_headP hk hn (by omega)).1 h
  · intro h
    refine ⟨⟨x.toNat, by omega, by omega⟩, (codeC_headP hk hn (by omega)).2 h⟩
theorem codeC_blocks {n k : Nat} (hk : k + 2 ≤ n) (hn : n ≤ 1000) : blkP (headsP (codeC n k)) (n : Int) = [(0, (k : Int) + 1), ((k : Int) + 1, (n : Int))] := by
  rw [codeC_heads hk hn]; rfl

theorem eqp_blk (a b : Int) : EqP Try.prog .eql 36 (.agg #[.int .i64 a, .int .i64 b]) (.agg #[.int .i64 a, .int .i64 b]) true := by
  have h1 : pval Try.prog (eqGuard .eql 36 (.const undef) (.const undef) (.agg #[.int .i64 a, .int .i64 b]) (.agg #[.int .i64 a, .int .i64 b])) = some () := by kernel_rfl
  have h2 := eqIn_struct (P := Try.prog) (t := 36) (k := .i64) (xs := #[.int .i64 a, .int .i64 b]) (ys := #[.int .i64 a, .int .i64 b]) Try.underlying36 (by kernel_rfl) 9998 (fun _ => true) (by
    intro f hf
    simp only [List.mem_cons, List.not_mem_nil, or_false] at hf
    rcases hf with rfl | rfl <;> exact ⟨by decide, Try.underlying3, _, _, rfl, rfl, by simp⟩)
  unfold EqP
  rw [pval_bind', h1, Option.bind_some]
  show pval Try.prog (Op.equal 36 (.agg #[.int .i64 a, .int .i64 b]) (.agg #[.int .i64 a, .int .i64 b]) >>= fun b => pure (Value.bool b)) = _
  rw [pval_bind', show pval Try.prog (Op.equal 36 (.agg #[.int .i64 a, .int .i64 b]) (.agg #[.int .i64 a, .int .i64 b])) = _ from h2]; rfl

theorem law_BlockCut (W : World) (a0 : Int) (w0 : (Lit.int .u8 a0).wf = true) (a1 : Int) (w1 : (Lit.int .u8 a1).wf = true) :
    CallsA Try.prog W 8 #[.int .u8 a0, .int .u8 a1] (mOf W) (fun r _ => r = .bool true) := by
  have h0 : 0 ≤ a0 ∧ a0 ≤ 255 := by simpa [Lit.wf, IntKind.min, IntKind.max, IntKind.bits, IntKind.signed] using w0
  have h1 : 0 ≤ a1 ∧ a1 ≤ 255 := by simpa [Lit.wf, IntKind.min, IntKind.max, IntKind.bits, IntKind.signed] using w1
  refine cf8 W _ a0 a1 _ ?_
  have t0 := tmod_in (n := 100) h0.1 (by omega)
  have e0 : IntKind.wrap .i64 (2 + IntKind.wrap .i64 (Int.tmod a0 100)) = 2 + Int.tmod a0 100 := by rw [wrap_s (i := Int.tmod a0 100) (by omega) (by omega), wrap_s (by omega) (by omega)]
  rw [e0]
  obtain ⟨N, hN⟩ : ∃ N, N = (2 + Int.tmod a0 100).toNat := ⟨_, rfl⟩
  have hNN : 2 + Int.tmod a0 100 = (N : Int) := by omega
  rw [hNN]
  have e1 : IntKind.wrap .i64 ((N : Int) - 1) = (N : Int) - 1 := wrap_s (by omega) (by omega)
  have e2 : IntKind.wrap .i64 a1 = a1 := wrap_s (by omega) (by omega)
  rw [e1, e2]
  have t1 := tmod_in (n := (N : Int) - 1) h1.1 (by omega)
  obtain ⟨k, hk⟩ : ∃ k, k = (Int.tmod a1 ((N : Int) - 1)).toNat := ⟨_, rfl⟩
  have hkk : Int.tmod a1 ((N : Int) - 1) = (k : Int) := by omega
  rw [hkk]
  have e3 : IntKind.wrap .i64 ((k : Int) + 1) = (k : Int) + 1 := wrap_s (by omega) (by omega)
  rw [e3]
  rw [show ((N : Nat) : Int).toNat = N by omega, show ((k : Nat) : Int).toNat = k by omega]
  refine ⟨rfl, by decide, rfl, rfl, rfl, by omega, ⟨by omega, by omega, by omega, by omega⟩, fun b1 hb1 hn1 => ⟨rfl, ⟨by omega, by omega⟩, ?_⟩⟩
  rw [nilO_some]
  have eN : (List.replicate N nop).length = N := by simp
  have lm := le_new hn1 (.cells (zeros [.int .i64 0, .int .i64 0, .int .i64 0, .int .i64 0, .int .i64 0] N).toArray 24)
  have oN : Alog.Own ((mOf W).upd b1 (.cells (zeros [.int .i64 0, .int .i64 0, .int .i64 0, .int .i64 0, .int .i64 0] N).toArray 24)) W.heap.size 24 5 (some ⟨b1, 0, none⟩) (List.replicate N nop).length N ((List.replicate N nop).flatMap Ins.cells) := by
    have := Alog.Own.new (mOf W) hb1 24 5 N (insCells (List.replicate N nop)) (by rw [insCells_len5, eN])
    rw [zeros_nops, eN]; exact this
  refine oN.storeRow (f := Ins.cells) Ins.len (k := k) (by omega) beq0 ?_
  intro g cur hg hO
  injection hg with hg
  subst hg
  have lW := le_upd_fresh (o := .cells cur 24) lm hn1
  generalize AM.upd _ b1 (.cells cur 24) = M at hO lW ⊢
  have rC : Reads M 5 (some ⟨b1, 0, none⟩) (codeC N k).length (insCells (codeC N k)) := hO.reads
  have hk2 : k + 2 ≤ N := by omega
  have hN2 : N ≤ 1000 := by omega
  have eC := codeC_len N k
  have hb := blocks_spec W M (some ⟨b1, 0, none⟩) N (codeC N k) (by omega) rC
  rw [eC, codeC_blocks hk2 hN2] at hb
  refine CallsA.mono hb ?_
  rintro r M2 ⟨⟨A9, c9, rfl, o9, n9⟩, l2⟩
  refine ⟨_, _, _, rfl, ⟨by omega, by omega⟩, ?_⟩
  rw [nilO_some]
  obtain ⟨q0, q1, q2, q3, q4⟩ := ((Cells.ins (hO.cells rfl) (k := k) (x := beq0) (by simp [hk2, show k < N by omega])))
  have up : ∀ {a : Addr} {v : Value}, M.cell a = some v → M2.cell a = some v := fun h => AM.le_cell l2 h
  refine ⟨_, up q0, _, up q1, _, up q2, _, up q3, _, up q4, ?_⟩
  refine callT (target_e W M2 beq0 k) ⟨rfl, bcT ⟨⟨by decide, by simp⟩, ?_⟩⟩
  obtain ⟨ad9, rfl, hc9⟩ := o9.ex (by simp)
  rw [nilO_some]
  refine ⟨_, hc9 0 _ rfl, _, by rw [Addr.add_add]; exact hc9 1 _ rfl, rfl, rfl, true, eqp_blk _ _, bcT ⟨⟨by decide, by simp⟩, ?_⟩⟩
  rw [nilO_some]
  refine ⟨_, hc9 2 _ rfl, _, by rw [Addr.add_add]; exact hc9 3 _ rfl, rfl, rfl, true, eqp_blk _ _, bcT ⟨rfl, rfl, ?_⟩⟩
  rw [beq_tgt (by omega) (by omega), beq_tok, show ((k : Int) + 1 == (k : Int) + 1) = true by simp]
  exact bcT (bcT (aw9 W M2 rfl))
end Go.Proofs.Ytkfemiloehkmhaa.S
