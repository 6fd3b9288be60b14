/- Ytkfemiloehkmhaa: a text of our own, by an AI agent: Nq9H -/
import Derived.Test.YtkfemiloehkmhaaNp9H
set_option linter.unusedSimpArgs false
set_option linter.unusedVariables false
set_option maxRecDepth 100000
namespace Go.Proofs.Ytkfemiloehkmhaa.S
open Go Go.RowKit Go.Alog Go.Proofs.Ytkfemiloehkmhaa.T Go.Proofs.Ytkfemiloehkmhaa.V

theorem insCells_len5 (l : List Ins) : (insCells l).length = l.length * 5 := by
  unfold insCells
  induction l with
  | nil => rfl
  | cons x l ih => rw [List.flatMap_cons, List.length_append, ih]; simp [Ins.cells]; omega

theorem nops_reads {m : AM} {b : Nat} (n : Nat) : Reads (m.upd b (.cells (zeros [.int .i64 0, .int .i64 0, .int .i64 0, .int .i64 0, .int .i64 0] n).toArray 24 (0, 0))) 5 (some ⟨b, 0, none⟩) (List.replicate n nop).length (insCells (List.replicate n nop)) := by
  have := Reads.lit (m := m) (b := b) (e := 24) (sz := 5) (n := (List.replicate n nop).length) (cs := insCells (List.replicate n nop)) (insCells_len5 _)
  rw [zeros_nops]; exact this

theorem nops_loop (W : World) (m : AM) (σ : Sg) {A25 A30 : Option Addr} {c25 c30 : Nat} {H t : List Int} (o25 : Alog.Own m W.heap.size 3 1 A25 H.length c25 (intCells .i64 H)) (o30 : Alog.Own m W.heap.size 3 1 A30 (H ++ t).length c30 (intCells .i64 (H ++ t))) (hcl : H.length ≤ 1000)
    {R : Value → AM → Prop} (hR : ∀ v : Bool, v = true → RetP R (.bool v) m) (h8 : σ 8 = .slice A25 H.length c25) (h9 : σ 9 = .slice A30 (H ++ t).length c30) (h89 : σ 89 = .int .i64 H.length) (h90 : σ 90 = .int .i64 0) : (vcS Try.prog W qs6 (sub c6 [1, 1, 1, 1, 1, 1, 1, 1, 1, 0, 1, 0]) σ m (blockS 0 (thenS (fun σ m => vcS Try.prog W qs6 (sub c6 [1, 1, 1, 1, 1, 1, 1, 1, 1, 1]) σ m (retQ Try.prog Try.f6 R)) (retQ Try.prog Try.f6 R)))) := by
  refine vl6_111111111010 W m _ _ A25 H.length c25 A30 (H ++ t).length c30 H.length 0 (fun n k m' => m' = m ∧ 0 ≤ k ∧ k ≤ H.length ∧ (n : Int) = H.length - k) (fun m' => m' = m) H.length h8 h9 h89 h90 ⟨rfl, by omega, by omega, by omega⟩ ?_ ?_
  · rintro n σ k M ⟨rfl, k0, k1, hn⟩
    refine ⟨rfl, bcP (fun hlt => ?_) (fun hlt => by rf; rfl)⟩
    have e1 : (H ++ t).length = H.length + t.length := by simp
    obtain ⟨a1, rfl, hc1⟩ := o25.ex (by omega)
    obtain ⟨a2, rfl, hc2⟩ := o30.ex (by omega)
    refine ⟨⟨k0, hlt⟩, ?_⟩
    rw [nilO_some]
    refine ⟨_, cell_k hc1 k0 hlt, ⟨k0, by omega⟩, ?_⟩
    rw [nilO_some]
    refine ⟨_, cell_k hc2 k0 (by omega), rfl, ?_⟩
    have e : (H ++ t).getD k.toNat 0 = H.getD k.toNat 0 := by
      rw [List.getD_eq_getElem?_getD, List.getD_eq_getElem?_getD, List.getElem?_append_left (by omega)]
    rw [e, show (H.getD k.toNat 0 != H.getD k.toNat 0) = false by simp]
    refine bcF ?_
    rf
    rw [wrap_s (i := k + 1) (by omega) (by omega)]
    exact ⟨n - 1, by omega, rfl, by omega, by omega, by omega⟩
  · rintro σ M rfl
    exact callB (awake9e W M) (hR true rfl)

theorem law_BlockNops (W : World) (A0 : Option Addr) (n0 c0 : Nat) (l0 : List Ins) (z0 : l0.length = n0) (hlc0 : n0 ≤ c0) (rd0 : Reads (mOf W) 5 A0 n0 (insCells l0)) (y0 : n0 * 40 ≤ 140737488351232) (hw0 : ∀ i ∈ l0, i.wf) (a1 : Int) (w1 : (Lit.int .u8 a1).wf = true) :
    CallsA Try.prog W 6 #[.slice A0 n0 c0, .int .u8 a1] (mOf W) (fun r _ => r = .bool true) := by
  subst z0
  have ha : 0 ≤ a1 ∧ a1 ≤ 255 := by simpa [Lit.wf, IntKind.min, IntKind.max, IntKind.bits, IntKind.signed] using w1
  refine cf6 W _ A0 _ c0 a1 _ ⟨rfl, bcP (fun h => aw9' W _) fun h => ⟨rfl, ?_⟩⟩
  have ew : IntKind.wrap .i64 (1 + IntKind.wrap .i64 a1) = 1 + a1 := by rw [wrap_s (i := a1) (by omega) (by omega), wrap_s (by omega) (by omega)]
  rw [ew]
  obtain ⟨N, hN⟩ : ∃ N, N = (1 + a1).toNat := ⟨_, rfl⟩
  have hNN : (1 + a1) = (N : Int) := by omega
  rw [hNN]
  rw [show ((N : Nat) : Int).toNat = N by omega]
  refine ⟨⟨by omega, by omega, by omega, by omega⟩, fun b4 hb4 hn4 => ?_⟩
  have lm := le_new hn4 (.cells (zeros [.int .i64 0, .int .i64 0, .int .i64 0, .int .i64 0, .int .i64 0] N).toArray 24 (0, 0))
  have rN := nops_reads (m := mOf W) (b := b4) N
  have eN : (List.replicate N nop).length = N := by simp
  generalize (mOf W).upd b4 (.cells (zeros [.int .i64 0, .int .i64 0, .int .i64 0, .int .i64 0, .int .i64 0] N).toArray 24 (0, 0)) = M at lm rN
  have hs1 := heads_spec W M (some ⟨b4, 0, none⟩) N (List.replicate N nop) (by rw [eN]; omega) rN
  rw [nops_heads (by omega) (by omega), eN] at hs1
  refine CallsA.mono hs1 ?_
  rintro r m1 ⟨⟨A6, c6, rfl, o6, n6⟩, l1⟩
  refine ⟨_, _, _, rfl, rfl, ?_⟩
  have lW1 := AM.le_trans lm l1
  intro b11 hb11 hn11
  refine awp_mono _ _ _ _ ?_ (cp1 (w0 := W) (c := c0) (rd0.le lW1) (by omega) (K := fun A n c m' => ∃ c', n = l0.length ∧ c = c' ∧ m1.le m' ∧ Alog.Own m' W.heap.size 24 5 A l0.length c' (insCells l0) ∧ (∀ k ∈ obl A, m1 k = none)) (fun A c m' h1 h2 h3 => ⟨c, rfl, rfl, h1, h2, h3⟩) b11 hb11 hn11)
  rintro v m2 ⟨A15, n16, c17, rfl, c', rfl, rfl, l2, o2, n2⟩
  refine ⟨_, _, _, rfl, ?_⟩
  refine ⟨rfl, rfl, ?_⟩
  intro b18 hb18 hn18
  refine awp_mono _ _ _ _ ?_ (snoc1 (w0 := W) l2 o2 n2 (by omega) nop (K := fun A n c m' => n = l0.length + 1 ∧ m1.le m' ∧ Alog.Own m' W.heap.size 24 5 A (l0.length + 1) c (insCells (l0 ++ [nop])) ∧ (∀ k ∈ obl A, m1 k = none)) (fun A c m' h1 h2 h3 => ⟨rfl, h1, h2, h3⟩) b18 hb18 hn18)
  rintro v m3 ⟨A22, n23, c24, rfl, rfl, l3, o3, n3⟩
  refine ⟨_, _, _, rfl, ?_⟩
  have lW3 := AM.le_trans lW1 l3
  have eL : (l0 ++ [nop]).length = l0.length + 1 := by simp
  have rB := o3.reads
  rw [← eL] at rB
  refine CallsA.mono (heads_spec W m3 A0 c0 l0 (by omega) (rd0.le lW3)) ?_
  rintro r m4 ⟨⟨A25, c25, rfl, o25, n25⟩, l4⟩
  refine ⟨_, _, _, rfl, ?_⟩
  have hs2 := heads_spec W m4 A22 c24 (l0 ++ [nop]) (by omega) (rB.le l4)
  rw [eL] at hs2
  refine CallsA.mono hs2 ?_
  rintro r m5 ⟨⟨A30, c30, rfl, o30, n30⟩, l5⟩
  have o6 := (o6.le (AM.le_trans l3 (AM.le_trans l4 l5)))
  have o25 := o25.le l5
  have rB := rB.le (AM.le_trans l4 l5)
  have rd5 := rd0.le (AM.le_trans lW3 (AM.le_trans l4 l5))
  clear hs1 hs2 l1 l2 l3 l4 l5 lm lW1 lW3
  refine ⟨_, _, _, rfl, rfl, bcF ⟨⟨by decide, by decide⟩, ?_⟩⟩
  obtain ⟨ad6, rfl, hc6⟩ := o6.ex (by decide)
  rw [nilO_some]
  refine ⟨_, hc6 0 _ rfl, rfl, bcF ?_⟩
  have hfit2 := fit_e W m5 A22 c24 (l0 ++ [nop]) (by omega) rB
  rw [eL] at hfit2
  refine callB (fit_e W m5 A0 c0 l0 (by omega) rd5) ?_
  cases hf : fitP l0 with
  | false =>
    refine bcF ⟨rfl, bcF ?_⟩
    refine vk6_1111111 W m5 _ _ A0 l0.length c0 A25 (headsP l0).length c25 A30 (headsP (l0 ++ [nop])).length c30 rfl rfl rfl ?_
    refine callB (fit_e W m5 A0 c0 l0 (by omega) rd5) ?_
    rw [hf]
    exact bcT ⟨rfl, aw9' W _⟩
  | true =>
    refine bcT (callB hfit2 ?_)
    have hf2 := snoc_fit hf (by omega)
    rw [hf2]
    refine bcF ?_
    refine vk6_1111111 W m5 _ _ A0 l0.length c0 A25 (headsP l0).length c25 A30 (headsP (l0 ++ [nop])).length c30 rfl rfl rfl ?_
    refine callB (fit_e W m5 A0 c0 l0 (by omega) rd5) ?_
    rw [hf]
    refine bcF ⟨rfl, bcI (fun h0 => aw9' W _) (fun h0 => ?_)⟩
    have hpos : 0 < l0.length := by
      have h0' : (((l0.length : Nat) : Int) == 0) = false := h0
      have : l0.length ≠ 0 := by intro e; rw [e] at h0'; simp at h0'
      omega
    obtain ⟨t, ht, hto⟩ := snoc_heads hpos
    have e1 := headsP_up hf
    have e2 := headsP_up hf2
    rw [eL, ht] at e2
    have hhl := headsP_len l0
    rw [e1] at o25 hhl ⊢
    rw [e2] at o30 ⊢
    generalize hsUp l0 l0.length = H at o25 o30 hhl ⊢
    have hcl : H.length ≤ 1000 := by omega
    have tl : t.length ≤ 1 := by rcases hto with rfl | rfl <;> simp
    have eT : (H ++ t).length = H.length + t.length := by simp
    have wH : IntKind.wrap .i64 ((H.length : Int) + 1) = (H.length : Int) + 1 := wrap_s (by omega) (by omega)
    rw [wH]
    refine ⟨rfl, ?_⟩
    rw [show decide (((H ++ t).length : Int) < (H.length : Int)) = false from decide_eq_false (by rw [eT]; omega)]
    refine bcF ⟨rfl, rfl, ?_⟩
    rw [show decide (((H ++ t).length : Int) > (H.length : Int) + 1) = false from decide_eq_false (by rw [eT]; omega)]
    refine bcF ⟨rfl, ?_⟩
    have hRR : ∀ v : Bool, v = true → RetP (fun r (_ : AM) => r = .bool true) (.bool v) m5 := fun v e => by rw [e]; exact retP_of rfl
    rcases hto with rfl | rfl
    · rw [List.append_nil] at o30 ⊢
      rw [show decide ((H.length : Int) > (H.length : Int)) = false from decide_eq_false (by omega)]
      refine bcF ⟨rfl, bcF ?_⟩
      exact nops_loop W m5 _ (t := []) o25 (by rw [List.append_nil]; exact o30) hcl hRR rfl (by rw [List.append_nil]; rfl) rfl rfl
    · rw [show decide (((H ++ [(l0.length : Int)]).length : Int) > (H.length : Int)) = true from decide_eq_true (by rw [List.length_append, List.length_singleton]; omega)]
      refine bcT ⟨⟨by omega, by rw [List.length_append, List.length_singleton]; omega⟩, ?_⟩
      obtain ⟨ad30, rfl, hc30⟩ := o30.ex (by rw [List.length_append, List.length_singleton]; omega)
      rw [nilO_some]
      refine ⟨_, cell_k hc30 (i := (H.length : Int)) (by omega) (by rw [List.length_append, List.length_singleton]; omega), rfl, ?_⟩
      rw [show ((H ++ [(l0.length : Int)]).getD ((H.length : Nat) : Int).toNat 0 != (l0.length : Int)) = false by rw [show ((H.length : Nat) : Int).toNat = H.length by omega]; simp [List.getD_eq_getElem?_getD]]
      refine bcF ?_
      exact nops_loop W m5 _ (t := [(l0.length : Int)]) o25 o30 hcl hRR rfl rfl rfl rfl
end Go.Proofs.Ytkfemiloehkmhaa.S
