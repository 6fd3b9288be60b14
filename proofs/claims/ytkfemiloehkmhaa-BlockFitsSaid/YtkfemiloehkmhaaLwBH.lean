/- Ytkfemiloehkmhaa: a text of our own, by an AI agent: LwBH -/
import Derived.Test.YtkfemiloehkmhaaHdBH
import Derived.Test.YtkfemiloehkmhaaVLaw9H
import Derived.Test.YtkfemiloehkmhaaCm1H

set_option linter.unusedSimpArgs false
set_option linter.unusedVariables false
set_option maxRecDepth 100000
namespace Go.Proofs.Ytkfemiloehkmhaa.S
open Go Go.RowKit Go.Alog Go.Proofs.Ytkfemiloehkmhaa.T Go.Proofs.Ytkfemiloehkmhaa.V

def awC : List Ins := [⟨10, 0, 0, 0, 0⟩, ⟨15, 0, 0, 0, 0⟩, ⟨0, 0, 0, 0, 0⟩]
theorem awC_heads : headsP awC = [0, 2] := by decide +kernel
theorem awC_fit : fitP awC = true := by decide +kernel
theorem awC_strict : strictP awC = true := by decide +kernel

theorem awake9 (w0 : World) (m : AM) : CallsA Try.prog w0 20 #[] m (fun r m' => r = .bool true ∧ m.le m') := by
  refine cf20 w0 m _ ⟨rfl, rfl, rfl, rfl, fun b hb hn => ?_⟩
  have l1 := le_new hn (.cells #[.int .i64 10, .int .i64 0, .int .i64 0, .int .i64 0, .int .i64 0, .int .i64 15, .int .i64 0, .int .i64 0, .int .i64 0, .int .i64 0, .int .i64 0, .int .i64 0, .int .i64 0, .int .i64 0, .int .i64 0] 24)
  have rd : Reads (m.upd b (.cells #[.int .i64 10, .int .i64 0, .int .i64 0, .int .i64 0, .int .i64 0, .int .i64 15, .int .i64 0, .int .i64 0, .int .i64 0, .int .i64 0, .int .i64 0, .int .i64 0, .int .i64 0, .int .i64 0, .int .i64 0] 24)) 5 (some ⟨b, 0, none⟩) awC.length (insCells awC) := Reads.lit (cs := insCells awC) rfl
  generalize m.upd b (.cells #[.int .i64 10, .int .i64 0, .int .i64 0, .int .i64 0, .int .i64 0, .int .i64 15, .int .i64 0, .int .i64 0, .int .i64 0, .int .i64 0, .int .i64 0, .int .i64 0, .int .i64 0, .int .i64 0, .int .i64 0] 24) = M at l1 rd ⊢
  refine CallsA.mono (heads_spec w0 M (some ⟨b, 0, none⟩) 3 awC (by decide) rd) ?_
  rintro r M2 ⟨⟨A, c, rfl, o, n⟩, l2⟩
  rw [awC_heads] at o ⊢
  refine ⟨_, _, _, rfl, ?_⟩
  refine CallsA.mono (blocks_spec w0 M2 (some ⟨b, 0, none⟩) 3 awC (by decide) (rd.le l2)) ?_
  rintro r M3 ⟨⟨A2, c2, rfl, o2, n2⟩, l3⟩
  rw [awC_heads] at o2 ⊢
  refine ⟨_, _, _, rfl, rfl, bcT ?_⟩
  obtain ⟨ad, rfl, hc⟩ := (o.le l3).ex (by decide)
  obtain ⟨ad2, rfl, hc2⟩ := o2.ex (by decide)
  refine ⟨⟨by decide, by decide⟩, ?_⟩
  rw [nilO_some]
  refine ⟨0, hc 0 _ rfl, rfl, bcT ⟨⟨by decide, by decide⟩, ?_⟩⟩
  rw [nilO_some]
  refine ⟨2, hc 1 _ rfl, rfl, bcT ⟨rfl, bcT ⟨⟨by decide, by decide⟩, ?_⟩⟩⟩
  rw [nilO_some]
  refine ⟨2, hc2 2 _ rfl, 3, by rw [Addr.add_add]; exact hc2 3 _ rfl, rfl, true, (by unfold EqP; kernel_rfl), bcT ?_⟩
  refine callB (fit_e w0 M3 _ 3 awC (by decide) (rd.le (AM.le_trans l2 l3))) ?_
  rw [awC_fit]
  refine bcT (callB (strict_e w0 M3 _ 3 awC (by decide) (rd.le (AM.le_trans l2 l3))) ?_)
  rw [awC_strict]
  exact retP_of ⟨rfl, AM.le_trans l1 (AM.le_trans l2 l3)⟩
end Go.Proofs.Ytkfemiloehkmhaa.S

set_option linter.unusedSimpArgs false
set_option linter.unusedVariables false
set_option maxRecDepth 100000
namespace Go.Proofs.Ytkfemiloehkmhaa.S
open Go Go.RowKit Go.Alog Go.Proofs.Ytkfemiloehkmhaa.T Go.Proofs.Ytkfemiloehkmhaa.V

theorem awake9e (w0 : World) (m : AM) : CallsA Try.prog w0 20 #[] m (fun r m' => r = .bool true ∧ m' = m) := (awake9 w0 m).down fun _ _ h => h
theorem aw9 (w0 : World) (M : AM) {b : Bool} (hb : b = true) : CallsA Try.prog w0 20 #[] M (fun r m' => ∃ t : Bool, r = .bool t ∧ RetP (fun r _ => r = .bool true) (.bool (bif b then t else false)) m') := by
  subst hb
  exact callB (awake9e w0 M) (retP_of rfl)
theorem aw9' (w0 : World) (M : AM) : CallsA Try.prog w0 20 #[] M (fun r m' => ∃ t : Bool, r = .bool t ∧ RetP (fun r _ => r = .bool true) (.bool t) m') := callB (awake9e w0 M) (retP_of rfl)

theorem callT {P : Program} {w0 : World} {f : FuncId} {a : Array Value} {m : AM} {v : Int} {b : Bool} {K : Int → Bool → AM → Prop} (h : CallsA P w0 f a m (fun r m' => r = .tuple #[.int .i64 v, .bool b] ∧ m' = m)) (k : K v b m) : CallsA P w0 f a m (fun r m' => ∃ t : Int, ∃ u : Bool, r = .tuple #[.int .i64 t, .bool u] ∧ K t u m') :=
  CallsA.mono h (by rintro r m' ⟨rfl, rfl⟩; exact ⟨v, b, rfl, k⟩)

theorem law_BlockFits (W : World) (A0 : Option Addr) (n0 c0 : Nat) (l0 : List Ins) (z0 : l0.length = n0) (hlc0 : n0 ≤ c0) (rd0 : Reads (mOf W) 5 A0 n0 (insCells l0)) (y0 : n0 * 40 ≤ 140737488351232) (hw0 : ∀ i ∈ l0, i.wf) (i1 : Ins) (wi1 : i1.wf) (a2 : Int) (w2 : (Lit.int .i64 a2).wf = true) :
    CallsA Try.prog W 3 #[.slice A0 n0 c0, i1.val, .int .i64 a2] (mOf W) (fun r _ => r = .bool true) := by
  subst z0
  refine cf3 W _ _ _ _ _ _ _ _ _ _ _ ?_
  intro b hBb hNb M
  have l : AM.le _ M := le_new hNb _
  have p : M b = some (.cells (Ins.cells i1).toArray 24) := upd_get_same
  clear_value M
  have rd := rd0.le l
  refine ⟨rfl, bcP (fun h => ⟨decide_eq_true h, rfl, aw9' W M⟩) fun h => ⟨rfl, ?_⟩⟩
  rw [decide_eq_false h]
  refine bcI (fun h2 => ⟨h2, aw9' W M⟩) fun h2 => ⟨rfl, ?_⟩
  rw [h2]
  refine bcI (fun h3 => aw9' W M) fun h3 => ?_
  refine ldIns p (callT (target_e W M i1 a2) (ldIns p (callT (refTarget_e W M i1 a2) ⟨rfl, ?_⟩)))
  have e1 : (tgt i1 a2 == tgt i1 a2) = true := by simp
  have e2 : (tok i1 == tok i1) = true := by simp
  rw [e1, e2]
  refine bcT (bcT (callB (fit_e W M A0 c0 l0 (by omega) rd) (callB (refFit_e W M A0 c0 l0 (by omega) rd) ?_)))
  have e3 : (fitP l0 == fitP l0) = true := by simp
  rw [e3]
  refine bcT (callB (strict_e W M A0 c0 l0 (by omega) rd) (callB (refStrict_e W M A0 c0 l0 (by omega) rd) ?_))
  have e4 : (strictP l0 == strictP l0) = true := by simp
  rw [e4]
  exact bcT (aw9 W M rfl)

theorem law_BlockTargets (W : World) (i0 : Ins) (wi0 : i0.wf) (a1 : Int) (w1 : (Lit.int .u16 a1).wf = true) :
    CallsA Try.prog W 9 #[i0.val, .int .u16 a1] (mOf W) (fun r _ => r = .bool true) := by
  refine cf9 W _ _ _ _ _ _ _ _ ?_
  intro b hBb hNb M
  have l : AM.le _ M := le_new hNb _
  have p : M b = some (.cells (Ins.cells i0).toArray 24) := upd_get_same
  clear_value M
  refine ldIns p (callT (target_e W M i0 _) (ldIns p (callB (refRight_e W M i0) ?_)))
  generalize IntKind.wrap .i64 a1 = k
  have zero : ∀ {t : Int} {v : Bool}, t = 0 → v = false → IntKind.i64 = IntKind.i64 ∧ (bcase ((t : Int) == 0) (bcase (bif (t : Int) == 0 then !v else false) (CallsA Try.prog W 20 #[] M fun r23 m24 => ∃ t22 : Bool, r23 = .bool t22 ∧ RetP (fun r _ => r = .bool true) (.bool (bif bif (t : Int) == 0 then !v else false then t22 else false)) m24) ((bif (t : Int) == 0 then !v else false) = false ∧ RetP (fun r _ => r = .bool true) (.bool false) M)) (((t : Int) == 0) = false ∧ false = false ∧ RetP (fun r _ => r = .bool true) (.bool false) M)) := by
    rintro t v rfl rfl
    exact ⟨rfl, bcT (bcT (aw9 W M rfl))⟩
  have same : ∀ {t u : Int} {v : Bool}, t = u → v = true → IntKind.i64 = IntKind.i64 ∧ (bcase ((t : Int) == u) (bcase (bif (t : Int) == u then v else false) (CallsA Try.prog W 20 #[] M fun r23 m24 => ∃ t22 : Bool, r23 = .bool t22 ∧ RetP (fun r _ => r = .bool true) (.bool (bif bif (t : Int) == u then v else false then t22 else false)) m24) ((bif (t : Int) == u then v else false) = false ∧ RetP (fun r _ => r = .bool true) (.bool false) M)) (((t : Int) == u) = false ∧ false = false ∧ RetP (fun r _ => r = .bool true) (.bool false) M)) := by
    rintro t u v rfl rfl
    have e : (t == t) = true := by simp
    rw [e]
    exact ⟨rfl, bcT (bcT (aw9 W M rfl))⟩
  cases hr : rightR i0 with
  | false => exact bcT (zero (by unfold tgt; rw [if_neg (by simp [hr])]) (by unfold tok; rw [hr]; rfl))
  | true =>
    have tt : tgt i0 k = (if i0.op = 15 ∨ i0.op = 16 then w64 (w64 (k + 1) + i0.imm) else if i0.op = 17 ∨ i0.op = 18 then i0.imm else 0) := by unfold tgt; rw [if_pos hr]
    have tk : tok i0 = decide (15 ≤ i0.op ∧ i0.op ≤ 18) := by unfold tok; rw [hr]; rfl
    refine bcF ⟨_, cel p rfl, rfl, ?_⟩
    refine bcI (fun h => bcET h ⟨rfl, _, cel p rfl, rfl, ?_⟩) (fun h => ⟨rfl, bcI (fun h2 => ⟨rfl, _, cel p rfl, rfl, ?_⟩) (fun h2 => ⟨rfl, bcI (fun h3 => bcET h3 ⟨_, cel p rfl, ?_⟩) (fun h3 => ⟨rfl, bcI (fun h4 => ⟨_, cel p rfl, ?_⟩) (fun h4 => ?_)⟩)⟩)⟩)
    · have e : i0.op = 15 := by simpa using h
      exact same (by rw [tt, if_pos (.inl e)]; rfl) (by rw [tk, e]; rfl)
    · have e : i0.op = 16 := by simpa using h2
      exact same (by rw [tt, if_pos (.inr e)]; rfl) (by rw [tk, e]; rfl)
    · have e : i0.op = 17 := by simpa using h3
      exact same (by rw [tt, if_neg (by omega), if_pos (.inl e)]) (by rw [tk, e]; rfl)
    · have e : i0.op = 18 := by simpa using h4
      exact same (by rw [tt, if_neg (by omega), if_pos (.inr e)]) (by rw [tk, e]; rfl)
    · simp only [beq_eq_false_iff_ne, ne_eq] at h h2 h3 h4
      exact zero (by rw [tt, if_neg (by omega), if_neg (by omega)]) (by rw [tk]; exact decide_eq_false (by omega))
end Go.Proofs.Ytkfemiloehkmhaa.S

set_option linter.unusedSimpArgs false
set_option linter.unusedVariables false
set_option maxRecDepth 100000
namespace Go.Proofs.Ytkfemiloehkmhaa.S
open Go Go.RowKit Go.Alog Go.Proofs.Ytkfemiloehkmhaa.T Go.Proofs.Ytkfemiloehkmhaa.V

theorem sbad_31 {k : Int} (h0 : 1 ≤ k) (h1 : k ≤ 9) : sbad ⟨k, 31, 0, 0, 0⟩ = true := by
  have : k = 1 ∨ k = 2 ∨ k = 3 ∨ k = 4 ∨ k = 5 ∨ k = 6 ∨ k = 7 ∨ k = 8 ∨ k = 9 := by omega
  rcases this with rfl | rfl | rfl | rfl | rfl | rfl | rfl | rfl | rfl <;> decide +kernel

theorem strict_bad (l : List Ins) {x : Ins} (h : sbad x = true) : strictP (l ++ [x]) = false := by
  unfold strictP
  have : (l ++ [x]).any sbad = true := by rw [List.any_append]; simp [h]
  rw [this]; simp
theorem strict_fit {l : List Ins} (h : strictP l = true) : fitP l = true := by
  unfold strictP at h
  simp only [Bool.and_eq_true] at h
  exact h.1

theorem tmod_in {a n : Int} (h0 : 0 ≤ a) (hn : 0 < n) : 0 ≤ Int.tmod a n ∧ Int.tmod a n < n := by
  rw [Int.tmod_eq_emod_of_nonneg h0]
  exact ⟨Int.emod_nonneg _ (by omega), Int.emod_lt_of_pos _ hn⟩

theorem law_BlockStrict (W : World) (A0 : Option Addr) (n0 c0 : Nat) (l0 : List Ins) (z0 : l0.length = n0) (hlc0 : n0 ≤ c0) (rd0 : Reads (mOf W) 5 A0 n0 (insCells l0)) (y0 : n0 * 40 ≤ 140737488351232) (hw0 : ∀ i ∈ l0, i.wf) (a1 : Int) (w1 : (Lit.int .u8 a1).wf = true) :
    CallsA Try.prog W 7 #[.slice A0 n0 c0, .int .u8 a1] (mOf W) (fun r _ => r = .bool true) := by
  subst z0
  have ha : 0 ≤ a1 ∧ a1 ≤ 255 := by simpa [Lit.wf, IntKind.min, IntKind.max, IntKind.bits, IntKind.signed] using w1
  refine cf7 W _ A0 _ c0 a1 _ ⟨rfl, bcP (fun h => aw9' W _) fun h => ⟨rfl, ?_⟩⟩
  refine cp1 rd0 (by omega) fun A8 c10 m7 l7 o7 n7 => ⟨rfl, by decide, rfl, rfl, rfl, ?_⟩
  have ht := tmod_in (n := 9) ha.1 (by omega)
  have e1 : IntKind.wrap .i64 (1 + IntKind.wrap .i64 (Int.tmod a1 9)) = 1 + Int.tmod a1 9 := by
    rw [wrap_s (i := Int.tmod a1 9) (by omega) (by omega), wrap_s (by omega) (by omega)]
  rw [e1]
  refine snoc1 l7 o7 n7 (by omega) ⟨1 + Int.tmod a1 9, 31, 0, 0, 0⟩ fun A15 c17 M l o n => ?_
  have hbad : strictP (l0 ++ [⟨1 + Int.tmod a1 9, 31, 0, 0, 0⟩]) = false := strict_bad l0 (sbad_31 (by omega) (by omega))
  have hlen : (l0 ++ [(⟨1 + Int.tmod a1 9, 31, 0, 0, 0⟩ : Ins)]).length = l0.length + 1 := by simp
  have rb := o.reads
  rw [← hlen] at rb ⊢
  refine callB (strict_e W M A0 c0 l0 (by omega) (rd0.le l)) ?_
  cases hs : strictP l0 with
  | false =>
    refine bcT ⟨rfl, callB (strict_e W M A15 c17 _ (by rw [hlen]; omega) rb) ?_⟩
    rw [hbad]
    exact bcT (aw9 W M rfl)
  | true =>
    refine bcF (callB (fit_e W M A0 c0 l0 (by omega) (rd0.le l)) ?_)
    rw [strict_fit hs]
    refine bcT (callB (strict_e W M A15 c17 _ (by rw [hlen]; omega) rb) ?_)
    rw [hbad]
    exact bcT (aw9 W M rfl)
end Go.Proofs.Ytkfemiloehkmhaa.S

set_option linter.unusedSimpArgs false
set_option linter.unusedVariables false
set_option maxRecDepth 100000
namespace Go.Proofs.Ytkfemiloehkmhaa.S
open Go Go.RowKit Go.Alog Go.Proofs.Ytkfemiloehkmhaa.T Go.Proofs.Ytkfemiloehkmhaa.V

def hsUp (code : List Ins) (a : Nat) : List Int := ((List.range a).map (fun k : Nat => (k : Int))).filter (headP code)
theorem hsUp_succ (code : List Ins) (a : Nat) : hsUp code (a + 1) = hsUp code a ++ (if headP code a = true then [(a : Int)] else []) := by
  unfold hsUp
  rw [List.range_succ, List.map_append, List.filter_append]
  congr 1
  simp only [List.map_cons, List.map_nil, List.filter_cons, List.filter_nil]
theorem hsUp_pre (code : List Ins) (a d : Nat) : ∃ t, hsUp code (a + d) = hsUp code a ++ t := by
  induction d with
  | zero => exact ⟨[], by simp⟩
  | succ d ih =>
    obtain ⟨t, ht⟩ := ih
    rw [← Nat.add_assoc, hsUp_succ, ht, List.append_assoc]
    exact ⟨_, rfl⟩
theorem hsUp_at {code : List Ins} {a n : Nat} (h : a < n) (hh : headP code a = true) : (hsUp code a).length < (hsUp code n).length ∧ (hsUp code n).getD (hsUp code a).length 0 = a := by
  obtain ⟨t, ht⟩ := hsUp_pre code (a + 1) (n - (a + 1))
  rw [show a + 1 + (n - (a + 1)) = n by omega, hsUp_succ, if_pos hh] at ht
  rw [ht]
  refine ⟨by simp, ?_⟩
  simp [List.getD]
theorem headsP_up {code : List Ins} (h : fitP code = true) : headsP code = hsUp code code.length := by
  unfold headsP hsUp; rw [if_pos h]

theorem blk_get : ∀ (l : List (Int × Int)) (k : Nat), k < l.length → (blkCells l)[k * 2]? = some (.int .i64 (l.getD k (0, 0)).1) ∧ (blkCells l)[k * 2 + 1]? = some (.int .i64 (l.getD k (0, 0)).2)
  | [], k, h => by simp at h
  | p :: l, 0, h => by simp [blkCells]
  | p :: l, k + 1, h => by
    have := blk_get l k (by simpa using h)
    have e : blkCells (p :: l) = [.int .i64 p.1, .int .i64 p.2] ++ blkCells l := by simp [blkCells]
    rw [e]
    refine ⟨?_, ?_⟩
    · rw [List.getElem?_append_right (by simp; omega)]
      simp only [List.length_cons, List.length_nil]
      rw [show (k + 1) * 2 - (0 + 1 + 1) = k * 2 by omega, this.1]; simp
    · rw [List.getElem?_append_right (by simp; omega)]
      simp only [List.length_cons, List.length_nil]
      rw [show (k + 1) * 2 + 1 - (0 + 1 + 1) = k * 2 + 1 by omega, this.2]; simp
theorem cell_blk {m : AM} {a : Addr} {l : List (Int × Int)} (h : Cells m a (blkCells l)) {i : Int} (h0 : 0 ≤ i) (h1 : i < l.length) :
    m.cell (a.add (i.toNat * 2)) = some (.int .i64 (l.getD i.toNat (0, 0)).1) ∧ m.cell ((a.add (i.toNat * 2)).add 1) = some (.int .i64 (l.getD i.toNat (0, 0)).2) := by
  have := blk_get l i.toNat (by omega)
  refine ⟨h _ _ this.1, ?_⟩
  rw [Addr.add_add]
  exact h _ _ this.2
theorem blkP_get (h : List Int) (n : Int) {k : Nat} (hk : k < h.length) : (blkP h n).getD k (0, 0) = blkAt h n k := by
  unfold blkP
  simp [List.getD, hk]

theorem law_BlockHeads (W : World) (A0 : Option Addr) (n0 c0 : Nat) (l0 : List Ins) (z0 : l0.length = n0) (hlc0 : n0 ≤ c0) (rd0 : Reads (mOf W) 5 A0 n0 (insCells l0)) (y0 : n0 * 40 ≤ 140737488351232) (hw0 : ∀ i ∈ l0, i.wf) :
    CallsA Try.prog W 4 #[.slice A0 n0 c0] (mOf W) (fun r _ => r = .bool true) := by
  subst z0
  refine cf4 W _ A0 _ c0 _ ⟨rfl, bcP (fun h => aw9' W _) fun h => ?_⟩
  refine CallsA.mono (heads_spec W _ A0 c0 l0 (by omega) rd0) ?_
  rintro r m1 ⟨⟨A4, c4, rfl, o4, n4⟩, l1⟩
  refine ⟨_, _, _, rfl, CallsA.mono (blocks_spec W m1 A0 c0 l0 (by omega) (rd0.le l1)) ?_⟩
  rintro r m2 ⟨⟨A9, c9, rfl, o9, n9⟩, l2⟩
  refine ⟨_, _, _, rfl, callB (refFit_e W m2 A0 c0 l0 (by omega) (rd0.le (AM.le_trans l1 l2))) ?_⟩
  have hbl := blkP_len (headsP l0) l0.length
  have hhl := headsP_len l0
  cases hf : fitP l0 with
  | false =>
    have hn : headsP l0 = [] := by unfold headsP; rw [hf]; rfl
    rw [hn]
    refine bcT ⟨rfl, rfl, ?_⟩
    exact bcT (aw9 W m2 (b := true) rfl)
  | true =>
    rw [headsP_up hf] at o4 o9 hbl hhl ⊢
    generalize hH : hsUp l0 l0.length = H at o4 o9 hbl hhl ⊢
    have o4 := o4.le l2
    have rdl := rd0.le (AM.le_trans l1 l2)
    clear l1 l2
    refine bcF ?_
    refine vl4_11111010 W m2 _ _ A0 l0.length c0 A4 H.length c4 A9 (blkP H l0.length).length c9 l0.length 0 0
      (fun n k a m' => m' = m2 ∧ 0 ≤ a ∧ a ≤ l0.length ∧ (n : Int) = l0.length - a ∧ k = (hsUp l0 a.toNat).length) (fun k m' => m' = m2 ∧ k = H.length) l0.length rfl rfl rfl rfl rfl rfl ⟨rfl, by omega, by omega, by omega, rfl⟩ ?_ ?_
    · rintro n σ k a M ⟨rfl, a0, a1, hn, hk⟩
      refine ⟨rfl, bcP (fun hlt => ?_) (fun hlt => ?_)⟩
      · have haa : ((a.toNat : Nat) : Int) = a := by omega
        have wa : IntKind.wrap .i64 (a + 1) = a + 1 := wrap_s (by omega) (by omega)
        have hsu := hsUp_succ l0 a.toNat
        rw [haa] at hsu
        rw [wa]
        refine callB (refHead_e W M A0 c0 l0 (by omega) rdl a a0 a1) ?_
        cases hh : headP l0 a with
        | false =>
          rw [hh, if_neg (by simp), List.append_nil] at hsu
          refine bcT ?_
          (repeat (refine And.intro (Eq.refl _) ?_))
          exact ⟨n - 1, by omega, rfl, by omega, by omega, by omega, by rw [show (a + 1).toNat = a.toNat + 1 by omega, hsu]; exact hk⟩
        | true =>
          rw [hh, if_pos rfl] at hsu
          have hat := hsUp_at (code := l0) (a := a.toNat) (n := l0.length) (by omega) (by rw [haa]; exact hh)
          rw [hH, haa] at hat
          have hk' : k.toNat = (hsUp l0 a.toNat).length := by omega
          rw [← hk'] at hat
          obtain ⟨ad4, rfl, hc4⟩ := o4.ex (by omega)
          obtain ⟨ad9, rfl, hc9⟩ := o9.ex (by omega)
          have k0 : 0 ≤ k := by omega
          have b9 := cell_blk hc9 (i := k) k0 (by omega)
          rw [blkP_get H _ hat.1] at b9
          have kd : decide (k ≥ (H.length : Int)) = false := decide_eq_false (by omega)
          have kd2 : decide (k ≥ ((blkP H l0.length).length : Int)) = false := decide_eq_false (by omega)
          have fin : ∃ n' : Nat, n' < n ∧ (M = M ∧ 0 ≤ a + 1 ∧ a + 1 ≤ l0.length ∧ (n' : Int) = l0.length - (a + 1) ∧ IntKind.wrap .i64 (k + 1) = (hsUp l0 (a + 1).toNat).length) := by
            refine ⟨n - 1, by omega, rfl, by omega, by omega, by omega, ?_⟩
            rw [show (a + 1).toNat = a.toNat + 1 by omega, hsu, wrap_s (by omega) (by omega)]
            simp; omega
          refine bcF ⟨rfl, ?_⟩
          rw [kd, kd2]
          refine bcF ⟨rfl, bcF ⟨⟨k0, by omega⟩, ?_⟩⟩
          rw [nilO_some]
          refine ⟨_, cell_k hc4 k0 (by omega), rfl, ?_⟩
          rw [hat.2, show (a != a) = false by simp]
          refine bcF ⟨⟨k0, by omega⟩, ?_⟩
          rw [nilO_some]
          refine ⟨_, b9.1, rfl, ?_⟩
          rw [show (blkAt H l0.length k.toNat).1 = a from hat.2, show (a != a) = false by simp]
          refine bcF ⟨rfl, bcP (fun hp => ?_) (fun hp => ?_)⟩
          · have wk : IntKind.wrap .i64 (k - 1) = k - 1 := wrap_s (by omega) (by omega)
            rw [wk]
            refine ⟨rfl, ⟨by omega, by omega⟩, ?_⟩
            rw [nilO_some]
            have b8 := cell_blk hc9 (i := k - 1) (by omega) (by omega)
            rw [blkP_get H _ (by omega)] at b8
            refine ⟨_, b8.2, rfl, ?_⟩
            have e8 : (blkAt H l0.length (k - 1).toNat).2 = a := by
              unfold blkAt
              dsimp only
              rw [if_pos (by omega), show (k - 1).toNat + 1 = k.toNat by omega]; exact hat.2
            rw [e8, show (a != a) = false by simp, decide_eq_true hp]
            refine bcF ?_
            (repeat (refine And.intro (Eq.refl _) ?_))
            exact fin
          · refine ⟨decide_eq_false hp, bcF ?_⟩
            (repeat (refine And.intro (Eq.refl _) ?_))
            exact fin
      · (repeat (refine And.intro (Eq.refl _) ?_))
        rw [hk, show a.toNat = l0.length by omega, hH]
    · rintro σ k M ⟨rfl, hk⟩
      subst hk
      have e1 : (((H.length : Nat) : Int) == ((H.length : Nat) : Int)) = true := by simp
      have e2 : (((H.length : Nat) : Int) == (((blkP H l0.length).length : Nat) : Int)) = true := by rw [hbl]; simp
      rw [e2, e1]
      refine ⟨rfl, bcT ⟨rfl, bcT ⟨rfl, bcI (fun h0 => ⟨h0, bcT (aw9 W M rfl)⟩) (fun h0 => ⟨rfl, ?_⟩)⟩⟩⟩
      have hpos : H.length ≠ 0 := by
        have : (((H.length : Nat) : Int) == 0) = false := h0
        intro e; rw [e] at this; simp at this
      have wk : IntKind.wrap .i64 ((H.length : Int) - 1) = (H.length : Int) - 1 := wrap_s (by omega) (by omega)
      rw [wk]
      refine ⟨⟨by omega, by omega⟩, ?_⟩
      obtain ⟨ad9, rfl, hc9⟩ := o9.ex (by omega)
      rw [nilO_some]
      have b8 := cell_blk hc9 (i := (H.length : Int) - 1) (by omega) (by omega)
      rw [blkP_get H _ (by omega)] at b8
      refine ⟨_, b8.2, rfl, ?_⟩
      have e8 : (blkAt H l0.length ((H.length : Int) - 1).toNat).2 = l0.length := by
        unfold blkAt
        dsimp only
        rw [if_neg (by omega)]
      rw [e8, show (((l0.length : Nat) : Int) == ((l0.length : Nat) : Int)) = true by simp, h0]
      exact bcT (aw9 W M rfl)
end Go.Proofs.Ytkfemiloehkmhaa.S
