/- Ythocajnpofdbmaa: a text of our own, by an AI agent: Dp5G -/
import Derived.Test.YthocajnpofdbmaaDp4G
set_option linter.unusedSimpArgs false
set_option linter.unusedVariables false
set_option maxRecDepth 100000
namespace Go.Proofs.Ythocajnpofdbmaa.S
open Go Go.RowKit Go.Alog Go.Proofs.Ythocajnpofdbmaa.T Go.Proofs.Ythocajnpofdbmaa.V

theorem bEq (b : Bool) : (b == b) = true := by cases b <;> rfl
theorem callInts {w0 : World} {m : AM} {f : FuncId} {args : Array Value} {l : List Int} (h : CallsA Try.prog w0 f args m (ownInts w0 m l)) {K : Option Addr → Nat → Nat → AM → Prop}
    (k : ∀ A c m', m.le m' → Own m' w0.heap.size 3 1 A l.length c (intCells .i64 l) → (∀ k ∈ obl A, m k = none) → K A l.length c m') : CallsA Try.prog w0 f args m (fun r m' => ∃ (A : Option Addr) (n c : Nat), r = .slice A n c ∧ K A n c m') := by
  refine CallsA.mono h ?_
  rintro r m' ⟨⟨A, c, rfl, o, f⟩, L⟩
  exact ⟨_, _, _, rfl, k A c m' L o f⟩
theorem aw_keeps1 : keepsB [⟨12, 1, 0, 0, 0⟩, ⟨1, 2, 1, 0, 0⟩] [0, -1, 1] = true := by
  refine keepsB_t ⟨fun k hk => ?_, fun n hn => ?_, fun i j hij hj => ?_⟩
  · rcases (show k = 0 ∨ k = 1 ∨ k = 2 by simp at hk; omega) with rfl | rfl | rfl
    · exact .inr (by decide)
    · exact .inl rfl
    · exact .inr (by decide)
  · rcases (show n = 0 ∨ n = 1 by simp at hn; omega) with rfl | rfl <;> decide
  · obtain ⟨rfl, rfl⟩ : i = 0 ∧ j = 1 := by simp at hj; omega
    intro _
    decide +kernel
theorem aw_keeps2 : keepsB [⟨12, 1, 0, 0, 0⟩, ⟨1, 2, 1, 0, 0⟩] [0, 1] = false := by
  refine keepsB_f fun h => ?_
  have h1 := h.2.2 0 1 (by decide) (by decide) (by decide +kernel)
  exact absurd h1 (by decide +kernel)
theorem awake10 (w0 : World) (m : AM) : CallsA Try.prog w0 41 #[] m (fun r m' => r = .bool true ∧ m' = m) := by
  refine CallsA.down (R := fun r m' => r = .bool true ∧ m.le m') ?_ fun _ _ h => h
  refine cf41 w0 m _ ⟨rfl, rfl, ?_⟩
  refine blk5x2 fun b1 b3 M l n1 n3 hne p1 p3 => ?_
  replace p1 : M b1 = some (.cells (Ins.cells ⟨12, 1, 0, 0, 0⟩).toArray 23) := p1
  replace p3 : M b3 = some (.cells (Ins.cells ⟨1, 2, 1, 0, 0⟩).toArray 23) := p3
  refine ldIns p1 (ldIns p3 ⟨rfl, ?_⟩)
  intro b25 hb25 hm25 M2
  have l2 : M.le M2 := le_new hm25 _
  have r2 : Reads M2 5 (some ⟨b25, 0, none⟩) 2 (insCells [⟨12, 1, 0, 0, 0⟩, ⟨1, 2, 1, 0, 0⟩]) := Reads.lit rfl
  clear_value M2
  refine callInts (heights_spec w0 M2 _ 2 [⟨12, 1, 0, 0, 0⟩, ⟨1, 2, 1, 0, 0⟩] (by decide) r2) fun A c M3 l3 o3 f3 => ?_
  have hh : heightsP [⟨12, 1, 0, 0, 0⟩, ⟨1, 2, 1, 0, 0⟩] = [2, 0] := by decide +kernel
  rw [hh] at o3 ⊢
  have L3 := AM.le_trans l2 l3
  refine ldIns (L3 _ _ p1) (ldIns (L3 _ _ p3) (callI (far_e w0 M3 ⟨12, 1, 0, 0, 0⟩ ⟨1, 2, 1, 0, 0⟩) ?_))
  rw [show farP ⟨12, 1, 0, 0, 0⟩ ⟨1, 2, 1, 0, 0⟩ = 2 by decide +kernel]
  refine ⟨rfl, bcT (ldIns (L3 _ _ p3) (ldIns (L3 _ _ p1) (callI (far_e w0 M3 ⟨1, 2, 1, 0, 0⟩ ⟨12, 1, 0, 0, 0⟩) ?_)))⟩
  rw [show farP ⟨1, 2, 1, 0, 0⟩ ⟨12, 1, 0, 0, 0⟩ = 1 by decide +kernel]
  refine ⟨rfl, bcT ⟨rfl, ldIns (L3 _ _ p3) (callI (far_e w0 M3 ⟨0, 0, 0, 0, 0⟩ ⟨1, 2, 1, 0, 0⟩) ?_)⟩⟩
  rw [show farP ⟨0, 0, 0, 0, 0⟩ ⟨1, 2, 1, 0, 0⟩ = 0 by decide +kernel]
  obtain ⟨ad, rfl, hc⟩ := o3.ex (by decide)
  refine ⟨rfl, bcT ⟨rfl, bcT ⟨⟨by decide, by decide⟩, ?_⟩⟩⟩
  rw [nilO_some]
  refine ⟨_, hc 0 _ rfl, rfl, bcT (ldIns (L3 _ _ p1) (ldIns (L3 _ _ p3) ⟨rfl, ?_⟩))⟩
  intro b78 hb78 hm78 M4
  have l4 : M3.le M4 := le_new hm78 _
  have r4 : Reads M4 5 (some ⟨b78, 0, none⟩) 2 (insCells [⟨12, 1, 0, 0, 0⟩, ⟨1, 2, 1, 0, 0⟩]) := Reads.lit rfl
  clear_value M4
  refine ⟨rfl, ?_⟩
  intro b80 hb80 hm80 M5
  have l5 : M4.le M5 := le_new hm80 _
  have r5 : Reads M5 1 (some ⟨b80, 0, none⟩) 3 (intCells .i64 [0, -1, 1]) := Reads.lit rfl
  clear_value M5
  refine callB (keeps_e w0 M5 _ 2 2 [⟨12, 1, 0, 0, 0⟩, ⟨1, 2, 1, 0, 0⟩] _ 3 3 [0, -1, 1] rfl rfl (by decide) (by decide) (r4.le l5) r5) ?_
  rw [aw_keeps1]
  have L5 := AM.le_trans L3 (AM.le_trans l4 l5)
  refine bcT (ldIns (L5 _ _ p1) (ldIns (L5 _ _ p3) ⟨rfl, ?_⟩))
  intro b95 hb95 hm95 M6
  have l6 : M5.le M6 := le_new hm95 _
  have r6 : Reads M6 5 (some ⟨b95, 0, none⟩) 2 (insCells [⟨12, 1, 0, 0, 0⟩, ⟨1, 2, 1, 0, 0⟩]) := Reads.lit rfl
  clear_value M6
  refine ⟨rfl, ?_⟩
  intro b97 hb97 hm97 M7
  have l7 : M6.le M7 := le_new hm97 _
  have r7 : Reads M7 1 (some ⟨b97, 0, none⟩) 2 (intCells .i64 [0, 1]) := Reads.lit rfl
  clear_value M7
  refine callB (keeps_e w0 M7 _ 2 2 [⟨12, 1, 0, 0, 0⟩, ⟨1, 2, 1, 0, 0⟩] _ 2 2 [0, 1] rfl rfl (by decide) (by decide) (r6.le l7) r7) ?_
  rw [aw_keeps2]
  exact retP_of ⟨rfl, AM.le_trans l (AM.le_trans L5 (AM.le_trans l6 l7))⟩
theorem aw10 (w0 : World) (M : AM) {b : Bool} (hb : b = true) : CallsA Try.prog w0 41 #[] M (fun r m' => ∃ t : Bool, r = .bool t ∧ RetP (fun r _ => r = .bool true) (.bool (bif b then t else false)) m') := by
  subst hb
  exact callB (awake10 w0 M) (retP_of rfl)
theorem aw10' (w0 : World) (M : AM) : CallsA Try.prog w0 41 #[] M (fun r m' => ∃ t : Bool, r = .bool t ∧ RetP (fun r _ => r = .bool true) (.bool t) m') := callB (awake10 w0 M) (retP_of rfl)

theorem law_DependFar (W : World) (i0 : Ins) (wi0 : i0.wf) (i1 : Ins) (wi1 : i1.wf) : CallsA Try.prog W 14 #[i0.val, i1.val] (mOf W) (fun r _ => r = .bool true) := by
  refine cf14 W _ _ _ _ _ _ _ _ _ _ _ _ ?_
  intro b hBb hNb M
  have l : AM.le _ M := le_new hNb _
  have p : M b = some (.cells (Ins.cells i0).toArray 23) := upd_get_same
  clear_value M
  intro b3 hBb3 hNb3 M3
  have l3 : AM.le _ M3 := le_new hNb3 _
  have p3 : M3 b3 = some (.cells (Ins.cells i1).toArray 23) := upd_get_same
  clear_value M3
  replace p := l3 _ _ p
  refine ldIns p (ldIns p3 ⟨_, far_e W M3 i0 i1, ldIns p (ldIns p3 (callI (refFar_e W M3 i0 i1) ⟨rfl, ?_⟩))⟩)
  have e : (farP i0 i1 == farP i0 i1) = true := by simp
  exact bcET e (aw10 W M3 e)

theorem far_pos (a b : Ins) : farP a b > 0 ↔ (readsR b (writesP a) || (writesP a != 0 && writesP a == writesP b) || readsR a (writesP b) || (actsP a && actsP b)) = true := by
  unfold farP
  by_cases h1 : (readsR b (writesP a) && lateP a) = true
  · rw [if_pos h1]
    simp only [Bool.and_eq_true] at h1
    rw [h1.1]; simp
  · rw [if_neg h1]
    split <;> simp_all
theorem far_sym (a b : Ins) : farP a b > 0 ↔ farP b a > 0 := by
  rw [far_pos, far_pos]
  have : (writesP a != 0 && writesP a == writesP b) = (writesP b != 0 && writesP b == writesP a) := by
    rw [Bool.eq_iff_iff]; simp only [Bool.and_eq_true, bne_iff_ne, beq_iff_eq, ne_eq]; constructor <;> (intro h; exact ⟨by omega, by omega⟩)
  rw [this, Bool.and_comm (actsP a)]
  cases readsR b (writesP a) <;> cases readsR a (writesP b) <;> simp
theorem nop_facts : writesP ⟨0, 0, 0, 0, 0⟩ = 0 ∧ actsP ⟨0, 0, 0, 0, 0⟩ = false ∧ (∀ n, readsR ⟨0, 0, 0, 0, 0⟩ n = false) ∧ goesP ⟨0, 0, 0, 0, 0⟩ = false ∧ lateP ⟨0, 0, 0, 0, 0⟩ = false ∧ rightR ⟨0, 0, 0, 0, 0⟩ = true :=
  ⟨by decide, by decide, fun n => by unfold readsR fieldL; simp, by decide, by decide, by decide⟩
theorem far_nop (a : Ins) : farP a ⟨0, 0, 0, 0, 0⟩ = 0 := by
  obtain ⟨h1, h2, h3, _⟩ := nop_facts
  have : ¬ farP a ⟨0, 0, 0, 0, 0⟩ > 0 := by
    rw [far_pos, h1, h2, h3, readsR_0]
    simp
  have := farP_in a ⟨0, 0, 0, 0, 0⟩
  omega
theorem nop_far (a : Ins) : farP ⟨0, 0, 0, 0, 0⟩ a = 0 := by
  have : ¬ farP ⟨0, 0, 0, 0, 0⟩ a > 0 := by rw [far_sym, far_nop]; omega
  have := farP_in ⟨0, 0, 0, 0, 0⟩ a
  omega
theorem far_two (a b : Ins) : (farP a b == 2) = (lateP a && readsR b (writesP a)) := by
  unfold farP
  rw [Bool.and_comm (lateP a)]
  cases h : (readsR b (writesP a) && lateP a)
  · rw [if_neg (by simp)]; split <;> rfl
  · rw [if_pos rfl]; rfl

theorem law_DependPairs (W : World) (i0 : Ins) (wi0 : i0.wf) (i1 : Ins) (wi1 : i1.wf) : CallsA Try.prog W 18 #[i0.val, i1.val] (mOf W) (fun r _ => r = .bool true) := by
  refine cf18 W _ _ _ _ _ _ _ _ _ _ _ _ ?_
  intro b hBb hNb M
  have l : AM.le _ M := le_new hNb _
  have p : M b = some (.cells (Ins.cells i0).toArray 23) := upd_get_same
  clear_value M
  intro b3 hBb3 hNb3 M3
  have l3 : AM.le _ M3 := le_new hNb3 _
  have p3 : M3 b3 = some (.cells (Ins.cells i1).toArray 23) := upd_get_same
  clear_value M3
  replace p := l3 _ _ p
  have hf := farP_in i0 i1
  refine ldIns p (ldIns p3 ⟨_, far_e W M3 i0 i1, ldIns p3 (ldIns p (callI (far_e W M3 i1 i0) ⟨rfl, ?_⟩))⟩)
  have e : ((decide (farP i0 i1 > 0) : Bool) == decide (farP i1 i0 > 0)) = true := by
    rw [decide_eq_decide.2 (far_sym i0 i1)]; exact bEq _
  rw [e, decide_eq_true hf.1, decide_eq_true hf.2]
  refine bcT ⟨rfl, bcT ⟨rfl, rfl, bcT (ldIns p ⟨rfl, callI (far_e W M3 i0 ⟨0, 0, 0, 0, 0⟩) ?_⟩)⟩⟩
  rw [far_nop]
  refine ⟨rfl, bcT ⟨rfl, ldIns p3 (callI (far_e W M3 ⟨0, 0, 0, 0, 0⟩ i1) ?_)⟩⟩
  rw [nop_far]
  exact ⟨rfl, bcT (aw10 W M3 rfl)⟩

theorem law_DependLate (W : World) (i0 : Ins) (wi0 : i0.wf) (i1 : Ins) (wi1 : i1.wf) : CallsA Try.prog W 20 #[i0.val, i1.val] (mOf W) (fun r _ => r = .bool true) := by
  refine cf20 W _ _ _ _ _ _ _ _ _ _ _ _ ?_
  intro b hBb hNb M
  have l : AM.le _ M := le_new hNb _
  have p : M b = some (.cells (Ins.cells i0).toArray 23) := upd_get_same
  clear_value M
  intro b3 hBb3 hNb3 M3
  have l3 : AM.le _ M3 := le_new hNb3 _
  have p3 : M3 b3 = some (.cells (Ins.cells i1).toArray 23) := upd_get_same
  clear_value M3
  replace p := l3 _ _ p
  have ht := far_two i0 i1
  refine ldIns p (callB (refLate_e W M3 i0) ?_)
  cases hl : lateP i0
  · refine bcF ⟨rfl, ldIns p (ldIns p3 (callI (far_e W M3 i0 i1) ⟨rfl, ?_⟩))⟩
    have e : (((farP i0 i1 == 2) : Bool) == false) = true := by rw [ht, hl]; rfl
    exact bcET e (aw10 W M3 e)
  · refine bcT (ldIns p3 (ldIns p ⟨_, refWrites_e W M3 i0, callB (refReads_e W M3 i1 _) (ldIns p (ldIns p3 (callI (far_e W M3 i0 i1) ⟨rfl, ?_⟩)))⟩))
    have e : (((farP i0 i1 == 2) : Bool) == (bif true then readsR i1 (writesP i0) else false)) = true := by rw [ht, hl]; exact bEq _
    exact bcET e (aw10 W M3 e)

theorem law_DependHeights (W : World) (A0 : Option Addr) (n0 c0 : Nat) (l0 : List Ins) (z0 : l0.length = n0) (hlc0 : n0 ≤ c0) (rd0 : Reads (mOf W) 5 A0 n0 (insCells l0)) (y0 : n0 * 40 ≤ 140737488351232) (hw0 : ∀ i ∈ l0, i.wf) :
    CallsA Try.prog W 15 #[.slice A0 n0 c0] (mOf W) (fun r _ => r = .bool true) := by
  subst z0
  refine cf15 W _ A0 _ c0 _ ⟨rfl, bcP (fun h => aw10' W _) fun h => ?_⟩
  refine callInts (heights_spec W _ A0 c0 l0 (by omega) rd0) fun A c M l o f => ?_
  refine callInts (refHeights_spec W M A0 c0 l0 (by omega) (rd0.le l)) fun A2 c2 M2 l2 o2 f2 => ?_
  refine callB (same_e W M2 A _ c (heightsP l0) A2 _ c2 (heightsP l0) rfl rfl (by rw [heightsP_len]; omega) (o.le l2).reads o2.reads) ?_
  rw [decide_eq_true rfl]
  exact bcT (aw10 W M2 rfl)

theorem law_DependKeeps (W : World) (A0 : Option Addr) (n0 c0 : Nat) (l0 : List Ins) (z0 : l0.length = n0) (hlc0 : n0 ≤ c0) (rd0 : Reads (mOf W) 5 A0 n0 (insCells l0)) (y0 : n0 * 40 ≤ 140737488351232) (hw0 : ∀ i ∈ l0, i.wf)
    (A1 : Option Addr) (n1 c1 : Nat) (l1 : List Int) (z1 : l1.length = n1) (hlc1 : n1 ≤ c1) (rd1 : Reads (mOf W) 1 A1 n1 (intCells .i64 l1)) (y1 : n1 * 8 ≤ 140737488351232) (hw1 : ∀ i ∈ l1, (Lit.int .i64 i).wf = true) :
    CallsA Try.prog W 16 #[.slice A0 n0 c0, .slice A1 n1 c1] (mOf W) (fun r _ => r = .bool true) := by
  subst z0; subst z1
  refine cf16 W _ A0 _ c0 A1 _ c1 _ ⟨rfl, bcP (fun h => ⟨decide_eq_true h, aw10' W _⟩) fun h => ⟨rfl, ?_⟩⟩
  rw [decide_eq_false h]
  refine bifF (bcP (fun h => aw10' W _) fun h2 => ?_)
  refine callB (keeps_e W _ A0 _ c0 l0 A1 _ c1 l1 rfl rfl (by omega) (by omega) rd0 rd1) (callB (refKeeps_e W _ A0 _ c0 l0 A1 _ c1 l1 rfl rfl (by omega) (by omega) rd0 rd1) ?_)
  have e := bEq (keepsB l0 l1)
  exact bcET e (aw10 W _ e)
end Go.Proofs.Ythocajnpofdbmaa.S
