/- Ythocajnpofdbmaa: a text of our own, by an AI agent: Dp6G -/
import Derived.Test.YthocajnpofdbmaaDp5G
set_option linter.unusedSimpArgs false
set_option linter.unusedVariables false
set_option maxRecDepth 100000
namespace Go.Proofs.Ythocajnpofdbmaa.S
open Go Go.RowKit Go.Alog Go.Proofs.Ythocajnpofdbmaa.T Go.Proofs.Ythocajnpofdbmaa.V

/-- A row of one instruction, with a row appended. -/
theorem appRow {w0 : World} {m0 m1 : AM} {b : Nat} {i : Ins} {A : Option Addr} {c : Nat} {l : List Ins} (hle : m0.le m1) (hb0 : m0 b = none) (o : Own m1 w0.heap.size 23 5 (some ⟨b, 0, none⟩) 1 1 (insCells [i])) (hl : l.length ≤ 1000000) (rd : Reads m1 5 A l.length (insCells l)) {K : Option Addr → Nat → Nat → AM → Prop}
    (hK : ∀ A' c' m', m0.le m' → Own m' w0.heap.size 23 5 A' (i :: l).length c' (insCells (i :: l)) → (∀ k ∈ obl A', m0 k = none) → K A' (i :: l).length c' m') :
    awp Try.prog w0.heap.size (Builtin.append_ #[31, 31] 31 #[.slice (some ⟨b, 0, none⟩) 1 1, .slice A l.length c]) m1 fun v m' => ∃ (A' : Option Addr) (n' c' : Nat), v = .slice A' n' c' ∧ K A' n' c' m' := by
  refine awp_append_loc (m0 := m0) el31 hle o (fun k hk => by simp [obl] at hk; subst hk; exact hb0) rd (insCells_one l) (by omega) (by omega) (fun A' c' m6 l6 f6 o6 n6 _ => ?_)
  rw [← insCells_app] at o6
  rw [show 1 + l.length = (i :: l).length by simp; omega] at o6 ⊢
  exact ⟨A', _, c', rfl, hK A' c' m6 l6 o6 n6⟩

theorem law_DependHigh (W : World) (A0 : Option Addr) (n0 c0 : Nat) (l0 : List Ins) (z0 : l0.length = n0) (hlc0 : n0 ≤ c0) (rd0 : Reads (mOf W) 5 A0 n0 (insCells l0)) (y0 : n0 * 40 ≤ 140737488351232) (hw0 : ∀ i ∈ l0, i.wf) (i1 : Ins) (wi1 : i1.wf) :
    CallsA Try.prog W 19 #[.slice A0 n0 c0, i1.val] (mOf W) (fun r _ => r = .bool true) := by
  subst z0
  refine cf19 W _ A0 _ c0 _ _ _ _ _ _ ?_
  intro b hBb hNb M
  have l : AM.le _ M := le_new hNb _
  have p : M b = some (.cells (Ins.cells i1).toArray 23) := upd_get_same
  clear_value M
  refine ⟨rfl, bcP (fun h => aw10' W _) fun h => ?_⟩
  have rd0 := rd0.le l
  have lit : ∀ (mm : AM) (b' : Nat), W.heap.size ≤ b' → Own (mm.upd b' (.cells #[.int .i64 i1.op, .int .i64 i1.a, .int .i64 i1.b, .int .i64 i1.c, .int .i64 i1.imm] 23)) W.heap.size 23 5 (some ⟨b', 0, none⟩) 1 1 (insCells [i1]) := fun mm b' hb' => Own.new mm hb' 23 5 1 (insCells [i1]) rfl
  refine vr19_110 W M _ _ A0 _ c0 b (fun A n c A' n' c' m' => n = l0.length ∧ n' = (i1 :: l0).length ∧ Reads m' 1 A l0.length (intCells .i64 (heightsP l0)) ∧ Reads m' 1 A' (i1 :: l0).length (intCells .i64 (heightsP (i1 :: l0)))) rfl rfl ⟨?_, ldIns p ⟨?_, ?_⟩⟩ ?_
  · refine callInts (heights_spec W M A0 c0 l0 (by omega) rd0) fun A c m2 l2 o2 f2 => ldIns (l2 _ _ p) ⟨rfl, ?_⟩
    intro b16 hb16 hm16
    have l3 := le_new hm16 (.cells #[.int .i64 i1.op, .int .i64 i1.a, .int .i64 i1.b, .int .i64 i1.c, .int .i64 i1.imm] 23)
    refine appRow (m0 := m2) l3 hm16 (lit m2 b16 hb16) (by omega) ((rd0.le l2).le l3) fun A' c' m4 l4 o4 f4 => ?_
    refine callInts (heights_spec W m4 A' c' (i1 :: l0) (by simp; omega) o4.reads) fun A3 c3 m5 l5 o5 f5 => ?_
    repeat refine ⟨rfl, ?_⟩
    refine ⟨heightsP_len _, heightsP_len _, ?_, ?_⟩
    · rw [← heightsP_len l0]; exact ((o2.le l4).le l5).reads
    · rw [← heightsP_len (i1 :: l0)]; exact o5.reads
  · refine callInts (heights_spec W M A0 c0 l0 (by omega) rd0) fun A c m2 l2 o2 f2 => ⟨rfl, ?_⟩
    intro b16 hb16 hm16
    have l3 := le_new hm16 (.cells #[.int .i64 i1.op, .int .i64 i1.a, .int .i64 i1.b, .int .i64 i1.c, .int .i64 i1.imm] 23)
    refine appRow (m0 := m2) l3 hm16 (lit m2 b16 hb16) (by omega) ((rd0.le l2).le l3) fun A' c' m4 l4 o4 f4 => ?_
    refine callInts (heights_spec W m4 A' c' (i1 :: l0) (by simp; omega) o4.reads) fun A3 c3 m5 l5 o5 f5 => ?_
    repeat refine ⟨rfl, ?_⟩
    refine ⟨heightsP_len _, heightsP_len _, ?_, ?_⟩
    · rw [← heightsP_len l0]; exact ((o2.le l4).le l5).reads
    · rw [← heightsP_len (i1 :: l0)]; exact o5.reads
  · refine ⟨rfl, ?_⟩
    intro b16 hb16 hm16 m3
    have l3 : M.le m3 := le_new hm16 _
    have o3 : Own m3 W.heap.size 23 5 (some ⟨b16, 0, none⟩) 1 1 (insCells [i1]) := lit M b16 hb16
    clear_value m3
    refine callInts (heights_spec W m3 A0 c0 l0 (by omega) (rd0.le l3)) fun A c m2 l2 o2 f2 => ?_
    -- what is known ahead of the append, without the row's own block
    have o3' := o3.le l2
    refine appRow (m0 := fun k => if k = b16 then none else m2 k) (fun k o hk => by
        by_cases e : k = b16
        · simp [e] at hk
        · simpa [e] using hk) (by simp) o3' (by omega) (rd0.le (AM.le_trans l3 l2)) fun A' c' m4 l4 o4 f4 => ?_
    have hA : ∀ k ∈ obl A, k ≠ b16 := fun k hk e => by
      subst e
      have := f2 k hk
      obtain ⟨_, cur, hc⟩ := o3.obl_some (k := k) (by simp [obl])
      rw [hc] at this; cases this
    have o2' : Own m4 W.heap.size 3 1 A (heightsP l0).length c (intCells .i64 (heightsP l0)) := by
      refine o2.keep fun g hg => ?_
      have hgb : g ≠ b16 := hA g (by rw [hg]; simp [obl])
      obtain ⟨_, cur, hc⟩ := o2.obl_some (k := g) (by rw [hg]; simp [obl])
      have := l4 g _ (by simp only [hgb, if_false]; exact hc)
      rw [this, hc]
    refine callInts (heights_spec W m4 A' c' (i1 :: l0) (by simp; omega) o4.reads) fun A3 c3 m5 l5 o5 f5 => ?_
    repeat refine ⟨rfl, ?_⟩
    refine ⟨heightsP_len _, heightsP_len _, ?_, ?_⟩
    · rw [← heightsP_len l0]; exact (o2'.le l5).reads
    · rw [← heightsP_len (i1 :: l0)]; exact o5.reads
  · rintro σ A n c A' n' c' m' ⟨rfl, rfl, r1, r2⟩
    refine ⟨rfl, bcEF (by simp) ⟨rfl, rfl, bcEF ?_ ?_⟩⟩
    · rw [wrap_s (by omega) (by omega)]
      have e1 : (((l0.length : Nat) : Int) != ((l0.length : Nat) : Int)) = false := by simp
      have e2 : ((((i1 :: l0).length : Nat) : Int) != ((l0.length : Nat) : Int) + 1) = false := by simp
      rw [e1, e2]; rfl
    refine vl19_1111010 W m' _ _ _ _ _ _ _ _ _ _ _ _ _ (fun k i m2 => m2 = m' ∧ 0 ≤ i ∧ i ≤ l0.length ∧ (k : Int) = l0.length - i) (fun m2 => m2 = m') l0.length rfl rfl rfl rfl rfl ⟨rfl, by omega, by omega, by omega⟩ ?_ ?_
    · rintro k σ i m2 ⟨rfl, i0, i1', hk⟩
      refine ⟨rfl, bcP (fun c1 => ⟨⟨i0, c1⟩, ?_⟩) fun c1 => ?_⟩
      · obtain ⟨ad, rfl, hc⟩ := r1.ex (by omega)
        obtain ⟨ad2, rfl, hc2⟩ := r2.ex (by simp)
        rw [nilO_some]
        have hlen := heightsP_len l0
        have hlen2 := heightsP_len (i1 :: l0)
        have hl1 : (i1 :: l0).length = l0.length + 1 := rfl
        have hb := hAt_bd l0 (i := i.toNat) (by omega)
        have w : IntKind.wrap .i64 (i + 1) = i + 1 := wrap_s (by omega) (by omega)
        have ev : (heightsP l0).getD i.toNat 0 = hAt l0 i.toNat := rfl
        have w1 : IntKind.wrap .i64 (2 * IntKind.wrap .i64 (IntKind.wrap .i64 ((l0.length : Int) - 1) - i)) = 2 * ((l0.length : Int) - 1 - i) := by
          rw [wrap_s (i := (l0.length : Int) - 1) (by omega) (by omega), wrap_s (i := (l0.length : Int) - 1 - i) (by omega) (by omega), wrap_s (by omega) (by omega)]
        refine ⟨_, cell_k hc i0 (by omega), rfl, ?_⟩
        rw [ev, w, w1]
        refine bcEF (decide_eq_false (by omega)) ⟨rfl, rfl, rfl, rfl, ?_⟩
        rw [decide_eq_false (p := hAt l0 i.toNat < 0) (by omega)]
        refine bcEF (decide_eq_false (by omega)) ⟨rfl, ⟨by omega, by omega⟩, ?_⟩
        rw [nilO_some, decide_eq_false (p := hAt l0 i.toNat > 2 * ((l0.length : Int) - 1 - i)) (by omega)]
        have e3 : (heightsP (i1 :: l0)).getD (i + 1).toNat 0 = hAt l0 i.toNat := by
          rw [show (i + 1).toNat = i.toNat + 1 by omega, heightsP, List.getD_cons_succ]; rfl
        refine ⟨_, cell_k hc2 (by omega) (by rw [hlen2]; simp; omega), rfl, ?_⟩
        rw [e3]
        refine bcEF (by simp) ?_
        repeat refine ⟨rfl, ?_⟩
        exact ⟨k - 1, by omega, rfl, by omega, by omega, by omega⟩
      · repeat refine ⟨rfl, ?_⟩
        rfl
    · rintro σ m2 rfl
      exact aw10' W m2
end Go.Proofs.Ythocajnpofdbmaa.S
