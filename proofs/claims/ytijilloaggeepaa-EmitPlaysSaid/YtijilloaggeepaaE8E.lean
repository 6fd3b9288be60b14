/- Ytijilloaggeepaa: a text of our own, by an AI agent: E8E -/
import Derived.Test.YtijilloaggeepaaE7E
import Derived.Test.YtijilloaggeepaaMaE
import Derived.Test.YtijilloaggeepaaVR1E
import Derived.Test.YtijilloaggeepaaCore12
set_option linter.unusedSimpArgs false
set_option linter.unusedVariables false
set_option maxRecDepth 100000
namespace Go.Proofs.Ytijilloaggeepaa.S
open Go Go.RowKit Go.Alog Go.Proofs.Ytijilloaggeepaa.T Go.Proofs.Ytijilloaggeepaa.V

theorem le_upd0 {m m' : AM} {b : Nat} {o : Obj} (h : m.le m') (hb : m b = none) : m.le (m'.upd b o) := fun x o' hx => by
  have : x ≠ b := fun e => by subst e; rw [hb] at hx; cases hx
  rw [upd_get_ne this]; exact h x o' hx

/-- A record of three cells is written and read again. -/
theorem keep3 {w0 : World} {m : AM} {b : Nat} {T : TypeId} {z0 z1 z2 : Value} {A0 A1 : Option Addr} {n0 c0 n1 c1 : Nat} {t : Int} (hb : w0.heap.size ≤ b) (hm : m b = some (.cells #[z0, z1, z2] T)) {K : Option Addr → Nat → Nat → Option Addr → Nat → Nat → Int → AM → Prop}
    (hK : ∀ m', m' = m.upd b (.cells #[.slice A0 n0 c0, .slice A1 n1 c1, .int .i64 t] T) → K A0 n0 c0 A1 n1 c1 t m') :
    StC w0.heap.size m ⟨b, 0, none⟩ (.slice A0 n0 c0) fun m1 => StC w0.heap.size m1 ⟨b, 1, none⟩ (.slice A1 n1 c1) fun m2 => StC w0.heap.size m2 ⟨b, 2, none⟩ (.int .i64 t) fun m3 =>
      ∃ (A : Option Addr) (n c : Nat), m3.cell ⟨b, 0, none⟩ = some (.slice A n c) ∧ ∃ (A' : Option Addr) (n' c' : Nat), m3.cell ⟨b, 1, none⟩ = some (.slice A' n' c') ∧ ∃ i : Int, m3.cell ⟨b, 2, none⟩ = some (.int .i64 i) ∧ K A n c A' n' c' i m3 := by
  refine StC_own hm hb (by simp) (StC_upd.2 ⟨hb, by simp, StC_upd.2 ⟨hb, by simp, ?_⟩⟩)
  refine ⟨A0, n0, c0, by rw [cell_upd_same]; simp, A1, n1, c1, by rw [cell_upd_same]; simp, t, by rw [cell_upd_same]; simp, hK _ (by simp)⟩
theorem st3 {w0 : World} {m : AM} {b : Nat} {T : TypeId} {z0 z1 z2 v0 v1 v2 : Value} (hb : w0.heap.size ≤ b) (hm : m b = some (.cells #[z0, z1, z2] T)) {K : AM → Prop} (hK : ∀ m', m' = m.upd b (.cells #[v0, v1, v2] T) → K m') :
    StC w0.heap.size m ⟨b, 0, none⟩ v0 fun m1 => StC w0.heap.size m1 ⟨b, 1, none⟩ v1 fun m2 => StC w0.heap.size m2 ⟨b, 2, none⟩ v2 fun m3 => K m3 := by
  refine StC_own hm hb (by simp) (StC_upd.2 ⟨hb, by simp, StC_upd.2 ⟨hb, by simp, ?_⟩⟩)
  exact hK _ (by simp)
/-- An instruction is written and read again. -/
theorem keep5 {w0 : World} {m : AM} {b : Nat} {T : TypeId} {z0 z1 z2 z3 z4 : Value} {i0 i1 i2 i3 i4 : Int} (hb : w0.heap.size ≤ b) (hm : m b = some (.cells #[z0, z1, z2, z3, z4] T)) {K : Int → Int → Int → Int → Int → AM → Prop}
    (hK : ∀ m', m' = m.upd b (.cells #[.int .i64 i0, .int .i64 i1, .int .i64 i2, .int .i64 i3, .int .i64 i4] T) → K i0 i1 i2 i3 i4 m') :
    StC w0.heap.size m ⟨b, 0, none⟩ (.int .i64 i0) fun m1 => StC w0.heap.size m1 ⟨b, 1, none⟩ (.int .i64 i1) fun m2 => StC w0.heap.size m2 ⟨b, 2, none⟩ (.int .i64 i2) fun m3 => StC w0.heap.size m3 ⟨b, 3, none⟩ (.int .i64 i3) fun m4 => StC w0.heap.size m4 ⟨b, 4, none⟩ (.int .i64 i4) fun m5 =>
      ∃ x0 : Int, m5.cell ⟨b, 0, none⟩ = some (.int .i64 x0) ∧ ∃ x1 : Int, m5.cell ⟨b, 1, none⟩ = some (.int .i64 x1) ∧ ∃ x2 : Int, m5.cell ⟨b, 2, none⟩ = some (.int .i64 x2) ∧ ∃ x3 : Int, m5.cell ⟨b, 3, none⟩ = some (.int .i64 x3) ∧ ∃ x4 : Int, m5.cell ⟨b, 4, none⟩ = some (.int .i64 x4) ∧ K x0 x1 x2 x3 x4 m5 := by
  refine StC_own hm hb (by simp) (StC_upd.2 ⟨hb, by simp, StC_upd.2 ⟨hb, by simp, StC_upd.2 ⟨hb, by simp, StC_upd.2 ⟨hb, by simp, ?_⟩⟩⟩⟩)
  exact ⟨i0, by rw [cell_upd_same]; simp, i1, by rw [cell_upd_same]; simp, i2, by rw [cell_upd_same]; simp, i3, by rw [cell_upd_same]; simp, i4, by rw [cell_upd_same]; simp, hK _ (by simp)⟩

theorem jump18_spec (w0 : World) (m : AM) (Z : Nat → Prop) (hz : ∀ k, Z k → m k ≠ none) (s : St) (A0 A1 : Option Addr) (c0 c1 : Nat) (i : Ins) (hr0 : Reads m 5 A0 s.code.length (insCells s.code)) (hr1 : Reads m 3 A1 s.pats.length (patCells s.pats)) (hl : s.code.length ≤ 999999) (hl2 : s.pats.length ≤ 999999) :
    CallsA Try.prog w0 36 #[.agg #[.slice A0 s.code.length c0, .slice A1 s.pats.length c1, .int .i64 s.taken], i.val] m (fun r m' => m.le m' ∧ RB m' Z r ⟨s.code ++ [i], jumpC s.code s.pats i, s.taken⟩) := by
  refine cf36 w0 m _ _ _ _ _ _ _ _ _ _ _ _ _ ?_
  intro b1 hb1 hm1 m1
  have l1 : m.le m1 := le_new hm1 _
  have p1 : m1 b1 = some (.cells #[.slice A0 s.code.length c0, .slice A1 s.pats.length c1, .int .i64 s.taken] 48) := upd_get_same
  clear_value m1
  intro b3 hb3 hm3 m3
  have l3 : m1.le m3 := le_new hm3 _
  have p3 : m3 b3 = some (.cells #[.int .i64 i.op, .int .i64 i.a, .int .i64 i.b, .int .i64 i.c, .int .i64 i.imm] 23) := upd_get_same
  clear_value m3
  intro b5 hb5 hm5 M
  have l5 : m3.le M := le_new hm5 _
  have p5 : M b5 = some (.cells #[.slice none 0 0, .slice none 0 0, .int .i64 0] 48) := upd_get_same
  clear_value M
  replace p1 := l5 _ _ (l3 _ _ p1)
  replace p3 := l5 _ _ p3
  have L := AM.le_trans l1 (AM.le_trans l3 l5)
  have n5 : m b5 = none := AM.le_none l1 (AM.le_none l3 hm5)
  have hzM : ∀ k, Z k → M k ≠ none := fun k hk hn => hz k hk (AM.le_none L hn)
  have tail : ∀ kind n : Int, putP s kind n = jumpC s.code s.pats i → CallsA Try.prog w0 35 #[.agg #[.slice A0 s.code.length c0, .slice A1 s.pats.length c1, .int .i64 s.taken], i.val, .int .i64 kind, .int .i64 n] M fun r m28 =>
      ∃ (A20 : Option Addr) (n21 c22 : Nat), ∃ (A23 : Option Addr) (n24 c25 : Nat), ∃ i26 : Int, r = .agg #[.slice A20 n21 c22, .slice A23 n24 c25, .int .i64 i26] ∧ StC w0.heap.size m28 ⟨b5, 0, none⟩ (.slice A20 n21 c22) fun m29 => StC w0.heap.size m29 ⟨b5, 1, none⟩ (.slice A23 n24 c25) fun m30 => StC w0.heap.size m30 ⟨b5, 2, none⟩ (.int .i64 i26) fun m31 =>
      ∃ (A32 : Option Addr) (n33 c34 : Nat), m31.cell ⟨b5, 0, none⟩ = some (.slice A32 n33 c34) ∧ ∃ (A35 : Option Addr) (n36 c37 : Nat), m31.cell ⟨b5, 1, none⟩ = some (.slice A35 n36 c37) ∧ ∃ i38 : Int, m31.cell ⟨b5, 2, none⟩ = some (.int .i64 i38) ∧ RetP (fun r m' => m.le m' ∧ RB m' Z r ⟨s.code ++ [i], jumpC s.code s.pats i, s.taken⟩) (.agg #[.slice A32 n33 c34, .slice A35 n36 c37, .int .i64 i38]) m31 := by
    intro kind n hp
    refine CallsA.mono (put18_spec w0 M (fun k => Z k ∨ k = b5) (fun k hk => hk.elim (hzM k) (fun e => by rw [e, p5]; simp)) s A0 A1 c0 c1 i kind n (hr0.le L) (hr1.le L) hl hl2) ?_
    rintro r m2 ⟨l2, B0, d0, B1, d1, rfl, q0, q1, z0, z1⟩
    rw [hp] at q1 z1
    have r5 := l2 _ _ p5
    refine ⟨_, _, _, _, _, _, _, rfl, ?_⟩
    refine keep3 hb5 r5 fun m' hm' => ?_
    have hf : Fr m2 m' [b5] := by rw [hm']; exact Fr.upd (Fr.refl _ _) (.inl (by simp)) _
    refine retP_of ⟨by rw [hm']; exact le_upd0 (AM.le_trans L l2) n5, B0, d0, B1, d1, by rw [hp], Reads_fr q0 hf (fun h0 k hk hin => z0 h0 k hk (.inr (by simpa using hin))), Reads_fr q1 hf (fun h0 k hk hin => z1 h0 k hk (.inr (by simpa using hin))), fun h0 k hk hz => z0 h0 k hk (.inl hz), fun h0 k hk hz => z1 h0 k hk (.inl hz)⟩
  have rd1 : ∀ {K : Option Addr → Nat → Nat → Option Addr → Nat → Nat → Int → Prop}, K A0 s.code.length c0 A1 s.pats.length c1 s.taken → ∃ (A8 : Option Addr) (n9 c10 : Nat), M.cell ⟨b1, 0, none⟩ = some (.slice A8 n9 c10) ∧ ∃ (A11 : Option Addr) (n12 c13 : Nat), M.cell ⟨b1, 1, none⟩ = some (.slice A11 n12 c13) ∧ ∃ i14 : Int, M.cell ⟨b1, 2, none⟩ = some (.int .i64 i14) ∧ K A8 n9 c10 A11 n12 c13 i14 :=
    fun h => ⟨_, _, _, cel p1 rfl, _, _, _, cel p1 rfl, _, cel p1 rfl, h⟩
  have rd3 : ∀ {K : Int → Int → Int → Int → Int → Prop}, K i.op i.a i.b i.c i.imm → ∃ i15 : Int, M.cell ⟨b3, 0, none⟩ = some (.int .i64 i15) ∧ ∃ i16 : Int, M.cell ⟨b3, 1, none⟩ = some (.int .i64 i16) ∧ ∃ i17 : Int, M.cell ⟨b3, 2, none⟩ = some (.int .i64 i17) ∧ ∃ i18 : Int, M.cell ⟨b3, 3, none⟩ = some (.int .i64 i18) ∧ ∃ i19 : Int, M.cell ⟨b3, 4, none⟩ = some (.int .i64 i19) ∧ K i15 i16 i17 i18 i19 :=
    fun h => ⟨_, cel p3 rfl, _, cel p3 rfl, _, cel p3 rfl, _, cel p3 rfl, _, cel p3 rfl, h⟩
  refine ⟨_, cel p3 rfl, rfl, ?_⟩
  by_cases h17 : i.op = 17
  · have e : (i.op == 17) = true := by simpa using h17
    refine bcET e ⟨e, rd1 (rd3 ?_)⟩
    exact tail 0 0 (by unfold jumpC putP farB; rw [e]; rfl)
  have e : (i.op == 17) = false := by simpa using h17
  refine bcEF e ⟨_, cel p3 rfl, rfl, ?_⟩
  by_cases h18 : i.op = 18
  · have e2 : (i.op == 18) = true := by simpa using h18
    refine bcET (by rw [e, e2]; rfl) (rd1 (rd3 ?_))
    exact tail 0 0 (by unfold jumpC putP farB; rw [e, e2]; rfl)
  · have e2 : (i.op == 18) = false := by simpa using h18
    refine bcEF (by rw [e, e2]; rfl) (rd1 (rd3 ?_))
    exact tail (-1) 0 (by unfold jumpC putP farB; rw [e, e2]; rfl)

/-- What Aimed tells. -/
def aimV (i : Ins) (o : Option Ins) : Ins := o.getD i
theorem aimed18_spec (w0 : World) (m : AM) (i : Ins) (at_ to : Int) : CallsA Try.prog w0 37 #[i.val, .int .i64 at_, .int .i64 to] m (fun r m' => m.le m' ∧ r = .tuple #[(aimV i (aimI i at_ to)).val, .bool (aimI i at_ to).isSome]) := by
  refine cf37 w0 m _ _ _ _ _ _ _ _ ?_
  intro b1 hb1 hm1 m1
  have l1 : m.le m1 := le_new hm1 _
  have p1 : m1 b1 = some (.cells #[.int .i64 i.op, .int .i64 i.a, .int .i64 i.b, .int .i64 i.c, .int .i64 i.imm] 23) := upd_get_same
  clear_value m1
  intro b3 hb3 hm3 M
  have l3 : m1.le M := le_new hm3 _
  have p3 : M b3 = some (.cells #[.int .i64 0, .int .i64 0, .int .i64 0, .int .i64 0, .int .i64 0] 23) := upd_get_same
  clear_value M
  have h13 : b1 ≠ b3 := ne_new p1 hm3
  replace p1 := l3 _ _ p1
  have L := AM.le_trans l1 l3
  have n3 : m b3 = none := AM.le_none l1 hm3
  have tailv : ∀ (M2 : AM) (j : Ins) (o : Option Ins) (t : Bool), m.le M2 → M2 b1 = some (.cells #[.int .i64 j.op, .int .i64 j.a, .int .i64 j.b, .int .i64 j.c, .int .i64 j.imm] 23) → M2 b3 = some (.cells #[.int .i64 0, .int .i64 0, .int .i64 0, .int .i64 0, .int .i64 0] 23) → aimI i at_ to = o → j = aimV i o → t = o.isSome →
      ∃ i7 : Int, M2.cell ⟨b1, 0, none⟩ = some (.int .i64 i7) ∧ ∃ i8 : Int, M2.cell ⟨b1, 1, none⟩ = some (.int .i64 i8) ∧ ∃ i9 : Int, M2.cell ⟨b1, 2, none⟩ = some (.int .i64 i9) ∧ ∃ i10 : Int, M2.cell ⟨b1, 3, none⟩ = some (.int .i64 i10) ∧ ∃ i11 : Int, M2.cell ⟨b1, 4, none⟩ = some (.int .i64 i11) ∧
      StC w0.heap.size M2 ⟨b3, 0, none⟩ (.int .i64 i7) fun m12 => StC w0.heap.size m12 ⟨b3, 1, none⟩ (.int .i64 i8) fun m13 => StC w0.heap.size m13 ⟨b3, 2, none⟩ (.int .i64 i9) fun m14 => StC w0.heap.size m14 ⟨b3, 3, none⟩ (.int .i64 i10) fun m15 => StC w0.heap.size m15 ⟨b3, 4, none⟩ (.int .i64 i11) fun m16 =>
      ∃ i17 : Int, m16.cell ⟨b3, 0, none⟩ = some (.int .i64 i17) ∧ ∃ i18 : Int, m16.cell ⟨b3, 1, none⟩ = some (.int .i64 i18) ∧ ∃ i19 : Int, m16.cell ⟨b3, 2, none⟩ = some (.int .i64 i19) ∧ ∃ i20 : Int, m16.cell ⟨b3, 3, none⟩ = some (.int .i64 i20) ∧ ∃ i21 : Int, m16.cell ⟨b3, 4, none⟩ = some (.int .i64 i21) ∧
      RetP (fun r m' => m.le m' ∧ r = .tuple #[(aimV i (aimI i at_ to)).val, .bool (aimI i at_ to).isSome]) (.tuple #[.agg #[.int .i64 i17, .int .i64 i18, .int .i64 i19, .int .i64 i20, .int .i64 i21], .bool t]) m16 := by
    intro M2 j o t L2 q1 q3 ho hj ht
    subst ho
    subst ht
    refine ⟨_, cel q1 rfl, _, cel q1 rfl, _, cel q1 rfl, _, cel q1 rfl, _, cel q1 rfl, ?_⟩
    refine keep5 hb3 q3 fun m' hm' => ?_
    subst hm'
    refine retP_of ⟨le_upd0 L2 n3, ?_⟩
    rw [← hj]
  have imm : ∀ (x : Int) (K : AM → Prop), (∀ M2, m.le M2 → M2 b1 = some (.cells #[.int .i64 i.op, .int .i64 i.a, .int .i64 i.b, .int .i64 i.c, .int .i64 x] 23) → M2 b3 = some (.cells #[.int .i64 0, .int .i64 0, .int .i64 0, .int .i64 0, .int .i64 0] 23) → K M2) → StC w0.heap.size M ⟨b1, 4, none⟩ (.int .i64 x) K := by
    intro x K hK
    refine StC_own p1 hb1 (by simp) (hK _ ?_ (by rw [upd_get_same]; simp) (by rw [upd_get_ne h13.symm]; exact p3))
    exact le_upd0 L hm1
  refine ⟨_, cel p1 rfl, rfl, ?_⟩
  by_cases h17 : i.op = 17
  · have e : (i.op == 17) = true := by simpa using h17
    refine bcET e ⟨e, imm _ _ fun M2 L2 q1 q3 => ?_⟩
    exact tailv M2 { i with imm := to } _ true L2 q1 q3 (by unfold aimI farB; rw [e]; first | done | rfl) rfl rfl
  have e : (i.op == 17) = false := by simpa using h17
  refine bcEF e ⟨_, cel p1 rfl, rfl, ?_⟩
  by_cases h18 : i.op = 18
  · have e2 : (i.op == 18) = true := by simpa using h18
    refine bcET (by rw [e, e2]; rfl) (imm _ _ fun M2 L2 q1 q3 => ?_)
    exact tailv M2 { i with imm := to } _ true L2 q1 q3 (by unfold aimI farB; rw [e, e2]; first | done | rfl) rfl rfl
  have e2 : (i.op == 18) = false := by simpa using h18
  refine bcEF (by rw [e, e2]; rfl) ⟨_, cel p1 rfl, rfl, ?_⟩
  by_cases h15 : i.op = 15
  · have e3 : (i.op == 15) = true := by simpa using h15
    refine bcET e3 ⟨e3, rfl, rfl, imm _ _ fun M2 L2 q1 q3 => ?_⟩
    exact tailv M2 { i with imm := IntKind.wrap .i64 (IntKind.wrap .i64 (to - at_) - 1) } _ true L2 q1 q3 (by unfold aimI farB; rw [e, e2, e3]; first | done | rfl) rfl rfl
  have e3 : (i.op == 15) = false := by simpa using h15
  refine bcEF e3 ⟨_, cel p1 rfl, rfl, ?_⟩
  by_cases h16 : i.op = 16
  · have e4 : (i.op == 16) = true := by simpa using h16
    refine bcET (by rw [e3, e4]; rfl) ⟨rfl, rfl, imm _ _ fun M2 L2 q1 q3 => ?_⟩
    exact tailv M2 { i with imm := IntKind.wrap .i64 (IntKind.wrap .i64 (to - at_) - 1) } _ true L2 q1 q3 (by unfold aimI farB; rw [e, e2, e3, e4]; first | done | rfl) rfl rfl
  · have e4 : (i.op == 16) = false := by simpa using h16
    refine bcEF (by rw [e3, e4]; rfl) ?_
    exact tailv M i none false L p1 p3 (by unfold aimI farB; rw [e, e2, e3, e4]; first | done | rfl) rfl rfl

/-- Up to a place a list's rows, with another one at one place. -/
theorem set18_spec (w0 : World) (m : AM) (Z : Nat → Prop) (hz : ∀ k, Z k → m k ≠ none) (s : St) (A0 A1 : Option Addr) (c0 c1 : Nat) (at_ : Int) (i : Ins) (hat : 0 ≤ at_) (hr0 : Reads m 5 A0 s.code.length (insCells s.code)) (hr1 : Reads m 3 A1 s.pats.length (patCells s.pats)) (hl : s.code.length ≤ 999999) (z1 : 0 < s.pats.length → ∀ k ∈ obl A1, ¬ Z k) :
    CallsA Try.prog w0 38 #[.agg #[.slice A0 s.code.length c0, .slice A1 s.pats.length c1, .int .i64 s.taken], .int .i64 at_, i.val] m (fun r m' => m.le m' ∧ RB m' Z r ⟨s.code.set at_.toNat i, s.pats, s.taken⟩) := by
  refine cf38 w0 m _ _ _ _ _ _ _ _ _ _ _ _ _ _ ?_
  intro b1 hb1 hm1 m1
  have l1 : m.le m1 := le_new hm1 _
  have p1 : m1 b1 = some (.cells #[.slice A0 s.code.length c0, .slice A1 s.pats.length c1, .int .i64 s.taken] 48) := upd_get_same
  clear_value m1
  intro b3 hb3 hm3 m3
  have l3 : m1.le m3 := le_new hm3 _
  have p3 : m3 b3 = some (.cells #[.int .i64 i.op, .int .i64 i.a, .int .i64 i.b, .int .i64 i.c, .int .i64 i.imm] 23) := upd_get_same
  clear_value m3
  intro b5 hb5 hm5 M
  have l5 : m3.le M := le_new hm5 _
  have p5 : M b5 = some (.cells #[.slice none 0 0, .slice none 0 0, .int .i64 0] 48) := upd_get_same
  clear_value M
  have h15 : b1 ≠ b5 := ne_new (l3 _ _ p1) hm5
  replace p1 := l5 _ _ (l3 _ _ p1)
  replace p3 := l5 _ _ p3
  have L := AM.le_trans l1 (AM.le_trans l3 l5)
  have n5 : m b5 = none := AM.le_none l1 (AM.le_none l3 hm5)
  refine vl38_11010 w0 M _ _ at_ b1 b3 b5 none 0 0 0
    (fun k A n c x m2 => M.le m2 ∧ 0 ≤ x ∧ x ≤ s.code.length ∧ (k : Int) = s.code.length - x ∧ (n : Int) = x ∧ Own m2 w0.heap.size 23 5 A n c (insCells ((s.code.set at_.toNat i).take n)) ∧ ∀ y ∈ obl A, M y = none)
    (fun A n c m2 => M.le m2 ∧ Own m2 w0.heap.size 23 5 A n c (insCells (s.code.set at_.toNat i)) ∧ n = s.code.length ∧ ∀ y ∈ obl A, M y = none) s.code.length rfl rfl rfl rfl rfl rfl ⟨AM.le_refl _, by omega, by omega, by omega, by omega, Own.nil _ _ _ _, by simp [obl]⟩ ?_ ?_
  · rintro k σ A n c x m2 ⟨L2, h0, h1, hk, hn, ho, hnew⟩
    have q1 := L2 _ _ p1
    have q3 := L2 _ _ p3
    refine ⟨_, _, _, cel q1 rfl, rfl, ?_⟩
    by_cases c1' : x < s.code.length
    · refine bcET (decide_eq_true c1') ⟨rfl, ?_⟩
      have hlt : x.toNat < s.code.length := by omega
      have w : IntKind.wrap .i64 (x + 1) = x + 1 := by rw [IntKind.wrap_i64]; omega
      have step : ∀ (j : Ins), (s.code.set at_.toNat i)[x.toNat]? = some j → ∀ b : Nat, w0.heap.size ≤ b → m2 b = none → let m16 := AM.upd m2 b (.cells #[.int .i64 j.op, .int .i64 j.a, .int .i64 j.b, .int .i64 j.c, .int .i64 j.imm] 23);
          awp Try.prog w0.heap.size (Builtin.append_ #[24, 24] 24 #[.slice A n c, .slice (some ⟨b, 0, none⟩) 1 1]) m16 fun v17 m18 => ∃ (A19 : Option Addr) (n20 c21 : Nat), v17 = .slice A19 n20 c21 ∧ IntKind.i64 = IntKind.i64 ∧ (.int .i64 at_ : Value) = .int .i64 at_ ∧ (.pointer (some ⟨b1, 0, none⟩) : Value) = .pointer (some ⟨b1, 0, none⟩) ∧ (.pointer (some ⟨b3, 0, none⟩) : Value) = .pointer (some ⟨b3, 0, none⟩) ∧ (.pointer (some ⟨b5, 0, none⟩) : Value) = .pointer (some ⟨b5, 0, none⟩) ∧ true = true ∧ true = true ∧ ∃ n' : Nat, n' < k ∧
            (M.le m18 ∧ 0 ≤ IntKind.wrap .i64 (x + 1) ∧ IntKind.wrap .i64 (x + 1) ≤ s.code.length ∧ (n' : Int) = s.code.length - IntKind.wrap .i64 (x + 1) ∧ (n20 : Int) = IntKind.wrap .i64 (x + 1) ∧ Own m18 w0.heap.size 23 5 A19 n20 c21 (insCells ((s.code.set at_.toNat i).take n20)) ∧ ∀ y ∈ obl A19, M y = none) := by
        intro j hj b hb hmb m16
        have l16 : m2.le m16 := le_new hmb _
        have r16 : Reads m16 5 (some ⟨b, 0, none⟩) 1 j.cells := Reads.lit rfl
        refine awp_append_loc (m0 := M) el24 (AM.le_trans L2 l16) (ho.le l16) hnew r16 (ins_one j) (by omega) (by omega) (fun A' c' m9 l9 f9 o9 n9 _ => ?_)
        refine ⟨A', n + 1, c', rfl, rfl, rfl, rfl, rfl, rfl, rfl, rfl, k - 1, by omega, ?_⟩
        rw [w]
        refine ⟨l9, by omega, by omega, by omega, by omega, ?_, n9⟩
        have hxn : x.toNat = n := by omega
        rw [hxn] at hj
        have e : (s.code.set at_.toNat i).take (n + 1) = (s.code.set at_.toNat i).take n ++ [j] := by
          rw [List.take_add_one, hj]; rfl
        rw [e, insCells_app]
        simpa [insCells] using o9
      by_cases hx : x = at_
      · refine bcET (by simpa using hx) ⟨_, cel q3 rfl, _, cel q3 rfl, _, cel q3 rfl, _, cel q3 rfl, _, cel q3 rfl, rfl, ?_⟩
        exact step i (by subst hx; simp [hlt])
      · refine bcEF (by simpa using hx) ⟨_, _, _, cel q1 rfl, ⟨h0, c1'⟩, ?_⟩
        obtain ⟨ad, hA, hc⟩ := (hr0.le (AM.le_trans L L2)).ex (by omega)
        have hi := hc.ins (List.getElem?_eq_getElem hlt)
        rw [hA]
        refine ⟨_, hi.1, _, hi.2.1, _, hi.2.2.1, _, hi.2.2.2.1, _, hi.2.2.2.2, rfl, ?_⟩
        exact step _ (by rw [List.getElem?_set_ne (by omega)]; exact List.getElem?_eq_getElem hlt)
    · refine bcEF (decide_eq_false c1') ⟨rfl, rfl, rfl, rfl, rfl, L2, ?_, by omega, hnew⟩
      have hn2 : n = s.code.length := by omega
      rw [hn2, List.take_of_length_le (by simp)] at ho
      rw [hn2]; exact ho
  · rintro σ A n c m2 ⟨L2, ho, hn, hnew⟩
    have q1 := L2 _ _ p1
    have q5 := L2 _ _ p5
    refine StC_own q1 hb1 (by simp) ?_
    have q1' : (m2.upd b1 (.cells (Array.setIfInBounds #[.slice A0 s.code.length c0, .slice A1 s.pats.length c1, .int .i64 s.taken] 0 (.slice A n c)) 48)) b1 = some (.cells #[.slice A n c, .slice A1 s.pats.length c1, .int .i64 s.taken] 48) := by rw [upd_get_same]; simp
    have q5' : (m2.upd b1 (.cells (Array.setIfInBounds #[.slice A0 s.code.length c0, .slice A1 s.pats.length c1, .int .i64 s.taken] 0 (.slice A n c)) 48)) b5 = some (.cells #[.slice none 0 0, .slice none 0 0, .int .i64 0] 48) := by rw [upd_get_ne h15.symm]; exact q5
    have hf1 : Fr m2 (m2.upd b1 (.cells (Array.setIfInBounds #[.slice A0 s.code.length c0, .slice A1 s.pats.length c1, .int .i64 s.taken] 0 (.slice A n c)) 48)) [b1] := Fr.upd (Fr.refl _ _) (.inl (by simp)) _
    have L3 : m.le (m2.upd b1 (.cells (Array.setIfInBounds #[.slice A0 s.code.length c0, .slice A1 s.pats.length c1, .int .i64 s.taken] 0 (.slice A n c)) 48)) := le_upd0 (AM.le_trans L L2) hm1
    generalize m2.upd b1 (.cells (Array.setIfInBounds #[.slice A0 s.code.length c0, .slice A1 s.pats.length c1, .int .i64 s.taken] 0 (.slice A n c)) 48) = m4 at q1' q5' hf1 L3 ⊢
    refine ⟨_, _, _, cel q1' rfl, _, _, _, cel q1' rfl, _, cel q1' rfl, ?_⟩
    refine keep3 hb5 q5' fun m' hm' => ?_
    have hf5 : Fr m4 m' [b5] := by rw [hm']; exact Fr.upd (Fr.refl _ _) (.inl (by simp)) _
    have nA : ∀ k ∈ obl A, m k = none := fun k hk => AM.le_none L (hnew k hk)
    have ho4 : Reads m4 5 A n (insCells (s.code.set at_.toNat i)) := Reads_fr ho.reads hf1 fun _ k hk hin => by
      simp at hin; subst hin
      have := hnew _ hk
      rw [p1] at this; cases this
    have hr4 : Reads m4 3 A1 s.pats.length (patCells s.pats) := hr1.le L3
    refine retP_of ⟨by rw [hm']; exact le_upd0 L3 n5, A, c, A1, c1, by simp [hn], ?_, ?_, fun _ k hk hzk => hz k hzk (nA k hk), z1⟩
    · have := Reads_fr ho4 hf5 fun _ k hk hin => by
        simp at hin; subst hin
        have := hnew _ hk
        rw [p5] at this; cases this
      simpa [hn] using this
    · exact Reads_fr hr4 hf5 fun h0 k hk hin => by
        simp at hin; subst hin
        exact Reads_known hr1 h0 (by decide) _ hk n5
end Go.Proofs.Ytijilloaggeepaa.S
