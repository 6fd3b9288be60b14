/- Ytijilloaggeepaa: a text of our own, by an AI agent: E10E -/
import Derived.Test.YtijilloaggeepaaE9E
set_option linter.unusedSimpArgs false
set_option linter.unusedVariables false
set_option maxRecDepth 100000
namespace Go.Proofs.Ytijilloaggeepaa.S
open Go Go.RowKit Go.Alog Go.Proofs.Ytijilloaggeepaa.T Go.Proofs.Ytijilloaggeepaa.V

theorem aimC_at (pre : List Ins) (i : Ins) (to : Int) : aimC (pre ++ [i]) pre.length to = aimI i pre.length to := by
  unfold aimC
  rw [if_neg (by omega), if_neg (by rw [List.length_append]; simp only [List.length_cons, List.length_nil]; omega), Int.toNat_natCast, List.getElem?_append_right (by omega), Nat.sub_self]
  rfl
theorem setC_at (pre : List Ins) (i : Ins) (o : Option Ins) : setC (pre ++ [i]) pre.length o = (pre ++ [i]).set pre.length (aimV i o) := by
  cases o with
  | none =>
    show pre ++ [i] = (pre ++ [i]).set pre.length i
    rw [List.set_append_right _ _ (by omega), Nat.sub_self]; rfl
  | some j => show (pre ++ [i]).set ((pre.length : Nat) : Int).toNat j = _; rw [Int.toNat_natCast]; rfl
theorem setC_in (code : List Ins) (k : Nat) (i : Ins) (to : Int) (hi : code[k]? = some i) : setC code k (aimC code k to) = code.set k (aimV i (aimI i k to)) ∧ aimC code k to = aimI i k to := by
  have hk : k < code.length := (List.getElem?_eq_some_iff.1 hi).1
  have e : aimC code k to = aimI i k to := by
    unfold aimC
    rw [if_neg (by omega), if_neg (by omega), Int.toNat_natCast, hi]
    rfl
  refine ⟨?_, e⟩
  rw [e]
  cases ho : aimI i k to with
  | none =>
    show code = code.set k i
    have : code[k] = i := by rw [List.getElem?_eq_getElem hk] at hi; injection hi
    rw [← this, List.set_getElem_self]
  | some j => show code.set ((k : Nat) : Int).toNat j = _; rw [Int.toNat_natCast]; rfl

theorem told18_spec (w0 : World) (m : AM) (Z : Nat → Prop) (hz : ∀ k, Z k → m k ≠ none) (s : St) (A0 A1 : Option Addr) (c0 c1 : Nat) (a : ActV) (ha : a.wf) (hk1 : a.kind = 1 → 0 ≤ a.n) (hr0 : Reads m 5 A0 s.code.length (insCells s.code)) (hr1 : Reads m 3 A1 s.pats.length (patCells s.pats)) (hl : s.code.length ≤ 999990) (hl2 : s.pats.length ≤ 999990) (ht : 0 ≤ s.taken ∧ s.taken ≤ 8)
    (z0 : 0 < s.code.length → ∀ k ∈ obl A0, ¬ Z k) (z1 : 0 < s.pats.length → ∀ k ∈ obl A1, ¬ Z k) :
    CallsA Try.prog w0 22 #[.agg #[.slice A0 s.code.length c0, .slice A1 s.pats.length c1, .int .i64 s.taken], a.val] m (fun r m' => m.le m' ∧ ∃ v, RB m' Z v (actS s a).1 ∧ r = .tuple #[v, .int .i64 (actS s a).2.1, .bool (actS s a).2.2]) := by
  have hl' : s.code.length ≤ 999999 := by omega
  have hl'' : s.code.length ≤ 999998 := by omega
  have hl2' : s.pats.length ≤ 999999 := by omega
  have hl3 : s.code.length + 1 ≤ 999999 := by omega
  have hpos0 : (0 : Int) ≤ ((s.code.length : Nat) : Int) := by omega
  have hwt : IntKind.wrap .i64 (s.taken + 1) = s.taken + 1 := w64_id (by omega)
  have hwt7 : IntKind.wrap .i64 (7 + (s.taken + 1)) = 8 + s.taken := by rw [w64_id (by omega)]; omega
  have hwt1 : IntKind.wrap .i64 (s.taken - 1) = s.taken - 1 := w64_id (by omega)
  refine cf22 w0 m _ _ _ _ _ _ _ _ _ _ _ _ _ _ _ _ ?_
  intro b1 hb1 hm1 m1
  have l1 : m.le m1 := le_new hm1 _
  have p1 : m1 b1 = some (.cells #[.slice A0 s.code.length c0, .slice A1 s.pats.length c1, .int .i64 s.taken] 48) := upd_get_same
  clear_value m1
  intro b3 hb3 hm3 m3
  have l3 : m1.le m3 := le_new hm3 _
  have p3 : m3 b3 = some (.cells #[.int .i64 a.kind, .int .i64 a.n, .int .i64 a.m, .int .i64 a.i.op, .int .i64 a.i.a, .int .i64 a.i.b, .int .i64 a.i.c, .int .i64 a.i.imm] 50) := upd_get_same
  clear_value m3
  intro b5 hb5 hm5 M
  have l5 : m3.le M := le_new hm5 _
  have p5 : M b5 = some (.cells #[.slice none 0 0, .slice none 0 0, .int .i64 0] 48) := upd_get_same
  clear_value M
  have h15 : b1 ≠ b5 := ne_new (l3 _ _ p1) hm5
  have h13 : b1 ≠ b3 := ne_new p1 hm3
  have h35 : b3 ≠ b5 := ne_new p3 hm5
  replace p1 := l5 _ _ (l3 _ _ p1)
  replace p3 := l5 _ _ p3
  have L := AM.le_trans l1 (AM.le_trans l3 l5)
  have n5 : m b5 = none := AM.le_none l1 (AM.le_none l3 hm5)
  have hzM : ∀ k, Z k → M k ≠ none := fun k hk hn => hz k hk (AM.le_none L hn)
  have hz5 : ∀ M2 : AM, m.le M2 → M2 b5 = some (.cells #[.slice none 0 0, .slice none 0 0, .int .i64 0] 48) → ∀ k, (Z k ∨ k = b5) → M2 k ≠ none := fun M2 L2 q5 k hk => hk.elim (fun h hn => hz k h (AM.le_none L2 hn)) (fun e => by rw [e, q5]; simp)
  -- what is handed back
  have fin : ∀ (m2 : AM) (B0 B1 : Option Addr) (d0 d1 : Nat) (s2 : St) (x : Int) (t : Bool), m.le m2 → m2 b5 = some (.cells #[.slice none 0 0, .slice none 0 0, .int .i64 0] 48) → Reads m2 5 B0 s2.code.length (insCells s2.code) → Reads m2 3 B1 s2.pats.length (patCells s2.pats) → (0 < s2.code.length → ∀ k ∈ obl B0, ¬ (Z k ∨ k = b5)) → (0 < s2.pats.length → ∀ k ∈ obl B1, ¬ (Z k ∨ k = b5)) → actS s a = (s2, x, t) →
      StC w0.heap.size m2 ⟨b5, 0, none⟩ (.slice B0 s2.code.length d0) fun m29 => StC w0.heap.size m29 ⟨b5, 1, none⟩ (.slice B1 s2.pats.length d1) fun m30 => StC w0.heap.size m30 ⟨b5, 2, none⟩ (.int .i64 s2.taken) fun m31 =>
      ∃ (A32 : Option Addr) (n33 c34 : Nat), m31.cell ⟨b5, 0, none⟩ = some (.slice A32 n33 c34) ∧ ∃ (A35 : Option Addr) (n36 c37 : Nat), m31.cell ⟨b5, 1, none⟩ = some (.slice A35 n36 c37) ∧ ∃ i38 : Int, m31.cell ⟨b5, 2, none⟩ = some (.int .i64 i38) ∧ RetP (fun r m' => m.le m' ∧ ∃ v, RB m' Z v (actS s a).1 ∧ r = .tuple #[v, .int .i64 (actS s a).2.1, .bool (actS s a).2.2]) (.tuple #[.agg #[.slice A32 n33 c34, .slice A35 n36 c37, .int .i64 i38], .int .i64 x, .bool t]) m31 := by
    intro m2 B0 B1 d0 d1 s2 x t L2 q5 g0 g1 y0 y1 hE
    refine keep3 hb5 q5 fun m' hm' => ?_
    have hf : Fr m2 m' [b5] := by rw [hm']; exact Fr.upd (Fr.refl _ _) (.inl (by simp)) _
    rw [hE]
    exact retP_of ⟨by rw [hm']; exact le_upd0 L2 n5, _, ⟨B0, d0, B1, d1, rfl, Reads_fr g0 hf (fun h0 k hk hin => y0 h0 k hk (.inr (by simpa using hin))), Reads_fr g1 hf (fun h0 k hk hin => y1 h0 k hk (.inr (by simpa using hin))), fun h0 k hk hz => y0 h0 k hk (.inl hz), fun h0 k hk hz => y1 h0 k hk (.inl hz)⟩, rfl⟩
  have y0 : 0 < s.code.length → ∀ k ∈ obl A0, ¬ (Z k ∨ k = b5) := fun h0 k hk h => h.elim (z0 h0 k hk) (fun e => Reads_known hr0 h0 (by decide) k hk (by rw [e]; exact n5))
  have y1 : 0 < s.pats.length → ∀ k ∈ obl A1, ¬ (Z k ∨ k = b5) := fun h0 k hk h => h.elim (z1 h0 k hk) (fun e => Reads_known hr1 h0 (by decide) k hk (by rw [e]; exact n5))
  have g0 := hr0.le L
  have g1 := hr1.le L
  have rd1 : ∀ {K : Option Addr → Nat → Nat → Option Addr → Nat → Nat → Int → Prop}, K A0 s.code.length c0 A1 s.pats.length c1 s.taken → ∃ (A8 : Option Addr) (n9 c10 : Nat), M.cell ⟨b1, 0, none⟩ = some (.slice A8 n9 c10) ∧ ∃ (A11 : Option Addr) (n12 c13 : Nat), M.cell ⟨b1, 1, none⟩ = some (.slice A11 n12 c13) ∧ ∃ i14 : Int, M.cell ⟨b1, 2, none⟩ = some (.int .i64 i14) ∧ K A8 n9 c10 A11 n12 c13 i14 :=
    fun h => ⟨_, _, _, cel p1 rfl, _, _, _, cel p1 rfl, _, cel p1 rfl, h⟩
  have rdi : ∀ (M2 : AM), M2 b3 = some (.cells #[.int .i64 a.kind, .int .i64 a.n, .int .i64 a.m, .int .i64 a.i.op, .int .i64 a.i.a, .int .i64 a.i.b, .int .i64 a.i.c, .int .i64 a.i.imm] 50) → ∀ {K : Int → Int → Int → Int → Int → Prop}, K a.i.op a.i.a a.i.b a.i.c a.i.imm → ∃ i15 : Int, M2.cell ⟨b3, 3, none⟩ = some (.int .i64 i15) ∧ ∃ i16 : Int, M2.cell ⟨b3, 4, none⟩ = some (.int .i64 i16) ∧ ∃ i17 : Int, M2.cell ⟨b3, 5, none⟩ = some (.int .i64 i17) ∧ ∃ i18 : Int, M2.cell ⟨b3, 6, none⟩ = some (.int .i64 i18) ∧ ∃ i19 : Int, M2.cell ⟨b3, 7, none⟩ = some (.int .i64 i19) ∧ K i15 i16 i17 i18 i19 :=
    fun M2 q3 {K} h => ⟨_, cel q3 rfl, _, cel q3 rfl, _, cel q3 rfl, _, cel q3 rfl, _, cel q3 rfl, h⟩
  refine ⟨_, _, _, cel p1 rfl, _, cel p3 rfl, rfl, ?_⟩
  by_cases k0 : a.kind = 0
  · have hE : actS s a = (⟨s.code ++ [a.i], s.pats, s.taken⟩, ((s.code.length : Nat) : Int), true) := by unfold actS; rw [if_pos k0]
    refine bcET (by simpa using k0) (rd1 (rdi M p3 ?_))
    refine CallsA.mono (put18_spec w0 M (fun k => Z k ∨ k = b5) (hz5 M L p5) s A0 A1 c0 c1 a.i (-1) 0 g0 g1 hl' hl2') ?_
    rintro r m2 ⟨l2, B0, d0, B1, d1, hv, q0, q1, w0', w1'⟩
    have hp : putP s (-1) 0 = s.pats := rfl
    dsimp only at hv q0 q1 w0' w1'
    rw [hp] at hv q1 w1'
    subst hv
    refine ⟨_, _, _, _, _, _, _, rfl, ?_⟩
    exact fin m2 B0 B1 d0 d1 ⟨s.code ++ [a.i], s.pats, s.taken⟩ _ true (AM.le_trans L l2) (l2 _ _ p5) q0 q1 w0' w1' hE
  refine bcEF (by simpa using k0) ⟨rfl, ?_⟩
  by_cases k1 : a.kind = 1
  · have hE : actS s a = (⟨s.code ++ [a.i], s.pats ++ [⟨((s.code.length : Nat) : Int), a.n, a.m⟩], s.taken⟩, ((s.code.length : Nat) : Int), true) := by unfold actS; rw [if_neg k0, if_pos k1]
    refine bcET (by simpa using k1) (rd1 (rdi M p3 ⟨_, cel p3 rfl, _, cel p3 rfl, ?_⟩))
    refine CallsA.mono (put18_spec w0 M (fun k => Z k ∨ k = b5) (hz5 M L p5) s A0 A1 c0 c1 a.i a.n a.m g0 g1 hl' hl2') ?_
    rintro r m2 ⟨l2, B0, d0, B1, d1, hv, q0, q1, w0', w1'⟩
    have hp : putP s a.n a.m = s.pats ++ [⟨((s.code.length : Nat) : Int), a.n, a.m⟩] := if_pos (hk1 k1)
    dsimp only at hv q0 q1 w0' w1'
    rw [hp] at hv q1 w1'
    subst hv
    refine ⟨_, _, _, _, _, _, _, rfl, ?_⟩
    exact fin m2 B0 B1 d0 d1 ⟨s.code ++ [a.i], s.pats ++ [⟨((s.code.length : Nat) : Int), a.n, a.m⟩], s.taken⟩ _ true (AM.le_trans L l2) (l2 _ _ p5) q0 q1 w0' w1' hE
  refine bcEF (by simpa using k1) ⟨rfl, ?_⟩
  by_cases k2 : a.kind = 2
  · have hE : actS s a = (⟨s.code ++ [a.i], jumpC s.code s.pats a.i, s.taken⟩, ((s.code.length : Nat) : Int), true) := by unfold actS; rw [if_neg k0, if_neg k1, if_pos k2]
    refine bcET (by simpa using k2) (rd1 (rdi M p3 ?_))
    refine CallsA.mono (jump18_spec w0 M (fun k => Z k ∨ k = b5) (hz5 M L p5) s A0 A1 c0 c1 a.i g0 g1 hl' hl2') ?_
    rintro r m2 ⟨l2, B0, d0, B1, d1, rfl, q0, q1, w0', w1'⟩
    refine ⟨_, _, _, _, _, _, _, rfl, ?_⟩
    exact fin m2 B0 B1 d0 d1 ⟨s.code ++ [a.i], jumpC s.code s.pats a.i, s.taken⟩ _ true (AM.le_trans L l2) (l2 _ _ p5) q0 q1 w0' w1' hE
  refine bcEF (by simpa using k2) ⟨rfl, ?_⟩
  by_cases k3 : a.kind = 3
  · have hE0 : actS s a = (⟨setC s.code a.n (aimC s.code a.n ((s.code.length : Nat) : Int)), s.pats, s.taken⟩, 0, (aimC s.code a.n ((s.code.length : Nat) : Int)).isSome) := by unfold actS; rw [if_neg k0, if_neg k1, if_neg k2, if_pos k3]
    refine bcET (by simpa using k3) ⟨_, cel p3 rfl, rfl, ?_⟩
    by_cases h1 : a.n < 0
    · have e1 := decide_eq_true h1
      have hE : actS s a = (s, 0, false) := by rw [hE0]; unfold aimC; rw [if_pos h1]; rfl
      refine bcET e1 ⟨e1, rd1 ?_⟩
      exact fin M A0 A1 c0 c1 s 0 false L p5 g0 g1 y0 y1 hE
    have e1 := decide_eq_false h1
    refine bcEF e1 ⟨_, cel p3 rfl, rfl, ?_⟩
    by_cases h2 : a.n ≥ ((s.code.length : Nat) : Int)
    · have e2 := decide_eq_true h2
      have hE : actS s a = (s, 0, false) := by rw [hE0]; unfold aimC; rw [if_neg h1, if_pos h2]; rfl
      refine bcET (by rw [e1, e2]; rfl) (rd1 ?_)
      exact fin M A0 A1 c0 c1 s 0 false L p5 g0 g1 y0 y1 hE
    refine bcEF (by rw [e1, decide_eq_false h2]; rfl) ?_
    have hn0 : 0 ≤ a.n := by omega
    have hlt : a.n.toNat < s.code.length := by omega
    have hcast : ((a.n.toNat : Nat) : Int) = a.n := by omega
    have hi := List.getElem?_eq_getElem hlt
    generalize s.code[a.n.toNat] = i at hi
    obtain ⟨ec1, ec2⟩ := setC_in s.code a.n.toNat i ((s.code.length : Nat) : Int) hi
    rw [hcast] at ec1 ec2
    have hE : actS s a = (⟨s.code.set a.n.toNat (aimV i (aimI i a.n ((s.code.length : Nat) : Int))), s.pats, s.taken⟩, 0, (aimI i a.n ((s.code.length : Nat) : Int)).isSome) := by rw [hE0, ec1, ec2]
    have hlpos : 0 < s.code.length := by omega
    refine vr22_110101111111010 w0 M _ _ b1 b3 b5 ((s.code.length : Nat) : Int) (fun y t m2 => M.le m2 ∧ M y = none ∧ t = (aimI i a.n ((s.code.length : Nat) : Int)).isSome ∧ m2 y = some (.cells #[.int .i64 (aimV i (aimI i a.n ((s.code.length : Nat) : Int))).op, .int .i64 (aimV i (aimI i a.n ((s.code.length : Nat) : Int))).a, .int .i64 (aimV i (aimI i a.n ((s.code.length : Nat) : Int))).b, .int .i64 (aimV i (aimI i a.n ((s.code.length : Nat) : Int))).c, .int .i64 (aimV i (aimI i a.n ((s.code.length : Nat) : Int))).imm] 23)) rfl rfl rfl rfl ?_ ?_
    · obtain ⟨ad, hA, hc⟩ := g0.ex hlpos
      have hci := hc.ins hi
      refine ⟨_, _, _, cel p1 rfl, _, cel p3 rfl, ⟨hn0, by omega⟩, ?_⟩
      rw [hA]
      refine ⟨_, hci.1, _, hci.2.1, _, hci.2.2.1, _, hci.2.2.2.1, _, hci.2.2.2.2, _, cel p3 rfl, ?_, ?_⟩
      · refine CallsA.mono (aimed18_spec w0 M i a.n ((s.code.length : Nat) : Int)) ?_
        rintro r m2 ⟨l2, rfl⟩
        refine ⟨_, _, _, _, _, _, rfl, ?_⟩
        exact blk5 fun b m' hlm hbn _ pb => ⟨rfl, rfl, rfl, rfl, rfl, rfl, AM.le_trans l2 hlm, AM.le_none l2 hbn, rfl, pb⟩
      · intro b hb hmb m4
        have l4 : M.le m4 := le_new hmb _
        have p4 : m4 b = some (.cells #[.int .i64 0, .int .i64 0, .int .i64 0, .int .i64 0, .int .i64 0] 23) := upd_get_same
        clear_value m4
        refine CallsA.mono (aimed18_spec w0 m4 i a.n ((s.code.length : Nat) : Int)) ?_
        rintro r m2 ⟨l2, rfl⟩
        refine ⟨_, _, _, _, _, _, rfl, ?_⟩
        refine StC_own (l2 _ _ p4) hb (by simp) (StC_upd.2 ⟨hb, by simp, StC_upd.2 ⟨hb, by simp, StC_upd.2 ⟨hb, by simp, StC_upd.2 ⟨hb, by simp, ?_⟩⟩⟩⟩)
        exact ⟨rfl, rfl, rfl, rfl, rfl, rfl, le_upd0 (AM.le_trans l4 l2) hmb, hmb, rfl, by rw [upd_get_same]; simp⟩
    · rintro σ y t m2 ⟨l2, hy, rfl, py⟩
      have r1 := l2 _ _ p1
      have r3 := l2 _ _ p3
      refine ⟨_, _, _, cel r1 rfl, _, _, _, cel r1 rfl, _, cel r1 rfl, _, cel r3 rfl, _, cel py rfl, _, cel py rfl, _, cel py rfl, _, cel py rfl, _, cel py rfl, ?_⟩
      refine CallsA.mono (set18_spec w0 m2 (fun k => Z k ∨ k = b5) (hz5 m2 (AM.le_trans L l2) (l2 _ _ p5)) s A0 A1 c0 c1 a.n (aimV i (aimI i a.n ((s.code.length : Nat) : Int))) hn0 (g0.le l2) (g1.le l2) hl' y1) ?_
      rintro r m4 ⟨l4, B0, d0, B1, d1, rfl, q0, q1, w0', w1'⟩
      refine ⟨_, _, _, _, _, _, _, rfl, ?_⟩
      exact fin m4 B0 B1 d0 d1 ⟨s.code.set a.n.toNat (aimV i (aimI i a.n ((s.code.length : Nat) : Int))), s.pats, s.taken⟩ 0 _ (AM.le_trans (AM.le_trans L l2) l4) (l4 _ _ (l2 _ _ p5)) q0 q1 w0' w1' hE
  refine bcEF (by simpa using k3) ⟨rfl, ?_⟩
  by_cases k4 : a.kind = 4
  · have hE : actS s a = (⟨(s.code ++ [a.i]).set s.code.length (aimV a.i (aimI a.i ((s.code.length : Nat) : Int) a.n)), jumpC s.code s.pats a.i, s.taken⟩, ((s.code.length : Nat) : Int), true) := by
      unfold actS; rw [if_neg k0, if_neg k1, if_neg k2, if_neg k3, if_pos k4]
      rw [aimC_at, setC_at]
    refine bcET (by simpa using k4) (rd1 (rdi M p3 ?_))
    refine CallsA.mono (jump18_spec w0 M (fun k => (Z k ∨ k = b5) ∨ k = b1) (fun k hk => hk.elim (hz5 M L p5 k) (fun e => by rw [e, p1]; simp)) s A0 A1 c0 c1 a.i g0 g1 hl' hl2') ?_
    rintro r m2 ⟨l2, B0, d0, B1, d1, rfl, q0, q1, w0', w1'⟩
    refine ⟨_, _, _, _, _, _, _, rfl, ?_⟩
    refine st3 hb1 (l2 _ _ p1) fun m4 hm4 => ?_
    have hf : Fr m2 m4 [b1] := by rw [hm4]; exact Fr.upd (Fr.refl _ _) (.inl (by simp)) _
    have L4 : m.le m4 := by rw [hm4]; exact le_upd0 (AM.le_trans L l2) hm1
    have r1 : m4 b1 = some (.cells #[.slice B0 (s.code ++ [a.i]).length d0, .slice B1 (jumpC s.code s.pats a.i).length d1, .int .i64 s.taken] 48) := by rw [hm4, upd_get_same]
    have r3 := hf _ _ (l2 _ _ p3) (by simpa using h13.symm)
    have r5 := hf _ _ (l2 _ _ p5) (by simpa using h15.symm)
    have u0 := Reads_fr q0 hf (fun h0 k hk hin => w0' h0 k hk (.inr (by simpa using hin)))
    have u1 := Reads_fr q1 hf (fun h0 k hk hin => w1' h0 k hk (.inr (by simpa using hin)))
    clear hm4
    refine rdi m4 r3 ⟨_, cel r3 rfl, ?_⟩
    refine CallsA.mono (aimed18_spec w0 m4 a.i ((s.code.length : Nat) : Int) a.n) ?_
    rintro r m6 ⟨l6, rfl⟩
    refine ⟨_, _, _, _, _, _, rfl, ?_⟩
    refine blk5 fun b m8 hlm hbn _ pb => ?_
    have L8 := AM.le_trans l6 hlm
    have v1 := L8 _ _ r1
    refine ⟨_, _, _, cel v1 rfl, _, _, _, cel v1 rfl, _, cel v1 rfl, _, cel pb rfl, _, cel pb rfl, _, cel pb rfl, _, cel pb rfl, _, cel pb rfl, ?_⟩
    have h9 := set18_spec w0 m8 (fun k => Z k ∨ k = b5) (hz5 m8 (AM.le_trans L4 L8) (L8 _ _ r5)) ⟨s.code ++ [a.i], jumpC s.code s.pats a.i, s.taken⟩ B0 B1 d0 d1 ((s.code.length : Nat) : Int) (aimV a.i (aimI a.i ((s.code.length : Nat) : Int) a.n)) hpos0 (u0.le L8) (u1.le L8) (by simpa using hl3) (fun h0 k hk hin => w1' h0 k hk (.inl hin))
    refine CallsA.mono h9 ?_
    rintro r m10 ⟨l10, C0, e0, C1, e1, hv, x0, x1, v0', v1'⟩
    dsimp only at hv x0 x1 v0' v1'
    rw [Int.toNat_natCast] at hv x0 v0'
    subst hv
    refine ⟨_, _, _, _, _, _, _, rfl, ?_⟩
    exact fin m10 C0 C1 e0 e1 ⟨(s.code ++ [a.i]).set s.code.length (aimV a.i (aimI a.i ((s.code.length : Nat) : Int) a.n)), jumpC s.code s.pats a.i, s.taken⟩ _ true (AM.le_trans (AM.le_trans L4 L8) l10) (l10 _ _ (L8 _ _ r5)) x0 x1 v0' v1' hE
  refine bcEF (by simpa using k4) ⟨rfl, ?_⟩
  by_cases k5 : a.kind = 5
  · have hE : actS s a = (⟨s.code ++ constI a.n a.m, s.pats, s.taken⟩, 0, true) := by unfold actS; rw [if_neg k0, if_neg k1, if_neg k2, if_neg k3, if_neg k4, if_pos k5]
    refine bcET (by simpa using k5) (rd1 ⟨_, cel p3 rfl, _, cel p3 rfl, ?_⟩)
    refine CallsA.mono (const18_spec w0 M (fun k => Z k ∨ k = b5) (hz5 M L p5) s A0 A1 c0 c1 a.n a.m ha.2.2.1 g0 g1 hl'' hl2') ?_
    rintro r m2 ⟨l2, B0, d0, B1, d1, rfl, q0, q1, w0', w1'⟩
    refine ⟨_, _, _, _, _, _, _, rfl, ?_⟩
    exact fin m2 B0 B1 d0 d1 ⟨s.code ++ constI a.n a.m, s.pats, s.taken⟩ 0 true (AM.le_trans L l2) (l2 _ _ p5) q0 q1 w0' w1' hE
  refine bcEF (by simpa using k5) ⟨rfl, ?_⟩
  by_cases k6 : a.kind = 6
  · have hE0 : actS s a = (⟨s.code, s.pats, if s.taken = 8 then s.taken else s.taken + 1⟩, if s.taken = 8 then 0 else 8 + s.taken, decide (s.taken ≠ 8)) := by unfold actS; rw [if_neg k0, if_neg k1, if_neg k2, if_neg k3, if_neg k4, if_neg k5, if_pos k6]
    refine bcET (by simpa using k6) ⟨_, cel p1 rfl, rfl, ?_⟩
    by_cases h8 : s.taken = 8
    · have hE : actS s a = (s, 0, false) := by rw [hE0, if_pos h8, if_pos h8, decide_eq_false (by simpa using h8)]
      refine bcET (by simpa using h8) (rd1 ?_)
      exact fin M A0 A1 c0 c1 s 0 false L p5 g0 g1 y0 y1 hE
    · have hE : actS s a = (⟨s.code, s.pats, s.taken + 1⟩, 8 + s.taken, true) := by rw [hE0, if_neg h8, if_neg h8, decide_eq_true h8]
      refine bcEF (by simpa using h8) ⟨_, cel p1 rfl, rfl, ?_⟩
      rw [hwt]
      refine StC_own p1 hb1 (by simp) ?_
      have r1 : (M.upd b1 (.cells (Array.setIfInBounds #[.slice A0 s.code.length c0, .slice A1 s.pats.length c1, .int .i64 s.taken] 2 (.int .i64 (s.taken + 1))) 48)) b1 = some (.cells #[.slice A0 s.code.length c0, .slice A1 s.pats.length c1, .int .i64 (s.taken + 1)] 48) := by rw [upd_get_same]; simp
      have hf : Fr M (M.upd b1 (.cells (Array.setIfInBounds #[.slice A0 s.code.length c0, .slice A1 s.pats.length c1, .int .i64 s.taken] 2 (.int .i64 (s.taken + 1))) 48)) [b1] := Fr.upd (Fr.refl _ _) (.inl (by simp)) _
      have L4 : m.le (M.upd b1 (.cells (Array.setIfInBounds #[.slice A0 s.code.length c0, .slice A1 s.pats.length c1, .int .i64 s.taken] 2 (.int .i64 (s.taken + 1))) 48)) := le_upd0 L hm1
      generalize M.upd b1 (.cells (Array.setIfInBounds #[.slice A0 s.code.length c0, .slice A1 s.pats.length c1, .int .i64 s.taken] 2 (.int .i64 (s.taken + 1))) 48) = m4 at r1 hf L4 ⊢
      have r5 := hf _ _ p5 (by simpa using h15.symm)
      refine vr22_1101011111111111110110 w0 m4 _ _ b1 b5 (fun x t m' => x = 8 + s.taken ∧ t = true ∧ m' = m4.upd b5 (.cells #[.slice A0 s.code.length c0, .slice A1 s.pats.length c1, .int .i64 (s.taken + 1)] 48)) rfl rfl ?_ ?_
      · refine ⟨_, _, _, cel r1 rfl, _, _, _, cel r1 rfl, _, cel r1 rfl, ?_, ?_⟩
        · refine ⟨_, cel r1 rfl, rfl, ?_⟩
          exact st3 hb5 r5 fun m' hm' => ⟨rfl, rfl, rfl, rfl, hwt7, rfl, hm'⟩
        · refine st3 hb5 r5 fun m' hm' => ?_
          have r1' : m' b1 = some (.cells #[.slice A0 s.code.length c0, .slice A1 s.pats.length c1, .int .i64 (s.taken + 1)] 48) := by rw [hm', upd_get_ne h15]; exact r1
          exact ⟨_, cel r1' rfl, rfl, rfl, rfl, rfl, rfl, hwt7, rfl, hm'⟩
      · rintro σ x t m' ⟨rfl, rfl, hm'⟩
        have r5' : m' b5 = some (.cells #[.slice A0 s.code.length c0, .slice A1 s.pats.length c1, .int .i64 (s.taken + 1)] 48) := by rw [hm', upd_get_same]
        have L5 : m.le m' := by rw [hm']; exact le_upd0 L4 n5
        refine ⟨_, _, _, cel r5' rfl, _, _, _, cel r5' rfl, _, cel r5' rfl, ?_⟩
        rw [hE]
        exact retP_of ⟨L5, _, ⟨A0, c0, A1, c1, rfl, hr0.le L5, hr1.le L5, z0, z1⟩, rfl⟩
  refine bcEF (by simpa using k6) ⟨_, cel p1 rfl, rfl, ?_⟩
  have hE0 : actS s a = (⟨s.code, s.pats, if s.taken = 0 then s.taken else s.taken - 1⟩, 0, decide (s.taken ≠ 0)) := by unfold actS; rw [if_neg k0, if_neg k1, if_neg k2, if_neg k3, if_neg k4, if_neg k5, if_neg k6]
  by_cases h8 : s.taken = 0
  · have hE : actS s a = (s, 0, false) := by rw [hE0, if_pos h8, decide_eq_false (by simpa using h8)]
    refine bcET (by simpa using h8) (rd1 ?_)
    exact fin M A0 A1 c0 c1 s 0 false L p5 g0 g1 y0 y1 hE
  · have hE : actS s a = (⟨s.code, s.pats, s.taken - 1⟩, 0, true) := by rw [hE0, if_neg h8, decide_eq_true h8]
    refine bcEF (by simpa using h8) ⟨_, cel p1 rfl, rfl, ?_⟩
    rw [hwt1]
    refine StC_own p1 hb1 (by simp) ?_
    have r1 : (M.upd b1 (.cells (Array.setIfInBounds #[.slice A0 s.code.length c0, .slice A1 s.pats.length c1, .int .i64 s.taken] 2 (.int .i64 (s.taken - 1))) 48)) b1 = some (.cells #[.slice A0 s.code.length c0, .slice A1 s.pats.length c1, .int .i64 (s.taken - 1)] 48) := by rw [upd_get_same]; simp
    have hf : Fr M (M.upd b1 (.cells (Array.setIfInBounds #[.slice A0 s.code.length c0, .slice A1 s.pats.length c1, .int .i64 s.taken] 2 (.int .i64 (s.taken - 1))) 48)) [b1] := Fr.upd (Fr.refl _ _) (.inl (by simp)) _
    have L4 : m.le (M.upd b1 (.cells (Array.setIfInBounds #[.slice A0 s.code.length c0, .slice A1 s.pats.length c1, .int .i64 s.taken] 2 (.int .i64 (s.taken - 1))) 48)) := le_upd0 L hm1
    generalize M.upd b1 (.cells (Array.setIfInBounds #[.slice A0 s.code.length c0, .slice A1 s.pats.length c1, .int .i64 s.taken] 2 (.int .i64 (s.taken - 1))) 48) = m4 at r1 hf L4 ⊢
    have r5 := hf _ _ p5 (by simpa using h15.symm)
    refine ⟨_, _, _, cel r1 rfl, _, _, _, cel r1 rfl, _, cel r1 rfl, ?_⟩
    exact fin m4 A0 A1 c0 c1 ⟨s.code, s.pats, s.taken - 1⟩ 0 true L4 r5 (hr0.le L4) (hr1.le L4) y0 y1 hE
end Go.Proofs.Ytijilloaggeepaa.S
