/- Ytijilloaggeepaa: a text of our own, by an AI agent: E11E -/
import Derived.Test.YtijilloaggeepaaE10E
import Derived.Test.YtijilloaggeepaaE6E
set_option linter.unusedSimpArgs false
set_option linter.unusedVariables false
set_option maxRecDepth 100000
namespace Go.Proofs.Ytijilloaggeepaa.S
open Go Go.RowKit Go.Alog Go.Proofs.Ytijilloaggeepaa.T Go.Proofs.Ytijilloaggeepaa.V

theorem blk3 {w0 : World} {m : AM} {T : TypeId} {z0 z1 z2 v0 v1 v2 : Value} {K : Nat → AM → Prop} (hK : ∀ b m', m.le m' → m b = none → w0.heap.size ≤ b → m' b = some (.cells #[v0, v1, v2] T) → K b m') :
    ∀ b : Nat, w0.heap.size ≤ b → m b = none → let m1 := AM.upd m b (.cells #[z0, z1, z2] T);
      StC w0.heap.size m1 ⟨b, 0, none⟩ v0 fun m2 => StC w0.heap.size m2 ⟨b, 1, none⟩ v1 fun m3 => StC w0.heap.size m3 ⟨b, 2, none⟩ v2 fun m4 => K b m4 := by
  intro b hb hm m1
  refine StC_upd.2 ⟨hb, by simp, StC_upd.2 ⟨hb, by simp, StC_upd.2 ⟨hb, by simp, ?_⟩⟩⟩
  exact hK b _ (le_new hm _) hm hb (by rw [upd_get_same]; simp)
theorem blk8 {w0 : World} {m : AM} {T : TypeId} {z0 z1 z2 z3 z4 z5 z6 z7 v0 v1 v2 v3 v4 v5 v6 v7 : Value} {K : Nat → AM → Prop} (hK : ∀ b m', m.le m' → m b = none → w0.heap.size ≤ b → m' b = some (.cells #[v0, v1, v2, v3, v4, v5, v6, v7] T) → K b m') :
    ∀ b : Nat, w0.heap.size ≤ b → m b = none → let m1 := AM.upd m b (.cells #[z0, z1, z2, z3, z4, z5, z6, z7] T);
      StC w0.heap.size m1 ⟨b, 0, none⟩ v0 fun m2 => StC w0.heap.size m2 ⟨b, 1, none⟩ v1 fun m3 => StC w0.heap.size m3 ⟨b, 2, none⟩ v2 fun m4 => StC w0.heap.size m4 ⟨b, 3, none⟩ v3 fun m5 => StC w0.heap.size m5 ⟨b, 4, none⟩ v4 fun m6 => StC w0.heap.size m6 ⟨b, 5, none⟩ v5 fun m7 => StC w0.heap.size m7 ⟨b, 6, none⟩ v6 fun m8 => StC w0.heap.size m8 ⟨b, 7, none⟩ v7 fun m9 => K b m9 := by
  intro b hb hm m1
  refine StC_upd.2 ⟨hb, by simp, StC_upd.2 ⟨hb, by simp, StC_upd.2 ⟨hb, by simp, StC_upd.2 ⟨hb, by simp, StC_upd.2 ⟨hb, by simp, StC_upd.2 ⟨hb, by simp, StC_upd.2 ⟨hb, by simp, StC_upd.2 ⟨hb, by simp, ?_⟩⟩⟩⟩⟩⟩⟩⟩
  exact hK b _ (le_new hm _) hm hb (by rw [upd_get_same]; simp)

theorem eqp_ne (i : Ins) : EqP Try.prog .neq 23 i.val i.val false := by
  have h1 : pval Try.prog (eqGuard .neq 23 (.const undef) (.const undef) i.val i.val) = some () := by kernel_rfl
  have h2 := eqIn_struct (P := Try.prog) (t := 23) (k := .i64) (xs := i.cells.toArray) (ys := i.cells.toArray) Try.underlying23 (by kernel_rfl) 9998 (fun _ => true) (by
    intro f hf
    simp only [List.mem_cons, List.not_mem_nil, or_false] at hf
    rcases hf with rfl | rfl | rfl | rfl | rfl <;> exact ⟨by decide, Try.underlying3, _, _, rfl, rfl, by simp⟩)
  unfold EqP
  rw [pval_bind', h1, Option.bind_some]
  show pval Try.prog (Op.equal 23 i.val i.val >>= fun b => pure (Value.bool !b)) = _
  rw [pval_bind', show pval Try.prog (Op.equal 23 i.val i.val) = _ from h2]; rfl
theorem eqp_ne_pat (p : Pat) : EqP Try.prog .neq 55 (.agg #[.int .i64 p.at_, .int .i64 p.kind, .int .i64 p.n]) (.agg #[.int .i64 p.at_, .int .i64 p.kind, .int .i64 p.n]) false := by
  have h1 : pval Try.prog (eqGuard .neq 55 (.const undef) (.const undef) (.agg #[.int .i64 p.at_, .int .i64 p.kind, .int .i64 p.n]) (.agg #[.int .i64 p.at_, .int .i64 p.kind, .int .i64 p.n])) = some () := by kernel_rfl
  have h2 := eqIn_struct (P := Try.prog) (t := 55) (k := .i64) (xs := p.cells.toArray) (ys := p.cells.toArray) Try.underlying55 (by kernel_rfl) 9998 (fun _ => true) (by
    intro f hf
    simp only [List.mem_cons, List.not_mem_nil, or_false] at hf
    rcases hf with rfl | rfl | rfl <;> exact ⟨by decide, Try.underlying3, _, _, rfl, rfl, by simp⟩)
  unfold EqP
  rw [pval_bind', h1, Option.bind_some]
  show pval Try.prog (Op.equal 55 (.agg #[.int .i64 p.at_, .int .i64 p.kind, .int .i64 p.n]) (.agg #[.int .i64 p.at_, .int .i64 p.kind, .int .i64 p.n]) >>= fun b => pure (Value.bool !b)) = _
  rw [pval_bind', show pval Try.prog (Op.equal 55 (.agg #[.int .i64 p.at_, .int .i64 p.kind, .int .i64 p.n]) (.agg #[.int .i64 p.at_, .int .i64 p.kind, .int .i64 p.n])) = _ from h2]; rfl
theorem Pat.len (p : Pat) : p.cells.length = 3 := rfl
theorem Cells.pat {m : AM} {a : Addr} {l : List Pat} (h : Cells m a (patCells l)) {k : Nat} {x : Pat} (hk : l[k]? = some x) :
    m.cell (a.add (k * 3)) = some (.int .i64 x.at_) ∧ m.cell ((a.add (k * 3)).add 1) = some (.int .i64 x.kind) ∧ m.cell ((a.add (k * 3)).add 2) = some (.int .i64 x.n) := by
  simp only [add_add]
  exact ⟨Cells.at Pat.len h hk (j := 0) (by omega), Cells.at Pat.len h hk (j := 1) (by omega), Cells.at Pat.len h hk (j := 2) (by omega)⟩

/-- Both buffers, behind some acts. -/
structure EPl (W : World) (b1 b3 : Nat) (m : AM) (s : St) (fp : List Nat) (A0 A1 : Option Addr) (c0 c1 : Nat) : Prop where
  hb : Buf m W.heap.size b1 s.code s.pats s.taken fp
  hl : (mOf W).le m
  h3 : m b3 = some (.cells #[.slice A0 s.code.length c0, .slice A1 s.pats.length c1, .int .i64 s.taken] 48)
  g0 : Reads m 5 A0 s.code.length (insCells s.code)
  g1 : Reads m 3 A1 s.pats.length (patCells s.pats)
  z0 : 0 < s.code.length → ∀ k ∈ obl A0, ¬ (k ∈ fp ∨ k = b3)
  z1 : 0 < s.pats.length → ∀ k ∈ obl A1, ¬ (k ∈ fp ∨ k = b3)
  n3 : b3 ∉ fp
  ht : 0 ≤ s.taken ∧ s.taken ≤ 8
def EPlI (W : World) (b1 b3 : Nat) (k : Nat) (i : Int) (m : AM) : Prop :=
  ∃ s fp A0 A1 c0 c1, EPl W b1 b3 m s fp A0 A1 c0 c1 ∧ 0 ≤ i ∧ i ≤ 60 ∧ s.code.length ≤ 2 * i.toNat ∧ s.pats.length ≤ i.toNat ∧ (k : Int) = 60 - i

theorem actS_small (s : St) (a : ActV) (ht : 0 ≤ s.taken ∧ s.taken ≤ 8) : (0 ≤ (actS s a).1.taken ∧ (actS s a).1.taken ≤ 8) ∧ (actS s a).1.code.length ≤ s.code.length + 2 ∧ (actS s a).1.pats.length ≤ s.pats.length + 1 := by
  have hc : ∀ r n, (constI r n).length ≤ 2 := fun r n => by unfold constI; split <;> simp
  have hj : ∀ i, (jumpC s.code s.pats i).length ≤ s.pats.length + 1 := fun i => by unfold jumpC; split <;> simp
  unfold actS
  simp only
  split
  · exact ⟨ht, by simp, by simp⟩
  split
  · exact ⟨ht, by simp, by simp⟩
  split
  · exact ⟨ht, by simp, hj _⟩
  split
  · exact ⟨ht, by rw [setC_len]; omega, by simp⟩
  split
  · exact ⟨ht, by rw [setC_len]; simp, hj _⟩
  split
  · have := hc a.n a.m; exact ⟨ht, by simp; omega, by simp⟩
  split
  · refine ⟨?_, by simp, by simp⟩
    show 0 ≤ ite _ _ _ ∧ ite _ _ _ ≤ _
    split <;> omega
  · refine ⟨?_, by simp, by simp⟩
    show 0 ≤ ite _ _ _ ∧ ite _ _ _ ≤ _
    split <;> omega

theorem law_EmitPlays (W : World) (A : Option Addr) (len cap : Nat) (l : List ActV) (hl : l.length = len) (hlc : len ≤ cap) (rd : Reads (mOf W) 8 A len (actCells l)) (y : len * 64 ≤ 140737488351232) (hw : ∀ i ∈ l, i.wf) : CallsA Try.prog W 6 #[.slice A len cap] (mOf W) (fun r _ => r = .bool true) := by
  have aw : ∀ M : AM, CallsA Try.prog W 16 #[] M (fun r m' => ∃ t : Bool, r = .bool t ∧ RetP (fun r _ => r = .bool true) (.bool t) m') := by
    intro M
    refine CallsA.mono (awake_spec W M) ?_
    rintro r m' rfl
    exact ⟨_, rfl, retP_of rfl⟩
  refine cf6 W _ A len cap _ ?_
  intro b1 hb1 hm1 m1
  have l1 : (mOf W).le m1 := le_new hm1 _
  have hbuf : Buf m1 W.heap.size b1 [] [] 0 [b1] := buf_new _ hb1
  clear_value m1
  intro b3 hb3 hm3 m2
  have l3 : m1.le m2 := le_new hm3 _
  have p3 : m2 b3 = some (.cells #[.slice none 0 0, .slice none 0 0, .int .i64 0] 48) := upd_get_same
  clear_value m2
  have n13 : b3 ∉ [b1] := fun h => by
    simp at h; subst h
    obtain ⟨A0, c0, A1, c1, hg, _⟩ := hbuf
    rw [hg] at hm3; cases hm3
  refine vl6_111010 W m2 _ _ _ _ _ _ _ _ (EPlI W b1 b3) (fun _ => True) 60 rfl rfl rfl rfl ⟨⟨[], [], 0⟩, [b1], none, none, 0, 0, ⟨hbuf.le l3, AM.le_trans l1 l3, p3, Reads.nil _ _, Reads.nil _ _, by simp, by simp, n13, by simp⟩, by omega, by omega, by simp, by simp, by omega⟩ ?_ ?_
  · rintro k σ x m ⟨s, fp, A0, A1, c0, c1, hE, hx0, hx60, hcl, hpl, hk⟩
    have hs1 : s.code.length ≤ 999990 := by omega
    have hs2 : s.pats.length ≤ 999990 := by omega
    have hs1' : s.code.length ≤ 999999 := by omega
    have hs2' : s.pats.length ≤ 999999 := by omega
    refine ⟨rfl, ?_⟩
    by_cases c1x : x < len
    · have e1 := decide_eq_true c1x
      refine bcET e1 ⟨rfl, ?_⟩
      by_cases c2x : x < 60
      · have e2 := decide_eq_true c2x
        refine bcET (by rw [e1, e2]; rfl) ⟨⟨hx0, c1x⟩, ?_⟩
        have hlt : x.toNat < l.length := by omega
        have hx1 : IntKind.wrap .i64 (x + 1) = x + 1 := w64_id (by omega)
        have hk1' : k - 1 < k := by omega
        have hk2' : ((k - 1 : Nat) : Int) = 60 - (x + 1) := by omega
        have hx3 : (x + 1).toNat = x.toNat + 1 := by omega
        have hx4 : x + 1 ≤ 60 := by omega
        have hx5 : 0 ≤ x + 1 := by omega
        obtain ⟨ad, hA, hc⟩ := (rd.le hE.hl).ex (by omega)
        have hi := hc.act (List.getElem?_eq_getElem hlt)
        have hwa := hw _ (List.getElem_mem hlt)
        rw [hA]
        revert hi hwa
        generalize l[x.toNat] = a
        intro hi hwa
        obtain ⟨ta, tb, tc⟩ := actS_small s a hE.ht
        have hcl' : (actS s a).1.code.length ≤ 2 * (x + 1).toNat := by omega
        have hpl' : (actS s a).1.pats.length ≤ (x + 1).toNat := by omega
        have hcl6 : (actS s a).1.code.length ≤ 1000000 := by omega
        have hpl6 : (actS s a).1.pats.length ≤ 1000000 := by omega
        refine ⟨_, hi.1, _, hi.2.1, _, hi.2.2.1, _, hi.2.2.2.1, _, hi.2.2.2.2.1, _, hi.2.2.2.2.2.1, _, hi.2.2.2.2.2.2.1, _, hi.2.2.2.2.2.2.2, ?_⟩
        clear hi hc
        refine blk8 fun b M lM nb hb pb => ?_
        refine ⟨_, cel pb rfl, rfl, ?_⟩
        by_cases hneg : a.kind = 1 ∧ a.n < 0
        · have d1 : (a.kind == 1) = true := by simpa using hneg.1
          exact bcET d1 ⟨_, cel pb rfl, rfl, bcET (by rw [d1, decide_eq_true hneg.2]; rfl) (aw _)⟩
        have hk1 : a.kind = 1 → 0 ≤ a.n := fun h => by
          by_cases h2 : a.n < 0
          · exact absurd ⟨h, h2⟩ hneg
          · omega
        have hEM3 := lM _ _ hE.h3
        have hbuf' := hE.hb.le lM
        have hzM : ∀ k, (k ∈ fp ∨ k = b3) → M k ≠ none := fun k hk => hk.elim (fun h => (hbuf'.lt k h).2) (fun e => by rw [e, hEM3]; simp)
        refine bcI (fun d1 => ⟨_, cel pb rfl, rfl, bcEF (by rw [d1, decide_eq_false (show ¬ a.n < 0 from fun h => absurd (hk1 (by simpa using d1)) (by omega))]; rfl) ?_⟩) (fun d1 => ⟨d1, ?_⟩)
        all_goals
          refine ⟨_, _, _, cel hEM3 rfl, _, _, _, cel hEM3 rfl, _, cel hEM3 rfl, _, cel pb rfl, _, cel pb rfl, _, cel pb rfl, _, cel pb rfl, _, cel pb rfl, _, cel pb rfl, _, cel pb rfl, _, cel pb rfl, ?_⟩
          refine CallsA.mono (told18_spec W M (fun k => k ∈ fp ∨ k = b3) hzM s A0 A1 c0 c1 a hwa hk1 (hE.g0.le lM) (hE.g1.le lM) hs1 hs2 hE.ht hE.z0 hE.z1) ?_
          rintro r m54 ⟨l54, v, ⟨B0, d0, B1, d1', rfl, q0, q1, w0, w1⟩, rfl⟩
          refine ⟨_, _, _, _, _, _, _, _, _, rfl, ?_⟩
          refine blk3 fun b58 m62 l62 n58 hb58 p58 => ?_
          have L62 := AM.le_trans l54 l62
          have pb62 := L62 _ _ pb
          refine ⟨_, cel pb62 rfl, _, cel pb62 rfl, _, cel pb62 rfl, _, cel pb62 rfl, _, cel pb62 rfl, _, cel pb62 rfl, _, cel pb62 rfl, _, cel pb62 rfl, ?_⟩
          have hbuf62 := hbuf'.le L62
          refine CallsA.mono (act_spec W m62 b1 s fp a hwa hbuf62 hs1' hs2' hE.ht) ?_
          rintro r m74 ⟨rfl, fp', hb', hf', hk'⟩
          generalize hs' : (actS s a).1 = s' at q0 q1 w0 w1 hb' ta hcl' hpl' hcl6 hpl6 p58 ⊢
          refine ⟨_, _, rfl, ?_⟩
          have nb58 : b58 ∉ fp := fun h => (hbuf'.le l54).lt _ h |>.2 n58
          have p58' := hf' _ _ p58 nb58
          have p3' := hf' _ _ (L62 _ _ hEM3) hE.n3
          refine ⟨_, _, _, cel p58' rfl, _, _, _, cel p58' rfl, _, cel p58' rfl, ?_⟩
          refine st3 hb3 p3' fun m86 hm86 => ?_
          have hf3 : Fr m74 m86 [b3] := by rw [hm86]; exact Fr.upd (Fr.refl _ _) (.inl (by simp)) _
          have r3 : m86 b3 = some (.cells #[.slice B0 s'.code.length d0, .slice B1 s'.pats.length d1', .int .i64 s'.taken] 48) := by rw [hm86, upd_get_same]
          have n3' : b3 ∉ fp' := fun h => by
            rcases hk' _ h with h2 | h2
            · exact hE.n3 h2
            · rw [L62 _ _ hEM3] at h2; cases h2
          have hbuf86 := hb'.fr hf3 (fun k hk hin => n3' (by simp at hin; rw [← hin]; exact hk))
          have g0' := Reads_fr (Reads_fr (q0.le l62) hf' (fun h0 k hk hin => w0 h0 k hk (.inl hin))) hf3 (fun h0 k hk hin => w0 h0 k hk (.inr (by simpa using hin)))
          have g1' := Reads_fr (Reads_fr (q1.le l62) hf' (fun h0 k hk hin => w1 h0 k hk (.inl hin))) hf3 (fun h0 k hk hin => w1 h0 k hk (.inr (by simpa using hin)))
          have low86 : (mOf W).le m86 := by
            have h1 := low_fr (AM.le_trans hE.hl (AM.le_trans lM L62)) hf' (fun k hk => (hE.hb.lt k hk).1)
            exact low_fr h1 hf3 (fun k hk => by simp at hk; rw [hk]; exact hb3)
          have hE' : EPl W b1 b3 m86 s' fp' B0 B1 d0 d1' := ⟨hbuf86, low86, r3, g0', g1', fun h0 k hk h => h.elim (fun hin => (hk' k hin).elim (fun h2 => w0 h0 k hk (.inl h2)) (fun h2 => Reads_known (q0.le l62) h0 (by decide) k hk h2)) (fun e => w0 h0 k hk (.inr e)), fun h0 k hk h => h.elim (fun hin => (hk' k hin).elim (fun h2 => w1 h0 k hk (.inl h2)) (fun h2 => Reads_known (q1.le l62) h0 (by decide) k hk h2)) (fun e => w1 h0 k hk (.inr e)), n3', ta⟩
          clear hm86
          refine CallsA.mono (code_spec W m86 b1 s'.code s'.pats s'.taken fp' hbuf86 hcl6) ?_
          rintro r m91 ⟨l91, A9, c9, rfl, o9, _⟩
          refine ⟨_, _, _, rfl, ?_⟩
          refine CallsA.mono (patches_spec W m91 b1 s'.code s'.pats s'.taken fp' (hbuf86.le l91) hpl6) ?_
          rintro r m96 ⟨l96, A10, c10, rfl, o10, _⟩
          have L96 := AM.le_trans l91 l96
          have r3' := L96 _ _ r3
          have f1 : ∀ z : Int, (z != z) = false := fun z => by simp
          have f2 : ∀ z : Bool, (!(z == z)) = false := fun z => by simp
          refine ⟨_, _, _, rfl, rfl, bcEF (f1 _) (bcEF (by rw [f1, f2]; rfl) ⟨_, here_eq W m96 b1 s'.code s'.pats s'.taken fp' (hbuf86.le L96), _, _, _, cel r3' rfl, rfl, ?_⟩)⟩
          refine bcEF (by rw [f1, f2, f1]; rfl) ⟨_, _, _, cel r3' rfl, rfl, bcEF (by rw [f1, f2, f1]; rfl) ⟨_, _, _, cel r3' rfl, rfl, bcEF (by rw [f1, f2, f1, f1]; rfl) ?_⟩⟩
          have hE96 : EPl W b1 b3 m96 s' fp' B0 B1 d0 d1' := ⟨hbuf86.le L96, AM.le_trans low86 L96, r3', g0'.le L96, g1'.le L96, hE'.z0, hE'.z1, n3', ta⟩
          refine vl6_11101001001111111010 W m96 _ _ k (EPlI W b1 b3) (fun _ => True) _ _ _ _ _ _ _ _ _ _ _ _ _ _ _ _ _ _ _ _ _ _ _ _ _ _ _ _ _ _ _ _ _ _ _ _ _ _ _ _ _ _ _ _ _ _ (fun j x m' => m' = m96 ∧ 0 ≤ x ∧ x ≤ s'.code.length ∧ (j : Int) = s'.code.length - x) (fun m' => m' = m96) s'.code.length rfl rfl rfl rfl rfl rfl rfl rfl rfl rfl rfl rfl rfl rfl rfl rfl rfl rfl rfl rfl rfl rfl rfl rfl rfl rfl rfl rfl rfl rfl ⟨rfl, by omega, by omega, by omega⟩ ?_ ?_
          · rintro j σ z m' ⟨hm', hz0, hz1, hj⟩
            replace hm' := hm'.symm; subst hm'
            refine ⟨rfl, ?_⟩
            by_cases cz : z < s'.code.length
            · have hzl : z.toNat < s'.code.length := by omega
              have w : IntKind.wrap .i64 (z + 1) = z + 1 := w64_id (by omega)
              have hj1 : j - 1 < j := by omega
              have hj2 : ((j - 1 : Nat) : Int) = s'.code.length - (z + 1) := by omega
              have hz3 : 0 ≤ z + 1 ∧ z + 1 ≤ s'.code.length := by omega
              obtain ⟨u, hu, hcu⟩ := (o9.le l96).ex (by omega)
              obtain ⟨v, hv, hcv⟩ := hE96.g0.ex (by omega)
              have iu := hcu.ins (List.getElem?_eq_getElem hzl)
              have iv := hcv.ins (List.getElem?_eq_getElem hzl)
              subst hu
              subst hv
              refine bcET (decide_eq_true cz) ⟨⟨hz0, cz⟩, _, iu.1, _, iu.2.1, _, iu.2.2.1, _, iu.2.2.2.1, _, iu.2.2.2.2, _, _, _, cel r3' rfl, ⟨hz0, cz⟩, _, iv.1, _, iv.2.1, _, iv.2.2.1, _, iv.2.2.2.1, _, iv.2.2.2.2, false, eqp_ne _, ?_⟩
              refine bcF ?_
              rw [w]
              repeat (first | exact ⟨j - 1, hj1, rfl, hz3.1, hz3.2, hj2⟩ | refine ⟨rfl, ?_⟩)
            · refine bcEF (decide_eq_false cz) ?_
              repeat (first | rfl | refine ⟨rfl, ?_⟩)
          · rintro σ m' hm'
            replace hm' := hm'.symm; subst hm'
            refine vl6_11101001001111111110 W m96 _ _ k (EPlI W b1 b3) (fun _ => True) _ _ _ _ _ _ _ _ _ _ _ _ _ _ _ _ _ _ _ _ _ _ _ _ _ _ _ _ _ _ _ _ _ _ _ _ _ _ _ _ _ _ _ (fun j x m' => m' = m96 ∧ 0 ≤ x ∧ x ≤ s'.pats.length ∧ (j : Int) = s'.pats.length - x) (fun m' => m' = m96) s'.pats.length rfl rfl rfl rfl rfl rfl rfl rfl rfl rfl rfl rfl rfl rfl rfl rfl rfl rfl rfl rfl rfl rfl rfl rfl rfl rfl rfl rfl rfl ⟨rfl, by omega, by omega, by omega⟩ ?_ ?_
            · rintro j σ z m' ⟨hm', hz0, hz1, hj⟩
              replace hm' := hm'.symm; subst hm'
              refine ⟨rfl, ?_⟩
              by_cases cz : z < s'.pats.length
              · have hzl : z.toNat < s'.pats.length := by omega
                have w : IntKind.wrap .i64 (z + 1) = z + 1 := w64_id (by omega)
                have hj1 : j - 1 < j := by omega
                have hj2 : ((j - 1 : Nat) : Int) = s'.pats.length - (z + 1) := by omega
                have hz3 : 0 ≤ z + 1 ∧ z + 1 ≤ s'.pats.length := by omega
                obtain ⟨u, hu, hcu⟩ := o10.ex (by omega)
                obtain ⟨v, hv, hcv⟩ := hE96.g1.ex (by omega)
                have iu := Cells.pat hcu (List.getElem?_eq_getElem hzl)
                have iv := Cells.pat hcv (List.getElem?_eq_getElem hzl)
                subst hu
                subst hv
                refine bcET (decide_eq_true cz) ⟨⟨hz0, cz⟩, _, iu.1, _, iu.2.1, _, iu.2.2, _, _, _, cel r3' rfl, ⟨hz0, cz⟩, _, iv.1, _, iv.2.1, _, iv.2.2, false, eqp_ne_pat _, ?_⟩
                refine bcF ?_
                rw [w]
                repeat (first | exact ⟨j - 1, hj1, rfl, hz3.1, hz3.2, hj2⟩ | refine ⟨rfl, ?_⟩)
              · refine bcEF (decide_eq_false cz) ?_
                repeat (first | rfl | refine ⟨rfl, ?_⟩)
            · rintro σ m' hm'
              replace hm' := hm'.symm; subst hm'
              rw [hx1]
              repeat (first | exact ⟨k - 1, hk1', s', fp', B0, B1, d0, d1', hE96, hx5, hx4, hcl', hpl', hk2'⟩ | refine ⟨rfl, ?_⟩)
      · refine bcEF (by rw [e1, decide_eq_false c2x]; rfl) ?_
        repeat (first | trivial | refine ⟨rfl, ?_⟩)
    · have e1 := decide_eq_false c1x
      refine bcEF e1 ⟨e1, ?_⟩
      repeat (first | trivial | refine ⟨rfl, ?_⟩)
  · rintro σ m _
    exact aw m
end Go.Proofs.Ytijilloaggeepaa.S
