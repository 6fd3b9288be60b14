/- Ytadcbnldahcelaa: a text of our own, by an AI agent: MgC -/
import Derived.Test.YtadcbnldahcelaaMfC
set_option linter.unusedSimpArgs false
set_option linter.unusedVariables false
set_option maxRecDepth 100000
namespace Go.Proofs.Ytadcbnldahcelaa.S
open Go Go.RowKit Go.Alog Go.Proofs.Ytadcbnldahcelaa.T Go.Proofs.Ytadcbnldahcelaa.V

theorem zeros_int (n : Nat) : zeros [Value.int .i64 0] n = intCells .i64 (List.replicate n 0) := by
  unfold zeros intCells
  induction n with
  | zero => rfl
  | succ n ih => simp only [List.replicate_succ, List.flatten_cons, List.map_cons] at ih ⊢; rw [ih]; rfl

theorem new_spec (w0 : World) (m : AM) (n : Int) : CallsA Try.prog w0 33 #[.int .i64 n] m (fun r m' => m.le m' ∧
    (if n < 0 ∨ n > 32000 then r = .pointer none else ∃ gm A, r = .pointer (some ⟨gm, 0, none⟩) ∧ m' gm = some (.cells #[.slice A (List.replicate n.toNat (0 : Int)).length n.toNat] 81) ∧ Own m' w0.heap.size 3 1 A (List.replicate n.toNat (0 : Int)).length n.toNat (intCells .i64 (List.replicate n.toNat 0)) ∧ (∀ k ∈ obl A, m k = none) ∧ m gm = none)) := by
  refine cf33 w0 m n _ ?_
  by_cases h0 : n < 0
  · simp only [decide_eq_true h0, cell_upd_same, cell_upd_ne, ne_eq, not_false_eq_true, List.getElem?_toArray, List.getElem?_cons_zero, List.getElem?_cons_succ, Option.some.injEq, Value.int.injEq, Value.slice.injEq, Value.bool.injEq, Value.pointer.injEq, Value.tuple.injEq, Array.mk.injEq, List.cons.injEq, true_and, and_true, exists_eq_left', exists_eq', exists_eq, exists_and_left, exists_and_right, and_assoc, bcase_t, bcase_f, cond_true, cond_false, StC_upd, nilO_some, List.setIfInBounds_toArray, List.set_cons_zero, List.set_cons_succ, List.size_toArray, List.length_cons, List.length_nil, Nat.reduceAdd, Nat.reduceLT, if_pos (Or.inl h0 : n < 0 ∨ n > 32000)]; exact retP_of ⟨AM.le_refl m, rfl⟩
  by_cases h1 : n > 32000
  · simp only [decide_eq_false h0, decide_eq_true h1, cell_upd_same, cell_upd_ne, ne_eq, not_false_eq_true, List.getElem?_toArray, List.getElem?_cons_zero, List.getElem?_cons_succ, Option.some.injEq, Value.int.injEq, Value.slice.injEq, Value.bool.injEq, Value.pointer.injEq, Value.tuple.injEq, Array.mk.injEq, List.cons.injEq, true_and, and_true, exists_eq_left', exists_eq', exists_eq, exists_and_left, exists_and_right, and_assoc, bcase_t, bcase_f, cond_true, cond_false, StC_upd, nilO_some, List.setIfInBounds_toArray, List.set_cons_zero, List.set_cons_succ, List.size_toArray, List.length_cons, List.length_nil, Nat.reduceAdd, Nat.reduceLT, if_pos (Or.inr h1 : n < 0 ∨ n > 32000)]; exact retP_of ⟨AM.le_refl m, rfl⟩
  simp only [decide_eq_false h0, decide_eq_false h1, cell_upd_same, cell_upd_ne, ne_eq, not_false_eq_true, List.getElem?_toArray, List.getElem?_cons_zero, List.getElem?_cons_succ, Option.some.injEq, Value.int.injEq, Value.slice.injEq, Value.bool.injEq, Value.pointer.injEq, Value.tuple.injEq, Array.mk.injEq, List.cons.injEq, true_and, and_true, exists_eq_left', exists_eq', exists_eq, exists_and_left, exists_and_right, and_assoc, bcase_t, bcase_f, cond_true, cond_false, StC_upd, nilO_some, List.setIfInBounds_toArray, List.set_cons_zero, List.set_cons_succ, List.size_toArray, List.length_cons, List.length_nil, Nat.reduceAdd, Nat.reduceLT, if_neg (show ¬ (n < 0 ∨ n > 32000) by omega)]
  refine ⟨by omega, by omega, by omega, by omega, ?_⟩
  intro b1 hb1 hm1
  rw [zeros_int]
  have l1 := le_new hm1 (.cells (intCells .i64 (List.replicate n.toNat 0)).toArray 3)
  have o1 : Own (m.upd b1 (.cells (intCells .i64 (List.replicate n.toNat 0)).toArray 3)) w0.heap.size 3 1 (some ⟨b1, 0, none⟩) n.toNat n.toNat (intCells .i64 (List.replicate n.toNat 0)) := Own.new m hb1 3 1 n.toNat _ (by simp [intCells])
  generalize m.upd b1 (.cells (intCells .i64 (List.replicate n.toNat 0)).toArray 3) = m2 at l1 o1
  intro b3 hb3 hm3
  have l3 := le_new hm3 (.cells #[.slice (some ⟨b1, 0, none⟩) n.toNat n.toNat] 81)
  refine retP_of ⟨AM.le_trans l1 l3, b3, rfl, some ⟨b1, 0, none⟩, ?_, ?_, ?_, AM.le_none l1 hm3⟩
  · rw [upd_get_same, List.length_replicate]
  · rw [List.length_replicate]; exact o1.le l3
  · intro k hk; simp [obl] at hk; subst hk; exact hm1

/-- Steps: the machine, by what it stopped, how many. -/
def runG (code : List Ins) : Nat → MS × Int × Int → MS × Int × Int
  | 0, x => x
  | n + 1, (s, t, k) => if t = 0 then runG code n ((stepP code s).1, (stepP code s).2, k + 1) else (s, t, k)
def beginS (mem : Int) (inp : List Int) : MS := ⟨List.replicate 32 0, List.replicate mem.toNat 0, 0, inp, []⟩
structure Res where
  trap : Int
  steps : Int
  out : List Int
  mem : List Int
 deriving DecidableEq
/-- What a run tells. -/
def runP (code : List Ins) (mem : Int) (inp : List Int) (fuel : Int) : Res :=
  if code.length > 4096 ∨ mem < 0 ∨ mem > 32000 then ⟨0, 0, [], []⟩
  else let x := runG code fuel.toNat (beginS mem inp, 0, 0); ⟨x.2.1, x.2.2, x.1.out, usedP x.1.mem⟩

/-- A result, as a value. -/
def RRes (m : AM) (B : Nat) (v : Value) (r : Res) : Prop :=
  ∃ Ao co Am cm, v = .agg #[.int .i64 r.trap, .int .i64 r.steps, .slice Ao r.out.length co, .slice Am r.mem.length cm] ∧ Own m B 3 1 Ao r.out.length co (intCells .i64 r.out) ∧ Own m B 3 1 Am r.mem.length cm (intCells .i64 r.mem)

theorem sysP_mem (s : MS) (n : Int) : (sysP s n).1.mem = s.mem := by
  unfold sysP
  split
  · rfl
  split
  · cases s.inp <;> rfl
  split
  · split <;> rfl
  · rfl
theorem actP_mem (s : MS) (i : Ins) : (actP s i).1.mem.length = s.mem.length := by
  unfold actP
  simp only
  split
  · split <;> rfl
  split
  · split
    · simp
    · rfl
  split
  · split <;> rfl
  split
  · rw [sysP_mem]
  · rfl
theorem nextP_mem (s : MS) (i : Ins) : (nextP s i).1.mem = s.mem := by
  unfold nextP
  simp only
  split
  · rfl
  split
  · rfl
  split
  · rfl
  split
  · rfl
  · rfl
theorem stepP_mem (code : List Ins) (s : MS) : (stepP code s).1.mem.length = s.mem.length := by
  unfold stepP
  simp only
  split
  · rfl
  split
  · rfl
  split
  · rfl
  split
  · exact actP_mem _ _
  split
  · exact actP_mem _ _
  · show ((nextP _ _).1.mem).length = _
    rw [nextP_mem]
    split <;> exact actP_mem _ _
theorem runG_mem (code : List Ins) : ∀ (n : Nat) (x : MS × Int × Int), (runG code n x).1.mem.length = x.1.mem.length
  | 0, x => rfl
  | n + 1, (s, t, k) => by
    unfold runG
    split
    · rw [runG_mem code n]; exact stepP_mem code s
    · rfl

theorem cell_small {m : AM} {b : Nat} {c : Array Value} {t : TypeId} (hb : m b = some (.cells c t)) {a : Addr} (ha : a.block = b) (h4 : c.size ≤ a.off) : m.cell a = none := by
  unfold AM.cell
  rw [ha, hb]
  simp
  intros
  omega

/-- A block that is none of the machine's may be written. -/
theorem SeqM.foreign {m : AM} {B g gm : Nat} {code : List Ins} {s : MS} {fp : List Nat} (h : SeqM m B g gm code s fp) {b : Nat} {c : Array Value} (hb : m b = some (.cells c 29)) (hc : c.size = 4) (hf : b ∉ fp) (o : Obj) : SeqM (m.upd b o) B g gm code s fp := by
  obtain ⟨Ac, cc, Ai, ci, Ao, co, Aw, cw, h⟩ := h
  have hfr : Fr m (m.upd b o) [b] := Fr.upd (Fr.refl _ _) (.inl (by simp)) _
  have hne : ∀ {k : Nat} {c' : Array Value} {t : TypeId}, m k = some (.cells c' t) → t ≠ 29 → k ∉ [b] := fun {k c' t} hk ht hin => by
    simp at hin; subst hin; rw [hb] at hk; injection hk with hk; injection hk with _ h2; exact ht h2.symm
  have hAc : 0 < code.length → ∀ k ∈ obl Ac, k ∉ [b] := by
    intro h0 k hk hin
    simp at hin; subst hin
    obtain ⟨ad, rfl, hcl⟩ := h.hc.ex h0
    simp [obl] at hk
    have hl : 4 < (insCells code).length := by rw [insCells_len]; omega
    have hx := hcl 4 _ (List.getElem?_eq_getElem hl)
    rw [cell_small hb (by rw [add_block, hk]) (by rw [hc]; unfold Addr.add; simp)] at hx
    cases hx
  have hAi : 0 < s.inp.length → ∀ k ∈ obl Ai, k ∉ [b] := by
    intro h0 k hk
    obtain ⟨c', h'⟩ := h.ti h0 k hk
    exact hne h' (by decide)
  exact ⟨Ac, cc, Ai, ci, Ao, co, Aw, cw, hfr _ _ h.hg (hne h.hg (by decide)), h.hB, h.hr, Reads_fr h.hc hfr hAc, hfr _ _ h.hm (hne h.hm (by decide)),
    h.hw.fr hfr (fun k hk hin => by simp at hin; exact hf (by rw [h.hfp, ← hin]; simp [hk])), Reads_fr h.hi hfr hAi, h.hic, h.ho.fr hfr (fun k hk hin => by simp at hin; exact hf (by rw [h.hfp, ← hin]; simp [hk])), h.hfp, h.dwo, h.dc, h.di, h.dm,
    fun h0 k hk => (h.ti h0 k hk).imp fun _ e => hfr _ _ e (hAi h0 k hk)⟩

structure RunC (w0 : World) (m : AM) (b1 b35 b37 gm : Nat) (code : List Ins) (m6 : AM) (s : MS) (t k : Int) (fp : List Nat) : Prop where
  hS : SeqM m6 w0.heap.size b35 gm code s fp
  hl : m.le m6
  h1 : m6 b1 = some (.cells #[.int .i64 0, .int .i64 0, .slice none 0 0, .slice none 0 0] 29)
  h37 : m6 b37 = some (.cells #[.int .i64 t, .int .i64 k, .slice none 0 0, .slice none 0 0] 29)
  hf : ∀ x ∈ fp, m x = none
  n1 : b1 ∉ fp
  n37 : b37 ∉ fp
def RunI (w0 : World) (m : AM) (b1 b35 b37 gm : Nat) (code : List Ins) (fuel : Int) (F : MS × Int × Int) (n : Nat) (m6 : AM) : Prop :=
  ∃ s t k fp, RunC w0 m b1 b35 b37 gm code m6 s t k fp ∧ runG code n (s, t, k) = F ∧ 0 ≤ k ∧ (t = 0 → n = (fuel - k).toNat)
def RunE (w0 : World) (m : AM) (b1 b35 b37 gm : Nat) (code : List Ins) (F : MS × Int × Int) (m6 : AM) : Prop :=
  ∃ s t k fp, RunC w0 m b1 b35 b37 gm code m6 s t k fp ∧ (s, t, k) = F

theorem run_spec (w0 : World) (m : AM) (Ac : Option Addr) (cc : Nat) (code : List Ins) (mem : Int) (Ai : Option Addr) (ci : Nat) (inp : List Int) (fuel : Int) (hf : InI fuel) (hc : Reads m 5 Ac code.length (insCells code)) (hi : Reads m 1 Ai inp.length (intCells .i64 inp)) (hin : inp.length ≤ 1000000) :
    CallsA Try.prog w0 23 #[.slice Ac code.length cc, .int .i64 mem, .slice Ai inp.length ci, .int .i64 fuel] m (fun r m' => m.le m' ∧ RRes m' w0.heap.size r (runP code mem inp fuel)) := by
  refine cf23 w0 m Ac code.length cc mem Ai inp.length ci fuel _ ?_
  intro b1 hb1 hm1 M
  have l1 : m.le M := le_new hm1 _
  have p1 : M b1 = some (.cells #[.int .i64 0, .int .i64 0, .slice none 0 0, .slice none 0 0] 29) := upd_get_same
  clear_value M
  refine CallsA.mono (new_spec w0 M mem) ?_
  rintro r m2 ⟨l2, hr⟩
  have p2 := l2 _ _ p1
  have retB : ∀ (m3 : AM) (A : Option Addr) (n c : Nat) (A' : Option Addr) (n' c' : Nat) (t k : Int) (R : Value → AM → Prop), m3 b1 = some (.cells #[.int .i64 0, .int .i64 0, .slice none 0 0, .slice none 0 0] 29) → m.le m3 →
      (∀ m4, m.le m4 → Fr m3 m4 [b1] → R (.agg #[.int .i64 t, .int .i64 k, .slice A n c, .slice A' n' c']) m4) →
      StC w0.heap.size m3 ⟨b1, 0, none⟩ (.int .i64 t) fun m75 => StC w0.heap.size m75 ⟨b1, 1, none⟩ (.int .i64 k) fun m76 => StC w0.heap.size m76 ⟨b1, 2, none⟩ (.slice A n c) fun m77 => StC w0.heap.size m77 ⟨b1, 3, none⟩ (.slice A' n' c') fun m78 =>
        ∃ i79 : Int, m78.cell ⟨b1, 0, none⟩ = some (.int .i64 i79) ∧ ∃ i80 : Int, m78.cell ⟨b1, 1, none⟩ = some (.int .i64 i80) ∧ ∃ (A81 : Option Addr) (n82 c83 : Nat), m78.cell ⟨b1, 2, none⟩ = some (.slice A81 n82 c83) ∧ ∃ (A84 : Option Addr) (n85 c86 : Nat), m78.cell ⟨b1, 3, none⟩ = some (.slice A84 n85 c86) ∧ RetP R (.agg #[.int .i64 i79, .int .i64 i80, .slice A81 n82 c83, .slice A84 n85 c86]) m78 := by
    intro m3 A n c A' n' c' t k R q1 L hR
    refine StC_own q1 hb1 (by simp) ?_
    simp only [cell_upd_same, cell_upd_ne, ne_eq, not_false_eq_true, List.getElem?_toArray, List.getElem?_cons_zero, List.getElem?_cons_succ, Option.some.injEq, Value.int.injEq, Value.slice.injEq, Value.bool.injEq, Value.pointer.injEq, Value.tuple.injEq, Array.mk.injEq, List.cons.injEq, true_and, and_true, exists_eq_left', exists_eq', exists_eq, exists_and_left, exists_and_right, and_assoc, bcase_t, bcase_f, cond_true, cond_false, StC_upd, nilO_some, List.setIfInBounds_toArray, List.set_cons_zero, List.set_cons_succ, List.size_toArray, List.length_cons, List.length_nil, Nat.reduceAdd, Nat.reduceLT, hb1]
    refine retP_of (hR _ ?_ (Fr.upd (Fr.refl _ _) (.inl (by simp)) _))
    intro x o hx
    rw [upd_get]
    by_cases e : x = b1
    · subst e; rw [hm1] at hx; cases hx
    · rw [if_neg e]; exact L _ _ hx
  have L2 := AM.le_trans l1 l2
  have nil : ∀ m4, RRes m4 w0.heap.size (.agg #[.int .i64 0, .int .i64 0, .slice none 0 0, .slice none 0 0]) ⟨0, 0, [], []⟩ := fun m4 => ⟨none, 0, none, 0, rfl, Own.nil _ _ _ _, Own.nil _ _ _ _⟩
  unfold runP
  by_cases hbad : mem < 0 ∨ mem > 32000
  · rw [if_pos hbad] at hr
    subst hr
    rw [if_pos (Or.inr hbad)]
    refine ⟨none, rfl, rfl, ?_⟩
    by_cases hl : ((code.length : Nat) : Int) > 4096
    · rw [decide_eq_true hl, bcase_t]
      exact ⟨rfl, rfl, retB m2 none 0 0 none 0 0 0 0 _ p2 L2 fun m4 l4 _ => ⟨l4, nil m4⟩⟩
    · rw [decide_eq_false hl, bcase_f]
      simp only [cond_false, Option.isNone_none, bcase_t]
      exact ⟨trivial, retB m2 none 0 0 none 0 0 0 0 _ p2 L2 fun m4 l4 _ => ⟨l4, nil m4⟩⟩
  rw [if_neg hbad] at hr
  obtain ⟨gm, Aw, rfl, hgm, hw, hnw, hng⟩ := hr
  refine ⟨_, rfl, rfl, ?_⟩
  by_cases hl : ((code.length : Nat) : Int) > 4096
  · rw [decide_eq_true hl, bcase_t, if_pos (Or.inl (by omega))]
    exact ⟨rfl, rfl, retB m2 none 0 0 none 0 0 0 0 _ p2 L2 fun m4 l4 _ => ⟨l4, nil m4⟩⟩
  rw [decide_eq_false hl, bcase_f, if_neg (show ¬ (code.length > 4096 ∨ mem < 0 ∨ mem > 32000) from fun h => h.elim (fun h => hl (by omega)) hbad)]
  refine (show bcase false _ _ from ?_)
  rw [bcase_f]
  refine CallsA.mono (clone_int w0 m2 Ai _ ci inp (hi.le L2) hin) ?_
  rintro r m3 ⟨l3, Ai', ci', rfl, hoi, hni⟩
  refine ⟨_, _, _, rfl, rfl, ?_⟩
  intro b35 hb35 hm35 m4
  have l4 : m3.le m4 := le_new hm35 _
  have p4 : m4 b35 = some (.cells (machL Ac code.length cc gm (List.replicate 32 0) 0 Ai' inp.length ci' none 0 0).toArray 62) := upd_get_same
  clear_value m4
  intro b37 hb37 hm37 m5
  have l5 : m4.le m5 := le_new hm37 _
  have p5 : m5 b37 = some (.cells #[.int .i64 0, .int .i64 0, .slice none 0 0, .slice none 0 0] 29) := upd_get_same
  clear_value m5
  have L5 := AM.le_trans (AM.le_trans (AM.le_trans L2 l3) l4) l5
  have n35 : m b35 = none := AM.le_none (AM.le_trans L2 l3) hm35
  have n37 : m b37 = none := AM.le_none (AM.le_trans (AM.le_trans L2 l3) l4) hm37
  have hS : SeqM m5 w0.heap.size b35 gm code (beginS mem inp) (b35 :: (obl Aw ++ obl none)) := by
    have hoi5 := (hoi.le l4).le l5
    have hw5 := ((hw.le l3).le l4).le l5
    refine ⟨Ac, cc, Ai', ci', none, 0, Aw, mem.toNat, l5 _ _ p4, hb35, by simp [beginS], hc.le L5, l5 _ _ (l4 _ _ (l3 _ _ hgm)), hw5, hoi5.reads, hoi.2.1, Own.nil _ _ _ _, rfl, by simp [obl], ?_, ?_, ?_, ?_⟩
    · intro h0 k hk hin
      have hk0 := Reads_known hc h0 (by decide) k hk
      simp only [List.mem_cons, List.mem_append, obl, List.not_mem_nil, or_false] at hin
      rcases hin with rfl | hin
      · exact hk0 n35
      · exact hk0 (AM.le_none l1 (hnw k hin))
    · intro h0 k hk hin
      simp only [List.mem_cons, List.mem_append, obl, List.not_mem_nil, or_false] at hin
      obtain ⟨_, cur, hk3⟩ := hoi.obl_some hk
      rcases hin with rfl | hin
      · rw [hm35] at hk3; cases hk3
      · obtain ⟨_, cur2, hk2⟩ := hw.obl_some hin
        rw [hni k hk] at hk2; cases hk2
    · intro hin
      simp only [List.mem_cons, List.mem_append, obl, List.not_mem_nil, or_false] at hin
      rcases hin with e | hin
      · rw [← e] at hm35; rw [l3 _ _ hgm] at hm35; cases hm35
      · exact hw.obl_ne hgm (by decide) hin
    · intro h0 k hk
      obtain ⟨_, cur, hk3⟩ := hoi5.obl_some hk
      exact ⟨cur, hk3⟩
  have hfp0 : ∀ k ∈ b35 :: (obl Aw ++ obl none), m k = none := by
    intro k hin
    simp only [List.mem_cons, List.mem_append, obl, List.not_mem_nil, or_false] at hin
    rcases hin with rfl | hin
    · exact n35
    · exact AM.le_none l1 (hnw k hin)
  have q1 := l5 _ _ (l4 _ _ (l3 _ _ p2))
  generalize hfp : b35 :: (obl Aw ++ obl none) = fp0 at hS hfp0
  have hb1f : b1 ∉ fp0 := by
    rw [← hfp]
    intro hin
    simp only [List.mem_cons, List.mem_append, obl, List.not_mem_nil, or_false] at hin
    rcases hin with e | hin
    · rw [← e, l3 _ _ p2] at hm35; cases hm35
    · exact hw.obl_ne p2 (by decide) hin
  have hb37f : b37 ∉ fp0 := by
    rw [← hfp]
    intro hin
    simp only [List.mem_cons, List.mem_append, obl, List.not_mem_nil, or_false] at hin
    rcases hin with e | hin
    · rw [e, p4] at hm37; cases hm37
    · exact (hw.le l3 |>.le l4 |>.le l5).obl_ne p5 (by decide) hin
  have h137 : b1 ≠ b37 := fun e => by rw [← e, l4 _ _ (l3 _ _ p2)] at hm37; cases hm37
  generalize hF : runG code fuel.toNat (beginS mem inp, 0, 0) = F
  refine vl23_1111100 w0 m5 _ _ fuel b1 (some ⟨gm, 0, none⟩) b35 b37 (RunI w0 m b1 b35 b37 gm code fuel F) (RunE w0 m b1 b35 b37 gm code F) fuel.toNat rfl rfl rfl rfl rfl ⟨beginS mem inp, 0, 0, fp0, ⟨hS, L5, q1, p5, hfp0, hb1f, hb37f⟩, hF, by omega, fun _ => by simp⟩ ?_ ?_
  · rintro n σ m6 ⟨s, t, k, fp, hC, hG, hk, hn⟩
    simp only [cell_of hC.h37, cell_upd_same, cell_upd_ne, ne_eq, not_false_eq_true, List.getElem?_toArray, List.getElem?_cons_zero, List.getElem?_cons_succ, Option.some.injEq, Value.int.injEq, Value.slice.injEq, Value.bool.injEq, Value.pointer.injEq, Value.tuple.injEq, Array.mk.injEq, List.cons.injEq, true_and, and_true, exists_eq_left', exists_eq', exists_eq, exists_and_left, exists_and_right, and_assoc, bcase_t, bcase_f, cond_true, cond_false, StC_upd, nilO_some, List.setIfInBounds_toArray, List.set_cons_zero, List.set_cons_succ, List.size_toArray, List.length_cons, List.length_nil, Nat.reduceAdd, Nat.reduceLT]
    by_cases ht : t = 0
    · subst ht
      simp only [beq_self_eq_true, cell_upd_same, cell_upd_ne, ne_eq, not_false_eq_true, List.getElem?_toArray, List.getElem?_cons_zero, List.getElem?_cons_succ, Option.some.injEq, Value.int.injEq, Value.slice.injEq, Value.bool.injEq, Value.pointer.injEq, Value.tuple.injEq, Array.mk.injEq, List.cons.injEq, true_and, and_true, exists_eq_left', exists_eq', exists_eq, exists_and_left, exists_and_right, and_assoc, bcase_t, bcase_f, cond_true, cond_false, StC_upd, nilO_some, List.setIfInBounds_toArray, List.set_cons_zero, List.set_cons_succ, List.size_toArray, List.length_cons, List.length_nil, Nat.reduceAdd, Nat.reduceLT]
      by_cases hkf : k < fuel
      · simp only [decide_eq_true hkf, cell_upd_same, cell_upd_ne, ne_eq, not_false_eq_true, List.getElem?_toArray, List.getElem?_cons_zero, List.getElem?_cons_succ, Option.some.injEq, Value.int.injEq, Value.slice.injEq, Value.bool.injEq, Value.pointer.injEq, Value.tuple.injEq, Array.mk.injEq, List.cons.injEq, true_and, and_true, exists_eq_left', exists_eq', exists_eq, exists_and_left, exists_and_right, and_assoc, bcase_t, bcase_f, cond_true, cond_false, StC_upd, nilO_some, List.setIfInBounds_toArray, List.set_cons_zero, List.set_cons_succ, List.size_toArray, List.length_cons, List.length_nil, Nat.reduceAdd, Nat.reduceLT]
        refine CallsA.mono (step_spec w0 m6 b35 gm code s fp hC.hS) ?_
        rintro r m7 ⟨rfl, hp⟩
        have k37 := hp.keep hC.h37 hC.n37
        have k1 := hp.keep hC.h1 hC.n1
        obtain ⟨fp7, h7, hf7, hk7⟩ := hp
        refine ⟨_, rfl, ?_⟩
        refine StC_own k37 hb37 (by simp) ?_
        have wk : IntKind.wrap .i64 (k + 1) = k + 1 := by rw [IntKind.wrap_i64]; unfold InI at hf; omega
        simp only [cell_upd_same, cell_upd_ne, ne_eq, not_false_eq_true, List.getElem?_toArray, List.getElem?_cons_zero, List.getElem?_cons_succ, Option.some.injEq, Value.int.injEq, Value.slice.injEq, Value.bool.injEq, Value.pointer.injEq, Value.tuple.injEq, Array.mk.injEq, List.cons.injEq, true_and, and_true, exists_eq_left', exists_eq', exists_eq, exists_and_left, exists_and_right, and_assoc, bcase_t, bcase_f, cond_true, cond_false, StC_upd, nilO_some, List.setIfInBounds_toArray, List.set_cons_zero, List.set_cons_succ, List.size_toArray, List.length_cons, List.length_nil, Nat.reduceAdd, Nat.reduceLT, hb37, wk]
        have hn1 : n = (fuel - k).toNat := hn rfl
        obtain ⟨n', rfl⟩ : ∃ n', n = n' + 1 := ⟨n - 1, by omega⟩
        refine ⟨n', by omega, (stepP code s).1, (stepP code s).2, k + 1, fp7, ⟨?_, ?_, ?_, upd_get_same, ?_, ?_, ?_⟩, ?_, by omega, fun _ => by omega⟩
        · exact h7.foreign k37 (by simp) (fun hx => by
            rcases hk7 _ hx with h | h
            · exact hC.n37 h
            · rw [hC.h37] at h; cases h) _
        · intro x o hx
          rw [upd_get]
          by_cases e : x = b37
          · subst e; rw [n37] at hx; cases hx
          · rw [if_neg e]; exact hf7 _ _ (hC.hl _ _ hx) fun hin => by rw [hC.hf x hin] at hx; cases hx
        · rw [upd_get_ne h137]; exact k1
        · intro x hx
          rcases hk7 x hx with h | h
          · exact hC.hf x h
          · exact AM.le_none hC.hl h
        · intro hx
          rcases hk7 _ hx with h | h
          · exact hC.n1 h
          · rw [hC.h1] at h; cases h
        · intro hx
          rcases hk7 _ hx with h | h
          · exact hC.n37 h
          · rw [hC.h37] at h; cases h
        · rw [← hG]; simp [runG]
      · simp only [decide_eq_false hkf, cell_upd_same, cell_upd_ne, ne_eq, not_false_eq_true, List.getElem?_toArray, List.getElem?_cons_zero, List.getElem?_cons_succ, Option.some.injEq, Value.int.injEq, Value.slice.injEq, Value.bool.injEq, Value.pointer.injEq, Value.tuple.injEq, Array.mk.injEq, List.cons.injEq, true_and, and_true, exists_eq_left', exists_eq', exists_eq, exists_and_left, exists_and_right, and_assoc, bcase_t, bcase_f, cond_true, cond_false, StC_upd, nilO_some, List.setIfInBounds_toArray, List.set_cons_zero, List.set_cons_succ, List.size_toArray, List.length_cons, List.length_nil, Nat.reduceAdd, Nat.reduceLT]
        refine ⟨s, 0, k, fp, hC, ?_⟩
        have hn1 : n = (fuel - k).toNat := hn rfl
        have : n = 0 := by omega
        subst this
        exact hG
    · have hb : (t == 0) = false := by simpa using ht
      simp only [hb, cell_upd_same, cell_upd_ne, ne_eq, not_false_eq_true, List.getElem?_toArray, List.getElem?_cons_zero, List.getElem?_cons_succ, Option.some.injEq, Value.int.injEq, Value.slice.injEq, Value.bool.injEq, Value.pointer.injEq, Value.tuple.injEq, Array.mk.injEq, List.cons.injEq, true_and, and_true, exists_eq_left', exists_eq', exists_eq, exists_and_left, exists_and_right, and_assoc, bcase_t, bcase_f, cond_true, cond_false, StC_upd, nilO_some, List.setIfInBounds_toArray, List.set_cons_zero, List.set_cons_succ, List.size_toArray, List.length_cons, List.length_nil, Nat.reduceAdd, Nat.reduceLT]
      refine ⟨s, t, k, fp, hC, ?_⟩
      rw [← hG]
      cases n with
      | zero => rfl
      | succ n => simp [runG, ht]
  · rintro σ m6 ⟨s, t, k, fp, hC, rfl⟩
    have hml : s.mem.length ≤ 1000000 := by
      have := runG_mem code fuel.toNat (beginS mem inp, 0, 0)
      rw [hF] at this
      have h2 : s.mem.length = (beginS mem inp).mem.length := this
      rw [h2]; simp [beginS]; omega
    have hSm := hC.hS
    obtain ⟨Ac6, cc6, Ai6, ci6, Ao6, co6, Aw6, cw6, h6⟩ := hC.hS
    obtain ⟨_, _, _, _, r36⟩ := h6.cells
    have fin : ∀ (m7 : AM) (A : Option Addr) (c : Nat), m6.le m7 → Own m7 w0.heap.size 3 1 A (usedP s.mem).length c (intCells .i64 (usedP s.mem)) → ∀ (K : AM → Prop),
        (∀ m8, m.le m8 → m8 b1 = some (.cells #[.int .i64 0, .int .i64 0, .slice none 0 0, .slice none 0 0] 29) → m8 b37 = some (.cells #[.int .i64 t, .int .i64 k, .slice Ao6 s.out.length co6, .slice A (usedP s.mem).length c] 29) → Own m8 w0.heap.size 3 1 Ao6 s.out.length co6 (intCells .i64 s.out) → Own m8 w0.heap.size 3 1 A (usedP s.mem).length c (intCells .i64 (usedP s.mem)) → K m8) →
        StC w0.heap.size m7 ⟨b37, 2, none⟩ (.slice Ao6 s.out.length co6) fun m55 => StC w0.heap.size m55 ⟨b37, 3, none⟩ (.slice A (usedP s.mem).length c) K := by
      intro m7 A c l7 o7 K hK
      have k37 := l7 _ _ hC.h37
      refine StC_own k37 hb37 (by simp) ?_
      simp only [cell_upd_same, cell_upd_ne, ne_eq, not_false_eq_true, List.getElem?_toArray, List.getElem?_cons_zero, List.getElem?_cons_succ, Option.some.injEq, Value.int.injEq, Value.slice.injEq, Value.bool.injEq, Value.pointer.injEq, Value.tuple.injEq, Array.mk.injEq, List.cons.injEq, true_and, and_true, exists_eq_left', exists_eq', exists_eq, exists_and_left, exists_and_right, and_assoc, bcase_t, bcase_f, cond_true, cond_false, StC_upd, nilO_some, List.setIfInBounds_toArray, List.set_cons_zero, List.set_cons_succ, List.size_toArray, List.length_cons, List.length_nil, Nat.reduceAdd, Nat.reduceLT, hb37]
      refine hK _ ?_ (by rw [upd_get_ne h137]; exact l7 _ _ hC.h1) upd_get_same ((h6.ho.le l7).upd ((h6.ho.le l7).ne_type k37 (by decide))) (o7.upd (o7.ne_type k37 (by decide)))
      intro x o hx
      rw [upd_get]
      by_cases e : x = b37
      · subst e; rw [n37] at hx; cases hx
      · rw [if_neg e]; exact l7 _ _ (hC.hl _ _ hx)
    refine vr23_1111110 w0 m6 _ _ b1 (some ⟨gm, 0, none⟩) b35 b37 (fun m8 => ∃ A c, m.le m8 ∧ m8 b1 = some (.cells #[.int .i64 0, .int .i64 0, .slice none 0 0, .slice none 0 0] 29) ∧ m8 b37 = some (.cells #[.int .i64 t, .int .i64 k, .slice Ao6 s.out.length co6, .slice A (usedP s.mem).length c] 29) ∧ Own m8 w0.heap.size 3 1 Ao6 s.out.length co6 (intCells .i64 s.out) ∧ Own m8 w0.heap.size 3 1 A (usedP s.mem).length c (intCells .i64 (usedP s.mem))) rfl rfl rfl rfl ?_ ?_
    · refine ⟨⟨_, _, _, r36, ?_⟩, ?_⟩
      · refine CallsA.mono (used_spec w0 m6 w0.heap.size gm Aw6 s.mem cw6 h6.hm h6.hw hml) ?_
        rintro r m7 ⟨l7, A, c, rfl, o7, _⟩
        refine ⟨_, _, _, rfl, fin m7 A c l7 o7 _ fun m8 a1 a2 a3 a4 a5 => ?_⟩
        exact ⟨rfl, rfl, rfl, A, c, a1, a2, a3, a4, a5⟩
      · refine CallsA.mono (used_spec w0 m6 w0.heap.size gm Aw6 s.mem cw6 h6.hm h6.hw hml) ?_
        rintro r m7 ⟨l7, A, c, rfl, o7, _⟩
        refine ⟨_, _, _, rfl, _, _, _, AM.le_cell l7 r36, fin m7 A c l7 o7 _ fun m8 a1 a2 a3 a4 a5 => ?_⟩
        exact ⟨rfl, rfl, rfl, A, c, a1, a2, a3, a4, a5⟩
    · rintro σ m8 ⟨A, c, a1, a2, a3, a4, a5⟩
      simp only [cell_of a3, cell_upd_same, cell_upd_ne, ne_eq, not_false_eq_true, List.getElem?_toArray, List.getElem?_cons_zero, List.getElem?_cons_succ, Option.some.injEq, Value.int.injEq, Value.slice.injEq, Value.bool.injEq, Value.pointer.injEq, Value.tuple.injEq, Array.mk.injEq, List.cons.injEq, true_and, and_true, exists_eq_left', exists_eq', exists_eq, exists_and_left, exists_and_right, and_assoc, bcase_t, bcase_f, cond_true, cond_false, StC_upd, nilO_some, List.setIfInBounds_toArray, List.set_cons_zero, List.set_cons_succ, List.size_toArray, List.length_cons, List.length_nil, Nat.reduceAdd, Nat.reduceLT]
      refine StC_own a2 hb1 (by simp) ?_
      simp only [cell_upd_same, cell_upd_ne, ne_eq, not_false_eq_true, List.getElem?_toArray, List.getElem?_cons_zero, List.getElem?_cons_succ, Option.some.injEq, Value.int.injEq, Value.slice.injEq, Value.bool.injEq, Value.pointer.injEq, Value.tuple.injEq, Array.mk.injEq, List.cons.injEq, true_and, and_true, exists_eq_left', exists_eq', exists_eq, exists_and_left, exists_and_right, and_assoc, bcase_t, bcase_f, cond_true, cond_false, StC_upd, nilO_some, List.setIfInBounds_toArray, List.set_cons_zero, List.set_cons_succ, List.size_toArray, List.length_cons, List.length_nil, Nat.reduceAdd, Nat.reduceLT, hb1]
      refine retP_of ⟨?_, Ao6, co6, A, c, rfl, a4.upd (a4.ne_type a2 (by decide)), a5.upd (a5.ne_type a2 (by decide))⟩
      intro x o hx
      rw [upd_get]
      by_cases e : x = b1
      · subst e; rw [hm1] at hx; cases hx
      · rw [if_neg e]; exact a1 _ _ hx
end Go.Proofs.Ytadcbnldahcelaa.S
