/- Ytadcbnldahcelaa: a text of our own, by an AI agent: P8dC -/
import Derived.Test.YtadcbnldahcelaaP8cC
set_option linter.unusedSimpArgs false
set_option linter.unusedVariables false
set_option maxRecDepth 100000
namespace Go.Proofs.Ytadcbnldahcelaa.S
open Go Go.RowKit Go.Alog Go.Proofs.Ytadcbnldahcelaa.T Go.Proofs.Ytadcbnldahcelaa.V

theorem PQ.setMem {m0 m : AM} {B g : Nat} {code : List Ins} {s : PS} {q0 q : PA} (hQ : PQ m0 B g code q0 q m s) {ad : Addr} (hA : q.Aw = some ad) {k : Nat} (hk : k < s.mem.length) (v : Int) {K : AM → Prop}
    (hK : ∀ m', PQ m0 B g code q0 q m' { s with mem := s.mem.set k v } → Fr m m' (q.fp g) → K m') : StC B m (ad.add (k * 1)) (.int .i64 v) K := by
  have h := hQ.R
  have hw := h.hw
  rw [intCells_flat, hA] at hw
  refine Own.storeRow (f := fun x => [Value.int .i64 x]) (sz := 1) (fun _ => rfl) hw hk v (K := K) (fun gA cur hA' ho => ?_)
  subst hA'
  have hw' := h.hw
  have hgin : gA ∈ q.fp g := by simp [PA.fp, hA, obl]
  have hgne : g ≠ gA := fun e => by subst e; exact h.hw.ne_type h.hg (by decide) 0 hA
  have hfr : Fr m (m.upd gA (.cells cur 3)) (q.fp g) := Fr.upd (Fr.refl _ _) (.inl hgin) _
  refine hK _ ⟨⟨by rw [upd_get_ne hgne]; exact h.hg, h.hB, h.hr, Reads_fr h.hc hfr h.dc, ?_, ?_, Reads_fr h.hi hfr h.di, h.hic, ?_, h.dwo, h.dc, h.di, h.dm, fun h0 k hk => (h.ti h0 k hk).imp fun _ e => hfr _ _ e (h.di h0 k hk)⟩, hQ.fr.trans hfr hQ.kn, hQ.kn, hQ.gme, hQ.kc⟩ hfr
  · rw [List.length_set]; exact hfr _ _ h.hm h.dm
  · rw [intCells_flat, hA]; exact ho
  · refine h.ho.upd fun off hA' => ?_
    refine h.dwo gA (by simp [obl, hA]) ?_
    rw [hA']; simp [obl]

theorem store_pip (w0 : World) (m : AM) (g : Nat) (code : List Ins) (s : PS) (q : PA) (h : PipR m w0.heap.size g code s q) (a v : Int) :
    CallsA Try.prog w0 67 #[.pointer (some ⟨q.gm, 0, none⟩), .int .i64 a, .int .i64 v] m (fun r m' => r = .bool (decide (0 ≤ a ∧ a < s.mem.length)) ∧ PQ m w0.heap.size g code q q m' (if 0 ≤ a ∧ a < s.mem.length then { s with mem := s.mem.set a.toNat (w32 v) } else s)) := by
  have hQ := PQ.of h
  refine cf67 w0 m q.gm a v _ ?_
  refine CallsA.mono (there_spec w0 m q.gm q.Aw _ q.cw h.hm a) ?_
  rintro r m1 ⟨rfl, rfl⟩
  refine ⟨_, rfl, ?_⟩
  by_cases hin : 0 ≤ a ∧ a < s.mem.length
  · simp only [decide_eq_true hin, Bool.not_true, bcase_f, if_pos hin]
    obtain ⟨ad, hA, _⟩ := h.hw.ex (by omega)
    have hlt : a.toNat < s.mem.length := by omega
    have st : StC w0.heap.size m1 (ad.add (a.toNat * 1)) (.int .i64 (w32 v)) (fun m' => PQ m1 w0.heap.size g code q q m' { s with mem := s.mem.set a.toNat (w32 v) }) := hQ.setMem hA hlt (w32 v) fun m' h' hf => h'
    refine vr67_110 w0 m1 _ _ q.gm a v (fun m' => PQ m1 w0.heap.size g code q q m' { s with mem := s.mem.set a.toNat (w32 v) }) rfl rfl rfl ?_ ?_
    · refine ⟨?_, ?_⟩
      · simp only [cell_of h.hm, cell_upd_same, cell_upd_ne, ne_eq, not_false_eq_true, List.getElem?_toArray, List.getElem?_cons_zero, List.getElem?_cons_succ, Option.some.injEq, Value.int.injEq, Value.slice.injEq, Value.bool.injEq, Value.pointer.injEq, Value.tuple.injEq, Array.mk.injEq, List.cons.injEq, true_and, and_true, exists_eq_left', exists_eq', exists_eq, exists_and_left, exists_and_right, and_assoc, bcase_t, bcase_f, cond_true, cond_false, StC_upd, nilO_some, List.setIfInBounds_toArray, List.set_cons_zero, List.set_cons_succ, List.size_toArray, List.length_cons, List.length_nil, Nat.reduceAdd, Nat.reduceLT, hA]
        refine CallsA.mono (wrapW w0 m1 v) ?_
        rintro r m2 ⟨rfl, rfl⟩
        exact ⟨_, rfl, hin.1, hin.2, st⟩
      · refine CallsA.mono (wrapW w0 m1 v) ?_
        rintro r m2 ⟨rfl, rfl⟩
        simp only [cell_of h.hm, cell_upd_same, cell_upd_ne, ne_eq, not_false_eq_true, List.getElem?_toArray, List.getElem?_cons_zero, List.getElem?_cons_succ, Option.some.injEq, Value.int.injEq, Value.slice.injEq, Value.bool.injEq, Value.pointer.injEq, Value.tuple.injEq, Array.mk.injEq, List.cons.injEq, true_and, and_true, exists_eq_left', exists_eq', exists_eq, exists_and_left, exists_and_right, and_assoc, bcase_t, bcase_f, cond_true, cond_false, StC_upd, nilO_some, List.setIfInBounds_toArray, List.set_cons_zero, List.set_cons_succ, List.size_toArray, List.length_cons, List.length_nil, Nat.reduceAdd, Nat.reduceLT, hA]
        exact ⟨hin.1, hin.2, st⟩
    · intro σ m2 hp
      exact retP_of ⟨rfl, hp⟩
  · simp only [decide_eq_false hin, Bool.not_false, bcase_t, if_neg hin]
    exact retP_of ⟨rfl, hQ⟩

/-- The input's first number is gone. -/
theorem PQ.putIn {m0 m : AM} {B g : Nat} {code : List Ins} {s : PS} {q0 q : PA} (hQ : PQ m0 B g code q0 q m s) {x : Int} {r : List Int} (hin : s.inp = x :: r) {K : AM → Prop}
    (hK : ∀ m' q', q'.Ac = q.Ac → PQ m0 B g code q0 q' m' { s with inp := r } → Fr m m' [g] → K m') :
    StC B m ⟨g, 35, none⟩ (.slice (if q.ci = (1 : Int).toNat then q.Ai else Option.map (fun x => Addr.add x ((1 : Int).toNat * 1)) q.Ai) (s.inp.length - (1 : Int).toNat) (q.ci - (1 : Int).toNat)) K := by
  have h := hQ.R
  have e1 : (1 : Int).toNat = 1 := rfl
  rw [e1]
  refine StC_own h.hg h.hB (by rw [pL_size h.hr]; omega) ?_
  have hl : s.inp.length = r.length + 1 := by rw [hin]; rfl
  rw [show s.inp.length - 1 = r.length by omega]
  have he : (pL q code.length s).toArray.setIfInBounds 35 (.slice (if q.ci = 1 then q.Ai else Option.map (fun x => Addr.add x (1 * 1)) q.Ai) r.length (q.ci - 1)) = (pL { q with Ai := (if q.ci = 1 then q.Ai else Option.map (fun x => Addr.add x (1 * 1)) q.Ai), ci := q.ci - 1 } code.length { s with inp := r }).toArray := by
    rw [List.setIfInBounds_toArray]; unfold pL
    rw [List.set_append_left _ _ (by rw [machL_len h.hr]; omega), machL_setin h.hr]
  rw [he]
  obtain ⟨ai, hai, hc⟩ := h.hi.ex (by omega)
  have hob : obl (if q.ci = 1 then q.Ai else Option.map (fun x => Addr.add x (1 * 1)) q.Ai) = obl q.Ai := by
    split
    · rfl
    · rw [hai]; simp [obl, add_block]
  generalize hAi' : (if q.ci = 1 then q.Ai else Option.map (fun x => Addr.add x (1 * 1)) q.Ai) = Ai' at hob
  have hfr : Fr m (m.upd g (.cells (pL ({ q with Ai := Ai', ci := q.ci - 1 } : PA) code.length { s with inp := r }).toArray 79)) [g] := Fr.upd (Fr.refl _ _) (.inl (by simp)) _
  have hfp : ({ q with Ai := Ai', ci := q.ci - 1 } : PA).fp g = q.fp g := by rfl
  have gno : ∀ k, k ∈ [g] → k ∈ q.fp g := fun k hk => by simp at hk; rw [hk]; exact gfp
  have hR : PipR (m.upd g (.cells (pL ({ q with Ai := Ai', ci := q.ci - 1 } : PA) code.length { s with inp := r }).toArray 79)) B g code { s with inp := r } ({ q with Ai := Ai', ci := q.ci - 1 } : PA) := by
    refine ⟨upd_get_same, h.hB, h.hr, ?_, ?_, ?_, ?_, ?_, ?_, ?_, ?_, ?_, ?_, ?_⟩
    · exact Reads_fr h.hc hfr fun h0 k hk hin => h.dc h0 k hk (gno k hin)
    · exact hfr _ _ h.hm fun hin => h.dm (gno _ hin)
    · exact (h.hw.fr hfr (fun k hk hin => by
        simp at hin; subst hin; exact h.hw.obl_ne h.hg (by decide) hk))
    · refine Reads_fr (m := m) ?_ hfr (fun _ => by
        intro k hk hin2
        exact h.di (by omega) k (by rw [← hob]; exact hk) (gno k hin2))
      refine ⟨by simp [intCells], ?_⟩
      by_cases h1 : q.ci = 1
      · have : r = [] := List.eq_nil_of_length_eq_zero (by have := h.hic; omega)
        subst this
        exact .inr ⟨ai, by rw [← hAi', if_pos h1, hai], fun j u hu => by simp [intCells] at hu⟩
      · refine .inr ⟨ai.add 1, by rw [← hAi', if_neg h1, hai]; rfl, fun j u hu => ?_⟩
        rw [add_add]
        refine hc (1 + j) u ?_
        rw [hin, Nat.add_comm]
        simpa [intCells] using hu
    · have := h.hic; show r.length ≤ q.ci - 1; omega
    · exact (h.ho.fr hfr (fun k hk hin => by
        simp at hin; subst hin; exact h.ho.obl_ne h.hg (by decide) hk))
    · exact h.dwo
    · rw [hfp]; exact h.dc
    · intro _; rw [hfp, hob]; exact h.di (by omega)
    · rw [hfp]; exact h.dm
    · exact fun h0 k hk => (h.ti (by omega) k (by rw [← hob]; exact hk)).imp fun _ e => hfr _ _ e fun hin => h.di (by omega) k (by rw [← hob]; exact hk) (gno k hin)
  refine hK _ ({ q with Ai := Ai', ci := q.ci - 1 } : PA) (rfl) ⟨hR, hQ.fr.trans hfr fun k hk => hQ.kn k (gno k hk), by rw [hfp]; exact hQ.kn, by exact hQ.gme, by exact hQ.kc⟩ hfr

/-- A number is put out. -/
theorem PQ.putOut {m0 : AM} {g : Nat} {code : List Ins} {s : PS} {q0 q : PA} {w0 : World} {m : AM} (hQ : PQ m0 w0.heap.size g code q0 q m s) (v : Int) (hlen : s.out.length < 10000) {K : Nat → Option Addr → Nat → Nat → AM → Prop}
    (hK : ∀ b A n c m' q', q'.Ac = q.Ac → PQ m0 w0.heap.size g code q0 q' m' { s with out := s.out ++ [v] } → (∀ b c, m b = some (.cells c 77) → m' b = some (.cells c 77)) → K b A n c m') :
    ∀ b : Nat, w0.heap.size ≤ b → m b = none → let m1 := AM.upd m b (.cells #[.int .i64 v] 3);
      awp Try.prog w0.heap.size (Builtin.append_ #[23, 23] 23 #[.slice q.Ao s.out.length q.co, .slice (some ⟨b, 0, none⟩) 1 1]) m1 fun v106 m107 => ∃ (A : Option Addr) (n c : Nat), v106 = .slice A n c ∧ StC w0.heap.size m107 ⟨g, 36, none⟩ (.slice A n c) (K b A n c) := by
  intro b hb hmb
  have lb := le_new hmb (.cells [Value.int .i64 v].toArray 3)
  have hbQ := hQ.le lb
  have hbM := hbQ.R
  have h := hQ.R
  have hrd : Reads (m.upd b (.cells [Value.int .i64 v].toArray 3)) 1 (some ⟨b, 0, none⟩) 1 [Value.int .i64 v] := Reads.lit rfl
  refine awp_append_own el23 hbM.ho hrd (by intro u hu; simp at hu; subst hu; rfl) (by omega) (by omega) (fun g2 cp' cur hor hB2 ho2 => ?_) (fun h0 => by omega)
  refine ⟨_, _, _, rfl, ?_⟩
  have hgg : g ≠ g2 := fun e => by
    subst e
    rcases hor with h' | h'
    · exact hbM.ho.ne_type hbM.hg (by decide) 0 h'
    · rw [hbM.hg] at h'; cases h'
  have kn : ∀ k, (∀ k' ∈ obl q.Ao, k ≠ k') → (m.upd b (.cells [Value.int .i64 v].toArray 3)) k ≠ none → k ≠ g2 := fun k h1 h2 e => by
    subst e
    rcases hor with h' | h'
    · exact h1 k (by rw [h']; simp [obl]) rfl
    · exact h2 h'
  have hfr : Fr (m.upd b (.cells [Value.int .i64 v].toArray 3)) ((m.upd b (.cells [Value.int .i64 v].toArray 3)).upd g2 (.cells cur 3)) (obl q.Ao) := by
    refine Fr.upd (Fr.refl _ _) ?_ _
    rcases hor with h' | h'
    · left; rw [h']; simp [obl]
    · right; exact h'
  have hAoFp : ∀ k ∈ obl q.Ao, k ∈ q.fp g := fun k hk => by simp [PA.fp, hk]
  refine StC_own (c := (pL q code.length s).toArray) (t := 79) (by rw [upd_get_ne hgg]; exact hbM.hg) h.hB (by rw [pL_size h.hr]; omega) ?_
  have he : (pL q code.length s).toArray.setIfInBounds 36 (.slice (some ⟨g2, 0, none⟩) (s.out.length + 1) cp') = (pL { q with Ao := some ⟨g2, 0, none⟩, co := cp' } code.length { s with out := s.out ++ [v] }).toArray := by
    rw [List.setIfInBounds_toArray]; unfold pL
    rw [List.set_append_left _ _ (by rw [machL_len h.hr]; omega), machL_setout h.hr, List.length_append]; rfl
  rw [he]
  generalize hm1 : (m.upd b (.cells [Value.int .i64 v].toArray 3)).upd g2 (.cells cur 3) = m1 at hfr ho2
  have hfr2 : Fr m1 (m1.upd g (.cells (pL ({ q with Ao := some ⟨g2, 0, none⟩, co := cp' } : PA) code.length { s with out := s.out ++ [v] }).toArray 79)) [g] := Fr.upd (Fr.refl _ _) (.inl (by simp)) _
  have hg1 : m1 g = some (.cells (pL q code.length s).toArray 79) := by rw [← hm1, upd_get_ne hgg]; exact hbM.hg
  have gno : ∀ k, k ∈ [g] → k ∈ q.fp g := fun k hk => by simp at hk; rw [hk]; exact gfp
  have hfp' : ({ q with Ao := some ⟨g2, 0, none⟩, co := cp' } : PA).fp g = g :: (obl q.Aw ++ [g2]) := by rfl
  have sub : ∀ {k}, k ∈ ({ q with Ao := some ⟨g2, 0, none⟩, co := cp' } : PA).fp g → k ∈ q.fp g ∨ k = g2 := by
    intro k hk
    rw [hfp'] at hk
    simp only [List.mem_cons, List.mem_append, List.not_mem_nil, or_false] at hk
    rcases hk with rfl | hk | rfl
    · exact .inl gfp
    · exact .inl (by simp [PA.fp, hk])
    · exact .inr rfl
  have hR : PipR (m1.upd g (.cells (pL ({ q with Ao := some ⟨g2, 0, none⟩, co := cp' } : PA) code.length { s with out := s.out ++ [v] }).toArray 79)) w0.heap.size g code { s with out := s.out ++ [v] } ({ q with Ao := some ⟨g2, 0, none⟩, co := cp' } : PA) := by
    refine ⟨upd_get_same, h.hB, h.hr, ?_, ?_, ?_, ?_, ?_, ?_, ?_, ?_, ?_, ?_, ?_⟩
    · exact Reads_fr (Reads_fr hbM.hc hfr fun h0 k hk hin => h.dc h0 k hk (hAoFp k hin)) hfr2 fun h0 k hk hin => h.dc h0 k hk (gno k hin)
    · exact hfr2 _ _ (hfr _ _ hbM.hm fun hin => h.dm (hAoFp _ hin)) fun hin => h.dm (gno _ hin)
    · exact (hbM.hw.fr hfr h.dwo).upd ((hbM.hw.fr hfr h.dwo).ne_type hg1 (by decide))
    · exact Reads_fr (Reads_fr hbM.hi hfr fun h0 k hk hin => h.di h0 k hk (hAoFp k hin)) hfr2 fun h0 k hk hin => h.di h0 k hk (gno k hin)
    · exact h.hic
    · have h9 := ho2.upd (ho2.ne_type hg1 (by decide)) (o := .cells (pL ({ q with Ao := some ⟨g2, 0, none⟩, co := cp' } : PA) code.length { s with out := s.out ++ [v] }).toArray 79)
      simpa [intCells] using h9
    · intro k hk hin
      simp [obl] at hin
      obtain ⟨_, cur', hk'⟩ := hbM.hw.obl_some hk
      exact kn k (fun k' hk2 e => h.dwo k hk (e ▸ hk2)) (by rw [hk']; simp) hin
    · intro h0 k hk hin
      have hk : k ∈ obl q.Ac := hk
      rcases sub hin with hin | hin
      · exact h.dc h0 _ hk hin
      · exact kn k (fun k' hk2 e => h.dc h0 k hk (hAoFp k (e ▸ hk2))) (Reads_known hbM.hc h0 (by decide) k hk) hin
    · intro h0 k hk hin
      have hk : k ∈ obl q.Ai := hk
      rcases sub hin with hin | hin
      · exact h.di h0 _ hk hin
      · exact kn k (fun k' hk2 e => h.di h0 k hk (hAoFp k (e ▸ hk2))) (Reads_known hbM.hi h0 (by decide) k hk) hin
    · intro hin
      have e : ({ q with Ao := some ⟨g2, 0, none⟩, co := cp' } : PA).gm = q.gm := rfl
      rw [e] at hin
      rcases sub hin with hin | hin
      · exact h.dm hin
      · exact kn q.gm (fun k' hk2 e => h.dm (hAoFp q.gm (e ▸ hk2))) (by rw [hbM.hm]; simp) hin
    · exact fun h0 k hk => (hbM.ti h0 k hk).imp fun _ e => hfr2 _ _ (hfr _ _ e fun hin => h.di h0 k hk (hAoFp k hin)) fun hin => h.di h0 k hk (gno k hin)
  refine hK _ _ _ _ _ ({ q with Ao := some ⟨g2, 0, none⟩, co := cp' } : PA) (rfl) ⟨hR, ?_, ?_, by exact hQ.gme, by exact hQ.kc⟩ ?_
  · exact (hbQ.fr.trans (hfr.mono hAoFp) hQ.kn).trans (hfr2.mono gno) hQ.kn
  · intro k hk
    rcases sub hk with h' | h'
    · exact hQ.kn k h'
    · subst h'
      rcases hor with h' | h'
      · exact hQ.kn _ (hAoFp _ (by rw [h']; simp [obl]))
      · by_cases hin : k ∈ q0.fp g
        · exact .inl hin
        · right
          cases hm0 : m0 k with
          | none => rfl
          | some o => rw [hbQ.fr k o hm0 hin] at h'; cases h'
  · intro x c hx
    have hx' := lb _ _ hx
    have n1 : x ∉ q.fp g := hQ.notin hx
    exact hfr2 _ _ (hfr _ _ hx' fun hin => n1 (hAoFp _ hin)) fun hin => n1 (gno _ hin)
end Go.Proofs.Ytadcbnldahcelaa.S
