/- Ytadcbnldahcelaa: a text of our own, by an AI agent: McC -/
import Derived.Test.YtadcbnldahcelaaMbC
set_option linter.unusedSimpArgs false
set_option linter.unusedVariables false
set_option maxRecDepth 100000
namespace Go.Proofs.Ytadcbnldahcelaa.S
open Go Go.RowKit Go.Alog Go.Proofs.Ytadcbnldahcelaa.T Go.Proofs.Ytadcbnldahcelaa.V

theorem intCells_flat (l : List Int) : intCells .i64 l = l.flatMap (fun x => [Value.int .i64 x]) := by
  induction l with
  | nil => rfl
  | cons x l ih => simp only [intCells, List.map_cons, List.flatMap_cons] at ih ⊢; rw [ih]; rfl

theorem SeqR.gfp {m : AM} {B g : Nat} {code : List Ins} {s : MS} {fp : List Nat} {Ac Ai Ao Aw : Option Addr} {cc gm ci co cw : Nat} (h : SeqR m B g code s fp Ac cc gm Ai ci Ao co Aw cw) : g ∈ fp := by rw [h.hfp]; simp

/-- A cell is stored. -/
theorem SeqR.setMem {m : AM} {B g : Nat} {code : List Ins} {s : MS} {fp : List Nat} {Ac Ai Ao : Option Addr} {cc gm ci co cw : Nat} {ad : Addr} (h : SeqR m B g code s fp Ac cc gm Ai ci Ao co (some ad) cw) {k : Nat} (hk : k < s.mem.length) (v : Int) {K : AM → Prop}
    (hK : ∀ m', SeqR m' B g code { s with mem := s.mem.set k v } fp Ac cc gm Ai ci Ao co (some ad) cw → Fr m m' fp → K m') : StC B m (ad.add (k * 1)) (.int .i64 v) K := by
  have hw := h.hw
  rw [intCells_flat] at hw
  have := Own.storeRow (f := fun x => [Value.int .i64 x]) (sz := 1) (fun _ => rfl) hw hk v (K := K) (fun gA cur hA ho => ?_)
  · exact this
  · subst hA
    have hgin : gA ∈ fp := by rw [h.hfp]; simp [obl]
    have hgne : g ≠ gA := fun e => by subst e; exact h.hw.ne_type h.hg (by decide) 0 rfl
    have hfr : Fr m (m.upd gA (.cells cur 3)) fp := Fr.upd (Fr.refl _ _) (.inl hgin) _
    refine hK _ ⟨by rw [upd_get_ne hgne]; exact h.hg, h.hB, h.hr, Reads_fr h.hc hfr h.dc, ?_, ?_, Reads_fr h.hi hfr h.di, h.hic, ?_, h.hfp, h.dwo, h.dc, h.di, h.dm, fun h0 k hk => (h.ti h0 k hk).imp fun _ e => hfr _ _ e (h.di h0 k hk)⟩ hfr
    · rw [List.length_set]; exact hfr _ _ h.hm h.dm
    · rw [intCells_flat]; exact ho
    · refine h.ho.upd fun off hA => ?_
      refine h.dwo gA (by simp [obl]) ?_
      rw [hA]; simp [obl]

theorem store_mem (w0 : World) (m : AM) (g gm : Nat) (code : List Ins) (s : MS) (fp : List Nat) {Ac Ai Ao Aw : Option Addr} {cc ci co cw : Nat} (h : SeqR m w0.heap.size g code s fp Ac cc gm Ai ci Ao co Aw cw) (a v : Int) :
    CallsA Try.prog w0 67 #[.pointer (some ⟨gm, 0, none⟩), .int .i64 a, .int .i64 v] m (fun r m' => r = .bool (decide (0 ≤ a ∧ a < s.mem.length)) ∧ SPost w0 m g gm fp code (if 0 ≤ a ∧ a < s.mem.length then { s with mem := s.mem.set a.toNat (w32 v) } else s) m') := by
  refine cf67 w0 m gm a v _ ?_
  refine CallsA.mono (there_spec w0 m gm Aw _ cw h.hm a) ?_
  rintro r m1 ⟨rfl, rfl⟩
  refine ⟨_, rfl, ?_⟩
  by_cases hin : 0 ≤ a ∧ a < s.mem.length
  · simp only [decide_eq_true hin, Bool.not_true, bcase_f, if_pos hin]
    obtain ⟨ad, rfl, _⟩ := h.hw.ex (by omega)
    have hlt : a.toNat < s.mem.length := by omega
    refine vr67_110 w0 m1 _ _ gm a v (fun m' => SPost w0 m1 g gm fp code { s with mem := s.mem.set a.toNat (w32 v) } m') rfl rfl rfl ?_ ?_
    · have st : StC w0.heap.size m1 (ad.add (a.toNat * 1)) (.int .i64 (w32 v)) (fun m' => SPost w0 m1 g gm fp code { s with mem := s.mem.set a.toNat (w32 v) } m') :=
        h.setMem hlt (w32 v) fun m' h' hf => ⟨fp, ⟨_, _, _, _, _, _, _, _, h'⟩, hf, fun _ h => .inl h⟩
      refine ⟨?_, ?_⟩
      · simp only [cell_of h.hm, cell_upd_same, cell_upd_ne, ne_eq, not_false_eq_true, List.getElem?_toArray, List.getElem?_cons_zero, List.getElem?_cons_succ, Option.some.injEq, Value.int.injEq, Value.slice.injEq, Value.bool.injEq, Value.pointer.injEq, Value.tuple.injEq, Array.mk.injEq, List.cons.injEq, true_and, and_true, exists_eq_left', exists_eq', exists_eq, exists_and_left, exists_and_right, and_assoc, bcase_t, bcase_f, cond_true, cond_false, StC_upd, nilO_some, List.setIfInBounds_toArray, List.set_cons_zero, List.set_cons_succ, List.size_toArray, List.length_cons, List.length_nil, Nat.reduceAdd, Nat.reduceLT]
        refine CallsA.mono (wrapW w0 m1 v) ?_
        rintro r m2 ⟨rfl, rfl⟩
        exact ⟨_, rfl, hin.1, hin.2, st⟩
      · refine CallsA.mono (wrapW w0 m1 v) ?_
        rintro r m2 ⟨rfl, rfl⟩
        simp only [cell_of h.hm, cell_upd_same, cell_upd_ne, ne_eq, not_false_eq_true, List.getElem?_toArray, List.getElem?_cons_zero, List.getElem?_cons_succ, Option.some.injEq, Value.int.injEq, Value.slice.injEq, Value.bool.injEq, Value.pointer.injEq, Value.tuple.injEq, Array.mk.injEq, List.cons.injEq, true_and, and_true, exists_eq_left', exists_eq', exists_eq, exists_and_left, exists_and_right, and_assoc, bcase_t, bcase_f, cond_true, cond_false, StC_upd, nilO_some, List.setIfInBounds_toArray, List.set_cons_zero, List.set_cons_succ, List.size_toArray, List.length_cons, List.length_nil, Nat.reduceAdd, Nat.reduceLT]
        exact ⟨hin.1, hin.2, st⟩
    · intro σ m2 hp
      exact retP_of ⟨rfl, hp⟩
  · simp only [decide_eq_false hin, Bool.not_false, bcase_t, if_neg hin]
    exact retP_of ⟨rfl, SPost.self ⟨_, _, _, _, _, _, _, _, h⟩ (AM.le_refl _)⟩

/-- The input's first number is gone. -/
theorem SeqR.putIn {m : AM} {B g : Nat} {code : List Ins} {s : MS} {fp : List Nat} {Ac Ai Ao Aw : Option Addr} {cc gm ci co cw : Nat} (h : SeqR m B g code s fp Ac cc gm Ai ci Ao co Aw cw) {x : Int} {r : List Int} (hin : s.inp = x :: r) {K : AM → Prop}
    (hK : ∀ m', SeqM m' B g gm code { s with inp := r } fp → Fr m m' fp → K m') :
    StC B m ⟨g, 35, none⟩ (.slice (if ci = (1 : Int).toNat then Ai else Option.map (fun x => Addr.add x ((1 : Int).toNat * 1)) Ai) (s.inp.length - (1 : Int).toNat) (ci - (1 : Int).toNat)) K := by
  refine StC_own h.hg h.hB (by rw [List.size_toArray, machL_len h.hr]; omega) ?_
  rw [List.setIfInBounds_toArray, machL_setin h.hr]
  have hl : s.inp.length = r.length + 1 := by rw [hin]; rfl
  have e1 : (1 : Int).toNat = 1 := rfl
  rw [e1, hl, Nat.add_sub_cancel]
  obtain ⟨ai, rfl, hc⟩ := h.hi.ex (by omega)
  have hfr : Fr m (m.upd g (.cells (machL Ac code.length cc gm s.regs s.at_ (if ci = 1 then some ai else Option.map (fun x => Addr.add x (1 * 1)) (some ai)) r.length (ci - 1) Ao s.out.length co).toArray 62)) fp := Fr.upd (Fr.refl _ _) (.inl h.gfp) _
  have hob : obl (if ci = 1 then some ai else Option.map (fun x => Addr.add x (1 * 1)) (some ai)) = obl (some ai) := by
    split
    · rfl
    · simp [obl, add_block]
  refine hK _ ⟨Ac, cc, (if ci = 1 then some ai else Option.map (fun x => Addr.add x (1 * 1)) (some ai)), ci - 1, Ao, co, Aw, cw, by rw [upd_get_same], h.hB, h.hr, Reads_fr h.hc hfr h.dc, hfr _ _ h.hm h.dm, h.hw.upd (h.hw.ne_type h.hg (by decide)), ?_, ?_, h.ho.upd (h.ho.ne_type h.hg (by decide)), h.hfp, h.dwo, h.dc, ?_, h.dm, fun h0 k hk => (h.ti (by omega) k (by rw [← hob]; exact hk)).imp fun _ e => hfr _ _ e (h.di (by omega) k (by rw [← hob]; exact hk))⟩ hfr
  · refine Reads_fr (m := m) ?_ hfr (fun _ => by rw [hob]; exact h.di (by omega))
    refine ⟨by simp [intCells], ?_⟩
    by_cases h1 : ci = 1
    · have : r = [] := List.eq_nil_of_length_eq_zero (by have := h.hic; omega)
      subst this
      exact .inr ⟨ai, by simp [h1], fun j u hu => by simp [intCells] at hu⟩
    · refine .inr ⟨ai.add 1, by simp [h1], fun j u hu => ?_⟩
      rw [add_add]
      refine hc (1 + j) u ?_
      rw [hin, Nat.add_comm]
      simpa [intCells] using hu
  · have := h.hic; show r.length ≤ ci - 1; omega
  · intro _; rw [hob]; exact h.di (by omega)

/-- A call of the system. -/
def sysP (s : MS) (n : Int) : MS × Int :=
  if n = 0 then (s, 1)
  else if n = 1 then match s.inp with
    | [] => (s, 6)
    | x :: r => ({ s with regs := setR s.regs 4 x, inp := r }, 0)
  else if n = 2 then (if s.out.length ≥ 10000 then (s, 9) else ({ s with out := s.out ++ [regOf s.regs 4] }, 0))
  else (s, 0)

theorem sys_spec (w0 : World) (m : AM) (g gm : Nat) (code : List Ins) (s : MS) (fp : List Nat) (n : Int) (h : SeqM m w0.heap.size g gm code s fp) :
    CallsA Try.prog w0 68 #[.pointer (some ⟨g, 0, none⟩), .int .i64 n] m (fun r m' => r = .int .i64 (sysP s n).2 ∧ SPost w0 m g gm fp code (sysP s n).1 m') := by
  refine cf68 w0 m g n _ ?_
  have hM := h
  obtain ⟨Ac, cc, Ai, ci, Ao, co, Aw, cw, h⟩ := h
  obtain ⟨r0, r1, r34, r35, r36⟩ := h.cells
  have e0 : ∀ k : Int, (n == k) = decide (n = k) := fun k => rfl
  simp only [e0, r35, r36, cell_upd_same, cell_upd_ne, ne_eq, not_false_eq_true, List.getElem?_toArray, List.getElem?_cons_zero, List.getElem?_cons_succ, Option.some.injEq, Value.int.injEq, Value.slice.injEq, Value.bool.injEq, Value.pointer.injEq, Value.tuple.injEq, Array.mk.injEq, List.cons.injEq, true_and, and_true, exists_eq_left', exists_eq', exists_eq, exists_and_left, exists_and_right, and_assoc, bcase_t, bcase_f, cond_true, cond_false, StC_upd, nilO_some, List.setIfInBounds_toArray, List.set_cons_zero, List.set_cons_succ, List.size_toArray, List.length_cons, List.length_nil, Nat.reduceAdd, Nat.reduceLT]
  have self : SPost w0 m g gm fp code s m := SPost.self hM (AM.le_refl _)
  unfold sysP
  by_cases c0 : n = 0
  · simp only [decide_eq_true c0, if_pos c0, cell_upd_same, cell_upd_ne, ne_eq, not_false_eq_true, List.getElem?_toArray, List.getElem?_cons_zero, List.getElem?_cons_succ, Option.some.injEq, Value.int.injEq, Value.slice.injEq, Value.bool.injEq, Value.pointer.injEq, Value.tuple.injEq, Array.mk.injEq, List.cons.injEq, true_and, and_true, exists_eq_left', exists_eq', exists_eq, exists_and_left, exists_and_right, and_assoc, bcase_t, bcase_f, cond_true, cond_false, StC_upd, nilO_some, List.setIfInBounds_toArray, List.set_cons_zero, List.set_cons_succ, List.size_toArray, List.length_cons, List.length_nil, Nat.reduceAdd, Nat.reduceLT]; exact retP_of ⟨rfl, self⟩
  simp only [decide_eq_false c0, if_neg c0, cell_upd_same, cell_upd_ne, ne_eq, not_false_eq_true, List.getElem?_toArray, List.getElem?_cons_zero, List.getElem?_cons_succ, Option.some.injEq, Value.int.injEq, Value.slice.injEq, Value.bool.injEq, Value.pointer.injEq, Value.tuple.injEq, Array.mk.injEq, List.cons.injEq, true_and, and_true, exists_eq_left', exists_eq', exists_eq, exists_and_left, exists_and_right, and_assoc, bcase_t, bcase_f, cond_true, cond_false, StC_upd, nilO_some, List.setIfInBounds_toArray, List.set_cons_zero, List.set_cons_succ, List.size_toArray, List.length_cons, List.length_nil, Nat.reduceAdd, Nat.reduceLT]
  by_cases c1 : n = 1
  · simp only [decide_eq_true c1, if_pos c1, cell_upd_same, cell_upd_ne, ne_eq, not_false_eq_true, List.getElem?_toArray, List.getElem?_cons_zero, List.getElem?_cons_succ, Option.some.injEq, Value.int.injEq, Value.slice.injEq, Value.bool.injEq, Value.pointer.injEq, Value.tuple.injEq, Array.mk.injEq, List.cons.injEq, true_and, and_true, exists_eq_left', exists_eq', exists_eq, exists_and_left, exists_and_right, and_assoc, bcase_t, bcase_f, cond_true, cond_false, StC_upd, nilO_some, List.setIfInBounds_toArray, List.set_cons_zero, List.set_cons_succ, List.size_toArray, List.length_cons, List.length_nil, Nat.reduceAdd, Nat.reduceLT]
    cases hin : s.inp with
    | nil =>
      simp only [List.length_nil, show (((0 : Nat) : Int) == 0) = true from rfl, cell_upd_same, cell_upd_ne, ne_eq, not_false_eq_true, List.getElem?_toArray, List.getElem?_cons_zero, List.getElem?_cons_succ, Option.some.injEq, Value.int.injEq, Value.slice.injEq, Value.bool.injEq, Value.pointer.injEq, Value.tuple.injEq, Array.mk.injEq, List.cons.injEq, true_and, and_true, exists_eq_left', exists_eq', exists_eq, exists_and_left, exists_and_right, and_assoc, bcase_t, bcase_f, cond_true, cond_false, StC_upd, nilO_some, List.setIfInBounds_toArray, List.set_cons_zero, List.set_cons_succ, List.size_toArray, List.length_cons, List.length_nil, Nat.reduceAdd, Nat.reduceLT]
      exact retP_of ⟨rfl, self⟩
    | cons x r =>
      have hl : s.inp.length = r.length + 1 := by rw [hin]; rfl
      have hne : ((((r.length + 1 : Nat)) : Int) == 0) = false := by simp; omega
      simp only [List.length_cons, hne, cell_upd_same, cell_upd_ne, ne_eq, not_false_eq_true, List.getElem?_toArray, List.getElem?_cons_zero, List.getElem?_cons_succ, Option.some.injEq, Value.int.injEq, Value.slice.injEq, Value.bool.injEq, Value.pointer.injEq, Value.tuple.injEq, Array.mk.injEq, List.cons.injEq, true_and, and_true, exists_eq_left', exists_eq', exists_eq, exists_and_left, exists_and_right, and_assoc, bcase_t, bcase_f, cond_true, cond_false, StC_upd, nilO_some, List.setIfInBounds_toArray, List.set_cons_zero, List.set_cons_succ, List.size_toArray, List.length_cons, List.length_nil, Nat.reduceAdd, Nat.reduceLT]
      obtain ⟨ai, rfl, hci⟩ := h.hi.ex (by omega)
      have hx : m.cell (ai.add 0) = some (.int .i64 x) := hci 0 _ (by rw [hin]; rfl)
      simp only [cell_upd_same, cell_upd_ne, ne_eq, not_false_eq_true, List.getElem?_toArray, List.getElem?_cons_zero, List.getElem?_cons_succ, Option.some.injEq, Value.int.injEq, Value.slice.injEq, Value.bool.injEq, Value.pointer.injEq, Value.tuple.injEq, Array.mk.injEq, List.cons.injEq, true_and, and_true, exists_eq_left', exists_eq', exists_eq, exists_and_left, exists_and_right, and_assoc, bcase_t, bcase_f, cond_true, cond_false, StC_upd, nilO_some, List.setIfInBounds_toArray, List.set_cons_zero, List.set_cons_succ, List.size_toArray, List.length_cons, List.length_nil, Nat.reduceAdd, Nat.reduceLT, hx]
      refine ⟨by decide, by omega, ?_⟩
      refine CallsA.mono (set_spec w0 m g gm code s fp 4 x (by decide) hM) ?_
      rintro r' m2 ⟨rfl, fp2, h2, hf2, hk2⟩
      refine ⟨rfl, ?_⟩
      obtain ⟨Ac', cc', Ai', ci', Ao', co', Aw', cw', h2⟩ := h2
      obtain ⟨_, _, _, q35, _⟩ := h2.cells
      simp only [q35, cell_upd_same, cell_upd_ne, ne_eq, not_false_eq_true, List.getElem?_toArray, List.getElem?_cons_zero, List.getElem?_cons_succ, Option.some.injEq, Value.int.injEq, Value.slice.injEq, Value.bool.injEq, Value.pointer.injEq, Value.tuple.injEq, Array.mk.injEq, List.cons.injEq, true_and, and_true, exists_eq_left', exists_eq', exists_eq, exists_and_left, exists_and_right, and_assoc, bcase_t, bcase_f, cond_true, cond_false, StC_upd, nilO_some, List.setIfInBounds_toArray, List.set_cons_zero, List.set_cons_succ, List.size_toArray, List.length_cons, List.length_nil, Nat.reduceAdd, Nat.reduceLT]
      refine ⟨by decide, h2.hic, by show 1 ≤ s.inp.length; omega, ?_⟩
      refine h2.putIn (x := x) (r := r) hin fun m3 h3 hf3 => ?_
      exact retP_of ⟨rfl, SPost.of (fpM := fp2) ⟨fp2, h3, hf3, fun _ h => .inl h⟩ hf2 hk2⟩
  simp only [decide_eq_false c1, if_neg c1, cell_upd_same, cell_upd_ne, ne_eq, not_false_eq_true, List.getElem?_toArray, List.getElem?_cons_zero, List.getElem?_cons_succ, Option.some.injEq, Value.int.injEq, Value.slice.injEq, Value.bool.injEq, Value.pointer.injEq, Value.tuple.injEq, Array.mk.injEq, List.cons.injEq, true_and, and_true, exists_eq_left', exists_eq', exists_eq, exists_and_left, exists_and_right, and_assoc, bcase_t, bcase_f, cond_true, cond_false, StC_upd, nilO_some, List.setIfInBounds_toArray, List.set_cons_zero, List.set_cons_succ, List.size_toArray, List.length_cons, List.length_nil, Nat.reduceAdd, Nat.reduceLT]
  by_cases c2 : n = 2
  · simp only [decide_eq_true c2, if_pos c2, cell_upd_same, cell_upd_ne, ne_eq, not_false_eq_true, List.getElem?_toArray, List.getElem?_cons_zero, List.getElem?_cons_succ, Option.some.injEq, Value.int.injEq, Value.slice.injEq, Value.bool.injEq, Value.pointer.injEq, Value.tuple.injEq, Array.mk.injEq, List.cons.injEq, true_and, and_true, exists_eq_left', exists_eq', exists_eq, exists_and_left, exists_and_right, and_assoc, bcase_t, bcase_f, cond_true, cond_false, StC_upd, nilO_some, List.setIfInBounds_toArray, List.set_cons_zero, List.set_cons_succ, List.size_toArray, List.length_cons, List.length_nil, Nat.reduceAdd, Nat.reduceLT]
    by_cases hl : s.out.length ≥ 10000
    · simp only [decide_eq_true (show ((s.out.length : Nat) : Int) ≥ 10000 by omega), if_pos hl, cell_upd_same, cell_upd_ne, ne_eq, not_false_eq_true, List.getElem?_toArray, List.getElem?_cons_zero, List.getElem?_cons_succ, Option.some.injEq, Value.int.injEq, Value.slice.injEq, Value.bool.injEq, Value.pointer.injEq, Value.tuple.injEq, Array.mk.injEq, List.cons.injEq, true_and, and_true, exists_eq_left', exists_eq', exists_eq, exists_and_left, exists_and_right, and_assoc, bcase_t, bcase_f, cond_true, cond_false, StC_upd, nilO_some, List.setIfInBounds_toArray, List.set_cons_zero, List.set_cons_succ, List.size_toArray, List.length_cons, List.length_nil, Nat.reduceAdd, Nat.reduceLT]
      exact retP_of ⟨rfl, self⟩
    · simp only [decide_eq_false (show ¬ ((s.out.length : Nat) : Int) ≥ 10000 by omega), if_neg hl, cell_upd_same, cell_upd_ne, ne_eq, not_false_eq_true, List.getElem?_toArray, List.getElem?_cons_zero, List.getElem?_cons_succ, Option.some.injEq, Value.int.injEq, Value.slice.injEq, Value.bool.injEq, Value.pointer.injEq, Value.tuple.injEq, Array.mk.injEq, List.cons.injEq, true_and, and_true, exists_eq_left', exists_eq', exists_eq, exists_and_left, exists_and_right, and_assoc, bcase_t, bcase_f, cond_true, cond_false, StC_upd, nilO_some, List.setIfInBounds_toArray, List.set_cons_zero, List.set_cons_succ, List.size_toArray, List.length_cons, List.length_nil, Nat.reduceAdd, Nat.reduceLT]
      have h4 : m.cell ((⟨g, 2, none⟩ : Addr).add 4) = some (.int .i64 (regOf s.regs 4)) := h.reg (n := 4) (by decide)
      simp only [h4, cell_upd_same, cell_upd_ne, ne_eq, not_false_eq_true, List.getElem?_toArray, List.getElem?_cons_zero, List.getElem?_cons_succ, Option.some.injEq, Value.int.injEq, Value.slice.injEq, Value.bool.injEq, Value.pointer.injEq, Value.tuple.injEq, Array.mk.injEq, List.cons.injEq, true_and, and_true, exists_eq_left', exists_eq', exists_eq, exists_and_left, exists_and_right, and_assoc, bcase_t, bcase_f, cond_true, cond_false, StC_upd, nilO_some, List.setIfInBounds_toArray, List.set_cons_zero, List.set_cons_succ, List.size_toArray, List.length_cons, List.length_nil, Nat.reduceAdd, Nat.reduceLT]
      refine ⟨by decide, by decide, ?_⟩
      intro b hb hmb
      have lb := le_new hmb (.cells [Value.int .i64 (regOf s.regs 4)].toArray 3)
      have pb : (m.upd b (.cells [Value.int .i64 (regOf s.regs 4)].toArray 3)) b = some (.cells [Value.int .i64 (regOf s.regs 4)].toArray 3) := upd_get_same
      have hbM : SeqR (m.upd b (.cells [Value.int .i64 (regOf s.regs 4)].toArray 3)) w0.heap.size g code s fp Ac cc gm Ai ci Ao co Aw cw :=
        ⟨lb _ _ h.hg, h.hB, h.hr, h.hc.le lb, lb _ _ h.hm, h.hw.le lb, h.hi.le lb, h.hic, h.ho.le lb, h.hfp, h.dwo, h.dc, h.di, h.dm, fun h0 k hk => (h.ti h0 k hk).imp fun _ e => lb _ _ e⟩
      have hrd : Reads (m.upd b (.cells [Value.int .i64 (regOf s.regs 4)].toArray 3)) 1 (some ⟨b, 0, none⟩) 1 [Value.int .i64 (regOf s.regs 4)] := Reads.lit rfl
      refine awp_append_own el23 hbM.ho hrd (by intro u hu; simp at hu; subst hu; rfl) (by omega) (by omega) (fun g2 cp' cur hor hB2 ho2 => ?_) (fun h0 => by omega)
      simp only [cell_upd_same, cell_upd_ne, ne_eq, not_false_eq_true, List.getElem?_toArray, List.getElem?_cons_zero, List.getElem?_cons_succ, Option.some.injEq, Value.int.injEq, Value.slice.injEq, Value.bool.injEq, Value.pointer.injEq, Value.tuple.injEq, Array.mk.injEq, List.cons.injEq, true_and, and_true, exists_eq_left', exists_eq', exists_eq, exists_and_left, exists_and_right, and_assoc, bcase_t, bcase_f, cond_true, cond_false, StC_upd, nilO_some, List.setIfInBounds_toArray, List.set_cons_zero, List.set_cons_succ, List.size_toArray, List.length_cons, List.length_nil, Nat.reduceAdd, Nat.reduceLT]
      have hgg : g ≠ g2 := fun e => by
        subst e
        rcases hor with h' | h'
        · exact hbM.ho.ne_type hbM.hg (by decide) 0 h'
        · rw [hbM.hg] at h'; cases h'
      have kn : ∀ k, (∀ k' ∈ obl Ao, k ≠ k') → (m.upd b (.cells [Value.int .i64 (regOf s.regs 4)].toArray 3)) k ≠ none → k ≠ g2 := fun k h1 h2 e => by
        subst e
        rcases hor with h' | h'
        · exact h1 k (by rw [h']; simp [obl]) rfl
        · exact h2 h'
      have hfr : Fr (m.upd b (.cells [Value.int .i64 (regOf s.regs 4)].toArray 3)) ((m.upd b (.cells [Value.int .i64 (regOf s.regs 4)].toArray 3)).upd g2 (.cells cur 3)) (obl Ao) := by
        refine Fr.upd (Fr.refl _ _) ?_ _
        rcases hor with h' | h'
        · left; rw [h']; simp [obl]
        · right; exact h'
      have hAoFp : ∀ k ∈ obl Ao, k ∈ fp := fun k hk => by rw [h.hfp]; simp [hk]
      refine StC_own (c := (machL Ac code.length cc gm s.regs s.at_ Ai s.inp.length ci Ao s.out.length co).toArray) (t := 62) (by rw [upd_get_ne hgg]; exact hbM.hg) h.hB (by rw [List.size_toArray, machL_len h.hr]; omega) ?_
      rw [List.setIfInBounds_toArray, machL_setout h.hr]
      generalize hm1 : (m.upd b (.cells [Value.int .i64 (regOf s.regs 4)].toArray 3)).upd g2 (.cells cur 3) = m1 at hfr ho2
      have hfr2 : Fr m1 (m1.upd g (.cells (machL Ac code.length cc gm s.regs s.at_ Ai s.inp.length ci (some ⟨g2, 0, none⟩) (s.out.length + 1) cp').toArray 62)) [g] := Fr.upd (Fr.refl _ _) (.inl (by simp)) _
      have hg1 : m1 g = some (.cells (machL Ac code.length cc gm s.regs s.at_ Ai s.inp.length ci Ao s.out.length co).toArray 62) := by rw [← hm1, upd_get_ne hgg]; exact hbM.hg
      have gno : ∀ k, k ∈ [g] → k ∈ fp := fun k hk => by simp at hk; rw [hk]; exact h.gfp
      refine retP_of ⟨rfl, g :: (obl Aw ++ [g2]), ⟨Ac, cc, Ai, ci, some ⟨g2, 0, none⟩, cp', Aw, cw, ?_, h.hB, h.hr, ?_, ?_, ?_, ?_, h.hic, ?_, rfl, ?_, ?_, ?_, ?_, fun h0 k hk => (hbM.ti h0 k hk).imp fun _ e => hfr2 _ _ (hfr _ _ e fun hin => h.di h0 k hk (hAoFp k hin)) fun hin => h.di h0 k hk (gno k hin)⟩, ?_, ?_⟩
      · rw [upd_get_same]; simp
      · exact Reads_fr (Reads_fr hbM.hc hfr fun h0 k hk hin => h.dc h0 k hk (hAoFp k hin)) hfr2 fun h0 k hk hin => h.dc h0 k hk (gno k hin)
      · exact hfr2 _ _ (hfr _ _ hbM.hm fun hin => h.dm (hAoFp _ hin)) fun hin => h.dm (gno _ hin)
      · exact (hbM.hw.fr hfr h.dwo).upd ((hbM.hw.fr hfr h.dwo).ne_type hg1 (by decide))
      · exact Reads_fr (Reads_fr hbM.hi hfr fun h0 k hk hin => h.di h0 k hk (hAoFp k hin)) hfr2 fun h0 k hk hin => h.di h0 k hk (gno k hin)
      · have := ho2.upd (ho2.ne_type hg1 (by decide)) (o := .cells (machL Ac code.length cc gm s.regs s.at_ Ai s.inp.length ci (some ⟨g2, 0, none⟩) (s.out.length + 1) cp').toArray 62)
        simpa [intCells] using this
      · intro k hk hin
        simp [obl] at hin
        obtain ⟨_, cur', hk'⟩ := hbM.hw.obl_some hk
        exact kn k (fun k' hk2 e => h.dwo k hk (e ▸ hk2)) (by rw [hk']; simp) hin
      · intro h0 k hk hin
        simp only [List.mem_cons, List.mem_append, List.not_mem_nil, or_false] at hin
        rcases hin with rfl | hin | hin
        · exact h.dc h0 _ hk h.gfp
        · exact h.dc h0 k hk (by rw [h.hfp]; simp [hin])
        · exact kn k (fun k' hk2 e => h.dc h0 k hk (hAoFp k (e ▸ hk2))) (Reads_known hbM.hc h0 (by decide) k hk) hin
      · intro h0 k hk hin
        simp only [List.mem_cons, List.mem_append, List.not_mem_nil, or_false] at hin
        rcases hin with rfl | hin | hin
        · exact h.di h0 _ hk h.gfp
        · exact h.di h0 k hk (by rw [h.hfp]; simp [hin])
        · exact kn k (fun k' hk2 e => h.di h0 k hk (hAoFp k (e ▸ hk2))) (Reads_known hbM.hi h0 (by decide) k hk) hin
      · intro hin
        simp only [List.mem_cons, List.mem_append, List.not_mem_nil, or_false] at hin
        rcases hin with hin | hin | hin
        · exact h.dm (by rw [hin]; exact h.gfp)
        · exact h.dm (by rw [h.hfp]; simp [hin])
        · exact kn gm (fun k' hk2 e => h.dm (hAoFp gm (e ▸ hk2))) (by rw [hbM.hm]; simp) hin
      · refine Fr.trans (Fr.of_le lb fp) (Fr.trans (hfr.mono hAoFp) (hfr2.mono gno) (fun k hk => .inl hk)) (fun k hk => .inl hk)
      · intro k hk
        simp only [List.mem_cons, List.mem_append, List.not_mem_nil, or_false] at hk
        rcases hk with rfl | hk | rfl
        · exact .inl h.gfp
        · exact .inl (by rw [h.hfp]; simp [hk])
        · rcases hor with h' | h'
          · exact .inl (hAoFp _ (by rw [h']; simp [obl]))
          · exact .inr (AM.le_none lb h')
  · simp only [decide_eq_false c2, if_neg c2, cell_upd_same, cell_upd_ne, ne_eq, not_false_eq_true, List.getElem?_toArray, List.getElem?_cons_zero, List.getElem?_cons_succ, Option.some.injEq, Value.int.injEq, Value.slice.injEq, Value.bool.injEq, Value.pointer.injEq, Value.tuple.injEq, Array.mk.injEq, List.cons.injEq, true_and, and_true, exists_eq_left', exists_eq', exists_eq, exists_and_left, exists_and_right, and_assoc, bcase_t, bcase_f, cond_true, cond_false, StC_upd, nilO_some, List.setIfInBounds_toArray, List.set_cons_zero, List.set_cons_succ, List.size_toArray, List.length_cons, List.length_nil, Nat.reduceAdd, Nat.reduceLT]
    exact retP_of ⟨rfl, self⟩
end Go.Proofs.Ytadcbnldahcelaa.S
