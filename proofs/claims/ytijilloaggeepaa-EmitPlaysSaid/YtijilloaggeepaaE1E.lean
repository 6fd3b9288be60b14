/- Ytijilloaggeepaa: a text of our own, by an AI agent: E1E -/
import Derived.Test.YtijilloaggeepaaCore10
import Derived.Test.YtijilloaggeepaaVEmitE
set_option linter.unusedSimpArgs false
set_option linter.unusedVariables false
namespace Go.Proofs.Ytijilloaggeepaa.S
open Go Go.RowKit Go.Alog Go.Proofs.Ytijilloaggeepaa.T Go.Proofs.Ytijilloaggeepaa.V

structure Pat where
  at_ : Int
  kind : Int
  n : Int
 deriving DecidableEq
def Pat.cells (i : Pat) : List Value := [.int .i64 i.at_, .int .i64 i.kind, .int .i64 i.n]
def patCells (l : List Pat) : List Value := l.flatMap Pat.cells
theorem patCells_len (l : List Pat) : (patCells l).length = l.length * 3 := by
  induction l with
  | nil => rfl
  | cons i l ih => simp only [patCells, List.flatMap_cons, List.length_append, List.length_cons] at ih ⊢; rw [ih]; simp [Pat.cells]; omega
theorem patCells_app (l r : List Pat) : patCells (l ++ r) = patCells l ++ patCells r := by simp [patCells]

/-- A buffer at block g; fp: the blocks that are its own. -/
def Buf (m : AM) (B g : Nat) (code : List Ins) (pats : List Pat) (taken : Int) (fp : List Nat) : Prop :=
  ∃ A0 c0 A1 c1, m g = some (.cells #[.slice A0 code.length c0, .slice A1 pats.length c1, .int .i64 taken] 27 (0, 0)) ∧ B ≤ g ∧
    Own m B 23 5 A0 code.length c0 (insCells code) ∧ Own m B 34 3 A1 pats.length c1 (patCells pats) ∧ fp = g :: (obl A0 ++ obl A1)

theorem Buf.lt {m : AM} {B g : Nat} {code : List Ins} {pats : List Pat} {taken : Int} {fp : List Nat} (h : Buf m B g code pats taken fp) : ∀ k ∈ fp, B ≤ k ∧ m k ≠ none := by
  obtain ⟨A0, c0, A1, c1, hg, hB, h0, h1, rfl⟩ := h
  intro k hk
  simp only [List.mem_cons, List.mem_append] at hk
  rcases hk with rfl | hk | hk
  · exact ⟨hB, by rw [hg]; simp⟩
  · obtain ⟨h2, cur, h3⟩ := h0.obl_some hk; exact ⟨h2, by rw [h3]; simp⟩
  · obtain ⟨h2, cur, h3⟩ := h1.obl_some hk; exact ⟨h2, by rw [h3]; simp⟩

theorem Buf.fr {m m' : AM} {B g : Nat} {code : List Ins} {pats : List Pat} {taken : Int} {fp fp' : List Nat} (h : Buf m B g code pats taken fp) (hf : Fr m m' fp') (hd : ∀ k ∈ fp, k ∉ fp') : Buf m' B g code pats taken fp := by
  obtain ⟨A0, c0, A1, c1, hg, hB, h0, h1, rfl⟩ := h
  exact ⟨A0, c0, A1, c1, hf _ _ hg (hd g (by simp)), hB, h0.fr hf fun k hk => hd k (by simp [hk]), h1.fr hf fun k hk => hd k (by simp [hk]), rfl⟩

theorem Buf.le {m m' : AM} {B g : Nat} {code : List Ins} {pats : List Pat} {taken : Int} {fp : List Nat} (h : Buf m B g code pats taken fp) (hl : m.le m') : Buf m' B g code pats taken fp :=
  h.fr (Fr.of_le hl []) (by simp)

/-- What a method of a buffer leaves. -/
def BufPost (w0 : World) (m : AM) (g : Nat) (fp : List Nat) (code : List Ins) (pats : List Pat) (taken : Int) (m' : AM) : Prop :=
  ∃ fp', Buf m' w0.heap.size g code pats taken fp' ∧ Fr m m' fp ∧ ∀ k ∈ fp', k ∈ fp ∨ m k = none

theorem BufPost.of {w0 : World} {m M m' : AM} {g : Nat} {fp fpM : List Nat} {code : List Ins} {pats : List Pat} {taken : Int} (h : BufPost w0 M g fpM code pats taken m') (hf : Fr m M fp) (hs : ∀ k ∈ fpM, k ∈ fp ∨ m k = none) : BufPost w0 m g fp code pats taken m' := by
  obtain ⟨fp', hb, hr, hk⟩ := h
  refine ⟨fp', hb, hf.trans hr hs, fun k hk' => ?_⟩
  rcases hk k hk' with h | h
  · exact hs k h
  · by_cases hin : k ∈ fp
    · exact .inl hin
    · cases hm : m k with
      | none => exact .inr rfl
      | some o => rw [hf k o hm hin] at h; cases h
theorem BufPost.pre {w0 : World} {m M m' : AM} {g : Nat} {fp : List Nat} {code : List Ins} {pats : List Pat} {taken : Int} (h : BufPost w0 M g fp code pats taken m') (hl : m.le M) : BufPost w0 m g fp code pats taken m' :=
  h.of (Fr.of_le hl fp) fun _ hk => .inl hk

theorem put_spec (w0 : World) (m : AM) (g : Nat) (code : List Ins) (pats : List Pat) (taken : Int) (fp : List Nat) (i : Ins) (hb : Buf m w0.heap.size g code pats taken fp) (hlen : code.length ≤ 1000000) :
    CallsA Try.prog w0 12 #[.pointer (some ⟨g, 0, none⟩), i.val] m (fun r m' => r = .int .i64 code.length ∧ BufPost w0 m g fp (code ++ [i]) pats taken m') := by
  obtain ⟨A0, c0, A1, c1, hg, hB, h0, h1, rfl⟩ := hb
  refine cf12 w0 m g _ _ _ _ _ _ ?_
  intro b1 hb1 hm1
  have hgb : g ≠ b1 := fun e => by subst e; rw [hm1] at hg; cases hg
  simp only [cell_upd_same, cell_upd_ne, ne_eq, hgb, not_false_eq_true, cell_of hg, List.getElem?_toArray, List.getElem?_cons_zero, List.getElem?_cons_succ, Option.some.injEq, Value.int.injEq, Value.slice.injEq, true_and, and_true, exists_eq_left', exists_and_left, exists_and_right, and_assoc]
  intro b2 hb2 hm2
  have hle := AM.le_upd (AM.le_upd (AM.le_refl m) hm1 (o := .cells i.cells.toArray 23)) hm2 (o := .cells i.cells.toArray 23)
  have hr := Reads.lit (m := m.upd b1 (.cells i.cells.toArray 23)) (b := b2) (e := 23) (sz := 5) (n := 1) (cs := i.cells) rfl
  have hnone : ∀ k, ((m.upd b1 (.cells i.cells.toArray 23)).upd b2 (.cells i.cells.toArray 23)) k = none → m k = none := fun k => AM.le_none hle
  refine awp_append_field el24 (h0.le hle) hr (ins_one i) (by omega) (by omega) (by omega) (hle _ _ hg) hB (by decide) (by simp) (fun g2 cp' cur hor hB2 hgg hown => ?_)
  refine ⟨_, _, ⟨_, by rw [cell_upd_same]; rfl⟩, retP_of ⟨?_, g :: (g2 :: obl A1), ⟨_, cp', A1, c1, by rw [upd_get_same]; simp; rfl, hB, ?_, ?_, rfl⟩, ?_, ?_⟩⟩
  · rw [IntKind.wrap_i64]; congr 1; omega
  · rw [insCells_app, List.length_append]
    simpa [insCells] using hown
  · refine Own.upd (Own.upd (h1.le hle) ?_) ((h1.le hle).ne_type (hle _ _ hg) (by decide))
    intro off h
    rcases hor with h' | h'
    · obtain ⟨_, cur', k2⟩ := (h0.le hle).obl_some (k := g2) (by rw [h']; simp [obl])
      exact (h1.le hle).ne_type k2 (by decide) off h
    · exact (h1.le hle).ne_none h' off h
  · refine Fr.upd (Fr.upd (Fr.of_le hle _) ?_ _) (.inl (by simp)) _
    rcases hor with h' | h'
    · left; rw [h']; simp [obl]
    · right; exact hnone _ h'
  · intro k hk
    simp only [List.mem_cons] at hk
    rcases hk with rfl | rfl | hk
    · left; simp
    · rcases hor with h' | h'
      · left; rw [h']; simp [obl]
      · right; exact hnone _ h'
    · left; simp [hk]

theorem mark_spec (w0 : World) (m : AM) (g : Nat) (code : List Ins) (pats : List Pat) (taken : Int) (fp : List Nat) (i : Ins) (kd n : Int) (hb : Buf m w0.heap.size g code pats taken fp) (hlen : code.length ≤ 1000000) (hlen2 : pats.length ≤ 1000000) :
    CallsA Try.prog w0 13 #[.pointer (some ⟨g, 0, none⟩), i.val, .int .i64 kd, .int .i64 n] m (fun r m' => r = .int .i64 code.length ∧ BufPost w0 m g fp (code ++ [i]) (pats ++ [⟨code.length, kd, n⟩]) taken m') := by
  obtain ⟨A0, c0, A1, c1, hg, hB, h0, h1, rfl⟩ := hb
  refine cf13 w0 m g _ _ _ _ _ _ _ _ ?_
  intro b1 hb1 hm1
  have hgb : g ≠ b1 := fun e => by subst e; rw [hm1] at hg; cases hg
  simp only [cell_upd_same, cell_upd_ne, ne_eq, not_false_eq_true, List.getElem?_toArray, List.getElem?_cons_zero, List.getElem?_cons_succ, Option.some.injEq, Value.int.injEq, Value.slice.injEq, Value.bool.injEq, Value.pointer.injEq, Value.tuple.injEq, Array.mk.injEq, List.cons.injEq, true_and, and_true, exists_eq_left', exists_eq', exists_eq, exists_and_left, exists_and_right, and_assoc, hgb, cell_of hg]
  intro b9 hb9 hm9
  have hle1 := AM.le_upd (AM.le_refl m) hm1 (o := .cells i.cells.toArray 23)
  have hle := AM.le_upd hle1 hm9 (o := .cells (Pat.cells ⟨code.length, kd, n⟩).toArray 34)
  have hr := Reads.lit (m := m.upd b1 (.cells i.cells.toArray 23)) (b := b9) (e := 34) (sz := 3) (n := 1) (cs := Pat.cells ⟨code.length, kd, n⟩) rfl
  have hnone : ∀ k, ((m.upd b1 (.cells i.cells.toArray 23)).upd b9 (.cells (Pat.cells ⟨code.length, kd, n⟩).toArray 34)) k = none → m k = none := fun k => AM.le_none hle
  have h19 : b1 ≠ b9 := fun e => by subst e; simp [AM.upd] at hm9
  refine awp_append_field el25 (h1.le hle) hr (by simp [Pat.cells, Value.oneCell']) (by omega) (by omega) (by omega) (hle _ _ hg) hB (by decide) (j := 1) (by simp) (fun g2 cp' cur hor hB2 hgg hown => ?_)
  have h12 : b1 ≠ g2 := by
    rintro rfl
    rcases hor with h' | h'
    · exact (h1.le hle1).ne_type (upd_get_same) (by decide) 0 h'
    · rw [upd_get_ne h19, upd_get_same] at h'; cases h'
  simp only [Ins.cells, Pat.cells, cell_upd_same, cell_upd_ne, ne_eq, not_false_eq_true, List.getElem?_toArray, List.getElem?_cons_zero, List.getElem?_cons_succ, Option.some.injEq, Value.int.injEq, Value.slice.injEq, Value.bool.injEq, Value.pointer.injEq, Value.tuple.injEq, Array.mk.injEq, List.cons.injEq, true_and, and_true, exists_eq_left', exists_eq', exists_eq, exists_and_left, exists_and_right, and_assoc, hgb, h12, h19, hgb.symm]
  refine CallsA.mono (put_spec w0 _ g code (pats ++ [⟨code.length, kd, n⟩]) taken (g :: (obl A0 ++ [g2])) i ⟨A0, c0, some ⟨g2, 0, none⟩, cp', by rw [upd_get_same]; simp [List.length_append], hB, ?_, ?_, rfl⟩ hlen) ?_
  · refine Own.upd (Own.upd (h0.le hle) ?_) ((h0.le hle).ne_type (hle _ _ hg) (by decide))
    intro off h
    rcases hor with h' | h'
    · obtain ⟨_, cur', k2⟩ := (h1.le hle).obl_some (k := g2) (by rw [h']; simp [obl])
      exact (h0.le hle).ne_type k2 (by decide) off h
    · exact (h0.le hle).ne_none h' off h
  · rw [patCells_app, List.length_append]
    simpa [patCells, Ins.cells, Pat.cells] using hown
  · rintro r m' ⟨rfl, hp⟩
    refine ⟨_, rfl, retP_of ⟨rfl, hp.of (Fr.upd (Fr.upd (Fr.of_le hle _) ?_ _) (.inl (by simp)) _) ?_⟩⟩
    · rcases hor with h' | h'
      · left; rw [h']; simp [obl]
      · right; exact hnone _ h'
    · intro k hk
      simp only [List.mem_cons, List.mem_append, List.not_mem_nil, or_false] at hk
      rcases hk with rfl | hk | rfl
      · left; simp
      · left; simp [hk]
      · rcases hor with h' | h'
        · left; rw [h']; simp [obl]
        · right; exact hnone _ h'

theorem here_spec (w0 : World) (m : AM) (g : Nat) (code : List Ins) (pats : List Pat) (taken : Int) (fp : List Nat) (hb : Buf m w0.heap.size g code pats taken fp) :
    CallsA Try.prog w0 19 #[.pointer (some ⟨g, 0, none⟩)] m (fun r m' => r = .int .i64 code.length ∧ m.le m') := by
  obtain ⟨A0, c0, A1, c1, hg, hB, h0, h1, rfl⟩ := hb
  refine cf19 w0 m g _ ?_
  simp only [cell_upd_same, cell_upd_ne, ne_eq, not_false_eq_true, List.getElem?_toArray, List.getElem?_cons_zero, List.getElem?_cons_succ, Option.some.injEq, Value.int.injEq, Value.slice.injEq, Value.bool.injEq, Value.pointer.injEq, Value.tuple.injEq, Array.mk.injEq, List.cons.injEq, true_and, and_true, exists_eq_left', exists_eq', exists_eq, exists_and_left, exists_and_right, and_assoc, cell_of hg]
  exact retP_of ⟨rfl, AM.le_refl m⟩

def farB (i : Ins) : Bool := i.op == 17 || i.op == 18

theorem far_spec (w0 : World) (m : AM) (i : Ins) : CallsA Try.prog w0 27 #[i.val] m (fun r m' => r = .bool (farB i) ∧ m.le m') := by
  refine cf27 w0 m _ _ _ _ _ _ ?_
  intro b1 hb1 hm1
  simp only [cell_upd_same, cell_upd_ne, ne_eq, not_false_eq_true, List.getElem?_toArray, List.getElem?_cons_zero, List.getElem?_cons_succ, Option.some.injEq, Value.int.injEq, Value.slice.injEq, Value.bool.injEq, Value.pointer.injEq, Value.tuple.injEq, Array.mk.injEq, List.cons.injEq, true_and, and_true, exists_eq_left', exists_eq', exists_eq, exists_and_left, exists_and_right, and_assoc]
  have hle1 := AM.le_upd (AM.le_refl m) hm1 (o := .cells i.cells.toArray 23)
  unfold bcase farB
  cases h1 : (i.op == 17) <;> simp only [cond_true, cond_false, Bool.true_or, Bool.false_or, cell_upd_same, cell_upd_ne, ne_eq, not_false_eq_true, List.getElem?_toArray, List.getElem?_cons_zero, List.getElem?_cons_succ, Option.some.injEq, Value.int.injEq, Value.slice.injEq, Value.bool.injEq, Value.pointer.injEq, Value.tuple.injEq, Array.mk.injEq, List.cons.injEq, true_and, and_true, exists_eq_left', exists_eq', exists_eq, exists_and_left, exists_and_right, and_assoc]
  · exact retP_of ⟨rfl, hle1⟩
  · exact retP_of ⟨rfl, hle1⟩

def jumpC (code : List Ins) (pats : List Pat) (i : Ins) : List Pat := if farB i then pats ++ [⟨code.length, 0, 0⟩] else pats

theorem jump_spec (w0 : World) (m : AM) (g : Nat) (code : List Ins) (pats : List Pat) (taken : Int) (fp : List Nat) (i : Ins) (hb : Buf m w0.heap.size g code pats taken fp) (hlen : code.length ≤ 1000000) (hlen2 : pats.length ≤ 1000000) :
    CallsA Try.prog w0 10 #[.pointer (some ⟨g, 0, none⟩), i.val] m (fun r m' => r = .int .i64 code.length ∧ BufPost w0 m g fp (code ++ [i]) (jumpC code pats i) taken m') := by
  refine cf10 w0 m g _ _ _ _ _ _ ?_
  intro b1 hb1 hm1
  have hle1 := AM.le_upd (AM.le_refl m) hm1 (o := .cells i.cells.toArray 23)
  simp only [cell_upd_same, cell_upd_ne, ne_eq, not_false_eq_true, List.getElem?_toArray, List.getElem?_cons_zero, List.getElem?_cons_succ, Option.some.injEq, Value.int.injEq, Value.slice.injEq, Value.bool.injEq, Value.pointer.injEq, Value.tuple.injEq, Array.mk.injEq, List.cons.injEq, true_and, and_true, exists_eq_left', exists_eq', exists_eq, exists_and_left, exists_and_right, and_assoc]
  refine CallsA.mono (far_spec w0 _ i) ?_
  rintro r m2 ⟨rfl, hle2⟩
  have hle := AM.le_trans hle1 hle2
  have hb1' : m2 b1 = some (.cells i.cells.toArray 23) := hle2 _ _ upd_get_same
  simp only [Ins.cells, cell_upd_same, cell_upd_ne, ne_eq, not_false_eq_true, List.getElem?_toArray, List.getElem?_cons_zero, List.getElem?_cons_succ, Option.some.injEq, Value.int.injEq, Value.slice.injEq, Value.bool.injEq, Value.pointer.injEq, Value.tuple.injEq, Array.mk.injEq, List.cons.injEq, true_and, and_true, exists_eq_left', exists_eq', exists_eq, exists_and_left, exists_and_right, and_assoc, cell_of hb1']
  unfold bcase jumpC
  cases hf : farB i <;> simp only [cond_true, cond_false, if_true, if_false, Bool.false_eq_true]
  · refine CallsA.mono (put_spec w0 _ g code pats taken fp i (hb.le hle) hlen) ?_
    rintro r m' ⟨rfl, hp⟩
    exact ⟨_, rfl, retP_of ⟨rfl, hp.pre hle⟩⟩
  · refine CallsA.mono (mark_spec w0 _ g code pats taken fp i 0 0 (hb.le hle) hlen hlen2) ?_
    rintro r m' ⟨rfl, hp⟩
    exact ⟨_, rfl, retP_of ⟨rfl, hp.pre hle⟩⟩

/-- What an instruction that is aimed becomes. -/
def aimI (i : Ins) (at_ to : Int) : Option Ins :=
  bif farB i then some { i with imm := to } else bif i.op == 15 || i.op == 16 then some { i with imm := IntKind.wrap .i64 (IntKind.wrap .i64 (to - at_) - 1) } else none
def aimC (code : List Ins) (at_ to : Int) : Option Ins :=
  if at_ < 0 then none else if at_ ≥ code.length then none else (code[at_.toNat]?).bind fun i => aimI i at_ to
def setC (code : List Ins) (at_ : Int) : Option Ins → List Ins
  | some i => code.set at_.toNat i
  | none => code

theorem aim_store {m m1 : AM} {g : Nat} {code : List Ins} {pats : List Pat} {taken : Int} {A0 : Addr} {c0 c1 : Nat} {A1 : Option Addr} (w0 : World) {R : Value → AM → Prop}
    (hg : m g = some (.cells #[.slice (some A0) code.length c0, .slice A1 pats.length c1, .int .i64 taken] 27 (0, 0))) (hB : w0.heap.size ≤ g)
    (h0 : Own m w0.heap.size 23 5 (some A0) code.length c0 (insCells code)) (h1 : Own m w0.heap.size 34 3 A1 pats.length c1 (patCells pats)) (hle : m.le m1) {k : Nat} (hk : k < code.length) (i : Ins)
    (hR : ∀ m', BufPost w0 m g (g :: (obl (some A0) ++ obl A1)) (code.set k i) pats taken m' → R (.bool true) m') :
    StL w0.heap.size (A0.add (k * 5)) 0 i.cells m1 (fun m' => RetP R (.bool true) m') := by
  refine (h0.le hle).storeRow Ins.len hk i fun gA cur hA ho => retP_of (hR _ ?_)
  subst hA
  have hgA : g ≠ gA := fun e => by subst e; exact h0.ne_type hg (by decide) 0 rfl
  refine ⟨_, ⟨_, c0, A1, c1, ?_, hB, ho, ?_, rfl⟩, ?_, fun k' hk' => .inl hk'⟩
  · rw [upd_get_ne hgA, hle _ _ hg, List.length_set]
  · refine (h1.le hle).upd fun off h => ?_
    obtain ⟨_, cur', k2⟩ := h0.obl_some (k := gA) (by simp [obl])
    exact h1.ne_type k2 (by decide) off h
  · exact Fr.upd (Fr.of_le hle _) (.inl (by simp [obl])) _

theorem aim_spec (w0 : World) (m : AM) (g : Nat) (code : List Ins) (pats : List Pat) (taken : Int) (fp : List Nat) (at_ to : Int) (hb : Buf m w0.heap.size g code pats taken fp) :
    CallsA Try.prog w0 29 #[.pointer (some ⟨g, 0, none⟩), .int .i64 at_, .int .i64 to] m (fun r m' => r = .bool (aimC code at_ to).isSome ∧ BufPost w0 m g fp (setC code at_ (aimC code at_ to)) pats taken m') := by
  have hb0 := hb
  obtain ⟨A0, c0, A1, c1, hg, hB, h0, h1, rfl⟩ := hb
  have hself : BufPost w0 m g (g :: (obl A0 ++ obl A1)) code pats taken m := ⟨_, hb0, Fr.refl _ _, fun _ h => .inl h⟩
  refine cf29 w0 m g _ _ _ ?_
  simp only [cell_upd_same, cell_upd_ne, ne_eq, not_false_eq_true, List.getElem?_toArray, List.getElem?_cons_zero, List.getElem?_cons_succ, Option.some.injEq, Value.int.injEq, Value.slice.injEq, Value.bool.injEq, Value.pointer.injEq, Value.tuple.injEq, Array.mk.injEq, List.cons.injEq, true_and, and_true, exists_eq_left', exists_eq', exists_eq, exists_and_left, exists_and_right, and_assoc, cell_of hg]
  unfold aimC
  by_cases hn : at_ < 0
  · simp only [hn, decide_true, bcase_t, if_true, Option.isSome_none, setC, true_and]
    exact retP_of ⟨rfl, hself⟩
  simp only [hn, decide_false, bcase_f, cond_false, if_false]
  by_cases hk : at_ ≥ code.length
  · simp only [hk, decide_true, bcase_t, if_true, Option.isSome_none, setC]
    exact retP_of ⟨rfl, hself⟩
  simp only [hk, decide_false, bcase_f, if_false]
  have hlt : at_.toNat < code.length := by omega
  obtain ⟨A0, rfl⟩ : ∃ a, A0 = some a := by
    cases A0 with
    | some a => exact ⟨a, rfl⟩
    | none =>
      obtain ⟨_, hn', h | ⟨g', cur', h', _⟩⟩ := h0
      · omega
      · cases h'
  have hc := (h0.cells rfl).ins (List.getElem?_eq_getElem hlt)
  rw [List.getElem?_eq_getElem hlt, Option.bind_some]
  revert hc
  generalize code[at_.toNat] = i
  intro hc
  simp only [nilO_some, hc, cell_upd_same, cell_upd_ne, ne_eq, not_false_eq_true, List.getElem?_toArray, List.getElem?_cons_zero, List.getElem?_cons_succ, Option.some.injEq, Value.int.injEq, Value.slice.injEq, Value.bool.injEq, Value.pointer.injEq, Value.tuple.injEq, Array.mk.injEq, List.cons.injEq, true_and, and_true, exists_eq_left', exists_eq', exists_eq, exists_and_left, exists_and_right, and_assoc]
  refine ⟨by omega, by omega, ?_⟩
  intro b hbs hbm
  have hle := AM.le_upd (AM.le_refl m) hbm (o := .cells i.cells.toArray 23)
  simp only [cell_upd_same, cell_upd_ne, ne_eq, not_false_eq_true, List.getElem?_toArray, List.getElem?_cons_zero, List.getElem?_cons_succ, Option.some.injEq, Value.int.injEq, Value.slice.injEq, Value.bool.injEq, Value.pointer.injEq, Value.tuple.injEq, Array.mk.injEq, List.cons.injEq, true_and, and_true, exists_eq_left', exists_eq', exists_eq, exists_and_left, exists_and_right, and_assoc, bcase_t, bcase_f, cond_true, cond_false, StC_upd, nilO_some, List.setIfInBounds_toArray, List.set_cons_zero, List.set_cons_succ, List.size_toArray, List.length_cons, List.length_nil, Nat.reduceAdd, Nat.reduceLT, hbs]
  refine CallsA.mono (far_spec w0 _ i) ?_
  rintro r m2 ⟨rfl, hle2⟩
  have hbb : m2 b = some (.cells i.cells.toArray 23) := hle2 _ _ upd_get_same
  have hmm := AM.le_trans hle hle2
  have hgb : g ≠ b := fun e => by subst e; rw [hbm] at hg; cases hg
  have hmb : ∀ x : Array Value, m.le (m2.upd b (.cells x 23)) := fun x k o hk => by
    rw [upd_get]
    by_cases e : k = b
    · subst e; rw [hbm] at hk; cases hk
    · rw [if_neg e]; exact hmm _ _ hk
  have hst : ∀ i' : Ins, StL w0.heap.size (A0.add (at_.toNat * 5)) 0 i'.cells (m2.upd b (.cells i'.cells.toArray 23)) (fun m' => RetP (fun r m' => r = .bool true ∧ BufPost w0 m g (g :: (obl (some A0) ++ obl A1)) (code.set at_.toNat i') pats taken m') (.bool true) m') := fun i' =>
    aim_store w0 hg hB h0 h1 (hmb _) hlt i' fun m' h => ⟨rfl, h⟩
  have hbe : m2 = m2.upd b (.cells i.cells.toArray 23) := (upd_self hbb).symm
  rw [hbe]
  simp only [Ins.cells, aimI, cell_upd_same, cell_upd_ne, ne_eq, not_false_eq_true, List.getElem?_toArray, List.getElem?_cons_zero, List.getElem?_cons_succ, Option.some.injEq, Value.int.injEq, Value.slice.injEq, Value.bool.injEq, Value.pointer.injEq, Value.tuple.injEq, Array.mk.injEq, List.cons.injEq, true_and, and_true, exists_eq_left', exists_eq', exists_eq, exists_and_left, exists_and_right, and_assoc, bcase_t, bcase_f, cond_true, cond_false, StC_upd, nilO_some, List.setIfInBounds_toArray, List.set_cons_zero, List.set_cons_succ, List.size_toArray, List.length_cons, List.length_nil, Nat.reduceAdd, Nat.reduceLT, hbs, hgb, cell_of (hmm _ _ hg)]
  cases hf : farB i
  · simp only [cell_upd_same, cell_upd_ne, ne_eq, not_false_eq_true, List.getElem?_toArray, List.getElem?_cons_zero, List.getElem?_cons_succ, Option.some.injEq, Value.int.injEq, Value.slice.injEq, Value.bool.injEq, Value.pointer.injEq, Value.tuple.injEq, Array.mk.injEq, List.cons.injEq, true_and, and_true, exists_eq_left', exists_eq', exists_eq, exists_and_left, exists_and_right, and_assoc, bcase_t, bcase_f, cond_true, cond_false, StC_upd, nilO_some, List.setIfInBounds_toArray, List.set_cons_zero, List.set_cons_succ, List.size_toArray, List.length_cons, List.length_nil, Nat.reduceAdd, Nat.reduceLT]
    cases h1 : (i.op == 15)
    · simp only [Bool.false_or, cell_upd_same, cell_upd_ne, ne_eq, not_false_eq_true, List.getElem?_toArray, List.getElem?_cons_zero, List.getElem?_cons_succ, Option.some.injEq, Value.int.injEq, Value.slice.injEq, Value.bool.injEq, Value.pointer.injEq, Value.tuple.injEq, Array.mk.injEq, List.cons.injEq, true_and, and_true, exists_eq_left', exists_eq', exists_eq, exists_and_left, exists_and_right, and_assoc, bcase_t, bcase_f, cond_true, cond_false, StC_upd, nilO_some, List.setIfInBounds_toArray, List.set_cons_zero, List.set_cons_succ, List.size_toArray, List.length_cons, List.length_nil, Nat.reduceAdd, Nat.reduceLT]
      cases h2 : (i.op == 16)
      · simp only [cell_upd_same, cell_upd_ne, ne_eq, not_false_eq_true, List.getElem?_toArray, List.getElem?_cons_zero, List.getElem?_cons_succ, Option.some.injEq, Value.int.injEq, Value.slice.injEq, Value.bool.injEq, Value.pointer.injEq, Value.tuple.injEq, Array.mk.injEq, List.cons.injEq, true_and, and_true, exists_eq_left', exists_eq', exists_eq, exists_and_left, exists_and_right, and_assoc, bcase_t, bcase_f, cond_true, cond_false, StC_upd, nilO_some, List.setIfInBounds_toArray, List.set_cons_zero, List.set_cons_succ, List.size_toArray, List.length_cons, List.length_nil, Nat.reduceAdd, Nat.reduceLT]
        exact retP_of ⟨rfl, ⟨_, hb0.le (hmb _), Fr.of_le (hmb _) _, fun _ h => .inl h⟩⟩
      · simp only [cell_upd_same, cell_upd_ne, ne_eq, not_false_eq_true, List.getElem?_toArray, List.getElem?_cons_zero, List.getElem?_cons_succ, Option.some.injEq, Value.int.injEq, Value.slice.injEq, Value.bool.injEq, Value.pointer.injEq, Value.tuple.injEq, Array.mk.injEq, List.cons.injEq, true_and, and_true, exists_eq_left', exists_eq', exists_eq, exists_and_left, exists_and_right, and_assoc, bcase_t, bcase_f, cond_true, cond_false, StC_upd, nilO_some, List.setIfInBounds_toArray, List.set_cons_zero, List.set_cons_succ, List.size_toArray, List.length_cons, List.length_nil, Nat.reduceAdd, Nat.reduceLT, hbs, hgb, cell_of (hmm _ _ hg), setC, Option.isSome_some]
        refine ⟨by omega, by omega, ?_⟩
        exact hst ⟨i.op, i.a, i.b, i.c, IntKind.wrap .i64 (IntKind.wrap .i64 (to - at_) - 1)⟩
    · simp only [Bool.true_or, cell_upd_same, cell_upd_ne, ne_eq, not_false_eq_true, List.getElem?_toArray, List.getElem?_cons_zero, List.getElem?_cons_succ, Option.some.injEq, Value.int.injEq, Value.slice.injEq, Value.bool.injEq, Value.pointer.injEq, Value.tuple.injEq, Array.mk.injEq, List.cons.injEq, true_and, and_true, exists_eq_left', exists_eq', exists_eq, exists_and_left, exists_and_right, and_assoc, bcase_t, bcase_f, cond_true, cond_false, StC_upd, nilO_some, List.setIfInBounds_toArray, List.set_cons_zero, List.set_cons_succ, List.size_toArray, List.length_cons, List.length_nil, Nat.reduceAdd, Nat.reduceLT, hbs, hgb, cell_of (hmm _ _ hg), setC, Option.isSome_some]
      refine ⟨by omega, by omega, ?_⟩
      exact hst ⟨i.op, i.a, i.b, i.c, IntKind.wrap .i64 (IntKind.wrap .i64 (to - at_) - 1)⟩
  · simp only [cell_upd_same, cell_upd_ne, ne_eq, not_false_eq_true, List.getElem?_toArray, List.getElem?_cons_zero, List.getElem?_cons_succ, Option.some.injEq, Value.int.injEq, Value.slice.injEq, Value.bool.injEq, Value.pointer.injEq, Value.tuple.injEq, Array.mk.injEq, List.cons.injEq, true_and, and_true, exists_eq_left', exists_eq', exists_eq, exists_and_left, exists_and_right, and_assoc, bcase_t, bcase_f, cond_true, cond_false, StC_upd, nilO_some, List.setIfInBounds_toArray, List.set_cons_zero, List.set_cons_succ, List.size_toArray, List.length_cons, List.length_nil, Nat.reduceAdd, Nat.reduceLT, hbs, hgb, cell_of (hmm _ _ hg), setC, Option.isSome_some]
    refine ⟨by omega, by omega, ?_⟩
    exact hst ⟨i.op, i.a, i.b, i.c, to⟩

theorem land_spec (w0 : World) (m : AM) (g : Nat) (code : List Ins) (pats : List Pat) (taken : Int) (fp : List Nat) (at_ : Int) (hb : Buf m w0.heap.size g code pats taken fp) :
    CallsA Try.prog w0 14 #[.pointer (some ⟨g, 0, none⟩), .int .i64 at_] m (fun r m' => r = .bool (aimC code at_ code.length).isSome ∧ BufPost w0 m g fp (setC code at_ (aimC code at_ code.length)) pats taken m') := by
  have hb0 := hb
  obtain ⟨A0, c0, A1, c1, hg, hB, h0, h1, rfl⟩ := hb
  refine cf14 w0 m g _ _ ?_
  simp only [cell_upd_same, cell_upd_ne, ne_eq, not_false_eq_true, List.getElem?_toArray, List.getElem?_cons_zero, List.getElem?_cons_succ, Option.some.injEq, Value.int.injEq, Value.slice.injEq, Value.bool.injEq, Value.pointer.injEq, Value.tuple.injEq, Array.mk.injEq, List.cons.injEq, true_and, and_true, exists_eq_left', exists_eq', exists_eq, exists_and_left, exists_and_right, and_assoc, cell_of hg]
  refine CallsA.mono (aim_spec w0 m g code pats taken _ at_ code.length hb0) ?_
  rintro r m' ⟨rfl, hp⟩
  exact ⟨_, rfl, retP_of ⟨rfl, hp⟩⟩

theorem take_spec (w0 : World) (m : AM) (g : Nat) (code : List Ins) (pats : List Pat) (taken : Int) (fp : List Nat) (hb : Buf m w0.heap.size g code pats taken fp) (h0 : 0 ≤ taken) (h8 : taken ≤ 8) :
    CallsA Try.prog w0 18 #[.pointer (some ⟨g, 0, none⟩)] m (fun r m' => r = .tuple #[.int .i64 (if taken = 8 then 0 else 8 + taken), .bool (decide (taken ≠ 8))] ∧ BufPost w0 m g fp code pats (if taken = 8 then taken else taken + 1) m') := by
  have hb0 := hb
  obtain ⟨A0, c0, A1, c1, hg, hB, h0, h1, rfl⟩ := hb
  refine cf18 w0 m g _ ?_
  simp only [cell_upd_same, cell_upd_ne, ne_eq, not_false_eq_true, List.getElem?_toArray, List.getElem?_cons_zero, List.getElem?_cons_succ, Option.some.injEq, Value.int.injEq, Value.slice.injEq, Value.bool.injEq, Value.pointer.injEq, Value.tuple.injEq, Array.mk.injEq, List.cons.injEq, true_and, and_true, exists_eq_left', exists_eq', exists_eq, exists_and_left, exists_and_right, and_assoc, cell_of hg]
  by_cases h : taken = 8
  · subst h
    simp only [beq_self_eq_true, cell_upd_same, cell_upd_ne, ne_eq, not_false_eq_true, List.getElem?_toArray, List.getElem?_cons_zero, List.getElem?_cons_succ, Option.some.injEq, Value.int.injEq, Value.slice.injEq, Value.bool.injEq, Value.pointer.injEq, Value.tuple.injEq, Array.mk.injEq, List.cons.injEq, true_and, and_true, exists_eq_left', exists_eq', exists_eq, exists_and_left, exists_and_right, and_assoc, bcase_t, bcase_f, cond_true, cond_false, StC_upd, nilO_some, List.setIfInBounds_toArray, List.set_cons_zero, List.set_cons_succ, List.size_toArray, List.length_cons, List.length_nil, Nat.reduceAdd, Nat.reduceLT, if_true]
    exact retP_of ⟨by simp, _, hb0, Fr.refl _ _, fun _ h => .inl h⟩
  · have he : (taken == 8) = false := by simpa using h
    simp only [he, cell_upd_same, cell_upd_ne, ne_eq, not_false_eq_true, List.getElem?_toArray, List.getElem?_cons_zero, List.getElem?_cons_succ, Option.some.injEq, Value.int.injEq, Value.slice.injEq, Value.bool.injEq, Value.pointer.injEq, Value.tuple.injEq, Array.mk.injEq, List.cons.injEq, true_and, and_true, exists_eq_left', exists_eq', exists_eq, exists_and_left, exists_and_right, and_assoc, bcase_t, bcase_f, cond_true, cond_false, StC_upd, nilO_some, List.setIfInBounds_toArray, List.set_cons_zero, List.set_cons_succ, List.size_toArray, List.length_cons, List.length_nil, Nat.reduceAdd, Nat.reduceLT]
    refine StC_own hg hB (by simp) ?_
    simp only [cell_upd_same, cell_upd_ne, ne_eq, not_false_eq_true, List.getElem?_toArray, List.getElem?_cons_zero, List.getElem?_cons_succ, Option.some.injEq, Value.int.injEq, Value.slice.injEq, Value.bool.injEq, Value.pointer.injEq, Value.tuple.injEq, Array.mk.injEq, List.cons.injEq, true_and, and_true, exists_eq_left', exists_eq', exists_eq, exists_and_left, exists_and_right, and_assoc, bcase_t, bcase_f, cond_true, cond_false, StC_upd, nilO_some, List.setIfInBounds_toArray, List.set_cons_zero, List.set_cons_succ, List.size_toArray, List.length_cons, List.length_nil, Nat.reduceAdd, Nat.reduceLT, IntKind.wrap_i64, if_neg h]
    have w1 : (taken + 1 + 9223372036854775808) % 18446744073709551616 - 9223372036854775808 = taken + 1 := by omega
    rw [w1]
    refine retP_of ⟨?_, _, ⟨A0, c0, A1, c1, by rw [upd_get_same], hB, ?_, ?_, rfl⟩, Fr.upd (Fr.refl _ _) (.inl (by simp)) _, fun _ h => .inl h⟩
    · have w2 : ((8 + (taken + 1) + 9223372036854775808) % 18446744073709551616 - 9223372036854775808 - 1 + 9223372036854775808) % 18446744073709551616 - 9223372036854775808 = 8 + taken := by omega
      rw [w2]; simp [h]
    · exact h0.upd (h0.ne_type hg (by decide))
    · exact h1.upd (h1.ne_type hg (by decide))

theorem give_spec (w0 : World) (m : AM) (g : Nat) (code : List Ins) (pats : List Pat) (taken : Int) (fp : List Nat) (hb : Buf m w0.heap.size g code pats taken fp) (h0 : 0 ≤ taken) (h8 : taken ≤ 8) :
    CallsA Try.prog w0 17 #[.pointer (some ⟨g, 0, none⟩)] m (fun r m' => r = .bool (decide (taken ≠ 0)) ∧ BufPost w0 m g fp code pats (if taken = 0 then taken else taken - 1) m') := by
  have hb0 := hb
  obtain ⟨A0, c0, A1, c1, hg, hB, h0, h1, rfl⟩ := hb
  refine cf17 w0 m g _ ?_
  simp only [cell_upd_same, cell_upd_ne, ne_eq, not_false_eq_true, List.getElem?_toArray, List.getElem?_cons_zero, List.getElem?_cons_succ, Option.some.injEq, Value.int.injEq, Value.slice.injEq, Value.bool.injEq, Value.pointer.injEq, Value.tuple.injEq, Array.mk.injEq, List.cons.injEq, true_and, and_true, exists_eq_left', exists_eq', exists_eq, exists_and_left, exists_and_right, and_assoc, cell_of hg]
  by_cases h : taken = 0
  · subst h
    simp only [beq_self_eq_true, cell_upd_same, cell_upd_ne, ne_eq, not_false_eq_true, List.getElem?_toArray, List.getElem?_cons_zero, List.getElem?_cons_succ, Option.some.injEq, Value.int.injEq, Value.slice.injEq, Value.bool.injEq, Value.pointer.injEq, Value.tuple.injEq, Array.mk.injEq, List.cons.injEq, true_and, and_true, exists_eq_left', exists_eq', exists_eq, exists_and_left, exists_and_right, and_assoc, bcase_t, bcase_f, cond_true, cond_false, StC_upd, nilO_some, List.setIfInBounds_toArray, List.set_cons_zero, List.set_cons_succ, List.size_toArray, List.length_cons, List.length_nil, Nat.reduceAdd, Nat.reduceLT, if_true]
    exact retP_of ⟨by simp, _, hb0, Fr.refl _ _, fun _ h => .inl h⟩
  · have he : (taken == 0) = false := by simpa using h
    simp only [he, cell_upd_same, cell_upd_ne, ne_eq, not_false_eq_true, List.getElem?_toArray, List.getElem?_cons_zero, List.getElem?_cons_succ, Option.some.injEq, Value.int.injEq, Value.slice.injEq, Value.bool.injEq, Value.pointer.injEq, Value.tuple.injEq, Array.mk.injEq, List.cons.injEq, true_and, and_true, exists_eq_left', exists_eq', exists_eq, exists_and_left, exists_and_right, and_assoc, bcase_t, bcase_f, cond_true, cond_false, StC_upd, nilO_some, List.setIfInBounds_toArray, List.set_cons_zero, List.set_cons_succ, List.size_toArray, List.length_cons, List.length_nil, Nat.reduceAdd, Nat.reduceLT]
    refine StC_own hg hB (by simp) ?_
    simp only [cell_upd_same, cell_upd_ne, ne_eq, not_false_eq_true, List.getElem?_toArray, List.getElem?_cons_zero, List.getElem?_cons_succ, Option.some.injEq, Value.int.injEq, Value.slice.injEq, Value.bool.injEq, Value.pointer.injEq, Value.tuple.injEq, Array.mk.injEq, List.cons.injEq, true_and, and_true, exists_eq_left', exists_eq', exists_eq, exists_and_left, exists_and_right, and_assoc, bcase_t, bcase_f, cond_true, cond_false, StC_upd, nilO_some, List.setIfInBounds_toArray, List.set_cons_zero, List.set_cons_succ, List.size_toArray, List.length_cons, List.length_nil, Nat.reduceAdd, Nat.reduceLT, IntKind.wrap_i64, if_neg h]
    have w1 : (taken - 1 + 9223372036854775808) % 18446744073709551616 - 9223372036854775808 = taken - 1 := by omega
    rw [w1]
    refine retP_of ⟨by simp [h], _, ⟨A0, c0, A1, c1, by rw [upd_get_same], hB, ?_, ?_, rfl⟩, Fr.upd (Fr.refl _ _) (.inl (by simp)) _, fun _ h => .inl h⟩
    · exact h0.upd (h0.ne_type hg (by decide))
    · exact h1.upd (h1.ne_type hg (by decide))

theorem back_spec (w0 : World) (m : AM) (g : Nat) (code : List Ins) (pats : List Pat) (taken : Int) (fp : List Nat) (i : Ins) (to : Int) (hb : Buf m w0.heap.size g code pats taken fp) (hlen : code.length ≤ 1000000) (hlen2 : pats.length ≤ 1000000) :
    CallsA Try.prog w0 24 #[.pointer (some ⟨g, 0, none⟩), i.val, .int .i64 to] m (fun r m' => r = .int .i64 code.length ∧ BufPost w0 m g fp (setC (code ++ [i]) code.length (aimC (code ++ [i]) code.length to)) (jumpC code pats i) taken m') := by
  refine cf24 w0 m g _ _ _ _ _ _ _ ?_
  intro b1 hb1 hm1
  have hle1 := AM.le_upd (AM.le_refl m) hm1 (o := .cells i.cells.toArray 23)
  simp only [cell_upd_same, cell_upd_ne, ne_eq, not_false_eq_true, List.getElem?_toArray, List.getElem?_cons_zero, List.getElem?_cons_succ, Option.some.injEq, Value.int.injEq, Value.slice.injEq, Value.bool.injEq, Value.pointer.injEq, Value.tuple.injEq, Array.mk.injEq, List.cons.injEq, true_and, and_true, exists_eq_left', exists_eq', exists_eq, exists_and_left, exists_and_right, and_assoc]
  refine CallsA.mono (jump_spec w0 _ g code pats taken fp i (hb.le hle1) hlen hlen2) ?_
  rintro r m2 ⟨rfl, hp⟩
  simp only [cell_upd_same, cell_upd_ne, ne_eq, not_false_eq_true, List.getElem?_toArray, List.getElem?_cons_zero, List.getElem?_cons_succ, Option.some.injEq, Value.int.injEq, Value.slice.injEq, Value.bool.injEq, Value.pointer.injEq, Value.tuple.injEq, Array.mk.injEq, List.cons.injEq, true_and, and_true, exists_eq_left', exists_eq', exists_eq, exists_and_left, exists_and_right, and_assoc]
  obtain ⟨fp', hbf, hfr, hk⟩ := hp.pre hle1
  refine CallsA.mono (aim_spec w0 m2 g _ _ taken _ _ _ hbf) ?_
  rintro r m3 ⟨rfl, hp3⟩
  exact ⟨⟨_, rfl⟩, retP_of ⟨rfl, hp3.of hfr hk⟩⟩

theorem new_le {m : AM} {b1 g2 : Nat} {o o' : Obj} (hm1 : m b1 = none) (hor : some (⟨b1, 0, none⟩ : Addr) = some ⟨g2, 0, none⟩ ∨ (m.upd b1 o) g2 = none) : m.le ((m.upd b1 o).upd g2 o') := by
  intro k o2 hk
  rw [upd_get]
  by_cases e : k = g2
  · subst e
    rcases hor with h | h
    · injection h with h; injection h with h; subst h; rw [hm1] at hk; cases hk
    · have := AM.le_none (AM.le_upd (AM.le_refl m) hm1 (o := o)) h
      rw [hk] at this; cases this
  · rw [if_neg e]
    exact AM.le_upd (AM.le_refl m) hm1 _ _ hk
theorem new_obl {m : AM} {b1 g2 : Nat} {o : Obj} (hm1 : m b1 = none) (hor : some (⟨b1, 0, none⟩ : Addr) = some ⟨g2, 0, none⟩ ∨ (m.upd b1 o) g2 = none) : ∀ k ∈ obl (some ⟨g2, 0, none⟩), m k = none := by
  intro k hk
  simp [obl] at hk; subst hk
  rcases hor with h | h
  · injection h with h; injection h with h; subst h; exact hm1
  · exact AM.le_none (AM.le_upd (AM.le_refl m) hm1 (o := o)) h

theorem clone_ins (w0 : World) (m : AM) (A : Option Addr) (n c : Nat) (l : List Ins) (hr : Reads m 5 A n (insCells l)) (hn : n ≤ 1000000) :
    CallsA Try.prog w0 28 #[.slice A n c] m (fun r m' => m.le m' ∧ ∃ A' c', r = .slice A' n c' ∧ Own m' w0.heap.size 23 5 A' n c' (insCells l) ∧ ∀ k ∈ obl A', m k = none) := by
  refine cf28 w0 m A n c _ ?_
  cases A with
  | none =>
    obtain ⟨h1, ⟨_, rfl⟩ | ⟨ad, h, _⟩⟩ := hr
    · simp only [Option.isNone_none, cell_upd_same, cell_upd_ne, ne_eq, not_false_eq_true, List.getElem?_toArray, List.getElem?_cons_zero, List.getElem?_cons_succ, Option.some.injEq, Value.int.injEq, Value.slice.injEq, Value.bool.injEq, Value.pointer.injEq, Value.tuple.injEq, Array.mk.injEq, List.cons.injEq, true_and, and_true, exists_eq_left', exists_eq', exists_eq, exists_and_left, exists_and_right, and_assoc, bcase_t, bcase_f, cond_true, cond_false, StC_upd, nilO_some, List.setIfInBounds_toArray, List.set_cons_zero, List.set_cons_succ, List.size_toArray, List.length_cons, List.length_nil, Nat.reduceAdd, Nat.reduceLT]
      have : insCells l = [] := List.eq_nil_of_length_eq_zero (by simpa using h1)
      rw [this]
      exact retP_of ⟨AM.le_refl m, none, 0, rfl, Own.nil _ _ _ _, by simp [obl]⟩
    · cases h
  | some ad =>
    simp only [Option.isNone_some, cell_upd_same, cell_upd_ne, ne_eq, not_false_eq_true, List.getElem?_toArray, List.getElem?_cons_zero, List.getElem?_cons_succ, Option.some.injEq, Value.int.injEq, Value.slice.injEq, Value.bool.injEq, Value.pointer.injEq, Value.tuple.injEq, Array.mk.injEq, List.cons.injEq, true_and, and_true, exists_eq_left', exists_eq', exists_eq, exists_and_left, exists_and_right, and_assoc, bcase_t, bcase_f, cond_true, cond_false, StC_upd, nilO_some, List.setIfInBounds_toArray, List.set_cons_zero, List.set_cons_succ, List.size_toArray, List.length_cons, List.length_nil, Nat.reduceAdd, Nat.reduceLT]
    intro b1 hb1 hm1
    have hle1 := AM.le_upd (AM.le_refl m) hm1 (o := .cells [].toArray 23)
    have hn0 : Own (m.upd b1 (.cells [].toArray 23)) w0.heap.size 23 5 (some ⟨b1, 0, none⟩) 0 0 [] := Own.new m hb1 23 5 0 [] rfl
    refine awp_append_own el24 hn0 (hr.le hle1) (insCells_one l) (by omega) (by omega) (fun g2 cp' cur hor hB2 hown2 => ?_) (fun _ h => by cases h)
    · simp only [cell_upd_same, cell_upd_ne, ne_eq, not_false_eq_true, List.getElem?_toArray, List.getElem?_cons_zero, List.getElem?_cons_succ, Option.some.injEq, Value.int.injEq, Value.slice.injEq, Value.bool.injEq, Value.pointer.injEq, Value.tuple.injEq, Array.mk.injEq, List.cons.injEq, true_and, and_true, exists_eq_left', exists_eq', exists_eq, exists_and_left, exists_and_right, and_assoc, bcase_t, bcase_f, cond_true, cond_false, StC_upd, nilO_some, List.setIfInBounds_toArray, List.set_cons_zero, List.set_cons_succ, List.size_toArray, List.length_cons, List.length_nil, Nat.reduceAdd, Nat.reduceLT]
      refine retP_of ⟨?_, _, _, by rw [Nat.zero_add], ?_, ?_⟩
      · exact new_le hm1 hor
      · rw [Nat.zero_add] at hown2; simpa using hown2
      · exact new_obl hm1 hor

theorem clone_pats (w0 : World) (m : AM) (A : Option Addr) (n c : Nat) (l : List Pat) (hr : Reads m 3 A n (patCells l)) (hn : n ≤ 1000000) :
    CallsA Try.prog w0 30 #[.slice A n c] m (fun r m' => m.le m' ∧ ∃ A' c', r = .slice A' n c' ∧ Own m' w0.heap.size 34 3 A' n c' (patCells l) ∧ ∀ k ∈ obl A', m k = none) := by
  refine cf30 w0 m A n c _ ?_
  cases A with
  | none =>
    obtain ⟨h1, ⟨_, rfl⟩ | ⟨ad, h, _⟩⟩ := hr
    · simp only [Option.isNone_none, cell_upd_same, cell_upd_ne, ne_eq, not_false_eq_true, List.getElem?_toArray, List.getElem?_cons_zero, List.getElem?_cons_succ, Option.some.injEq, Value.int.injEq, Value.slice.injEq, Value.bool.injEq, Value.pointer.injEq, Value.tuple.injEq, Array.mk.injEq, List.cons.injEq, true_and, and_true, exists_eq_left', exists_eq', exists_eq, exists_and_left, exists_and_right, and_assoc, bcase_t, bcase_f, cond_true, cond_false, StC_upd, nilO_some, List.setIfInBounds_toArray, List.set_cons_zero, List.set_cons_succ, List.size_toArray, List.length_cons, List.length_nil, Nat.reduceAdd, Nat.reduceLT]
      have : patCells l = [] := List.eq_nil_of_length_eq_zero (by simpa using h1)
      rw [this]
      exact retP_of ⟨AM.le_refl m, none, 0, rfl, Own.nil _ _ _ _, by simp [obl]⟩
    · cases h
  | some ad =>
    simp only [Option.isNone_some, cell_upd_same, cell_upd_ne, ne_eq, not_false_eq_true, List.getElem?_toArray, List.getElem?_cons_zero, List.getElem?_cons_succ, Option.some.injEq, Value.int.injEq, Value.slice.injEq, Value.bool.injEq, Value.pointer.injEq, Value.tuple.injEq, Array.mk.injEq, List.cons.injEq, true_and, and_true, exists_eq_left', exists_eq', exists_eq, exists_and_left, exists_and_right, and_assoc, bcase_t, bcase_f, cond_true, cond_false, StC_upd, nilO_some, List.setIfInBounds_toArray, List.set_cons_zero, List.set_cons_succ, List.size_toArray, List.length_cons, List.length_nil, Nat.reduceAdd, Nat.reduceLT]
    intro b1 hb1 hm1
    have hle1 := AM.le_upd (AM.le_refl m) hm1 (o := .cells [].toArray 34)
    have hn0 : Own (m.upd b1 (.cells [].toArray 34)) w0.heap.size 34 3 (some ⟨b1, 0, none⟩) 0 0 [] := Own.new m hb1 34 3 0 [] rfl
    refine awp_append_own el25 hn0 (hr.le hle1) (fun u hu => by obtain ⟨p, _, hp⟩ := List.mem_flatMap.1 hu; simp [Pat.cells] at hp; rcases hp with rfl | rfl | rfl <;> rfl) (by omega) (by omega) (fun g2 cp' cur hor hB2 hown2 => ?_) (fun _ h => by cases h)
    · simp only [cell_upd_same, cell_upd_ne, ne_eq, not_false_eq_true, List.getElem?_toArray, List.getElem?_cons_zero, List.getElem?_cons_succ, Option.some.injEq, Value.int.injEq, Value.slice.injEq, Value.bool.injEq, Value.pointer.injEq, Value.tuple.injEq, Array.mk.injEq, List.cons.injEq, true_and, and_true, exists_eq_left', exists_eq', exists_eq, exists_and_left, exists_and_right, and_assoc, bcase_t, bcase_f, cond_true, cond_false, StC_upd, nilO_some, List.setIfInBounds_toArray, List.set_cons_zero, List.set_cons_succ, List.size_toArray, List.length_cons, List.length_nil, Nat.reduceAdd, Nat.reduceLT]
      refine retP_of ⟨?_, _, _, by rw [Nat.zero_add], ?_, ?_⟩
      · exact new_le hm1 hor
      · rw [Nat.zero_add] at hown2; simpa using hown2
      · exact new_obl hm1 hor

theorem code_spec (w0 : World) (m : AM) (g : Nat) (code : List Ins) (pats : List Pat) (taken : Int) (fp : List Nat) (hb : Buf m w0.heap.size g code pats taken fp) (hlen : code.length ≤ 1000000) :
    CallsA Try.prog w0 11 #[.pointer (some ⟨g, 0, none⟩)] m (fun r m' => m.le m' ∧ ∃ A' c', r = .slice A' code.length c' ∧ Own m' w0.heap.size 23 5 A' code.length c' (insCells code) ∧ ∀ k ∈ obl A', m k = none) := by
  obtain ⟨A0, c0, A1, c1, hg, hB, h0, h1, rfl⟩ := hb
  refine cf11 w0 m g _ ?_
  simp only [cell_upd_same, cell_upd_ne, ne_eq, not_false_eq_true, List.getElem?_toArray, List.getElem?_cons_zero, List.getElem?_cons_succ, Option.some.injEq, Value.int.injEq, Value.slice.injEq, Value.bool.injEq, Value.pointer.injEq, Value.tuple.injEq, Array.mk.injEq, List.cons.injEq, true_and, and_true, exists_eq_left', exists_eq', exists_eq, exists_and_left, exists_and_right, and_assoc, cell_of hg]
  refine CallsA.mono (clone_ins w0 m A0 _ c0 code h0.reads hlen) ?_
  rintro r m' ⟨hl, A', c', rfl, ho, hk⟩
  exact ⟨_, _, _, rfl, retP_of ⟨hl, _, _, rfl, ho, hk⟩⟩

theorem patches_spec (w0 : World) (m : AM) (g : Nat) (code : List Ins) (pats : List Pat) (taken : Int) (fp : List Nat) (hb : Buf m w0.heap.size g code pats taken fp) (hlen : pats.length ≤ 1000000) :
    CallsA Try.prog w0 15 #[.pointer (some ⟨g, 0, none⟩)] m (fun r m' => m.le m' ∧ ∃ A' c', r = .slice A' pats.length c' ∧ Own m' w0.heap.size 34 3 A' pats.length c' (patCells pats) ∧ ∀ k ∈ obl A', m k = none) := by
  obtain ⟨A0, c0, A1, c1, hg, hB, h0, h1, rfl⟩ := hb
  refine cf15 w0 m g _ ?_
  simp only [cell_upd_same, cell_upd_ne, ne_eq, not_false_eq_true, List.getElem?_toArray, List.getElem?_cons_zero, List.getElem?_cons_succ, Option.some.injEq, Value.int.injEq, Value.slice.injEq, Value.bool.injEq, Value.pointer.injEq, Value.tuple.injEq, Array.mk.injEq, List.cons.injEq, true_and, and_true, exists_eq_left', exists_eq', exists_eq, exists_and_left, exists_and_right, and_assoc, cell_of hg]
  refine CallsA.mono (clone_pats w0 m A1 _ c1 pats h1.reads hlen) ?_
  rintro r m' ⟨hl, A', c', rfl, ho, hk⟩
  exact ⟨_, _, _, rfl, retP_of ⟨hl, _, _, rfl, ho, hk⟩⟩

theorem fits16_spec (w0 : World) (m : AM) (n : Int) (hn : InI n) : CallsA Try.prog w0 31 #[.int .i64 n, .int .i64 16] m (fun r m' => r = .bool (decide (-32768 ≤ n ∧ n < 32768)) ∧ m' = m) := by
  refine cf31 w0 m n 16 _ ?_
  have e1 : (IntKind.wrap .i64 (1 * 2 ^ (min ((IntKind.wrap .i64 (16 - 1)) : Int).toNat (IntKind.bits .i64)))) = 32768 := by decide
  have e2 : (IntKind.wrap .i64 (0 - 32768)) = -32768 := by decide
  simp only [e1, e2, show decide ((16 : Int) < 1) = false from rfl, show decide ((16 : Int) > 62) = false from rfl, show ((0 : Int) ≤ (IntKind.wrap .i64 (16 - 1))) = True from by simp [IntKind.wrap_i64], cell_upd_same, cell_upd_ne, ne_eq, not_false_eq_true, List.getElem?_toArray, List.getElem?_cons_zero, List.getElem?_cons_succ, Option.some.injEq, Value.int.injEq, Value.slice.injEq, Value.bool.injEq, Value.pointer.injEq, Value.tuple.injEq, Array.mk.injEq, List.cons.injEq, true_and, and_true, exists_eq_left', exists_eq', exists_eq, exists_and_left, exists_and_right, and_assoc, bcase_t, bcase_f, cond_true, cond_false, StC_upd, nilO_some, List.setIfInBounds_toArray, List.set_cons_zero, List.set_cons_succ, List.size_toArray, List.length_cons, List.length_nil, Nat.reduceAdd, Nat.reduceLT]
  by_cases h : n ≥ -32768
  · simp only [h, decide_true, cell_upd_same, cell_upd_ne, ne_eq, not_false_eq_true, List.getElem?_toArray, List.getElem?_cons_zero, List.getElem?_cons_succ, Option.some.injEq, Value.int.injEq, Value.slice.injEq, Value.bool.injEq, Value.pointer.injEq, Value.tuple.injEq, Array.mk.injEq, List.cons.injEq, true_and, and_true, exists_eq_left', exists_eq', exists_eq, exists_and_left, exists_and_right, and_assoc, bcase_t, bcase_f, cond_true, cond_false, StC_upd, nilO_some, List.setIfInBounds_toArray, List.set_cons_zero, List.set_cons_succ, List.size_toArray, List.length_cons, List.length_nil, Nat.reduceAdd, Nat.reduceLT]
    refine retP_of ⟨?_, rfl⟩
    by_cases h2 : n < 32768 <;> simp [h2] <;> omega
  · simp only [h, decide_false, cell_upd_same, cell_upd_ne, ne_eq, not_false_eq_true, List.getElem?_toArray, List.getElem?_cons_zero, List.getElem?_cons_succ, Option.some.injEq, Value.int.injEq, Value.slice.injEq, Value.bool.injEq, Value.pointer.injEq, Value.tuple.injEq, Array.mk.injEq, List.cons.injEq, true_and, and_true, exists_eq_left', exists_eq', exists_eq, exists_and_left, exists_and_right, and_assoc, bcase_t, bcase_f, cond_true, cond_false, StC_upd, nilO_some, List.setIfInBounds_toArray, List.set_cons_zero, List.set_cons_succ, List.size_toArray, List.length_cons, List.length_nil, Nat.reduceAdd, Nat.reduceLT]
    refine retP_of ⟨?_, rfl⟩
    simp

theorem wrap_spec (w0 : World) (m : AM) (n : Int) : CallsA Try.prog w0 32 #[.int .i64 n] m (fun r m' => r = .int .i64 (IntKind.wrap .i64 (IntKind.wrap .i32 n)) ∧ m' = m) :=
  cf32 w0 m n _ (retP_of ⟨rfl, rfl⟩)

/-- The low half of a word, told with its sign. -/
def ext16 (n : Int) : Int := IntKind.wrap .i64 (Int.fdiv (IntKind.wrap .i32 ((IntKind.wrap .i32 n) * 65536)) 65536)

theorem extend16_spec (w0 : World) (m : AM) (n : Int) : CallsA Try.prog w0 33 #[.int .i64 n, .int .i64 16] m (fun r m' => r = .int .i64 (ext16 n) ∧ m' = m) := by
  refine cf33 w0 m n 16 _ ?_
  have e1 : (2 : Int) ^ (min ((IntKind.wrap .i64 (32 - 16)) : Int).toNat (IntKind.bits .i32)) = 65536 := by decide
  simp only [e1, show decide ((16 : Int) < 1) = false from rfl, show decide ((16 : Int) > 32) = false from rfl, show ((0 : Int) ≤ (IntKind.wrap .i64 (32 - 16))) = True from by simp [IntKind.wrap_i64], cell_upd_same, cell_upd_ne, ne_eq, not_false_eq_true, List.getElem?_toArray, List.getElem?_cons_zero, List.getElem?_cons_succ, Option.some.injEq, Value.int.injEq, Value.slice.injEq, Value.bool.injEq, Value.pointer.injEq, Value.tuple.injEq, Array.mk.injEq, List.cons.injEq, true_and, and_true, exists_eq_left', exists_eq', exists_eq, exists_and_left, exists_and_right, and_assoc, bcase_t, bcase_f, cond_true, cond_false, StC_upd, nilO_some, List.setIfInBounds_toArray, List.set_cons_zero, List.set_cons_succ, List.size_toArray, List.length_cons, List.length_nil, Nat.reduceAdd, Nat.reduceLT]
  exact retP_of ⟨rfl, rfl⟩

/-- The instructions that set a register to a number. -/
def constI (r n : Int) : List Ins :=
  if -32768 ≤ n ∧ n < 32768 then [⟨10, r, 0, 0, n⟩]
  else [⟨11, r, 0, 0, ext16 (Int.fdiv (IntKind.wrap .i64 (IntKind.wrap .i64 (IntKind.wrap .i32 n) + 32768)) 65536)⟩, ⟨10, r, r, 0, ext16 (IntKind.wrap .i64 (IntKind.wrap .i32 n))⟩]

theorem BufPost.self {w0 : World} {m : AM} {g : Nat} {code : List Ins} {pats : List Pat} {taken : Int} {fp : List Nat} (hb : Buf m w0.heap.size g code pats taken fp) : BufPost w0 m g fp code pats taken m := ⟨_, hb, Fr.refl _ _, fun _ h => .inl h⟩

theorem const_spec (w0 : World) (m : AM) (g : Nat) (code : List Ins) (pats : List Pat) (taken : Int) (fp : List Nat) (r n : Int) (hn : InI n) (hb : Buf m w0.heap.size g code pats taken fp) (hlen : code.length ≤ 999999) :
    CallsA Try.prog w0 20 #[.pointer (some ⟨g, 0, none⟩), .int .i64 r, .int .i64 n] m (fun r' m' => r' = .tuple #[] ∧ BufPost w0 m g fp (code ++ constI r n) pats taken m') := by
  refine cf20 w0 m g r n _ ?_
  refine CallsA.mono (fits16_spec w0 m n hn) ?_
  rintro r1 m1 ⟨rfl, rfl⟩
  unfold constI
  by_cases h : -32768 ≤ n ∧ n < 32768
  · simp only [h, and_self, decide_true, cell_upd_same, cell_upd_ne, ne_eq, not_false_eq_true, List.getElem?_toArray, List.getElem?_cons_zero, List.getElem?_cons_succ, Option.some.injEq, Value.int.injEq, Value.slice.injEq, Value.bool.injEq, Value.pointer.injEq, Value.tuple.injEq, Array.mk.injEq, List.cons.injEq, true_and, and_true, exists_eq_left', exists_eq', exists_eq, exists_and_left, exists_and_right, and_assoc, bcase_t, bcase_f, cond_true, cond_false, StC_upd, nilO_some, List.setIfInBounds_toArray, List.set_cons_zero, List.set_cons_succ, List.size_toArray, List.length_cons, List.length_nil, Nat.reduceAdd, Nat.reduceLT, if_true]
    refine CallsA.mono (put_spec w0 m1 g code pats taken fp ⟨10, r, 0, 0, n⟩ hb (by omega)) ?_
    rintro r' m' ⟨rfl, hp⟩
    exact ⟨⟨_, rfl⟩, retP_of ⟨rfl, hp⟩⟩
  · simp only [decide_eq_false h, cell_upd_same, cell_upd_ne, ne_eq, not_false_eq_true, List.getElem?_toArray, List.getElem?_cons_zero, List.getElem?_cons_succ, Option.some.injEq, Value.int.injEq, Value.slice.injEq, Value.bool.injEq, Value.pointer.injEq, Value.tuple.injEq, Array.mk.injEq, List.cons.injEq, true_and, and_true, exists_eq_left', exists_eq', exists_eq, exists_and_left, exists_and_right, and_assoc, bcase_t, bcase_f, cond_true, cond_false, StC_upd, nilO_some, List.setIfInBounds_toArray, List.set_cons_zero, List.set_cons_succ, List.size_toArray, List.length_cons, List.length_nil, Nat.reduceAdd, Nat.reduceLT, if_neg h]
    refine CallsA.mono (wrap_spec w0 m1 n) ?_
    rintro r2 m2 ⟨rfl, rfl⟩
    have e1 : (2 : Int) ^ (min (16 : Int).toNat (IntKind.bits .i64)) = 65536 := by decide
    simp only [cell_upd_same, cell_upd_ne, ne_eq, not_false_eq_true, List.getElem?_toArray, List.getElem?_cons_zero, List.getElem?_cons_succ, Option.some.injEq, Value.int.injEq, Value.slice.injEq, Value.bool.injEq, Value.pointer.injEq, Value.tuple.injEq, Array.mk.injEq, List.cons.injEq, true_and, and_true, exists_eq_left', exists_eq', exists_eq, exists_and_left, exists_and_right, and_assoc, bcase_t, bcase_f, cond_true, cond_false, StC_upd, nilO_some, List.setIfInBounds_toArray, List.set_cons_zero, List.set_cons_succ, List.size_toArray, List.length_cons, List.length_nil, Nat.reduceAdd, Nat.reduceLT, e1, show ((0 : Int) ≤ 16) = True from by simp]
    refine CallsA.mono (extend16_spec w0 m2 _) ?_
    rintro r3 m3 ⟨rfl, rfl⟩
    simp only [cell_upd_same, cell_upd_ne, ne_eq, not_false_eq_true, List.getElem?_toArray, List.getElem?_cons_zero, List.getElem?_cons_succ, Option.some.injEq, Value.int.injEq, Value.slice.injEq, Value.bool.injEq, Value.pointer.injEq, Value.tuple.injEq, Array.mk.injEq, List.cons.injEq, true_and, and_true, exists_eq_left', exists_eq', exists_eq, exists_and_left, exists_and_right, and_assoc, bcase_t, bcase_f, cond_true, cond_false, StC_upd, nilO_some, List.setIfInBounds_toArray, List.set_cons_zero, List.set_cons_succ, List.size_toArray, List.length_cons, List.length_nil, Nat.reduceAdd, Nat.reduceLT]
    refine CallsA.mono (put_spec w0 m3 g code pats taken fp ⟨11, r, 0, 0, _⟩ hb (by omega)) ?_
    rintro r4 m4 ⟨rfl, fp4, hb4, hf4, hk4⟩
    refine ⟨⟨_, rfl⟩, ?_⟩
    refine CallsA.mono (extend16_spec w0 m4 _) ?_
    rintro r5 m5 ⟨rfl, rfl⟩
    simp only [cell_upd_same, cell_upd_ne, ne_eq, not_false_eq_true, List.getElem?_toArray, List.getElem?_cons_zero, List.getElem?_cons_succ, Option.some.injEq, Value.int.injEq, Value.slice.injEq, Value.bool.injEq, Value.pointer.injEq, Value.tuple.injEq, Array.mk.injEq, List.cons.injEq, true_and, and_true, exists_eq_left', exists_eq', exists_eq, exists_and_left, exists_and_right, and_assoc, bcase_t, bcase_f, cond_true, cond_false, StC_upd, nilO_some, List.setIfInBounds_toArray, List.set_cons_zero, List.set_cons_succ, List.size_toArray, List.length_cons, List.length_nil, Nat.reduceAdd, Nat.reduceLT]
    refine CallsA.mono (put_spec w0 m5 g _ pats taken fp4 ⟨10, r, r, 0, _⟩ hb4 (by simp; omega)) ?_
    rintro r6 m6 ⟨rfl, hp6⟩
    refine ⟨⟨_, rfl⟩, retP_of ⟨rfl, ?_⟩⟩
    have := hp6.of hf4 hk4
    rwa [List.append_assoc] at this
theorem eqp_ins (i j : Ins) (t : Bool) : EqP Try.prog .eql 23 i.val j.val t ↔ t = decide (i = j) := by
  have h1 : pval Try.prog (eqGuard .eql 23 (.const undef) (.const undef) i.val j.val) = some () := by kernel_rfl
  have h2 := eqIn_struct (P := Try.prog) (t := 23) (k := .i64) (xs := i.cells.toArray) (ys := j.cells.toArray) Try.underlying23 (by kernel_rfl) 9998 (fun f => match f.offset with | 0 => i.op == j.op | 1 => i.a == j.a | 2 => i.b == j.b | 3 => i.c == j.c | _ => i.imm == j.imm) (by
    intro f hf
    simp only [List.mem_cons, List.not_mem_nil, or_false] at hf
    rcases hf with rfl | rfl | rfl | rfl | rfl <;> exact ⟨by decide, Try.underlying3, _, _, rfl, rfl, rfl⟩)
  simp only [List.all_cons, List.all_nil, Bool.and_true, ins_eq] at h2
  have h3 : pval Try.prog (binOp .eql 23 i.val j.val) = some (.bool (decide (i = j))) := by
    show pval Try.prog (Op.equal 23 i.val j.val >>= fun b => pure (Value.bool b)) = _
    rw [pval_bind', show pval Try.prog (Op.equal 23 i.val j.val) = _ from h2]; rfl
  unfold EqP
  rw [pval_bind', h1, Option.bind_some, h3]
  simp [eq_comm]
theorem eqp_ins' (i j : Ins) (t : Bool) : EqP Try.prog .eql 23 (.agg #[.int .i64 i.op, .int .i64 i.a, .int .i64 i.b, .int .i64 i.c, .int .i64 i.imm]) (.agg #[.int .i64 j.op, .int .i64 j.a, .int .i64 j.b, .int .i64 j.c, .int .i64 j.imm]) t ↔ t = decide (i = j) := eqp_ins i j t

theorem buf_new (m : AM) {B g : Nat} (hB : B ≤ g) : Buf (m.upd g (.cells #[.slice none 0 0, .slice none 0 0, .int .i64 0] 27)) B g [] [] 0 [g] :=
  ⟨none, 0, none, 0, by rw [upd_get_same]; rfl, hB, Own.nil _ _ _ _, Own.nil _ _ _ _, rfl⟩

theorem awake_spec (w0 : World) (m : AM) : CallsA Try.prog w0 16 #[] m (fun r m' => r = .bool true) := by
  refine cf16 w0 m _ ?_
  intro b1 hb1 hm1
  simp only [cell_upd_same, cell_upd_ne, ne_eq, not_false_eq_true, List.getElem?_toArray, List.getElem?_cons_zero, List.getElem?_cons_succ, Option.some.injEq, Value.int.injEq, Value.slice.injEq, Value.bool.injEq, Value.pointer.injEq, Value.tuple.injEq, Array.mk.injEq, List.cons.injEq, true_and, and_true, exists_eq_left', exists_eq', exists_eq, exists_and_left, exists_and_right, and_assoc, bcase_t, bcase_f, cond_true, cond_false, StC_upd, nilO_some, List.setIfInBounds_toArray, List.set_cons_zero, List.set_cons_succ, List.size_toArray, List.length_cons, List.length_nil, Nat.reduceAdd, Nat.reduceLT]
  refine CallsA.mono (jump_spec w0 _ b1 [] [] 0 _ ⟨15, 0, 0, 0, 0⟩ (buf_new m hb1) (by decide) (by decide)) ?_
  rintro r m2 ⟨rfl, fp2, hb2, _, _⟩
  simp only [cell_upd_same, cell_upd_ne, ne_eq, not_false_eq_true, List.getElem?_toArray, List.getElem?_cons_zero, List.getElem?_cons_succ, Option.some.injEq, Value.int.injEq, Value.slice.injEq, Value.bool.injEq, Value.pointer.injEq, Value.tuple.injEq, Array.mk.injEq, List.cons.injEq, true_and, and_true, exists_eq_left', exists_eq', exists_eq, exists_and_left, exists_and_right, and_assoc, bcase_t, bcase_f, cond_true, cond_false, StC_upd, nilO_some, List.setIfInBounds_toArray, List.set_cons_zero, List.set_cons_succ, List.size_toArray, List.length_cons, List.length_nil, Nat.reduceAdd, Nat.reduceLT]
  refine CallsA.mono (put_spec w0 _ b1 _ _ 0 _ ⟨0, 0, 0, 0, 0⟩ hb2 (by decide)) ?_
  rintro r m3 ⟨rfl, fp3, hb3, _, _⟩
  simp only [cell_upd_same, cell_upd_ne, ne_eq, not_false_eq_true, List.getElem?_toArray, List.getElem?_cons_zero, List.getElem?_cons_succ, Option.some.injEq, Value.int.injEq, Value.slice.injEq, Value.bool.injEq, Value.pointer.injEq, Value.tuple.injEq, Array.mk.injEq, List.cons.injEq, true_and, and_true, exists_eq_left', exists_eq', exists_eq, exists_and_left, exists_and_right, and_assoc, bcase_t, bcase_f, cond_true, cond_false, StC_upd, nilO_some, List.setIfInBounds_toArray, List.set_cons_zero, List.set_cons_succ, List.size_toArray, List.length_cons, List.length_nil, Nat.reduceAdd, Nat.reduceLT]
  refine CallsA.mono (land_spec w0 _ b1 _ _ 0 _ 0 hb3) ?_
  rintro r m4 ⟨rfl, fp4, hb4, _, _⟩
  simp only [cell_upd_same, cell_upd_ne, ne_eq, not_false_eq_true, List.getElem?_toArray, List.getElem?_cons_zero, List.getElem?_cons_succ, Option.some.injEq, Value.int.injEq, Value.slice.injEq, Value.bool.injEq, Value.pointer.injEq, Value.tuple.injEq, Array.mk.injEq, List.cons.injEq, true_and, and_true, exists_eq_left', exists_eq', exists_eq, exists_and_left, exists_and_right, and_assoc, bcase_t, bcase_f, cond_true, cond_false, StC_upd, nilO_some, List.setIfInBounds_toArray, List.set_cons_zero, List.set_cons_succ, List.size_toArray, List.length_cons, List.length_nil, Nat.reduceAdd, Nat.reduceLT]
  refine CallsA.mono (take_spec w0 _ b1 _ _ 0 _ hb4 (by decide) (by decide)) ?_
  rintro r m5 ⟨rfl, fp5, hb5, _, _⟩
  simp only [cell_upd_same, cell_upd_ne, ne_eq, not_false_eq_true, List.getElem?_toArray, List.getElem?_cons_zero, List.getElem?_cons_succ, Option.some.injEq, Value.int.injEq, Value.slice.injEq, Value.bool.injEq, Value.pointer.injEq, Value.tuple.injEq, Array.mk.injEq, List.cons.injEq, true_and, and_true, exists_eq_left', exists_eq', exists_eq, exists_and_left, exists_and_right, and_assoc, bcase_t, bcase_f, cond_true, cond_false, StC_upd, nilO_some, List.setIfInBounds_toArray, List.set_cons_zero, List.set_cons_succ, List.size_toArray, List.length_cons, List.length_nil, Nat.reduceAdd, Nat.reduceLT]
  have e4 : aimC ([] ++ [(⟨15, 0, 0, 0, 0⟩ : Ins)] ++ [(⟨0, 0, 0, 0, 0⟩ : Ins)]) 0 (([] ++ [(⟨15, 0, 0, 0, 0⟩ : Ins)] ++ [(⟨0, 0, 0, 0, 0⟩ : Ins)]).length : Nat) = some ⟨15, 0, 0, 0, 1⟩ := by decide
  have e5 : setC ([] ++ [(⟨15, 0, 0, 0, 0⟩ : Ins)] ++ [(⟨0, 0, 0, 0, 0⟩ : Ins)]) 0 (some ⟨15, 0, 0, 0, 1⟩) = [⟨15, 0, 0, 0, 1⟩, ⟨0, 0, 0, 0, 0⟩] := by decide
  have e6 : jumpC [] [] ⟨15, 0, 0, 0, 0⟩ = [] := by decide
  rw [e4, e5, e6] at hb5
  rw [e4]
  refine CallsA.mono (code_spec w0 _ b1 _ _ _ _ hb5 (by decide)) ?_
  rintro r m6 ⟨hl6, A, c, rfl, ho, _⟩
  obtain ⟨ad, rfl, hc⟩ := ho.ex (by decide)
  have hi := hc.ins (k := 0) rfl
  simp only [cell_upd_same, cell_upd_ne, ne_eq, not_false_eq_true, List.getElem?_toArray, List.getElem?_cons_zero, List.getElem?_cons_succ, Option.some.injEq, Value.int.injEq, Value.slice.injEq, Value.bool.injEq, Value.pointer.injEq, Value.tuple.injEq, Array.mk.injEq, List.cons.injEq, true_and, and_true, exists_eq_left', exists_eq', exists_eq, exists_and_left, exists_and_right, and_assoc, bcase_t, bcase_f, cond_true, cond_false, StC_upd, nilO_some, List.setIfInBounds_toArray, List.set_cons_zero, List.set_cons_succ, List.size_toArray, List.length_cons, List.length_nil, Nat.reduceAdd, Nat.reduceLT, Option.isSome_some, Int.natCast_zero, beq_self_eq_true, if_neg (show ¬ ((0 : Int) = 8) by decide), show ((8 + 0 : Int) == 8) = true from rfl, show decide ((0 : Int) ≠ 8) = true from rfl]
  refine CallsA.mono (here_spec w0 _ b1 _ _ _ _ (hb5.le hl6)) ?_
  rintro r m7 ⟨rfl, hl7⟩
  simp only [cell_upd_same, cell_upd_ne, ne_eq, not_false_eq_true, List.getElem?_toArray, List.getElem?_cons_zero, List.getElem?_cons_succ, Option.some.injEq, Value.int.injEq, Value.slice.injEq, Value.bool.injEq, Value.pointer.injEq, Value.tuple.injEq, Array.mk.injEq, List.cons.injEq, true_and, and_true, exists_eq_left', exists_eq', exists_eq, exists_and_left, exists_and_right, and_assoc, bcase_t, bcase_f, cond_true, cond_false, StC_upd, nilO_some, List.setIfInBounds_toArray, List.set_cons_zero, List.set_cons_succ, List.size_toArray, List.length_cons, List.length_nil, Nat.reduceAdd, Nat.reduceLT, show (((0 + 1 + 1 : Nat) : Int) == 2) = true from rfl]
  simp only [Nat.zero_mul] at hi
  simp only [AM.le_cell hl7 hi.2.2.2.2, cell_upd_same, cell_upd_ne, ne_eq, not_false_eq_true, List.getElem?_toArray, List.getElem?_cons_zero, List.getElem?_cons_succ, Option.some.injEq, Value.int.injEq, Value.slice.injEq, Value.bool.injEq, Value.pointer.injEq, Value.tuple.injEq, Array.mk.injEq, List.cons.injEq, true_and, and_true, exists_eq_left', exists_eq', exists_eq, exists_and_left, exists_and_right, and_assoc, bcase_t, bcase_f, cond_true, cond_false, StC_upd, nilO_some, List.setIfInBounds_toArray, List.set_cons_zero, List.set_cons_succ, List.size_toArray, List.length_cons, List.length_nil, Nat.reduceAdd, Nat.reduceLT, beq_self_eq_true]
  refine ⟨by decide, by decide, ?_⟩
  refine CallsA.mono (patches_spec w0 _ b1 _ _ _ _ ((hb5.le hl6).le hl7) (by decide)) ?_
  rintro r m8 ⟨hl8, A8, c8, rfl, _, _⟩
  simp only [cell_upd_same, cell_upd_ne, ne_eq, not_false_eq_true, List.getElem?_toArray, List.getElem?_cons_zero, List.getElem?_cons_succ, Option.some.injEq, Value.int.injEq, Value.slice.injEq, Value.bool.injEq, Value.pointer.injEq, Value.tuple.injEq, Array.mk.injEq, List.cons.injEq, true_and, and_true, exists_eq_left', exists_eq', exists_eq, exists_and_left, exists_and_right, and_assoc, bcase_t, bcase_f, cond_true, cond_false, StC_upd, nilO_some, List.setIfInBounds_toArray, List.set_cons_zero, List.set_cons_succ, List.size_toArray, List.length_cons, List.length_nil, Nat.reduceAdd, Nat.reduceLT]
  exact retP_of rfl
end Go.Proofs.Ytijilloaggeepaa.S
