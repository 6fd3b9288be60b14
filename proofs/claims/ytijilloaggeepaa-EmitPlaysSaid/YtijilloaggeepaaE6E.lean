/- Ytijilloaggeepaa: a text of our own, by an AI agent: E6E -/
import Derived.Test.YtijilloaggeepaaE5E
set_option linter.unusedSimpArgs false
set_option linter.unusedVariables false
namespace Go.Proofs.Ytijilloaggeepaa.S
open Go Go.RowKit Go.Alog Go.Proofs.Ytijilloaggeepaa.T Go.Proofs.Ytijilloaggeepaa.V

theorem here_eq (w0 : World) (m : AM) (g : Nat) (code : List Ins) (pats : List Pat) (taken : Int) (fp : List Nat) (hb : Buf m w0.heap.size g code pats taken fp) :
    CallsA Try.prog w0 19 #[.pointer (some ⟨g, 0, none⟩)] m (fun r m' => r = .int .i64 code.length ∧ m' = m) := by
  obtain ⟨A0, c0, A1, c1, hg, hB, h0, h1, rfl⟩ := hb
  refine cf19 w0 m g _ ?_
  simp only [cell_upd_same, cell_upd_ne, ne_eq, not_false_eq_true, List.getElem?_toArray, List.getElem?_cons_zero, List.getElem?_cons_succ, Option.some.injEq, Value.int.injEq, Value.slice.injEq, Value.bool.injEq, Value.pointer.injEq, Value.tuple.injEq, Array.mk.injEq, List.cons.injEq, true_and, and_true, exists_eq_left', exists_eq', exists_eq, exists_and_left, exists_and_right, and_assoc, cell_of hg]
  exact retP_of ⟨rfl, rfl⟩

/-- Patches stand in their order, each at a place of the code. -/
def PInv (s : St) : Prop := (∀ p ∈ s.pats, 0 ≤ p.at_ ∧ p.at_ < s.code.length) ∧ s.pats.Pairwise (fun p q => p.at_ < q.at_)

theorem setC_len (code : List Ins) (k : Int) (o : Option Ins) : (setC code k o).length = code.length := by cases o <;> simp [setC]

theorem PInv.more {s : St} (h : PInv s) {code : List Ins} {t : Int} (hl : s.code.length ≤ code.length) : PInv ⟨code, s.pats, t⟩ :=
  ⟨fun p hp => ⟨(h.1 p hp).1, by have := (h.1 p hp).2; show p.at_ < (code.length : Int); omega⟩, h.2⟩
theorem PInv.snoc {s : St} (h : PInv s) {code : List Ins} {t k n : Int} (hl : s.code.length < code.length) : PInv ⟨code, s.pats ++ [⟨s.code.length, k, n⟩], t⟩ := by
  refine ⟨fun p hp => ?_, ?_⟩
  · rcases List.mem_append.1 hp with hp | hp
    · exact (h.more (by omega : s.code.length ≤ code.length) (t := t)).1 p hp
    · simp at hp; subst hp; exact ⟨by simp, by show (s.code.length : Int) < code.length; omega⟩
  · rw [List.pairwise_append]
    refine ⟨h.2, by simp, fun p hp q hq => ?_⟩
    simp at hq; subst hq; exact (h.1 p hp).2
theorem PInv.jump {s : St} (h : PInv s) {code : List Ins} {t : Int} {i : Ins} (hl : s.code.length < code.length) : PInv ⟨code, jumpC s.code s.pats i, t⟩ := by
  unfold jumpC
  split
  · exact h.snoc hl
  · exact h.more (by omega)

def wantB (a : ActV) : Bool := a.kind == 1 || ((a.kind == 2 || a.kind == 4) && farB a.i)

theorem actS_inv (s : St) (a : ActV) (h : PInv s) (ht : 0 ≤ s.taken ∧ s.taken ≤ 8) :
    PInv (actS s a).1 ∧ (0 ≤ (actS s a).1.taken ∧ (actS s a).1.taken ≤ 8) ∧ ((actS s a).1.pats.length : Int) = s.pats.length + (if wantB a then 1 else 0) ∧ (actS s a).1.code.length ≤ s.code.length + 2 ∧ (actS s a).1.pats.length ≤ s.pats.length + 1 := by
  have hj : (jumpC s.code s.pats a.i).length = s.pats.length + (if farB a.i then 1 else 0) := by unfold jumpC; split <;> simp
  have hw0 : ∀ k, a.kind = k → wantB a = (k == 1 || ((k == 2 || k == 4) && farB a.i)) := fun k hk => by unfold wantB; rw [hk]
  unfold actS
  by_cases k0 : a.kind = 0
  · rw [if_pos k0]; exact ⟨h.more (by simp), ht, by rw [hw0 0 k0]; simp, by simp, by simp⟩
  rw [if_neg k0]
  by_cases k1 : a.kind = 1
  · rw [if_pos k1]; exact ⟨h.snoc (by simp), ht, by rw [hw0 1 k1]; simp, by simp, by simp⟩
  rw [if_neg k1]
  by_cases k2 : a.kind = 2
  · rw [if_pos k2]; exact ⟨h.jump (by simp), ht, by rw [hw0 2 k2]; simp [hj]; split <;> simp, by simp, by simp only [hj]; split <;> omega⟩
  rw [if_neg k2]
  by_cases k3 : a.kind = 3
  · rw [if_pos k3]; exact ⟨h.more (by rw [setC_len]; omega), ht, by rw [hw0 3 k3]; simp, by simp [setC_len], by simp⟩
  rw [if_neg k3]
  by_cases k4 : a.kind = 4
  · rw [if_pos k4]; exact ⟨h.jump (by rw [setC_len]; simp), ht, by rw [hw0 4 k4]; simp [hj]; split <;> simp, by simp [setC_len], by simp only [hj]; split <;> omega⟩
  rw [if_neg k4]
  have hwf : wantB a = false := by unfold wantB; simp [k1, k2, k4]
  by_cases k5 : a.kind = 5
  · rw [if_pos k5]; exact ⟨h.more (by simp), ht, by rw [hwf]; simp, by simp [constI]; split <;> simp, by simp⟩
  rw [if_neg k5]
  by_cases k6 : a.kind = 6
  · rw [if_pos k6]; exact ⟨h.more (by simp), by show 0 ≤ ite _ _ _ ∧ ite _ _ _ ≤ _; split <;> omega, by rw [hwf]; simp, by simp, by simp⟩
  rw [if_neg k6]
  exact ⟨h.more (by simp), by show 0 ≤ ite _ _ _ ∧ ite _ _ _ ≤ _; split <;> omega, by rw [hwf]; simp, by simp, by simp⟩

def EPI (W : World) (b1 : Nat) (k : Nat) (x4 x5 : Int) (m : AM) : Prop :=
  ∃ s fp, Buf m W.heap.size b1 s.code s.pats s.taken fp ∧ (mOf W).le m ∧ PInv s ∧ (0 ≤ s.taken ∧ s.taken ≤ 8) ∧ x4 = s.pats.length ∧ 0 ≤ x5 ∧ x5 ≤ 60 ∧ s.code.length ≤ 2 * x5.toNat ∧ s.pats.length ≤ x5.toNat ∧ (k : Int) = 60 - x5

def EPE (W : World) (b1 : Nat) (x4 : Int) (m : AM) : Prop := ∃ s fp, Buf m W.heap.size b1 s.code s.pats s.taken fp ∧ PInv s ∧ x4 = s.pats.length ∧ s.code.length ≤ 1000 ∧ s.pats.length ≤ 1000

theorem law_EmitPatches (W : World) (A : Option Addr) (len cap : Nat) (l : List ActV) (hl : l.length = len) (hlc : len ≤ cap) (rd : Reads (mOf W) 8 A len (actCells l)) (y : len * 64 ≤ 140737488351232) (hw : ∀ i ∈ l, i.wf) : CallsA Try.prog W 7 #[.slice A len cap] (mOf W) (fun r _ => r = .bool true) := by
  refine cf7 W _ A len cap _ ?_
  intro b1 hb1 hm1 m2
  have hlow : (mOf W).le m2 := AM.le_upd (AM.le_refl _) hm1
  have hbuf : Buf m2 W.heap.size b1 [] [] 0 [b1] := buf_new _ hb1
  generalize m2 = m2 at hlow hbuf
  refine vl7_111010 W m2 _ _ A len cap b1 0 0
    (EPI W b1)
    (EPE W b1) 60 rfl rfl rfl rfl
    ⟨⟨[], [], 0⟩, _, hbuf, hlow, ⟨by simp, by simp⟩, by simp, rfl, by omega, by omega, by simp, by simp, by omega⟩ ?_ ?_
  · rintro n σ x4 x5 m ⟨s, fp, hb, hlow, hP, ht, rfl, h5, h60, hcl, hpl, hk⟩
    have hE : EPE W b1 s.pats.length m := ⟨s, fp, hb, hP, rfl, by omega, by omega⟩
    by_cases c1 : x5 < len
    · simp only [c1, decide_true, cell_upd_same, cell_upd_ne, ne_eq, not_false_eq_true, List.getElem?_toArray, List.getElem?_cons_zero, List.getElem?_cons_succ, Option.some.injEq, Value.int.injEq, Value.slice.injEq, Value.bool.injEq, Value.pointer.injEq, Value.tuple.injEq, Array.mk.injEq, List.cons.injEq, true_and, and_true, exists_eq_left', exists_eq', exists_eq, exists_and_left, exists_and_right, and_assoc, bcase_t, bcase_f, cond_true, cond_false, StC_upd, nilO_some, List.setIfInBounds_toArray, List.set_cons_zero, List.set_cons_succ, List.size_toArray, List.length_cons, List.length_nil, Nat.reduceAdd, Nat.reduceLT]
      by_cases c2 : x5 < 60
      · simp only [c2, decide_true, cell_upd_same, cell_upd_ne, ne_eq, not_false_eq_true, List.getElem?_toArray, List.getElem?_cons_zero, List.getElem?_cons_succ, Option.some.injEq, Value.int.injEq, Value.slice.injEq, Value.bool.injEq, Value.pointer.injEq, Value.tuple.injEq, Array.mk.injEq, List.cons.injEq, true_and, and_true, exists_eq_left', exists_eq', exists_eq, exists_and_left, exists_and_right, and_assoc, bcase_t, bcase_f, cond_true, cond_false, StC_upd, nilO_some, List.setIfInBounds_toArray, List.set_cons_zero, List.set_cons_succ, List.size_toArray, List.length_cons, List.length_nil, Nat.reduceAdd, Nat.reduceLT]
        obtain ⟨ad, rfl, hc⟩ := rd.ex (by omega)
        have hi := (hc.le hlow).act (List.getElem?_eq_getElem (show x5.toNat < l.length by omega))
        have hwa := hw _ (List.getElem_mem (show x5.toNat < l.length by omega))
        revert hi hwa
        generalize l[x5.toNat]'(by omega) = a
        intro hi hwa
        simp only [cell_upd_same, cell_upd_ne, ne_eq, not_false_eq_true, List.getElem?_toArray, List.getElem?_cons_zero, List.getElem?_cons_succ, Option.some.injEq, Value.int.injEq, Value.slice.injEq, Value.bool.injEq, Value.pointer.injEq, Value.tuple.injEq, Array.mk.injEq, List.cons.injEq, true_and, and_true, exists_eq_left', exists_eq', exists_eq, exists_and_left, exists_and_right, and_assoc, bcase_t, bcase_f, cond_true, cond_false, StC_upd, nilO_some, List.setIfInBounds_toArray, List.set_cons_zero, List.set_cons_succ, List.size_toArray, List.length_cons, List.length_nil, Nat.reduceAdd, Nat.reduceLT, hi]
        refine ⟨by omega, ?_⟩
        intro b hb0 hmb
        have hle := AM.le_upd (AM.le_refl m) hmb (o := .cells a.cells.toArray 50)
        simp only [cell_upd_same, cell_upd_ne, ne_eq, not_false_eq_true, List.getElem?_toArray, List.getElem?_cons_zero, List.getElem?_cons_succ, Option.some.injEq, Value.int.injEq, Value.slice.injEq, Value.bool.injEq, Value.pointer.injEq, Value.tuple.injEq, Array.mk.injEq, List.cons.injEq, true_and, and_true, exists_eq_left', exists_eq', exists_eq, exists_and_left, exists_and_right, and_assoc, bcase_t, bcase_f, cond_true, cond_false, StC_upd, nilO_some, List.setIfInBounds_toArray, List.set_cons_zero, List.set_cons_succ, List.size_toArray, List.length_cons, List.length_nil, Nat.reduceAdd, Nat.reduceLT, hb0]
        have w5 : IntKind.wrap .i64 (x5 + 1) = x5 + 1 := by rw [IntKind.wrap_i64]; omega
        have w4 : IntKind.wrap .i64 (((s.pats.length : Nat) : Int) + 1) = s.pats.length + 1 := by rw [IntKind.wrap_i64]; omega
        have ha := actS_inv s a hP ht
        have step : ∀ w : Int, w = s.pats.length + (if wantB a then 1 else 0) → CallsA Try.prog W 23 #[.pointer (some ⟨b1, 0, none⟩), a.val] (m.upd b (.cells a.cells.toArray 50)) (fun r m' => (∃ i t, r = .tuple #[.int .i64 i, .bool t]) ∧ ∃ n', n' < n ∧ EPI W b1 n' w (IntKind.wrap .i64 (x5 + 1)) m') := by
          intro w hw'
          refine CallsA.mono (act_spec W _ b1 s fp a hwa (hb.le hle) (by omega) (by omega) ht) ?_
          rintro r m' ⟨rfl, hp⟩
          obtain ⟨fp', hb', hf', hk'⟩ := hp.pre hle
          rw [w5]
          exact ⟨⟨_, _, rfl⟩, n - 1, by omega, _, _, hb', low_fr hlow hf' (fun k hk => (hb.lt k hk).1), ha.1, ha.2.1, by rw [hw', ha.2.2.1], by omega, by omega, by omega, by omega, by omega⟩
        have sT : wantB a = true → _ := fun hwt => step (s.pats.length + 1) (by rw [hwt]; rfl)
        have sF : wantB a = false → _ := fun hwt => step s.pats.length (by rw [hwt]; simp)
        rw [← w4] at sT
        clear step
        revert sT sF
        unfold wantB farB
        cases h17 : (a.i.op == 17) <;> cases h18 : (a.i.op == 18) <;> cases k1 : (a.kind == 1) <;> cases k2 : (a.kind == 2) <;> cases k4 : (a.kind == 4) <;> intro sT sF <;> simp only [cell_upd_same, cell_upd_ne, ne_eq, not_false_eq_true, List.getElem?_toArray, List.getElem?_cons_zero, List.getElem?_cons_succ, Option.some.injEq, Value.int.injEq, Value.slice.injEq, Value.bool.injEq, Value.pointer.injEq, Value.tuple.injEq, Array.mk.injEq, List.cons.injEq, true_and, and_true, exists_eq_left', exists_eq', exists_eq, exists_and_left, exists_and_right, and_assoc, bcase_t, bcase_f, cond_true, cond_false, StC_upd, nilO_some, List.setIfInBounds_toArray, List.set_cons_zero, List.set_cons_succ, List.size_toArray, List.length_cons, List.length_nil, Nat.reduceAdd, Nat.reduceLT] <;> first | exact sT rfl | exact sF rfl
      · simp only [c2, decide_false, cell_upd_same, cell_upd_ne, ne_eq, not_false_eq_true, List.getElem?_toArray, List.getElem?_cons_zero, List.getElem?_cons_succ, Option.some.injEq, Value.int.injEq, Value.slice.injEq, Value.bool.injEq, Value.pointer.injEq, Value.tuple.injEq, Array.mk.injEq, List.cons.injEq, true_and, and_true, exists_eq_left', exists_eq', exists_eq, exists_and_left, exists_and_right, and_assoc, bcase_t, bcase_f, cond_true, cond_false, StC_upd, nilO_some, List.setIfInBounds_toArray, List.set_cons_zero, List.set_cons_succ, List.size_toArray, List.length_cons, List.length_nil, Nat.reduceAdd, Nat.reduceLT]
        exact hE
    · simp only [c1, decide_false, cell_upd_same, cell_upd_ne, ne_eq, not_false_eq_true, List.getElem?_toArray, List.getElem?_cons_zero, List.getElem?_cons_succ, Option.some.injEq, Value.int.injEq, Value.slice.injEq, Value.bool.injEq, Value.pointer.injEq, Value.tuple.injEq, Array.mk.injEq, List.cons.injEq, true_and, and_true, exists_eq_left', exists_eq', exists_eq, exists_and_left, exists_and_right, and_assoc, bcase_t, bcase_f, cond_true, cond_false, StC_upd, nilO_some, List.setIfInBounds_toArray, List.set_cons_zero, List.set_cons_succ, List.size_toArray, List.length_cons, List.length_nil, Nat.reduceAdd, Nat.reduceLT]
      exact hE
  · rintro σ x4 m ⟨s, fp, hb, hP, rfl, hcl, hpl⟩
    refine CallsA.mono (patches_spec W _ b1 _ _ _ _ hb (by omega)) ?_
    rintro r m3 ⟨l3, A3, c3, rfl, o3, n3⟩
    refine ⟨_, _, _, rfl, ?_⟩
    have hb3 := hb.le l3
    refine vl7_11111010 W m3 _ _ b1 s.pats.length A3 s.pats.length c3 A3 s.pats.length c3 s.pats.length 0 (fun k x m => m3.le m ∧ 0 ≤ x ∧ x ≤ s.pats.length ∧ (k : Int) = s.pats.length - x) (fun m => m3.le m) s.pats.length rfl rfl rfl rfl rfl rfl ⟨AM.le_refl _, by omega, by omega, by omega⟩ ?_ ?_
    · rintro n σ x m ⟨hle, hx0, hx1, hk⟩
      by_cases c1 : x < s.pats.length
      · have hlt : x.toNat < s.pats.length := by omega
        obtain ⟨ad, rfl, hc⟩ := (o3.le hle).ex (by omega)
        have hat : ∀ j, j < 3 → m.cell (ad.add (x.toNat * 3 + j)) = (s.pats[x.toNat]).cells[j]? := fun j hj => Cells.at (f := Pat.cells) (sz := 3) (fun _ => rfl) hc (List.getElem?_eq_getElem hlt) hj
        have h0 := hat 0 (by omega); have h1 := hat 1 (by omega); have h2 := hat 2 (by omega)
        simp only [Nat.add_zero, Pat.cells, cell_upd_same, cell_upd_ne, ne_eq, not_false_eq_true, List.getElem?_toArray, List.getElem?_cons_zero, List.getElem?_cons_succ, Option.some.injEq, Value.int.injEq, Value.slice.injEq, Value.bool.injEq, Value.pointer.injEq, Value.tuple.injEq, Array.mk.injEq, List.cons.injEq, true_and, and_true, exists_eq_left', exists_eq', exists_eq, exists_and_left, exists_and_right, and_assoc, bcase_t, bcase_f, cond_true, cond_false, StC_upd, nilO_some, List.setIfInBounds_toArray, List.set_cons_zero, List.set_cons_succ, List.size_toArray, List.length_cons, List.length_nil, Nat.reduceAdd, Nat.reduceLT] at h0 h1 h2
        have hp := hP.1 _ (List.getElem_mem hlt)
        simp only [c1, decide_true, cell_upd_same, cell_upd_ne, ne_eq, not_false_eq_true, List.getElem?_toArray, List.getElem?_cons_zero, List.getElem?_cons_succ, Option.some.injEq, Value.int.injEq, Value.slice.injEq, Value.bool.injEq, Value.pointer.injEq, Value.tuple.injEq, Array.mk.injEq, List.cons.injEq, true_and, and_true, exists_eq_left', exists_eq', exists_eq, exists_and_left, exists_and_right, and_assoc, bcase_t, bcase_f, cond_true, cond_false, StC_upd, nilO_some, List.setIfInBounds_toArray, List.set_cons_zero, List.set_cons_succ, List.size_toArray, List.length_cons, List.length_nil, Nat.reduceAdd, Nat.reduceLT, add_add, h0, h1, h2]
        refine ⟨by omega, ?_⟩
        intro b hb0 hmb
        have hle2 := AM.le_trans hle (AM.le_upd (AM.le_refl m) hmb (o := .cells (s.pats[x.toNat]).cells.toArray 34))
        simp only [cell_upd_same, cell_upd_ne, ne_eq, not_false_eq_true, List.getElem?_toArray, List.getElem?_cons_zero, List.getElem?_cons_succ, Option.some.injEq, Value.int.injEq, Value.slice.injEq, Value.bool.injEq, Value.pointer.injEq, Value.tuple.injEq, Array.mk.injEq, List.cons.injEq, true_and, and_true, exists_eq_left', exists_eq', exists_eq, exists_and_left, exists_and_right, and_assoc, bcase_t, bcase_f, cond_true, cond_false, StC_upd, nilO_some, List.setIfInBounds_toArray, List.set_cons_zero, List.set_cons_succ, List.size_toArray, List.length_cons, List.length_nil, Nat.reduceAdd, Nat.reduceLT, hb0]
        have c3 : ¬ (s.pats[x.toNat]).at_ < 0 := by omega
        simp only [c3, decide_false, cell_upd_same, cell_upd_ne, ne_eq, not_false_eq_true, List.getElem?_toArray, List.getElem?_cons_zero, List.getElem?_cons_succ, Option.some.injEq, Value.int.injEq, Value.slice.injEq, Value.bool.injEq, Value.pointer.injEq, Value.tuple.injEq, Array.mk.injEq, List.cons.injEq, true_and, and_true, exists_eq_left', exists_eq', exists_eq, exists_and_left, exists_and_right, and_assoc, bcase_t, bcase_f, cond_true, cond_false, StC_upd, nilO_some, List.setIfInBounds_toArray, List.set_cons_zero, List.set_cons_succ, List.size_toArray, List.length_cons, List.length_nil, Nat.reduceAdd, Nat.reduceLT]
        refine ⟨_, CallsA.mono (here_eq W _ b1 _ _ _ _ (hb3.le hle2)) (fun r m' h => h), ?_⟩
        have c4 : ¬ (s.pats[x.toNat]).at_ ≥ ((s.code.length : Nat) : Int) := by omega
        simp only [c4, decide_false, cell_upd_same, cell_upd_ne, ne_eq, not_false_eq_true, List.getElem?_toArray, List.getElem?_cons_zero, List.getElem?_cons_succ, Option.some.injEq, Value.int.injEq, Value.slice.injEq, Value.bool.injEq, Value.pointer.injEq, Value.tuple.injEq, Array.mk.injEq, List.cons.injEq, true_and, and_true, exists_eq_left', exists_eq', exists_eq, exists_and_left, exists_and_right, and_assoc, bcase_t, bcase_f, cond_true, cond_false, StC_upd, nilO_some, List.setIfInBounds_toArray, List.set_cons_zero, List.set_cons_succ, List.size_toArray, List.length_cons, List.length_nil, Nat.reduceAdd, Nat.reduceLT]
        have wx : IntKind.wrap .i64 (x + 1) = x + 1 := by rw [IntKind.wrap_i64]; omega
        have next : ∃ n', n' < n ∧ m3.le (m.upd b (.cells (s.pats[x.toNat]).cells.toArray 34)) ∧ 0 ≤ IntKind.wrap .i64 (x + 1) ∧ IntKind.wrap .i64 (x + 1) ≤ s.pats.length ∧ (n' : Int) = s.pats.length - IntKind.wrap .i64 (x + 1) := by
          rw [wx]; exact ⟨n - 1, by omega, hle2, by omega, by omega, by omega⟩
        by_cases c5 : x > 0
        · have wm : IntKind.wrap .i64 (x - 1) = x - 1 := by rw [IntKind.wrap_i64]; omega
          have hlt1 : (x - 1).toNat < s.pats.length := by omega
          have hq := Cells.at (f := Pat.cells) (sz := 3) (fun _ => rfl) (hc.le (AM.le_upd (AM.le_refl m) hmb (o := .cells (s.pats[x.toNat]).cells.toArray 34))) (List.getElem?_eq_getElem hlt1) (j := 0) (by omega)
          have hlt2 : (s.pats[(x - 1).toNat]).at_ < (s.pats[x.toNat]).at_ := (List.pairwise_iff_getElem.1 hP.2) _ _ _ _ (by omega)
          simp only [Nat.add_zero, Pat.cells, cell_upd_same, cell_upd_ne, ne_eq, not_false_eq_true, List.getElem?_toArray, List.getElem?_cons_zero, List.getElem?_cons_succ, Option.some.injEq, Value.int.injEq, Value.slice.injEq, Value.bool.injEq, Value.pointer.injEq, Value.tuple.injEq, Array.mk.injEq, List.cons.injEq, true_and, and_true, exists_eq_left', exists_eq', exists_eq, exists_and_left, exists_and_right, and_assoc, bcase_t, bcase_f, cond_true, cond_false, StC_upd, nilO_some, List.setIfInBounds_toArray, List.set_cons_zero, List.set_cons_succ, List.size_toArray, List.length_cons, List.length_nil, Nat.reduceAdd, Nat.reduceLT] at hq
          have c6 : ¬ (s.pats[(x - 1).toNat]).at_ ≥ (s.pats[x.toNat]).at_ := by omega
          simp only [c5, decide_true, cell_upd_same, cell_upd_ne, ne_eq, not_false_eq_true, List.getElem?_toArray, List.getElem?_cons_zero, List.getElem?_cons_succ, Option.some.injEq, Value.int.injEq, Value.slice.injEq, Value.bool.injEq, Value.pointer.injEq, Value.tuple.injEq, Array.mk.injEq, List.cons.injEq, true_and, and_true, exists_eq_left', exists_eq', exists_eq, exists_and_left, exists_and_right, and_assoc, bcase_t, bcase_f, cond_true, cond_false, StC_upd, nilO_some, List.setIfInBounds_toArray, List.set_cons_zero, List.set_cons_succ, List.size_toArray, List.length_cons, List.length_nil, Nat.reduceAdd, Nat.reduceLT, wm, hq, c6, decide_false]
          exact ⟨by omega, by omega, next⟩
        · simp only [c5, decide_false, cell_upd_same, cell_upd_ne, ne_eq, not_false_eq_true, List.getElem?_toArray, List.getElem?_cons_zero, List.getElem?_cons_succ, Option.some.injEq, Value.int.injEq, Value.slice.injEq, Value.bool.injEq, Value.pointer.injEq, Value.tuple.injEq, Array.mk.injEq, List.cons.injEq, true_and, and_true, exists_eq_left', exists_eq', exists_eq, exists_and_left, exists_and_right, and_assoc, bcase_t, bcase_f, cond_true, cond_false, StC_upd, nilO_some, List.setIfInBounds_toArray, List.set_cons_zero, List.set_cons_succ, List.size_toArray, List.length_cons, List.length_nil, Nat.reduceAdd, Nat.reduceLT]
          exact next
      · simp only [c1, decide_false, cell_upd_same, cell_upd_ne, ne_eq, not_false_eq_true, List.getElem?_toArray, List.getElem?_cons_zero, List.getElem?_cons_succ, Option.some.injEq, Value.int.injEq, Value.slice.injEq, Value.bool.injEq, Value.pointer.injEq, Value.tuple.injEq, Array.mk.injEq, List.cons.injEq, true_and, and_true, exists_eq_left', exists_eq', exists_eq, exists_and_left, exists_and_right, and_assoc, bcase_t, bcase_f, cond_true, cond_false, StC_upd, nilO_some, List.setIfInBounds_toArray, List.set_cons_zero, List.set_cons_succ, List.size_toArray, List.length_cons, List.length_nil, Nat.reduceAdd, Nat.reduceLT]
        exact hle
    · rintro σ m hle
      simp only [beq_self_eq_true, cell_upd_same, cell_upd_ne, ne_eq, not_false_eq_true, List.getElem?_toArray, List.getElem?_cons_zero, List.getElem?_cons_succ, Option.some.injEq, Value.int.injEq, Value.slice.injEq, Value.bool.injEq, Value.pointer.injEq, Value.tuple.injEq, Array.mk.injEq, List.cons.injEq, true_and, and_true, exists_eq_left', exists_eq', exists_eq, exists_and_left, exists_and_right, and_assoc, bcase_t, bcase_f, cond_true, cond_false, StC_upd, nilO_some, List.setIfInBounds_toArray, List.set_cons_zero, List.set_cons_succ, List.size_toArray, List.length_cons, List.length_nil, Nat.reduceAdd, Nat.reduceLT]
      refine CallsA.mono (code_spec W _ b1 _ _ _ _ (hb3.le hle) (by omega)) ?_
      rintro r m6 ⟨l6, A6, c6, rfl, _, _⟩
      simp only [cell_upd_same, cell_upd_ne, ne_eq, not_false_eq_true, List.getElem?_toArray, List.getElem?_cons_zero, List.getElem?_cons_succ, Option.some.injEq, Value.int.injEq, Value.slice.injEq, Value.bool.injEq, Value.pointer.injEq, Value.tuple.injEq, Array.mk.injEq, List.cons.injEq, true_and, and_true, exists_eq_left', exists_eq', exists_eq, exists_and_left, exists_and_right, and_assoc, bcase_t, bcase_f, cond_true, cond_false, StC_upd, nilO_some, List.setIfInBounds_toArray, List.set_cons_zero, List.set_cons_succ, List.size_toArray, List.length_cons, List.length_nil, Nat.reduceAdd, Nat.reduceLT]
      refine CallsA.mono (here_spec W _ b1 _ _ _ _ ((hb3.le hle).le l6)) ?_
      rintro r m7 ⟨rfl, l7⟩
      simp only [cell_upd_same, cell_upd_ne, ne_eq, not_false_eq_true, List.getElem?_toArray, List.getElem?_cons_zero, List.getElem?_cons_succ, Option.some.injEq, Value.int.injEq, Value.slice.injEq, Value.bool.injEq, Value.pointer.injEq, Value.tuple.injEq, Array.mk.injEq, List.cons.injEq, true_and, and_true, exists_eq_left', exists_eq', exists_eq, exists_and_left, exists_and_right, and_assoc, bcase_t, bcase_f, cond_true, cond_false, StC_upd, nilO_some, List.setIfInBounds_toArray, List.set_cons_zero, List.set_cons_succ, List.size_toArray, List.length_cons, List.length_nil, Nat.reduceAdd, Nat.reduceLT, beq_self_eq_true]
      refine CallsA.mono (awake_spec W _) ?_
      rintro r m9 rfl
      simp only [cell_upd_same, cell_upd_ne, ne_eq, not_false_eq_true, List.getElem?_toArray, List.getElem?_cons_zero, List.getElem?_cons_succ, Option.some.injEq, Value.int.injEq, Value.slice.injEq, Value.bool.injEq, Value.pointer.injEq, Value.tuple.injEq, Array.mk.injEq, List.cons.injEq, true_and, and_true, exists_eq_left', exists_eq', exists_eq, exists_and_left, exists_and_right, and_assoc, bcase_t, bcase_f, cond_true, cond_false, StC_upd, nilO_some, List.setIfInBounds_toArray, List.set_cons_zero, List.set_cons_succ, List.size_toArray, List.length_cons, List.length_nil, Nat.reduceAdd, Nat.reduceLT]
      exact retP_of rfl
end Go.Proofs.Ytijilloaggeepaa.S
