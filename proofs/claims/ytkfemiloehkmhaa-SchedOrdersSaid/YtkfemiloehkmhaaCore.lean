/- Ytkfemiloehkmhaa: a text of our own, by an AI agent: Core -/
/-
  A small logic of our own: what an operation, a region, a piece of code does to a PARTIAL VIEW of the heap.
-/
import Derived.WalkKit
namespace Go.Alog
open Go Go.RowKit

/-- A view of a part of the heap: the blocks that are known, each whole. -/
abbrev AM := Nat → Option Obj

def AM.cell (m : AM) (a : Addr) : Option Value :=
  match m a.block with
  | some (.cells c _ _) => if a.spot.isSome then none else c[a.off]?
  | _ => none

def AM.frozen (m : AM) (a : Addr) : Bool :=
  match m a.block with
  | some (.cells _ _ (lo, hi)) => lo ≤ a.off && a.off < hi
  | _ => false

def AM.upd (m : AM) (b : Nat) (o : Obj) : AM := fun x => if x = b then some o else m x

def AM.set (m : AM) (a : Addr) (v : Value) : AM :=
  match m a.block with
  | some (.cells c t f) => m.upd a.block (.cells (if a.spot.isSome then c else c.setIfInBounds a.off v) t f)
  | _ => m

def AM.le (m m' : AM) : Prop := ∀ b o, m b = some o → m' b = some o

def shapeOf : Obj → Option (TypeId × Nat)
  | .cells c e _ => some (e, c.size)
  | _ => none

def notCells : Obj → Prop
  | .cells .. => False
  | _ => True

structure Holds (w0 w : World) (m : AM) : Prop where
  below : Below w0.heap.size w0 w
  has : ∀ b o, m b = some o → w.heap[b]? = some o

theorem Holds.mono {w0 w : World} {m m' : AM} (h : Holds w0 w m) (hl : m'.le m) : Holds w0 w m' := ⟨h.below, fun b o hb => h.has b o (hl b o hb)⟩
theorem Holds.drawn {w0 w : World} {m : AM} (h : Holds w0 w m) (n : Nat) : Holds w0 { w with drawn := n } m := ⟨⟨h.below.os, h.below.tape, h.below.output, h.below.size, h.below.block⟩, h.has⟩

theorem Holds.cell {w0 w : World} {m : AM} (h : Holds w0 w m) {a : Addr} {v : Value} (hc : m.cell a = some v) : w.cell? a = some v := by
  unfold AM.cell at hc
  unfold World.cell?
  cases hm : m a.block with
  | none => rw [hm] at hc; cases hc
  | some o => rw [hm] at hc; rw [h.has _ _ hm]; exact hc

theorem Holds.frozen {w0 w : World} {m : AM} (h : Holds w0 w m) {a : Addr} {v : Value} (hc : m.cell a = some v) : w.frozen? a = m.frozen a := by
  unfold AM.cell at hc
  unfold World.frozen? AM.frozen
  cases hm : m a.block with
  | none => rw [hm] at hc; cases hc
  | some o => rw [h.has _ _ hm]; cases o <;> rfl

theorem heap_modify_get (w : World) (f : Obj → Obj) (b k : Nat) : ({ w with heap := w.heap.modify b f } : World).heap[k]? = if k = b then (w.heap[b]?).map f else w.heap[k]? := by
  show (w.heap.modify b f)[k]? = _
  rw [Array.getElem?_modify]
  by_cases h : b = k
  · subst h; simp
  · rw [if_neg h, if_neg (Ne.symm h)]

theorem Holds.set {w0 w : World} {m : AM} (h : Holds w0 w m) {a : Addr} (ha : w0.heap.size ≤ a.block) (v : Value) : Holds w0 (w.setCell a v) (m.set a v) := by
  refine ⟨h.below.setCell ha v, fun b o hb => ?_⟩
  unfold AM.set at hb
  unfold World.setCell
  rw [heap_modify_get]
  cases hm : m a.block with
  | none =>
    rw [hm] at hb
    by_cases hba : b = a.block
    · subst hba; exact absurd (hm.symm.trans hb) (by simp)
    · rw [if_neg hba]; exact h.has _ _ hb
  | some o' =>
    rw [hm] at hb
    have hw := h.has _ _ hm
    by_cases hba : b = a.block
    · subst hba
      rw [if_pos rfl, hw]
      cases o' <;> simp_all [AM.upd]
    · rw [if_neg hba]
      cases o' <;> simp [AM.upd, hba] at hb <;> exact h.has _ _ hb

theorem Holds.new {w0 w : World} {m : AM} (h : Holds w0 w m) (o : Obj) : Holds w0 { w with heap := w.heap.push o } (m.upd w.heap.size o) := by
  refine ⟨h.below.alloc (by exact h.below.size) o, fun b o' hb => ?_⟩
  unfold AM.upd at hb
  show (w.heap.push o)[b]? = _
  rw [Array.getElem?_push]
  by_cases hbs : b = w.heap.size
  · rw [if_pos hbs] at hb; rw [if_pos hbs]; exact hb
  · rw [if_neg hbs] at hb; rw [if_neg hbs]; exact h.has _ _ hb

theorem Holds.free {w0 w : World} {m : AM} (h : Holds w0 w m) : m w.heap.size = none := by
  cases hm : m w.heap.size with
  | none => rfl
  | some o =>
    have := h.has _ _ hm
    simp at this

theorem Holds.setObj {w0 w : World} {m : AM} (h : Holds w0 w m) {r : Nat} (hr : w0.heap.size ≤ r) {o' : Obj} (hm : m r = some o') (o : Obj) : Holds w0 { w with heap := w.heap.setIfInBounds r o } (m.upd r o) := by
  have hlt : r < w.heap.size := by have := h.has _ _ hm; exact (Array.getElem?_eq_some_iff.1 this).1
  refine ⟨⟨h.below.os, h.below.tape, h.below.output, by simpa using h.below.size, fun k hk => ?_⟩, fun b o1 hb => ?_⟩
  · show (w.heap.setIfInBounds r o)[k]? = _
    rw [Array.getElem?_setIfInBounds_ne (by omega)]
    exact h.below.block k hk
  · show (w.heap.setIfInBounds r o)[b]? = _
    unfold AM.upd at hb
    by_cases hbr : b = r
    · subst hbr
      rw [if_pos rfl] at hb
      injection hb with hb
      subst hb
      simp [hlt]
    · rw [if_neg hbr] at hb
      rw [Array.getElem?_setIfInBounds_ne (Ne.symm hbr)]
      exact h.has _ _ hb

/-- The weakest precondition of a run of the model's own instructions over a view of the heap; B: blocks below B are not the call's own and stay. -/
def awp (P : Program) (B : Nat) {α : Type} : Sem α → AM → (α → AM → Prop) → Prop
  | .pure x, m, K => K x m
  | .load _ a k, m, K => ∃ v, m.cell a = some v ∧ awp P B (k v) m K
  | .store _ a v k, m, K => v.oneCell' = true ∧ B ≤ a.block ∧ (∃ u, m.cell a = some u) ∧ m.frozen a = false ∧ awp P B k (m.set a v) K
  | .new o k, m, K => ∀ b, B ≤ b → m b = none → awp P B (k b) (m.upd b o) K
  | .shape r k, m, K => ∃ o, m r = some o ∧ awp P B (k (shapeOf o)) m K
  | .getObj r k, m, K => ∃ o, m r = some o ∧ notCells o ∧ awp P B (k o) m K
  | .setObj r o k, m, K => B ≤ r ∧ (∃ o', m r = some o' ∧ notCells o') ∧ awp P B k (m.upd r o) K
  | .frozen a k, m, K => (∃ o, m a.block = some o) ∧ awp P B (k (m.frozen a)) m K
  | .choose q k, m, K => (q.forced = true → awp P B (k 0) m K) ∧ (q.forced = false → ∀ t, awp P B (k (q.cut t)) m K)
  | .program k, m, K => awp P B (k P) m K
  | .mark _ k, m, K => awp P B k m K
  | .freeze .., _, _ => False
  | .sys .., _, _ => False
  | .halt _, _, _ => False

theorem oneCell_store {α : Type} (P : Program) (m : Mode) (a : Addr) (v : Value) (k : Sem α) (w : World) (hv : v.oneCell' = true) {u : Value} (hc : w.cell? a = some u) (hf : w.frozen? a = false) :
    (Sem.store m a v k).run P w = k.run P (w.setCell a v) := by
  cases v <;> first | (simp [Value.oneCell'] at hv; done) | simp [Sem.run, hc, hf]

theorem awp_run {P : Program} {w0 : World} {α : Type} (s : Sem α) : ∀ (w : World) (m : AM) (K : α → AM → Prop), Holds w0 w m → awp P w0.heap.size s m K →
    ∃ x w' m', s.run P w = .ok x w' ∧ Holds w0 w' m' ∧ K x m' := by
  induction s with
  | pure x => intro w m K h hk; exact ⟨x, w, m, rfl, h, hk⟩
  | load md a k ih =>
    intro w m K h hk
    obtain ⟨v, hc, hk⟩ := hk
    obtain ⟨x, w', m', hr, hh, hK⟩ := ih v w m K h hk
    exact ⟨x, w', m', by simp only [Sem.run, h.cell hc]; exact hr, hh, hK⟩
  | store md a v k ih =>
    intro w m K h hk
    obtain ⟨hv, hB, ⟨u, hc⟩, hf, hk⟩ := hk
    obtain ⟨x, w', m', hr, hh, hK⟩ := ih _ _ K (h.set hB v) hk
    refine ⟨x, w', m', ?_, hh, hK⟩
    rw [oneCell_store P md a v k w hv (h.cell hc) ((h.frozen hc).trans hf)]
    exact hr
  | new o k ih =>
    intro w m K h hk
    obtain ⟨x, w', m', hr, hh, hK⟩ := ih _ _ _ K (h.new o) (hk w.heap.size h.below.size h.free)
    exact ⟨x, w', m', by simp only [Sem.run]; exact hr, hh, hK⟩
  | shape r k ih =>
    intro w m K h hk
    obtain ⟨o, ho, hk⟩ := hk
    obtain ⟨x, w', m', hr, hh, hK⟩ := ih _ w m K h hk
    refine ⟨x, w', m', ?_, hh, hK⟩
    have : w.shape? r = shapeOf o := by unfold World.shape?; rw [h.has _ _ ho]; cases o <;> rfl
    simp only [Sem.run, this]; exact hr
  | freeze a n k ih => intro w m K h hk; exact hk.elim
  | frozen a k ih =>
    intro w m K h hk
    obtain ⟨⟨o, ho⟩, hk⟩ := hk
    obtain ⟨x, w', m', hr, hh, hK⟩ := ih _ w m K h hk
    refine ⟨x, w', m', ?_, hh, hK⟩
    have : w.frozen? a = m.frozen a := by unfold World.frozen? AM.frozen; rw [h.has _ _ ho, ho]; cases o <;> rfl
    simp only [Sem.run, this]; exact hr
  | getObj r k ih =>
    intro w m K h hk
    obtain ⟨o, ho, hn, hk⟩ := hk
    obtain ⟨x, w', m', hr, hh, hK⟩ := ih _ w m K h hk
    refine ⟨x, w', m', ?_, hh, hK⟩
    simp only [Sem.run, h.has _ _ ho]
    cases o <;> first | exact hr | exact hn.elim
  | setObj r o k ih =>
    intro w m K h hk
    obtain ⟨hB, ⟨o', ho, hn⟩, hk⟩ := hk
    obtain ⟨x, w', m', hr, hh, hK⟩ := ih _ _ K (h.setObj hB ho o) hk
    refine ⟨x, w', m', ?_, hh, hK⟩
    simp only [Sem.run, h.has _ _ ho]
    cases o' <;> first | exact hr | exact hn.elim
  | choose q k ih =>
    intro w m K h hk
    cases hq : q.forced with
    | true =>
      obtain ⟨x, w', m', hr, hh, hK⟩ := ih _ w m K h (hk.1 hq)
      exact ⟨x, w', m', by simp only [Sem.run, hq, if_true]; exact hr, hh, hK⟩
    | false =>
      obtain ⟨x, w', m', hr, hh, hK⟩ := ih _ { w with drawn := w.drawn + 1 } m K (h.drawn _) (hk.2 hq (w.tape w.drawn q))
      exact ⟨x, w', m', by simp only [Sem.run, hq, Bool.false_eq_true, if_false]; exact hr, hh, hK⟩
  | sys c k ih => intro w m K h hk; exact hk.elim
  | program k ih =>
    intro w m K h hk
    obtain ⟨x, w', m', hr, hh, hK⟩ := ih _ w m K h hk
    exact ⟨x, w', m', by simp only [Sem.run]; exact hr, hh, hK⟩
  | mark mk k ih =>
    intro w m K h hk
    obtain ⟨x, w', m', hr, hh, hK⟩ := ih w m K h hk
    exact ⟨x, w', m', by simp only [Sem.run]; exact hr, hh, hK⟩
  | halt hh => intro w m K h hk; exact hk.elim

theorem awp_mono {P : Program} {B : Nat} {α : Type} (s : Sem α) : ∀ (m : AM) (K K' : α → AM → Prop), (∀ x m', K x m' → K' x m') → awp P B s m K → awp P B s m K' := by
  induction s with
  | pure x => intro m K K' h hk; exact h _ _ hk
  | load md a k ih => intro m K K' h ⟨v, hc, hk⟩; exact ⟨v, hc, ih v m K K' h hk⟩
  | store md a v k ih => intro m K K' h ⟨h1, h2, h3, h4, hk⟩; exact ⟨h1, h2, h3, h4, ih _ K K' h hk⟩
  | new o k ih => intro m K K' h hk b hb hf; exact ih b _ K K' h (hk b hb hf)
  | shape r k ih => intro m K K' h ⟨o, ho, hk⟩; exact ⟨o, ho, ih _ m K K' h hk⟩
  | freeze a n k ih => intro m K K' h hk; exact hk.elim
  | frozen a k ih => intro m K K' h ⟨ho, hk⟩; exact ⟨ho, ih _ m K K' h hk⟩
  | getObj r k ih => intro m K K' h ⟨o, ho, hn, hk⟩; exact ⟨o, ho, hn, ih _ m K K' h hk⟩
  | setObj r o k ih => intro m K K' h ⟨h1, h2, hk⟩; exact ⟨h1, h2, ih _ K K' h hk⟩
  | choose q k ih => intro m K K' h ⟨h1, h2⟩; exact ⟨fun hq => ih _ m K K' h (h1 hq), fun hq t => ih _ m K K' h (h2 hq t)⟩
  | sys c k ih => intro m K K' h hk; exact hk.elim
  | program k ih => intro m K K' h hk; exact ih _ m K K' h hk
  | mark mk k ih => intro m K K' h hk; exact ih m K K' h hk
  | halt hh => intro m K K' h hk; exact hk.elim

theorem awp_bind {P : Program} {B : Nat} {α β : Type} (s : Sem α) (f : α → Sem β) : ∀ (m : AM) (K : β → AM → Prop), awp P B (s.bind f) m K ↔ awp P B s m (fun x m' => awp P B (f x) m' K) := by
  induction s with
  | pure x => intro m K; exact Iff.rfl
  | load md a k ih => intro m K; simp only [Sem.bind, awp, ih]
  | store md a v k ih => intro m K; simp only [Sem.bind, awp, ih]
  | new o k ih => intro m K; simp only [Sem.bind, awp, ih]
  | shape r k ih => intro m K; simp only [Sem.bind, awp, ih]
  | freeze a n k ih => intro m K; simp only [Sem.bind, awp]
  | frozen a k ih => intro m K; simp only [Sem.bind, awp, ih]
  | getObj r k ih => intro m K; simp only [Sem.bind, awp, ih]
  | setObj r o k ih => intro m K; simp only [Sem.bind, awp, ih]
  | choose q k ih => intro m K; simp only [Sem.bind, awp, ih]
  | sys c k ih => intro m K; simp only [Sem.bind, awp]
  | program k ih => intro m K; simp only [Sem.bind, awp, ih]
  | mark mk k ih => intro m K; simp only [Sem.bind, awp, ih]
  | halt hh => intro m K; simp only [Sem.bind, awp]

/-- What an instruction yields that looks at no memory at all. -/
def pval (P : Program) {α : Type} : Sem α → Option α
  | .pure x => some x
  | .program k => pval P (k P)
  | .mark _ k => pval P k
  | _ => none

/-- What an instruction yields that only reads. -/
def rval (P : Program) (m : AM) {α : Type} : Sem α → Option α
  | .pure x => some x
  | .program k => rval P m (k P)
  | .mark _ k => rval P m k
  | .load _ a k => match m.cell a with | some v => rval P m (k v) | none => none
  | .shape r k => match m r with | some o => rval P m (k (shapeOf o)) | none => none
  | .getObj r k => match m r with | some (.cells ..) => none | some o => rval P m (k o) | none => none
  | _ => none

theorem pval_run {P : Program} {α : Type} (s : Sem α) : ∀ {x : α}, pval P s = some x → ∀ w, s.run P w = .ok x w := by
  induction s with
  | pure x => intro y h w; injection h with h; subst h; rfl
  | program k ih => intro y h w; exact ih _ h w
  | mark mk k ih => intro y h w; exact ih h w
  | _ => intros; simp_all [pval]

theorem rval_run {P : Program} {w0 w : World} {m : AM} (hh : Holds w0 w m) {α : Type} (s : Sem α) : ∀ {x : α}, rval P m s = some x → s.run P w = .ok x w := by
  induction s with
  | pure x => intro y h; injection h with h; subst h; rfl
  | program k ih => intro y h; exact ih _ h
  | mark mk k ih => intro y h; exact ih h
  | load md a k ih =>
    intro y h
    unfold rval at h
    cases hc : m.cell a with
    | none => rw [hc] at h; cases h
    | some v => rw [hc] at h; simp only [Sem.run, hh.cell hc]; exact ih v h
  | shape r k ih =>
    intro y h
    unfold rval at h
    cases hc : m r with
    | none => rw [hc] at h; cases h
    | some o =>
      rw [hc] at h
      have : w.shape? r = shapeOf o := by unfold World.shape?; rw [hh.has _ _ hc]; cases o <;> rfl
      simp only [Sem.run, this]; exact ih _ h
  | getObj r k ih =>
    intro y h
    unfold rval at h
    cases hc : m r with
    | none => rw [hc] at h; cases h
    | some o =>
      rw [hc] at h
      simp only [Sem.run, hh.has _ _ hc]
      cases o <;> first | exact ih _ h | (simp at h)
  | _ => intros; simp_all [rval]


/-! ### Views that can be met -/
def Sat (w0 : World) (m : AM) : Prop := (∃ N, ∀ b, N ≤ b → m b = none) ∧ ∀ b o, b < w0.heap.size → m b = some o → w0.heap[b]? = some o

theorem Holds.sat {w0 w : World} {m : AM} (h : Holds w0 w m) : Sat w0 m := by
  refine ⟨⟨w.heap.size, fun b hb => ?_⟩, fun b o hb ho => ?_⟩
  · cases hm : m b with
    | none => rfl
    | some o =>
      have := h.has _ _ hm
      rw [Array.getElem?_eq_none hb] at this
      cases this
  · rw [← h.below.block b hb]; exact h.has _ _ ho

theorem Sat.upd {w0 : World} {m : AM} (h : Sat w0 m) {b : Nat} (hb : w0.heap.size ≤ b) (o : Obj) : Sat w0 (m.upd b o) := by
  obtain ⟨⟨N, hN⟩, h2⟩ := h
  refine ⟨⟨max N (b + 1), fun x hx => ?_⟩, fun x o' hx ho => ?_⟩
  · unfold AM.upd; rw [if_neg (by omega)]; exact hN x (by omega)
  · unfold AM.upd at ho; rw [if_neg (by omega)] at ho; exact h2 x o' hx ho

theorem Sat.set {w0 : World} {m : AM} (h : Sat w0 m) {a : Addr} (hb : w0.heap.size ≤ a.block) (v : Value) : Sat w0 (m.set a v) := by
  unfold AM.set
  split
  · exact h.upd hb _
  · exact h

theorem Sat.free {w0 : World} {m : AM} (h : Sat w0 m) : ∃ b, w0.heap.size ≤ b ∧ m b = none := by
  obtain ⟨⟨N, hN⟩, _⟩ := h
  exact ⟨max N w0.heap.size, by omega, hN _ (by omega)⟩

theorem Sat.world {w0 : World} {m : AM} (h : Sat w0 m) : ∃ w, Holds w0 w m := by
  obtain ⟨⟨N, hN⟩, h2⟩ := h
  let f : Nat → Obj := fun b => match m b with | some o => o | none => (w0.heap[b]?).getD default
  refine ⟨{ w0 with heap := ((List.range (max N w0.heap.size)).map f).toArray }, ⟨rfl, rfl, rfl, by simp; omega, fun k hk => ?_⟩, fun b o hb => ?_⟩
  · show (((List.range (max N w0.heap.size)).map f).toArray)[k]? = _
    simp only [List.getElem?_toArray, List.getElem?_map, List.getElem?_range (show k < max N w0.heap.size by omega), Option.map_some]
    have : f k = w0.heap[k] := by
      show (match m k with | some o => o | none => (w0.heap[k]?).getD default) = _
      cases hm : m k with
      | none => simp [hk]
      | some o => have := h2 k o hk hm; simp [hk] at this; exact this.symm
    rw [this]; simp [hk]
  · show (((List.range (max N w0.heap.size)).map f).toArray)[b]? = _
    have hbN : b < N := by
      rcases Nat.lt_or_ge b N with h | h
      · exact h
      · rw [hN b h] at hb; cases hb
    simp only [List.getElem?_toArray, List.getElem?_map, List.getElem?_range (show b < max N w0.heap.size by omega), Option.map_some]
    show some (match m b with | some o => o | none => (w0.heap[b]?).getD default) = _
    rw [hb]

theorem awp_mono_sat {P : Program} {w0 : World} {α : Type} (s : Sem α) : ∀ (m : AM) (K K' : α → AM → Prop), Sat w0 m → (∀ x m', Sat w0 m' → K x m' → K' x m') → awp P w0.heap.size s m K → awp P w0.heap.size s m K' := by
  induction s with
  | pure x => intro m K K' hs h hk; exact h _ _ hs hk
  | load md a k ih => intro m K K' hs h ⟨v, hc, hk⟩; exact ⟨v, hc, ih v m K K' hs h hk⟩
  | store md a v k ih => intro m K K' hs h ⟨h1, h2, h3, h4, hk⟩; exact ⟨h1, h2, h3, h4, ih _ K K' (hs.set h2 v) h hk⟩
  | new o k ih => intro m K K' hs h hk b hb hf; exact ih b _ K K' (hs.upd hb o) h (hk b hb hf)
  | shape r k ih => intro m K K' hs h ⟨o, ho, hk⟩; exact ⟨o, ho, ih _ m K K' hs h hk⟩
  | freeze a n k ih => intro m K K' hs h hk; exact hk.elim
  | frozen a k ih => intro m K K' hs h ⟨ho, hk⟩; exact ⟨ho, ih _ m K K' hs h hk⟩
  | getObj r k ih => intro m K K' hs h ⟨o, ho, hn, hk⟩; exact ⟨o, ho, hn, ih _ m K K' hs h hk⟩
  | setObj r o k ih => intro m K K' hs h ⟨h1, h2, hk⟩; exact ⟨h1, h2, ih _ K K' (hs.upd h1 o) h hk⟩
  | choose q k ih => intro m K K' hs h ⟨h1, h2⟩; exact ⟨fun hq => ih _ m K K' hs h (h1 hq), fun hq t => ih _ m K K' hs h (h2 hq t)⟩
  | sys c k ih => intro m K K' hs h hk; exact hk.elim
  | program k ih => intro m K K' hs h hk; exact ih _ m K K' hs h hk
  | mark mk k ih => intro m K K' hs h hk; exact ih m K K' hs h hk
  | halt hh => intro m K K' hs h hk; exact hk.elim

/-- A call, over every world that meets the view: it returns; what it returns and the view that then holds meet R. -/
def CallsA (P : Program) (w0 : World) (f : FuncId) (args : Array Value) (m : AM) (R : Value → AM → Prop) : Prop :=
  ∀ w, Holds w0 w m → Calls P f args w (fun e w' => ∃ r m', e = .returned r ∧ Holds w0 w' m' ∧ R r m')

theorem CallsA.mono_sat {P : Program} {w0 : World} {f : FuncId} {args : Array Value} {m : AM} {R R' : Value → AM → Prop} (h : CallsA P w0 f args m R) (hr : ∀ r m', Sat w0 m' → R r m' → R' r m') : CallsA P w0 f args m R' :=
  fun w hw => (h w hw).mono fun _ _ ⟨r, m', he, hh, hR⟩ => ⟨r, m', he, hh, hr r m' hh.sat hR⟩

theorem CallsA.mono {P : Program} {w0 : World} {f : FuncId} {args : Array Value} {m : AM} {R R' : Value → AM → Prop} (h : CallsA P w0 f args m R) (hr : ∀ r m', R r m' → R' r m') : CallsA P w0 f args m R' :=
  h.mono_sat fun r m' _ => hr r m'

theorem CallsA.nonvac {P : Program} {w0 : World} {f : FuncId} {args : Array Value} {m : AM} {C : Prop} (hs : Sat w0 m) (h : CallsA P w0 f args m (fun _ _ => C)) : C := by
  obtain ⟨w, hw⟩ := hs.world
  obtain ⟨e, w', fr, ⟨r, m', _, _, hC⟩, _⟩ := h w hw []
  exact hC

def nextVal : Next → Option Value
  | .value v => some v
  | .skip => some undef
  | _ => none

/-- What follows an operation's run: the value, or the call. -/
def cont (P : Program) (w0 : World) (K : Value → AM → Prop) : Next → AM → Prop
  | .value v, m => K v m
  | .skip, m => K undef m
  | .enter f args, m => CallsA P w0 f args m K
  | _, _ => False

/-- A value that an operation surely yields, without turning the view: class 0 looks at no memory; class 1 only reads (or calls what leaves the view as it is). -/
def Y (P : Program) (w0 : World) : Nat → Sem Next → AM → Value → Prop
  | 0, s, _, v => (pval P s).bind nextVal = some v
  | 1, s, m, v => (rval P m s).bind nextVal = some v
  | _, s, m, v => (rval P m s).bind nextVal = some v ∨ ∃ f args, rval P m s = some (.enter f args) ∧ CallsA P w0 f args m (fun r m' => r = v ∧ m' = m)

/-- An operation by its class. -/
def OpA (P : Program) (w0 : World) (c : Nat) (s : Sem Next) (m : AM) (K : Value → AM → Prop) : Prop :=
  match c with
  | 0 => ∃ v, Y P w0 0 s m v ∧ K v m
  | 1 => ∃ v, Y P w0 1 s m v ∧ K v m
  | 2 => ∃ v, Y P w0 2 s m v ∧ K v m
  | 3 => awp P w0.heap.size s m (cont P w0 K)
  | _ => awp P w0.heap.size s m (cont P w0 (fun v m' => m.le m' ∧ K v m'))

def GOp (P : Program) (w0 : World) (c : Nat) (ops : Array Oper) (o : Oper) (a : Act) (m : AM) (K : Value → AM → Prop) : Prop :=
  (Region.wanted o (yielded ops a.tmps) = true → OpA P w0 c (execOp a.eval o) m K) ∧ (Region.wanted o (yielded ops a.tmps) = false → K undef m)

section
variable {P : Program} {w0 : World}

theorem cont_mono_sat {K K' : Value → AM → Prop} (h : ∀ v m', Sat w0 m' → K v m' → K' v m') (n : Next) (m : AM) (hs : Sat w0 m) (hk : cont P w0 K n m) : cont P w0 K' n m := by
  cases n <;> first | exact h _ _ hs hk | exact CallsA.mono_sat hk h | exact hk

theorem OpA_mono_sat {c : Nat} {s : Sem Next} {m : AM} {K K' : Value → AM → Prop} (hs : Sat w0 m) (h : ∀ v m', Sat w0 m' → K v m' → K' v m') (hk : OpA P w0 c s m K) : OpA P w0 c s m K' := by
  match c, hk with
  | 0, ⟨v, hy, hK⟩ => exact ⟨v, hy, h _ _ hs hK⟩
  | 1, ⟨v, hy, hK⟩ => exact ⟨v, hy, h _ _ hs hK⟩
  | 2, ⟨v, hy, hK⟩ => exact ⟨v, hy, h _ _ hs hK⟩
  | 3, hk => exact awp_mono_sat s m _ _ hs (fun x m' hs' hx => cont_mono_sat h x m' hs' hx) hk
  | n + 4, hk => exact awp_mono_sat s m _ _ hs (fun x m' hs' hx => cont_mono_sat (fun v m'' hs'' hv => ⟨hv.1, h v m'' hs'' hv.2⟩) x m' hs' hx) hk

theorem GOp_mono_sat {c : Nat} {ops : Array Oper} {o : Oper} {a : Act} {m : AM} {K K' : Value → AM → Prop} (hs : Sat w0 m) (h : ∀ v m', Sat w0 m' → K v m' → K' v m') (hk : GOp P w0 c ops o a m K) : GOp P w0 c ops o a m K' :=
  ⟨fun hw => OpA_mono_sat hs h (hk.1 hw), fun hw => h _ _ hs (hk.2 hw)⟩

theorem cont_mono {K K' : Value → AM → Prop} (h : ∀ v m', K v m' → K' v m') (n : Next) (m : AM) (hk : cont P w0 K n m) : cont P w0 K' n m := by
  cases n <;> first | exact h _ _ hk | exact CallsA.mono hk h | exact hk

theorem OpA_mono {c : Nat} {s : Sem Next} {m : AM} {K K' : Value → AM → Prop} (h : ∀ v m', K v m' → K' v m') (hk : OpA P w0 c s m K) : OpA P w0 c s m K' := by
  match c, hk with
  | 0, ⟨v, hy, hK⟩ => exact ⟨v, hy, h _ _ hK⟩
  | 1, ⟨v, hy, hK⟩ => exact ⟨v, hy, h _ _ hK⟩
  | 2, ⟨v, hy, hK⟩ => exact ⟨v, hy, h _ _ hK⟩
  | 3, hk => exact awp_mono s m _ _ (fun x m' hx => cont_mono h x m' hx) hk
  | n + 4, hk => exact awp_mono s m _ _ (fun x m' hx => cont_mono (fun v m'' hv => ⟨hv.1, h v m'' hv.2⟩) x m' hx) hk

theorem GOp_mono {c : Nat} {ops : Array Oper} {o : Oper} {a : Act} {m : AM} {K K' : Value → AM → Prop} (h : ∀ v m', K v m' → K' v m') (hk : GOp P w0 c ops o a m K) : GOp P w0 c ops o a m K' :=
  ⟨fun hw => OpA_mono h (hk.1 hw), fun hw => h _ _ (hk.2 hw)⟩

theorem awp_nonvac {α : Type} (s : Sem α) : ∀ {m : AM} {C : Prop} (K : α → AM → Prop), Sat w0 m → (∀ x m', Sat w0 m' → K x m' → C) → awp P w0.heap.size s m K → C := by
  intro m C K hs h hk
  obtain ⟨w, hw⟩ := hs.world
  obtain ⟨x, w', m', _, hh, hK⟩ := awp_run s w m K hw hk
  exact h x m' hh.sat hK

theorem OpA_nonvac {c : Nat} {s : Sem Next} {m : AM} {C : Prop} (hs : Sat w0 m) (hk : OpA P w0 c s m (fun _ _ => C)) : C := by
  match c, hk with
  | 0, ⟨v, hy, hK⟩ => exact hK
  | 1, ⟨v, hy, hK⟩ => exact hK
  | 2, ⟨v, hy, hK⟩ => exact hK
  | 3, hk =>
    refine awp_nonvac s _ hs (fun x m' hs' hx => ?_) hk
    cases x <;> first | exact hx | exact CallsA.nonvac hs' hx | exact hx.elim
  | n + 4, hk =>
    refine awp_nonvac s _ hs (fun x m' hs' hx => ?_) hk
    cases x <;> first | exact hx.2 | exact CallsA.nonvac hs' (CallsA.mono hx fun _ _ h => h.2) | exact hx.elim

theorem GOp_nonvac {c : Nat} {ops : Array Oper} {o : Oper} {a : Act} {m : AM} {C : Prop} (hs : Sat w0 m) (hk : GOp P w0 c ops o a m (fun _ _ => C)) : C := by
  cases hw : Region.wanted o (yielded ops a.tmps) with
  | true => exact OpA_nonvac hs (hk.1 hw)
  | false => exact hk.2 hw

/-- An operation of class 0 or 1 with its guard. -/
def YG (P : Program) (w0 : World) (c : Nat) (ops : Array Oper) (o : Oper) (a : Act) (m : AM) (v : Value) : Prop :=
  (Region.wanted o (yielded ops a.tmps) = true → Y P w0 c (execOp a.eval o) m v) ∧ (Region.wanted o (yielded ops a.tmps) = false → v = undef)

theorem GOp_low {c : Nat} (hc : c ≤ 2) {ops : Array Oper} {o : Oper} {a : Act} {m : AM} {K : Value → AM → Prop} : GOp P w0 c ops o a m K ↔ ∃ v, YG P w0 c ops o a m v ∧ K v m := by
  have hO : ∀ s, OpA P w0 c s m K ↔ ∃ v, Y P w0 c s m v ∧ K v m := fun s => by
    match c, hc with
    | 0, _ => exact Iff.rfl
    | 1, _ => exact Iff.rfl
    | 2, _ => exact Iff.rfl
  unfold GOp YG
  rw [hO]
  cases Region.wanted o (yielded ops a.tmps) with
  | true => simp
  | false => simp

theorem YG_zero_any {ops : Array Oper} {o : Oper} {a : Act} {m m' : AM} {v : Value} (h : YG P w0 0 ops o a m v) : YG P w0 0 ops o a m' v := h

theorem YG_zero_det {ops : Array Oper} {o : Oper} {a : Act} {m m' : AM} {v v' : Value} (h : YG P w0 0 ops o a m v) (h' : YG P w0 0 ops o a m' v') : v = v' := by
  cases hw : Region.wanted o (yielded ops a.tmps) with
  | true =>
    have e1 : (pval P (execOp a.eval o)).bind nextVal = some v := h.1 hw
    have e2 : (pval P (execOp a.eval o)).bind nextVal = some v' := h'.1 hw
    rw [e1] at e2; injection e2
  | false => rw [h.2 hw, h'.2 hw]

def classOK (c d : Nat) : Bool := c == 0 || d == 0 || (c ≤ 2 && d ≤ 2) || (c == 1 && d ≥ 4)

theorem rval_mono {m m' : AM} (hl : m.le m') {α : Type} (s : Sem α) : ∀ {x : α}, rval P m s = some x → rval P m' s = some x := by
  induction s with
  | pure x => intro y h; exact h
  | program k ih => intro y h; exact ih _ h
  | mark mk k ih => intro y h; exact ih h
  | load md a k ih =>
    intro y h
    unfold rval at h ⊢
    cases hc : m.cell a with
    | none => rw [hc] at h; cases h
    | some v =>
      have : m'.cell a = some v := by
        unfold AM.cell at hc ⊢
        cases hm : m a.block with
        | none => rw [hm] at hc; cases hc
        | some o => rw [hm] at hc; rw [hl _ _ hm]; exact hc
      rw [hc] at h; rw [this]; exact ih v h
  | shape r k ih =>
    intro y h
    unfold rval at h ⊢
    cases hc : m r with
    | none => rw [hc] at h; cases h
    | some o => rw [hc] at h; rw [hl _ _ hc]; exact ih _ h
  | getObj r k ih =>
    intro y h
    unfold rval at h ⊢
    cases hc : m r with
    | none => rw [hc] at h; cases h
    | some o =>
      rw [hc] at h; rw [hl _ _ hc]
      cases o <;> first | exact ih _ h | (simp at h)
  | _ => intros; simp_all [rval]

/-- Two operations whose operands are fixed, changed about. -/
theorem swapA {ck cj : Nat} {ops : Array Oper} {k j : Oper} {a : Act} {m : AM} (hs : Sat w0 m) (hc : classOK ck cj = true) {K : Value → Value → AM → Prop}
    (h : GOp P w0 ck ops k a m (fun vk m1 => GOp P w0 cj ops j a m1 (fun vj m2 => K vk vj m2))) :
    GOp P w0 cj ops j a m (fun vj m1 => GOp P w0 ck ops k a m1 (fun vk m2 => K vk vj m2)) := by
  rcases Nat.lt_or_ge 2 ck with hck | hck
  · -- k acts: j looks at nothing
    have hcj : cj = 0 := by simp [classOK] at hc; omega
    subst hcj
    have h0 : ∃ vj, YG P w0 0 ops j a m vj := by
      refine GOp_nonvac hs (GOp_mono (fun vk m1 h1 => ?_) h)
      obtain ⟨vj, hy, _⟩ := (GOp_low (by omega)).1 h1
      exact ⟨vj, YG_zero_any hy⟩
    obtain ⟨vj, hy⟩ := h0
    refine (GOp_low (by omega)).2 ⟨vj, hy, GOp_mono (fun vk m1 h1 => ?_) h⟩
    obtain ⟨vj', hy', hK⟩ := (GOp_low (by omega)).1 h1
    have := YG_zero_det hy hy'
    subst this
    exact hK
  · obtain ⟨vk, hyk, h1⟩ := (GOp_low hck).1 h
    rcases Nat.lt_or_ge 2 cj with hcj | hcj
    · have h3 : ck = 0 ∨ (ck = 1 ∧ 4 ≤ cj) := by simp [classOK] at hc; omega
      rcases h3 with rfl | ⟨rfl, hcj4⟩
      · exact GOp_mono (fun vj m1 hK => (GOp_low (by omega)).2 ⟨vk, YG_zero_any hyk, hK⟩) h1
      · have up : ∀ m1, m.le m1 → YG P w0 1 ops k a m1 vk := fun m1 hl => ⟨fun hw => by
            have e : (rval P m (execOp a.eval k)).bind nextVal = some vk := hyk.1 hw
            show (rval P m1 (execOp a.eval k)).bind nextVal = some vk
            cases hr : rval P m (execOp a.eval k) with
            | none => rw [hr] at e; cases e
            | some x => rw [rval_mono hl _ hr]; rw [hr] at e; exact e, hyk.2⟩
        refine ⟨fun hw => ?_, fun hw => ?_⟩
        · have h2 := h1.1 hw
          obtain ⟨n, rfl⟩ : ∃ n, cj = n + 4 := ⟨cj - 4, by omega⟩
          refine awp_mono _ _ _ _ (fun x m1 hx => cont_mono (fun v m2 hv => ⟨hv.1, ?_⟩) x m1 hx) h2
          exact (GOp_low (by omega)).2 ⟨vk, up m2 hv.1, hv.2⟩
        · exact (GOp_low (by omega)).2 ⟨vk, hyk, h1.2 hw⟩
    · obtain ⟨vj, hyj, hK⟩ := (GOp_low hcj).1 h1
      exact (GOp_low hcj).2 ⟨vj, hyj, (GOp_low hck).2 ⟨vk, hyk, hK⟩⟩

theorem GOp_put {c : Nat} {ops : Array Oper} {o : Oper} (hs : ∀ cs b, o.op ≠ .select cs b) {a : Act} {d : Option Tmp} {u : Value} (hd : ∀ t, d = some t → t ∉ o.looksAt ops) {m : AM} {K : Value → AM → Prop} :
    GOp P w0 c ops o (a.put d u) m K = GOp P w0 c ops o a m K := by
  unfold GOp
  rw [execOp_put o hs a d u hd, wanted_put o a d u hd]

/-- In any order that the edges allow. -/
def VAny (P : Program) (w0 : World) (cls : Nat → Nat) (md : Region.Mode) (ops : Array Oper) (Q : Act → AM → Prop) : Nat → Array Bool → Act → AM → Prop
  | 0, listed, a, m => Region.ready md ops listed = [] ∧ Q a m
  | fuel + 1, listed, a, m =>
    (Region.ready md ops listed = [] → Q a m) ∧
    ∀ i o, i ∈ Region.ready md ops listed → ops[i]? = some o → GOp P w0 (cls i) ops o a m (fun v m' => VAny P w0 cls md ops Q fuel (listed.setIfInBounds i true) (a.put o.dst v) m')

theorem upon_of_awp {o : Oper} {a : Act} {w : World} {m : AM} (hh : Holds w0 w m) {K : Value → AM → Prop} {K' : Act → World → Prop} {Q : Exit → Act → World → Prop}
    (hK : ∀ v m' w', Holds w0 w' m' → K v m' → K' (a.put o.dst v) w') (h : awp P w0.heap.size (execOp a.eval o) m (cont P w0 K)) : o.wp P a w K' Q := by
  obtain ⟨x, w', m', hr, hh', hc⟩ := awp_run _ w m _ hh h
  unfold Oper.wp
  rw [hr]
  cases x <;> first
    | exact hK _ _ _ hh' hc
    | exact hc.elim
    | (simp only [Oper.upon]; exact (hc w' hh').mono fun e w'' ⟨r, m'', he, hh'', hR⟩ => by subst he; exact hK _ _ _ hh'' hR)

theorem wp_of_GOp {c : Nat} {ops : Array Oper} {i : Nat} {o : Oper} (hi : ops[i]? = some o) {a : Act} {w : World} {m : AM} (hh : Holds w0 w m) {K : Value → AM → Prop} {K' : Act → World → Prop} {Q : Exit → Act → World → Prop}
    (hK : ∀ v m' w', Holds w0 w' m' → K v m' → K' (a.put o.dst v) w') (h : GOp P w0 c ops o a m K) : wpOp P ops Q i K' a w := by
  unfold wpOp
  simp only [hi]
  cases hw : Region.wanted o (yielded ops a.tmps) with
  | false => simp only [Bool.false_eq_true, if_false]; exact hK _ _ _ hh (h.2 hw)
  | true =>
    simp only [if_true]
    refine .inl ?_
    have h1 := h.1 hw
    match c, h1 with
    | 0, ⟨v, hy, hk⟩ =>
      have hy : (pval P (execOp a.eval o)).bind nextVal = some v := hy
      unfold Oper.wp
      cases hp : pval P (execOp a.eval o) with
      | none => rw [hp] at hy; cases hy
      | some x =>
        rw [hp] at hy
        rw [pval_run _ hp w]
        cases x <;> simp [nextVal] at hy <;> (subst hy; exact hK _ _ _ hh hk)
    | 1, ⟨v, hy, hk⟩ =>
      have hy : (rval P m (execOp a.eval o)).bind nextVal = some v := hy
      unfold Oper.wp
      cases hp : rval P m (execOp a.eval o) with
      | none => rw [hp] at hy; cases hy
      | some x =>
        rw [hp] at hy
        rw [rval_run hh _ hp]
        cases x <;> simp [nextVal] at hy <;> (subst hy; exact hK _ _ _ hh hk)
    | 2, ⟨v, hy, hk⟩ =>
      unfold Oper.wp
      rcases hy with hy | ⟨f, args, hr, hcall⟩
      · cases hp : rval P m (execOp a.eval o) with
        | none => rw [hp] at hy; cases hy
        | some x =>
          rw [hp] at hy
          rw [rval_run hh _ hp]
          cases x <;> simp [nextVal] at hy <;> (subst hy; exact hK _ _ _ hh hk)
      · rw [rval_run hh _ hr]
        simp only [Oper.upon]
        exact (hcall w hh).mono fun e w'' ⟨r, m'', he, hh'', hr, hm⟩ => by subst he; subst hr; subst hm; exact hK _ _ _ hh'' hk
    | 3, h1 => exact upon_of_awp hh hK h1
    | n + 4, h1 => exact upon_of_awp hh (fun v m' w' hh' hv => hK v m' w' hh' hv.2) h1

theorem wpAny_of_VAny {cls : Nat → Nat} {md : Region.Mode} {ops : Array Oper} {Q : Act → AM → Prop} {Q' : Exit → Act → World → Prop} (hQ : ∀ a m w, Holds w0 w m → Q a m → Q' .normal a w) :
    ∀ (fuel : Nat) (listed : Array Bool) (a : Act) (w : World) (m : AM), Holds w0 w m → VAny P w0 cls md ops Q fuel listed a m → wpAny P md ops Q' fuel listed a w
  | 0, _, _, _, _, hh, h => ⟨h.1, hQ _ _ _ hh h.2⟩
  | fuel + 1, listed, a, w, m, hh, h => ⟨fun h0 => hQ _ _ _ hh (h.1 h0), fun i hi => by
      obtain ⟨_, o, ho, _⟩ := mem_ready.1 hi
      exact wp_of_GOp ho hh (fun v m' w' hh' hv => wpAny_of_VAny hQ fuel _ _ _ _ hh' hv) (h.2 i o hi ho)⟩

theorem getD_both {listed : Array Bool} {i : Nat} (h : listed.getD i true = false) : listed.getD i false = false := by
  rcases Nat.lt_or_ge i listed.size with h' | h'
  · simp [h'] at h ⊢; exact h
  · simp [Array.getElem?_eq_none h'] at h

def Closed (md : Region.Mode) (ops : Array Oper) (listed : Array Bool) : Prop :=
  ∀ j oj, ops[j]? = some oj → listed.getD j false = true → ∀ e ∈ oj.after, Region.binds md e = true → listed.getD e.on false = true

def predsOf (md : Region.Mode) (o : Oper) : List Nat := o.after.toList.filterMap fun e => if Region.binds md e then some e.on else none

def depOk (md : Region.Mode) (ops : Array Oper) (D : List (List Nat)) : Bool :=
  (List.range ops.size).all fun j => (D.getD j []).all fun x =>
    match ops[j]? with
    | some o => (predsOf md o).contains x || (predsOf md o).any fun p => decide (p < j) && (D.getD p []).contains x
    | none => false

theorem mem_predsOf {md : Region.Mode} {o : Oper} {x : Nat} (h : x ∈ predsOf md o) : ∃ e ∈ o.after, Region.binds md e = true ∧ e.on = x := by
  unfold predsOf at h
  obtain ⟨e, he, h2⟩ := List.mem_filterMap.1 h
  refine ⟨e, by simpa using he, ?_⟩
  by_cases hb : Region.binds md e = true
  · rw [if_pos hb] at h2; injection h2 with h2; exact ⟨hb, h2⟩
  · rw [if_neg hb] at h2; cases h2

theorem dep_listed {md : Region.Mode} {ops : Array Oper} {D : List (List Nat)} (hD : depOk md ops D = true) {listed : Array Bool} (hc : Closed md ops listed) :
    ∀ (n j : Nat), j = n → j < ops.size → (∀ oj, ops[j]? = some oj → ∀ e ∈ oj.after, Region.binds md e = true → listed.getD e.on false = true) → ∀ x ∈ D.getD j [], listed.getD x false = true := by
  intro n
  induction n using Nat.strongRecOn with
  | _ n ih =>
    intro j hj hlt hall x hx
    subst hj
    have h1 := List.all_eq_true.1 hD j (List.mem_range.2 hlt)
    have h2 := List.all_eq_true.1 h1 x hx
    cases ho : ops[j]? with
    | none => rw [ho] at h2; cases h2
    | some o =>
      rw [ho] at h2
      simp only [Bool.or_eq_true] at h2
      rcases h2 with h2 | h2
      · obtain ⟨e, he, hb, hon⟩ := mem_predsOf (List.contains_iff_mem.1 h2)
        have := hall o ho e he hb
        rw [hon] at this
        exact this
      · obtain ⟨p, hp, h3⟩ := List.any_eq_true.1 h2
        simp only [Bool.and_eq_true, decide_eq_true_eq] at h3
        obtain ⟨e, he, hb, hon⟩ := mem_predsOf hp
        have hpl := hall o ho e he hb
        rw [hon] at hpl
        exact ih p h3.1 p rfl (by omega) (fun op hop e' he' hb' => hc p op hop hpl e' he' hb') x (List.contains_iff_mem.1 h3.2)

theorem Closed.set {md : Region.Mode} {ops : Array Oper} {listed : Array Bool} (hc : Closed md ops listed) {i : Nat} (hi : i ∈ Region.ready md ops listed) : Closed md ops (listed.setIfInBounds i true) := by
  obtain ⟨_, oi, hoi, hall⟩ := mem_ready.1 hi
  intro j oj hj hl e he hb
  by_cases hij : i = j
  · subst hij
    have : oj = oi := Option.some.inj (hj.symm.trans hoi)
    subst this
    exact getD_set_true (hall e he hb)
  · rw [getD_set_ne false hij] at hl
    exact getD_set_true (hc j oj hj hl e he hb)

theorem VAny_first {cls : Nat → Nat} {md : Region.Mode} {ops : Array Oper} {Q : Act → AM → Prop} {D : List (List Nat)} (hD : depOk md ops D = true) {k : Nat} {ok : Oper} (hk : ops[k]? = some ok)
    (hsel : ∀ (j : Nat) (o : Oper) cs b, ops[j]? = some o → o.op ≠ .select cs b) :
    ∀ (fuel : Nat) (listed : Array Bool) (a : Act) (m : AM), Sat w0 m → Closed md ops listed →
      (∀ j oj, ops[j]? = some oj → j ≠ k → listed.getD j true = false → k ∈ D.getD j [] ∨ (ok.apart ops oj = true ∧ classOK (cls k) (cls j) = true)) →
      k ∈ Region.ready md ops listed → GOp P w0 (cls k) ops ok a m (fun v m1 => VAny P w0 cls md ops Q fuel (listed.setIfInBounds k true) (a.put ok.dst v) m1) →
      VAny P w0 cls md ops Q (fuel + 1) listed a m := by
  intro fuel
  induction fuel with
  | zero =>
    intro listed a m hs hc hfree hr H
    refine ⟨fun h => (by rw [h] at hr; cases hr), fun j oj hj hoj => ?_⟩
    by_cases hjk : j = k
    · subst hjk
      have : oj = ok := Option.some.inj (hoj.symm.trans hk)
      subst this
      exact H
    · have h0 : Region.ready md ops (listed.setIfInBounds k true) = [] := GOp_nonvac hs (GOp_mono (fun v m1 h1 => h1.1) H)
      have := ready_mono hj hjk
      rw [h0] at this
      cases this
  | succ fuel ih =>
    intro listed a m hs hc hfree hr H
    refine ⟨fun h => (by rw [h] at hr; cases hr), fun j oj hj hoj => ?_⟩
    by_cases hjk : j = k
    · subst hjk
      have : oj = ok := Option.some.inj (hoj.symm.trans hk)
      subst this
      exact H
    · obtain ⟨hjun, oj', hoj', hall⟩ := mem_ready.1 hj
      have : oj' = oj := Option.some.inj (hoj'.symm.trans hoj)
      subst this
      have hjlt : j < ops.size := (Array.getElem?_eq_some_iff.1 hoj).1
      have hkun := (mem_ready.1 hr).1
      have hnot : k ∉ D.getD j [] := fun hin => by
        have h1 := dep_listed hD hc j j rfl hjlt (fun o' ho' e he hb => by
          have : o' = oj' := Option.some.inj (ho'.symm.trans hoj)
          subst this
          exact hall e he hb) k hin
        rw [getD_both hkun] at h1
        cases h1
      obtain ⟨hap, hcl⟩ := (hfree j oj' hoj hjk hjun).resolve_left hnot
      obtain ⟨h1, h2, h3⟩ := Oper.apart_spec hap
      have step : GOp P w0 (cls k) ops ok a m (fun vk m1 => GOp P w0 (cls j) ops oj' a m1 (fun vj m2 =>
          VAny P w0 cls md ops Q fuel ((listed.setIfInBounds k true).setIfInBounds j true) ((a.put ok.dst vk).put oj'.dst vj) m2)) := by
        refine GOp_mono (fun vk m1 hv => ?_) H
        have h4 := hv.2 j oj' (ready_mono hj hjk) hoj
        rw [GOp_put (fun cs b => hsel j oj' cs b hoj) h1] at h4
        exact h4
      refine GOp_mono_sat hs (fun vj m1 hs1 hv => ?_) (swapA hs hcl step)
      refine ih (listed.setIfInBounds j true) (a.put oj'.dst vj) m1 hs1 (hc.set hj) (fun i oi hoi hik hun => ?_) (ready_mono hr (Ne.symm hjk)) ?_
      · refine hfree i oi hoi hik ?_
        by_cases hji : j = i
        · subst hji; exact hjun
        · rw [getD_set_ne true hji] at hun; exact hun
      · rw [GOp_put (fun cs b => hsel k ok cs b hk) h3]
        refine GOp_mono (fun vk m2 hq => ?_) hv
        rw [Act.put_comm a vk vj h2, Array.setIfInBounds_comm _ _ (Ne.symm hjk)] at hq
        exact hq

/-- In the text's order. -/
def AL (P : Program) (w0 : World) (cls : Nat → Nat) (ops : Array Oper) : List Oper → Nat → Act → AM → (Act → AM → Prop) → Prop
  | [], _, a, m, Q => Q a m
  | o :: rest, k, a, m, Q => GOp P w0 (cls k) ops o a m (fun v m' => AL P w0 cls ops rest (k + 1) (a.put o.dst v) m' Q)

def regOk (md : Region.Mode) (ops : Array Oper) (cls : Nat → Nat) (D : List (List Nat)) : Bool :=
  Region.noSelect ops && depOk md ops D && (List.range ops.size).all fun k =>
    match ops[k]? with
    | some ok => (predsOf md ok).all (fun p => decide (p < k)) && (List.range ops.size).all fun j => decide (j ≤ k) || (D.getD j []).contains k ||
        (match ops[j]? with
        | some oj => ok.apart ops oj && classOK (cls k) (cls j)
        | none => true)
    | none => true

theorem VAny_lex {cls : Nat → Nat} {md : Region.Mode} {ops : Array Oper} {Q : Act → AM → Prop} {D : List (List Nat)} (hB : regOk md ops cls D = true) :
    ∀ (l : List Oper) (k : Nat) (listed : Array Bool) (a : Act) (m : AM), (∀ j, l[j]? = ops[k + j]?) → k + l.length = ops.size → listed.size = ops.size → (∀ j, j < k → listed.getD j false = true) → (∀ j, k ≤ j → j < ops.size → listed.getD j true = false) →
      Sat w0 m → Closed md ops listed → AL P w0 cls ops l k a m Q → VAny P w0 cls md ops Q l.length listed a m
  | [], k, listed, a, m, hl, hlen, hsz, hlow, hhigh, hs, hc, h => by
    refine ⟨?_, h⟩
    have hk : k = ops.size := by simpa using hlen
    cases hr : Region.ready md ops listed with
    | nil => rfl
    | cons j js =>
      have hj : j ∈ Region.ready md ops listed := by rw [hr]; simp
      obtain ⟨hun, oj, hoj, _⟩ := mem_ready.1 hj
      have hlt : j < ops.size := (Array.getElem?_eq_some_iff.1 hoj).1
      have := hlow j (by omega)
      rw [getD_both hun] at this
      cases this
  | o :: l, k, listed, a, m, hl, hlen, hsz, hlow, hhigh, hs, hc, h => by
    have h0 : ops[k]? = some o := by simpa using (hl 0).symm
    have hklt : k < ops.size := (Array.getElem?_eq_some_iff.1 h0).1
    simp only [regOk, Bool.and_eq_true] at hB
    obtain ⟨⟨hsel, hD⟩, hall⟩ := hB
    have hB' : regOk md ops cls D = true := by simp only [regOk, Bool.and_eq_true]; exact ⟨⟨hsel, hD⟩, hall⟩
    have hk := List.all_eq_true.1 hall k (List.mem_range.2 hklt)
    rw [h0] at hk
    simp only [Bool.and_eq_true] at hk
    have hr : k ∈ Region.ready md ops listed := by
      refine mem_ready.2 ⟨hhigh k (Nat.le_refl _) hklt, o, h0, fun e he hb => ?_⟩
      have hm : e.on ∈ predsOf md o := by
        unfold predsOf
        exact List.mem_filterMap.2 ⟨e, by simpa using he, by rw [if_pos hb]⟩
      exact hlow _ (by simpa using List.all_eq_true.1 hk.1 _ hm)
    refine VAny_first hD h0 (Region.noSelect_spec hsel) l.length listed a m hs hc (fun j oj hoj hjk hun => ?_) hr ?_
    · have hjlt : j < ops.size := (Array.getElem?_eq_some_iff.1 hoj).1
      have h2 := List.all_eq_true.1 hk.2 j (List.mem_range.2 hjlt)
      rw [hoj] at h2
      simp only [Bool.or_eq_true, decide_eq_true_eq, Bool.and_eq_true] at h2
      rcases h2 with (h2 | h2) | h2
      · have := hlow j (by omega)
        rw [getD_both hun] at this
        cases this
      · exact .inl (List.contains_iff_mem.1 h2)
      · exact .inr h2
    · refine GOp_mono_sat hs (fun v m1 hs1 hv => ?_) h
      exact VAny_lex hB' l (k + 1) _ _ _ (fun j => by have := hl (j + 1); simpa [Nat.add_assoc, Nat.add_comm 1 j] using this) (by simp only [List.length_cons] at hlen; omega) (by simp [hsz])
        (fun j hj => by
          by_cases hjk : k = j
          · subst hjk; simp [hsz, hklt]
          · rw [getD_set_ne false hjk]; exact hlow j (by omega))
        (fun j hj hjl => by rw [getD_set_ne true (by omega)]; exact hhigh j (by omega) hjl) hs1 (hc.set hr) hv

theorem VAny_mono {cls : Nat → Nat} {md : Region.Mode} {ops : Array Oper} {Q Q' : Act → AM → Prop} (hq : ∀ a m, Q a m → Q' a m) : ∀ (fuel : Nat) (listed : Array Bool) (a : Act) (m : AM), VAny P w0 cls md ops Q fuel listed a m → VAny P w0 cls md ops Q' fuel listed a m
  | 0, _, _, _, h => ⟨h.1, hq _ _ h.2⟩
  | fuel + 1, _, _, _, h => ⟨fun hr => hq _ _ (h.1 hr), fun i o hi ho => GOp_mono (fun _ _ hv => VAny_mono hq fuel _ _ _ hv) (h.2 i o hi ho)⟩

/-- In the text's order, all at once. -/
theorem VAny_text {cls : Nat → Nat} {md : Region.Mode} {ops : Array Oper} {Q : Act → AM → Prop} {D : List (List Nat)} (hB : regOk md ops cls D = true) {a : Act} {m : AM} (hs : Sat w0 m) (h : AL P w0 cls ops ops.toList 0 a m Q) :
    VAny P w0 cls md ops Q ops.size (Array.replicate ops.size false) a m := by
  have := VAny_lex hB ops.toList 0 (Array.replicate ops.size false) a m (by simp) (by simp) (by simp) (fun j hj => absurd hj (by omega)) (fun j _ hj => by simp [hj]) hs (fun j oj _ hl => by exfalso; rcases Nat.lt_or_ge j ops.size with h' | h' <;> simp [h'] at hl) h
  simpa using this

/-- What may be tried next: one operation that none of the others minds, else each that is ready. -/
def goodB (ops : Array Oper) (cls : Nat → Nat) (D : List (List Nat)) (listed : Array Bool) (k : Nat) : Bool :=
  match ops[k]? with
  | some ok => (List.range ops.size).all fun j => decide (j = k) || listed.getD j true || (D.getD j []).contains k ||
      (match ops[j]? with
      | some oj => ok.apart ops oj && classOK (cls k) (cls j)
      | none => true)
  | none => false
def pickF (ops : Array Oper) (cls : Nat → Nat) (D : List (List Nat)) (listed : Array Bool) : List Nat :=
  let r := Region.ready .any ops listed
  match r.find? (goodB ops cls D listed) with
  | some k => [k]
  | none => r

theorem VAny_pick {cls : Nat → Nat} {ops : Array Oper} {Q : Act → AM → Prop} {D : List (List Nat)} (hsel : Region.noSelect ops = true) (hD : depOk .any ops D = true) {fuel : Nat} {listed : Array Bool} {a : Act} {m : AM} (hs : Sat w0 m) (hc : Closed .any ops listed)
    (h0 : pickF ops cls D listed = [] → Q a m)
    (h : ∀ k o, k ∈ pickF ops cls D listed → ops[k]? = some o → k ∈ Region.ready .any ops listed → GOp P w0 (cls k) ops o a m (fun v m' => VAny P w0 cls .any ops Q fuel (listed.setIfInBounds k true) (a.put o.dst v) m')) :
    VAny P w0 cls .any ops Q (fuel + 1) listed a m := by
  unfold pickF at h0 h
  simp only at h0 h
  cases hf : (Region.ready .any ops listed).find? (goodB ops cls D listed) with
  | none =>
    rw [hf] at h0 h
    exact ⟨h0, fun i o hi ho => h i o hi ho hi⟩
  | some k =>
    rw [hf] at h
    have hk := List.mem_of_find?_eq_some hf
    have hg := List.find?_some hf
    obtain ⟨_, ok, hok, _⟩ := mem_ready.1 hk
    refine VAny_first hD hok (Region.noSelect_spec hsel) fuel listed a m hs hc (fun j oj hoj hjk hun => ?_) hk (h k ok (by simp) hok hk)
    unfold goodB at hg
    rw [hok] at hg
    have hjlt : j < ops.size := (Array.getElem?_eq_some_iff.1 hoj).1
    have h2 := List.all_eq_true.1 hg j (List.mem_range.2 hjlt)
    rw [hoj, hun] at h2
    simp only [Bool.or_eq_true, decide_eq_true_eq, Bool.and_eq_true] at h2
    rcases h2 with ((h2 | h2) | h2) | h2
    · exact absurd h2 hjk
    · cases h2
    · exact .inl (List.contains_iff_mem.1 h2)
    · exact .inr h2

theorem wpList_of_AL {ops : Array Oper} {Q : Act → AM → Prop} {Q' : Exit → Act → World → Prop} (hQ : ∀ a m w, Holds w0 w m → Q a m → Q' .normal a w) (cls : Nat → Nat) :
    ∀ (l : List Oper) (k : Nat) (a : Act) (w : World) (m : AM), (∀ j, l[j]? = ops[k + j]?) → Holds w0 w m → AL P w0 cls ops l k a m Q → wpList P ops Q' l a w
  | [], _, _, _, _, _, hh, h => hQ _ _ _ hh h
  | o :: l, k, a, w, m, hl, hh, h => by
    have h0 : ops[k]? = some o := by simpa using (hl 0).symm
    have h1 := wp_of_GOp (Q := Q') h0 hh (K' := wpList P ops Q' l) (fun v m' w' hh' hv => wpList_of_AL hQ cls l (k + 1) _ _ _ (fun j => by have := hl (j + 1); simpa [Nat.add_assoc, Nat.add_comm 1 j] using this) hh' hv) h
    unfold wpOp at h1
    simp only [h0] at h1
    exact h1

def dep1 (md : Region.Mode) (acc : List (List Nat)) (o : Oper) : List Nat :=
  ((predsOf md o) ++ (predsOf md o).flatMap (fun p => acc.getD p [])).eraseDups
def deps (md : Region.Mode) (ops : List Oper) : List (List Nat) := ops.foldl (fun acc o => acc ++ [dep1 md acc o]) []

def baseClass : Op → Nat
  | .move _ | .assign _ | .pick .. | .nilCheck _ | .binOp .. | .unOp .. | .convert .. | .fieldAddr .. | .field .. | .indexAddr .. | .index .. | .extract .. | .makeFunc .. | .makeInterface .. | .slice .. | .build .. => 0
  | .load .. | .lookup .. => 1
  | .call { callee := .builtin .len, .. } | .call { callee := .builtin .cap, .. } | .call { callee := .builtin .min, .. } | .call { callee := .builtin .max, .. } => 0
  | .alloc _ | .box .. | .buildSlice .. | .makeSlice .. | .makeMap .. => 4
  | _ => 3

/-- A class laid down for an operation by its place, else its own. -/
def cl (qs : List (Nat × Nat)) (k : Nat) (op : Op) : Nat :=
  match qs.find? (fun p => p.1 == k) with
  | some p => max p.2 2
  | none => baseClass op

def clsOf (qs : List (Nat × Nat)) (ops : Array Oper) (k : Nat) : Nat :=
  match ops[k]? with
  | some o => cl qs k o.op
  | none => 3

def iterA (body : Act → AM → (Exit → Act → AM → Prop) → Prop) : Nat → Act → AM → (Exit → Act → AM → Prop) → Prop
  | 0, _, _, _ => False
  | n + 1, a, m, Q => body a m fun e a' m' => match e with
    | .normal => iterA body n a' m' Q
    | e => Q e a' m'

/-- The weakest precondition of a piece of code over a view. -/
def vc (P : Program) (w0 : World) : Code → Act → AM → (Exit → Act → AM → Prop) → Prop
  | .skip, a, m, Q => Q .normal a m
  | .label _, a, m, Q => Q .normal a m
  | .region _ ops false, a, m, Q => AL P w0 (fun _ => 3) ops ops.toList 0 a m (Q .normal)
  | .region _ ops true, a, m, Q => ∃ cls : Nat → Nat, Sat w0 m → VAny P w0 cls .any ops (Q .normal) ops.size (Array.replicate ops.size false) a m
  | .seq x y, a, m, Q => vc P w0 x a m fun e a' m' => match e with
    | .normal => vc P w0 y a' m' Q
    | e => Q e a' m'
  | .cond c x y, a, m, Q => ∃ t, a.eval c = .bool t ∧ (t = true → vc P w0 x a m Q) ∧ (t = false → vc P w0 y a m Q)
  | .block id c, a, m, Q => vc P w0 c a m fun e a' m' => match e with
    | .exit id' => if id' = id then Q .normal a' m' else Q (.exit id') a' m'
    | e => Q e a' m'
  | .loop c, a, m, Q => ∃ n, iterA (fun a m Q => vc P w0 c a m Q) n a m Q
  | .exit id, a, m, Q => Q (.exit id) a m
  | .ret, a, m, Q => Q .ret a m
  | _, _, _, _ => False

theorem vc_sound (hm : P.follows .mixedOrders = true) (c : Code) : ∀ (a : Act) (m : AM) (Q : Exit → Act → AM → Prop) (w : World), Holds w0 w m → vc P w0 c a m Q →
    c.wp P (fun e a' w' => ∃ m', Holds w0 w' m' ∧ Q e a' m') a w := by
  induction c with
  | skip => intro a m Q w hh h; exact wp_skip ⟨m, hh, h⟩
  | label l => intro a m Q w hh h; exact wp_label ⟨m, hh, h⟩
  | region id ops draw =>
    intro a m Q w hh h
    cases draw with
    | false => exact wp_region_list (wpList_of_AL (Q := Q .normal) (fun a m w hh hq => ⟨m, hh, hq⟩) (fun _ => 3) ops.toList 0 a w m (by simp) hh h)
    | true =>
      obtain ⟨cls, h⟩ := h
      refine wp_region_any hm ?_
      have hh1 : Holds w0 { w with drawn := w.drawn + 1 } m := hh.drawn _
      exact wpAny_of_VAny (P := P) (Q' := fun e a' w' => ∃ m', Holds w0 w' m' ∧ Q e a' m') (Q := Q .normal) (fun a m w hh hq => ⟨m, hh, hq⟩) ops.size (Array.replicate ops.size false) a _ m hh1 (h hh.sat)
  | seq x y ihx ihy =>
    intro a m Q w hh h
    refine wp_seq (Code.wp_mono (fun e a' w' hq => ?_) (ihx a m _ w hh h))
    obtain ⟨m', hh', hq⟩ := hq
    cases e <;> first | exact ihy _ _ _ _ hh' hq | exact ⟨m', hh', hq⟩
  | cond c x y ihx ihy =>
    intro a m Q w hh h
    obtain ⟨t, ht, h1, h2⟩ := h
    exact wp_cond_split ht (fun e => ihx a m Q w hh (h1 e)) (fun e => ihy a m Q w hh (h2 e))
  | block id c ih =>
    intro a m Q w hh h
    refine wp_block (Code.wp_mono (fun e a' w' hq => ?_) (ih a m _ w hh h))
    obtain ⟨m', hh', hq⟩ := hq
    cases e <;> first | exact ⟨m', hh', hq⟩ | skip
    rename_i id'
    show Exit.inBlock id _ (.exit id') a' w'
    simp only [Exit.inBlock]
    by_cases hid : id' = id
    · rw [if_pos hid]; simp only [if_pos hid] at hq; exact ⟨m', hh', hq⟩
    · rw [if_neg hid]; simp only [if_neg hid] at hq; exact ⟨m', hh', hq⟩
  | loop c ih =>
    intro a m Q w hh h
    obtain ⟨n, h⟩ := h
    refine wp_loop_rounds n ?_
    induction n generalizing a m w with
    | zero => exact h.elim
    | succ n ihn =>
      rw [rounds_succ]
      refine Code.wp_mono (fun e a' w' hq => ?_) (ih a m _ w hh h)
      obtain ⟨m', hh', hq⟩ := hq
      cases e <;> first | exact ihn _ _ _ hh' hq | exact ⟨m', hh', hq⟩
  | exit id => intro a m Q w hh h; exact wp_exit ⟨m, hh, h⟩
  | ret => intro a m Q w hh h; exact wp_ret ⟨m, hh, h⟩
  | _ => intro a m Q w hh h; exact h.elim
end
end Go.Alog
