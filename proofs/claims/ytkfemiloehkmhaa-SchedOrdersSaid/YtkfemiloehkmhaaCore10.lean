/- Ytkfemiloehkmhaa: a text of our own, by an AI agent: Core10 -/
import Derived.Test.YtkfemiloehkmhaaCore9
set_option linter.unusedSimpArgs false
set_option linter.unusedVariables false
/-! '==' of structs of numbers. -/
namespace Go.Alog
open Go Go.RowKit
variable {P : Program}

theorem eqIn_int {t : TypeId} {k : IntKind} (hu : P.underlying t = some (.int k)) (d : Nat) (a b : Int) : pval P (Op.equalIn (d + 1) t (.int k a) (.int k b)) = some (a == b) := by
  rw [Op.equalIn.eq_def]
  simp only [pval_bind', pv_underlying hu]
  simp [pval_pure]

theorem part_int {t : TypeId} {k : IntKind} (hu : P.underlying t = some (.int k)) {cs : Array Value} {o : Nat} {v : Value} (hc : cs[o]? = some v) : pval P (part t cs o) = some v := by
  unfold part
  simp only [pval_bind', pv_isAgg hu]
  simp [isAggD, hc, pval_pure]

theorem eqIn_fields {k : IntKind} {xs ys : Array Value} (d : Nat) (e : Field → Bool) : ∀ (fs : List Field), (∀ f ∈ fs, f.name ≠ "_" ∧ P.underlying f.type = some (.int k) ∧ ∃ a b, xs[f.offset]? = some (.int k a) ∧ ys[f.offset]? = some (.int k b) ∧ e f = (a == b)) →
    pval P (forIn (m := Sem) fs ((none, ()) : Option Bool × Unit) fun f __s =>
      if f.name ≠ "_" then do
        let x ← part f.type xs f.offset
        let y ← part f.type ys f.offset
        let b ← Op.equalIn (d + 1) f.type x y
        if (!b) = true then pure (ForInStep.done (some false, ()))
          else pure (ForInStep.yield (none, ()))
      else pure (ForInStep.yield (none, ()))) = some (bif fs.all e then none else some false, ())
  | [], _ => rfl
  | f :: fs, h => by
    obtain ⟨hn, hu, a, b, ha, hb, he⟩ := h f (by simp)
    rw [List.forIn_cons]
    simp only [hn, ne_eq, not_false_eq_true, if_true, pval_bind', part_int hu ha, part_int hu hb, eqIn_int hu, Option.bind_some, List.all_cons, he]
    cases hab : (a == b)
    · simp [pval_pure]
    · simp only [Bool.not_true, Bool.false_eq_true, if_false, pval_pure, Option.bind_some, Bool.true_and]
      exact eqIn_fields d e fs fun f hf => h f (by simp [hf])

theorem eqIn_struct {t : TypeId} {k : IntKind} {fs : Array Field} {xs ys : Array Value} (hu : P.underlying t = some (.struct fs)) (hs : P.stoodInHeld t = false) (d : Nat) (e : Field → Bool)
    (h : ∀ f ∈ fs.toList, f.name ≠ "_" ∧ P.underlying f.type = some (.int k) ∧ ∃ a b, xs[f.offset]? = some (.int k a) ∧ ys[f.offset]? = some (.int k b) ∧ e f = (a == b)) :
    pval P (Op.equalIn (d + 2) t (.agg xs) (.agg ys)) = some (fs.toList.all e) := by
  rw [Op.equalIn.eq_def]
  simp only [pval_bind', pv_underlying hu, Option.bind_some]
  have hp : pval P program = some P := rfl
  simp only [hp, Option.bind_some, hs, Bool.false_eq_true, if_false]
  rw [← Array.forIn_toList, pval_bind', eqIn_fields d e _ h]
  cases fs.toList.all e <;> rfl

theorem Own.ex {m : AM} {B : Nat} {e : TypeId} {sz : Nat} {A : Option Addr} {n cp : Nat} {xs : List Value} (h : Own m B e sz A n cp xs) (hn : 0 < n) : ∃ ad, A = some ad ∧ Cells m ad xs := by
  cases A with
  | some ad => exact ⟨ad, rfl, h.cells rfl⟩
  | none =>
    obtain ⟨_, hn', h | ⟨g', cur', h', _⟩⟩ := h
    · omega
    · cases h'

/-- A row that no step touches stays, and stays untouched. -/
theorem Own.step {m m' : AM} {B : Nat} {e : TypeId} {sz : Nat} {A : Option Addr} {n cp : Nat} {xs : List Value} {fp fp' : List Nat} (h : Own m B e sz A n cp xs) (hf : Fr m m' fp) (hk : ∀ k ∈ fp', k ∈ fp ∨ m k = none) (hd : ∀ k ∈ obl A, k ∉ fp) : Own m' B e sz A n cp xs ∧ ∀ k ∈ obl A, k ∉ fp' :=
  ⟨h.fr hf hd, fun k hka hkf => by
    rcases hk k hkf with h1 | h1
    · exact hd k hka h1
    · obtain ⟨_, cur, h2⟩ := h.obl_some hka
      rw [h1] at h2; cases h2⟩
theorem Fr.step {m m' : AM} {fp fp' : List Nat} {b : Nat} {o : Obj} (hb : m b = some o) (hf : Fr m m' fp) (hk : ∀ k ∈ fp', k ∈ fp ∨ m k = none) (hd : b ∉ fp) : m' b = some o ∧ b ∉ fp' :=
  ⟨hf _ _ hb hd, fun hkf => by
    rcases hk b hkf with h1 | h1
    · exact hd h1
    · rw [h1] at hb; cases hb⟩

/-- All that was there at the call's begin is as it was. -/
theorem low_fr {w0 : World} {m m' : AM} {fp : List Nat} (h : (mOf w0).le m) (hf : Fr m m' fp) (hp : ∀ k ∈ fp, w0.heap.size ≤ k) : (mOf w0).le m' := fun k o hk =>
  hf k o (h k o hk) fun hin => by
    have := mOf_none w0 (hp k hin)
    rw [this] at hk; cases hk
theorem Reads.ex {m : AM} {sz : Nat} {A : Option Addr} {n : Nat} {xs : List Value} (h : Reads m sz A n xs) (hn : 0 < n) : ∃ ad, A = some ad ∧ Cells m ad xs := by
  obtain ⟨_, ⟨_, h⟩ | h⟩ := h
  · omega
  · exact h

/-- Eight numbers: an act of law 18. -/
structure ActV where
  kind : Int
  n : Int
  m : Int
  i : Ins
 deriving DecidableEq, Inhabited
def ActV.cells (a : ActV) : List Value := [.int .i64 a.kind, .int .i64 a.n, .int .i64 a.m, .int .i64 a.i.op, .int .i64 a.i.a, .int .i64 a.i.b, .int .i64 a.i.c, .int .i64 a.i.imm]
abbrev ActV.val (a : ActV) : Value := .agg #[.int .i64 a.kind, .int .i64 a.n, .int .i64 a.m, .int .i64 a.i.op, .int .i64 a.i.a, .int .i64 a.i.b, .int .i64 a.i.c, .int .i64 a.i.imm]
def ActV.wf (a : ActV) : Prop := InI a.kind ∧ InI a.n ∧ InI a.m ∧ a.i.wf
def actCells (l : List ActV) : List Value := l.flatMap ActV.cells
theorem ActV.len (a : ActV) : a.cells.length = 8 := rfl
theorem actCells_len (l : List ActV) : (actCells l).length = l.length * 8 := row_len ActV.len l
theorem act_rows : ∀ (rows : List (List Value)), (∀ r ∈ rows, AllFit [.int .i64, .int .i64, .int .i64, .int .i64, .int .i64, .int .i64, .int .i64, .int .i64] r) → ∃ l : List ActV, rows.flatten = actCells l ∧ l.length = rows.length ∧ ∀ i ∈ l, i.wf
  | [], _ => ⟨[], rfl, rfl, by simp⟩
  | r :: rows, h => by
    have hr := h r (by simp)
    obtain ⟨n0, e0, w0⟩ := fit_int hr (i := 0) rfl
    obtain ⟨n1, e1, w1⟩ := fit_int hr (i := 1) rfl
    obtain ⟨n2, e2, w2⟩ := fit_int hr (i := 2) rfl
    obtain ⟨n3, e3, w3⟩ := fit_int hr (i := 3) rfl
    obtain ⟨n4, e4, w4⟩ := fit_int hr (i := 4) rfl
    obtain ⟨n5, e5, w5⟩ := fit_int hr (i := 5) rfl
    obtain ⟨n6, e6, w6⟩ := fit_int hr (i := 6) rfl
    obtain ⟨n7, e7, w7⟩ := fit_int hr (i := 7) rfl
    obtain ⟨l, h1, h2, h3⟩ := act_rows rows (fun r hr => h r (by simp [hr]))
    refine ⟨⟨n0, n1, n2, n3, n4, n5, n6, n7⟩ :: l, ?_, by simp [h2], ?_⟩
    · rw [List.flatten_cons, h1]
      show r ++ actCells l = ActV.cells _ ++ actCells l
      congr 1
      match r, hr.1 with
      | [a, b, c, d, e, f, g, k], _ => simp at e0 e1 e2 e3 e4 e5 e6 e7; simp [ActV.cells, e0, e1, e2, e3, e4, e5, e6, e7]
    · simp only [List.mem_cons, forall_eq_or_imp]
      exact ⟨⟨wf_i64 w0, wf_i64 w1, wf_i64 w2, wf_i64 w3, wf_i64 w4, wf_i64 w5, wf_i64 w6, wf_i64 w7⟩, h3⟩
/-- The eight cells of an act in a row. -/
theorem Cells.act {m : AM} {a : Addr} {l : List ActV} (h : Cells m a (actCells l)) {k : Nat} {x : ActV} (hk : l[k]? = some x) :
    m.cell (a.add (k * 8)) = some (.int .i64 x.kind) ∧ m.cell ((a.add (k * 8)).add 1) = some (.int .i64 x.n) ∧ m.cell ((a.add (k * 8)).add 2) = some (.int .i64 x.m) ∧ m.cell ((a.add (k * 8)).add 3) = some (.int .i64 x.i.op) ∧ m.cell ((a.add (k * 8)).add 4) = some (.int .i64 x.i.a) ∧ m.cell ((a.add (k * 8)).add 5) = some (.int .i64 x.i.b) ∧ m.cell ((a.add (k * 8)).add 6) = some (.int .i64 x.i.c) ∧ m.cell ((a.add (k * 8)).add 7) = some (.int .i64 x.i.imm) := by
  simp only [add_add]
  exact ⟨Cells.at ActV.len h hk (j := 0) (by omega), Cells.at ActV.len h hk (j := 1) (by omega), Cells.at ActV.len h hk (j := 2) (by omega), Cells.at ActV.len h hk (j := 3) (by omega), Cells.at ActV.len h hk (j := 4) (by omega), Cells.at ActV.len h hk (j := 5) (by omega), Cells.at ActV.len h hk (j := 6) (by omega), Cells.at ActV.len h hk (j := 7) (by omega)⟩

theorem ins_eq (i j : Ins) : (i.op == j.op && (i.a == j.a && (i.b == j.b && (i.c == j.c && (i.imm == j.imm))))) = decide (i = j) := by
  cases i; cases j
  simp only [Ins.mk.injEq]
  rw [Bool.eq_iff_iff]
  simp
end Go.Alog
