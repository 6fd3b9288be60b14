/- Ytijilloaggeepaa: a text of our own, by an AI agent: Core10 -/
import Derived.Test.YtijilloaggeepaaCore9
set_option linter.unusedSimpArgs false
set_option linter.unusedVariables false
/-! '==' of structs of numbers. -/
namespace Go.Alog
open Go Go.RowKit
variable {P : Program}

theorem eqIn_int {t : TypeId} {k : IntKind} (hu : P.underlying t = some (.int k)) (d : Nat) (a b : Int) : pval P (Op.equalIn (d + 1) t (.int k a) (.int k b)) = some (a == b) := by
  rw [Op.equalIn.eq_def]
  simp only [pval_bind', pv_underlying hu]
  simp [pval_pure]

theorem part_int {t : TypeId} {k : IntKind} (hu : P.underlying t = some (.int k)) {cs : Array Value} {o : Nat} {v : Value} (hc : cs[o]? = some v) : pval P (part t cs o) = some v := by
  unfold part
  simp only [pval_bind', pv_isAgg hu]
  simp [isAggD, hc, pval_pure]

theorem eqIn_fields {k : IntKind} {xs ys : Array Value} (d : Nat) (e : Field → Bool) : ∀ (fs : List Field), (∀ f ∈ fs, f.name ≠ "_" ∧ P.underlying f.type = some (.int k) ∧ ∃ a b, xs[f.offset]? = some (.int k a) ∧ ys[f.offset]? = some (.int k b) ∧ e f = (a == b)) →
    pval P (forIn (m := Sem) fs ((none, ()) : Option Bool × Unit) fun f __s =>
      if f.name ≠ "_" then do
        let x ← part f.type xs f.offset
        let y ← part f.type ys f.offset
        let b ← Op.equalIn (d + 1) f.type x y
        if (!b) = true then pure (ForInStep.done (some false, ()))
          else pure (ForInStep.yield (none, ()))
      else pure (ForInStep.yield (none, ()))) = some (bif fs.all e then none else some false, ())
  | [], _ => rfl
  | f :: fs, h => by
    obtain ⟨hn, hu, a, b, ha, hb, he⟩ := h f (by simp)
    rw [List.forIn_cons]
    simp only [hn, ne_eq, not_false_eq_true, if_true, pval_bind', part_int hu ha, part_int hu hb, eqIn_int hu, Option.bind_some, List.all_cons, he]
    cases hab : (a == b)
    · simp [pval_pure]
    · simp only [Bool.not_true, Bool.false_eq_true, if_false, pval_pure, Option.bind_some, Bool.true_and]
      exact eqIn_fields d e fs fun f hf => h f (by simp [hf])

theorem eqIn_struct {t : TypeId} {k : IntKind} {fs : Array Field} {xs ys : Array Value} (hu : P.underlying t = some (.struct fs)) (hs : P.stoodInHeld t = false) (d : Nat) (e : Field → Bool)
    (h : ∀ f ∈ fs.toList, f.name ≠ "_" ∧ P.underlying f.type = some (.int k) ∧ ∃ a b, xs[f.offset]? = some (.int k a) ∧ ys[f.offset]? = some (.int k b) ∧ e f = (a == b)) :
    pval P (Op.equalIn (d + 2) t (.agg xs) (.agg ys)) = some (fs.toList.all e) := by
  rw [Op.equalIn.eq_def]
  simp only [pval_bind', pv_underlying hu, Option.bind_some]
  have hp : pval P program = some P := rfl
  simp only [hp, Option.bind_some, hs, Bool.false_eq_true, if_false]
  rw [← Array.forIn_toList, pval_bind', eqIn_fields d e _ h]
  cases fs.toList.all e <;> rfl

theorem Own.ex {m : AM} {B : Nat} {e : TypeId} {sz : Nat} {A : Option Addr} {n cp : Nat} {xs : List Value} (h : Own m B e sz A n cp xs) (hn : 0 < n) : ∃ ad, A = some ad ∧ Cells m ad xs := by
  cases A with
  | some ad => exact ⟨ad, rfl, h.cells rfl⟩
  | none =>
    obtain ⟨_, hn', h | ⟨g', cur', h', _⟩⟩ := h
    · omega
    · cases h'

/-- A row that no step touches stays, and stays untouched. -/
theorem Own.step {m m' : AM} {B : Nat} {e : TypeId} {sz : Nat} {A : Option Addr} {n cp : Nat} {xs : List Value} {fp fp' : List Nat} (h : Own m B e sz A n cp xs) (hf : Fr m m' fp) (hk : ∀ k ∈ fp', k ∈ fp ∨ m k = none) (hd : ∀ k ∈ obl A, k ∉ fp) : Own m' B e sz A n cp xs ∧ ∀ k ∈ obl A, k ∉ fp' :=
  ⟨h.fr hf hd, fun k hka hkf => by
    rcases hk k hkf with h1 | h1
    · exact hd k hka h1
    · obtain ⟨_, cur, h2⟩ := h.obl_some hka
      rw [h1] at h2; cases h2⟩
theorem Fr.step {m m' : AM} {fp fp' : List Nat} {b : Nat} {o : Obj} (hb : m b = some o) (hf : Fr m m' fp) (hk : ∀ k ∈ fp', k ∈ fp ∨ m k = none) (hd : b ∉ fp) : m' b = some o ∧ b ∉ fp' :=
  ⟨hf _ _ hb hd, fun hkf => by
    rcases hk b hkf with h1 | h1
    · exact hd h1
    · rw [h1] at hb; cases hb⟩

/-- All that was there at the call's begin is as it was. -/
theorem low_fr {w0 : World} {m m' : AM} {fp : List Nat} (h : (mOf w0).le m) (hf : Fr m m' fp) (hp : ∀ k ∈ fp, w0.heap.size ≤ k) : (mOf w0).le m' := fun k o hk =>
  hf k o (h k o hk) fun hin => by
    have := mOf_none w0 (hp k hin)
    rw [this] at hk; cases hk
theorem Reads.ex {m : AM} {sz : Nat} {A : Option Addr} {n : Nat} {xs : List Value} (h : Reads m sz A n xs) (hn : 0 < n) : ∃ ad, A = some ad ∧ Cells m ad xs := by
  obtain ⟨_, ⟨_, h⟩ | h⟩ := h
  · omega
  · exact h

theorem ins_eq (i j : Ins) : (i.op == j.op && (i.a == j.a && (i.b == j.b && (i.c == j.c && (i.imm == j.imm))))) = decide (i = j) := by
  cases i; cases j
  simp only [Ins.mk.injEq]
  rw [Bool.eq_iff_iff]
  simp
end Go.Alog
