/- Ytkfemiloehkmhaa: a text of our own, by an AI agent: Core18 -/
import Derived.Test.YtkfemiloehkmhaaCore17
set_option linter.unusedSimpArgs false
set_option linter.unusedVariables false
namespace Go.Alog
open Go Go.RowKit

/-- copy(dst, src): onto a row of the call's own. -/
theorem awp_copy {P : Program} {B : Nat} {t ty e : TypeId} {sz bs : Nat} {z : List Value} (hel : elOf P t = some (e, sz, bs, z)) {m : AM} {g o dn dc : Nat} {cur : Array Value} (hg : m g = some (.cells cur e (0, 0))) (hB : B ≤ g)
    {A2 : Option Addr} {k c2 n : Nat} {xs : List Value} (hn : n = Nat.min k dn) (hr : Reads m sz A2 n xs) (h1 : ∀ u ∈ xs, u.oneCell' = true) (hfit : o + n * sz ≤ cur.size) {K : Value → AM → Prop}
    (h : K (.int .i64 n) (m.upd g (.cells (splice cur o xs) e))) :
    awp P B (Builtin.copy_ #[t, t] ty #[.slice (some ⟨g, o, none⟩) dn dc, .slice A2 k c2]) m K := by
  obtain ⟨i, zv, hu, hi, hz, hzs, hsz, hbs, hzl⟩ := elOf_spec hel
  subst hsz
  show awp P B (underlying t >>= _) m K
  rw [awp_bind']
  refine awp_p (pv_underlying hu) ?_
  simp only [List.getElem_toArray, List.getElem_cons_zero, List.getElem_cons_succ]
  rw [awp_bind']
  refine awp_p (x := k) rfl ?_
  rw [awp_bind']
  refine awp_p (pv_sizeOf hi) ?_
  rw [awp_bind', ← hn]
  have hf : rval P m (Builtin.firstCells i.size n (.slice A2 k c2)) = some xs.toArray := by
    have := hr.first (P := P) (c := c2)
    obtain ⟨hl, ⟨rfl, rfl⟩ | ⟨ad, rfl, hc⟩⟩ := hr
    · have : xs = [] := List.eq_nil_of_length_eq_zero (by simpa using hl)
      subst this
      rfl
    · exact this
  refine awp_of_rval _ hf ?_
  simp only
  rw [awp_bind']
  refine store_list xs 0 o m cur _ hg hB h1 (by rw [hr.1]; omega) ?_
  exact h
end Go.Alog
