/- Ytkfemiloehkmhaa: a text of our own, by an AI agent: CoreC -/
import Derived.Test.YtkfemiloehkmhaaCoreA

set_option linter.unusedSimpArgs false
set_option linter.unusedVariables false
/-! '==' of structs of numbers. -/
namespace Go.Alog
open Go Go.RowKit
variable {P : Program}

theorem eqIn_int {t : TypeId} {k : IntKind} (hu : P.underlying t = some (.int k)) (d : Nat) (a b : Int) : pval P (Op.equalIn (d + 1) t (.int k a) (.int k b)) = some (a == b) := by
  rw [Op.equalIn.eq_def]
  simp only [pval_bind', pv_underlying hu]
  simp [pval_pure]

theorem part_int {t : TypeId} {k : IntKind} (hu : P.underlying t = some (.int k)) {cs : Array Value} {o : Nat} {v : Value} (hc : cs[o]? = some v) : pval P (part t cs o) = some v := by
  unfold part
  simp only [pval_bind', pv_isAgg hu]
  simp [isAggD, hc, pval_pure]

theorem eqIn_fields {k : IntKind} {xs ys : Array Value} (d : Nat) (e : Field → Bool) : ∀ (fs : List Field), (∀ f ∈ fs, f.name ≠ "_" ∧ P.underlying f.type = some (.int k) ∧ ∃ a b, xs[f.offset]? = some (.int k a) ∧ ys[f.offset]? = some (.int k b) ∧ e f = (a == b)) →
    pval P (forIn (m := Sem) fs ((none, ()) : Option Bool × Unit) fun f __s =>
      if f.name ≠ "_" then do
        let x ← part f.type xs f.offset
        let y ← part f.type ys f.offset
        let b ← Op.equalIn (d + 1) f.type x y
        if (!b) = true then pure (ForInStep.done (some false, ()))
          else pure (ForInStep.yield (none, ()))
      else pure (ForInStep.yield (none, ()))) = some (bif fs.all e then none else some false, ())
  | [], _ => rfl
  | f :: fs, h => by
    obtain ⟨hn, hu, a, b, ha, hb, he⟩ := h f (by simp)
    rw [List.forIn_cons]
    simp only [hn, ne_eq, not_false_eq_true, if_true, pval_bind', part_int hu ha, part_int hu hb, eqIn_int hu, Option.bind_some, List.all_cons, he]
    cases hab : (a == b)
    · simp [pval_pure]
    · simp only [Bool.not_true, Bool.false_eq_true, if_false, pval_pure, Option.bind_some, Bool.true_and]
      exact eqIn_fields d e fs fun f hf => h f (by simp [hf])

theorem eqIn_struct {t : TypeId} {k : IntKind} {fs : Array Field} {xs ys : Array Value} (hu : P.underlying t = some (.struct fs)) (hs : P.stoodInHeld t = false) (d : Nat) (e : Field → Bool)
    (h : ∀ f ∈ fs.toList, f.name ≠ "_" ∧ P.underlying f.type = some (.int k) ∧ ∃ a b, xs[f.offset]? = some (.int k a) ∧ ys[f.offset]? = some (.int k b) ∧ e f = (a == b)) :
    pval P (Op.equalIn (d + 2) t (.agg xs) (.agg ys)) = some (fs.toList.all e) := by
  rw [Op.equalIn.eq_def]
  simp only [pval_bind', pv_underlying hu, Option.bind_some]
  have hp : pval P program = some P := rfl
  simp only [hp, Option.bind_some, hs, Bool.false_eq_true, if_false]
  rw [← Array.forIn_toList, pval_bind', eqIn_fields d e _ h]
  cases fs.toList.all e <;> rfl

theorem Own.ex {m : AM} {B : Nat} {e : TypeId} {sz : Nat} {A : Option Addr} {n cp : Nat} {xs : List Value} (h : Own m B e sz A n cp xs) (hn : 0 < n) : ∃ ad, A = some ad ∧ Cells m ad xs := by
  cases A with
  | some ad => exact ⟨ad, rfl, h.cells rfl⟩
  | none =>
    obtain ⟨_, hn', h | ⟨g', cur', h', _⟩⟩ := h
    · omega
    · cases h'

/-- A row that no step touches stays, and stays untouched. -/
theorem Own.step {m m' : AM} {B : Nat} {e : TypeId} {sz : Nat} {A : Option Addr} {n cp : Nat} {xs : List Value} {fp fp' : List Nat} (h : Own m B e sz A n cp xs) (hf : Fr m m' fp) (hk : ∀ k ∈ fp', k ∈ fp ∨ m k = none) (hd : ∀ k ∈ obl A, k ∉ fp) : Own m' B e sz A n cp xs ∧ ∀ k ∈ obl A, k ∉ fp' :=
  ⟨h.fr hf hd, fun k hka hkf => by
    rcases hk k hkf with h1 | h1
    · exact hd k hka h1
    · obtain ⟨_, cur, h2⟩ := h.obl_some hka
      rw [h1] at h2; cases h2⟩
theorem Fr.step {m m' : AM} {fp fp' : List Nat} {b : Nat} {o : Obj} (hb : m b = some o) (hf : Fr m m' fp) (hk : ∀ k ∈ fp', k ∈ fp ∨ m k = none) (hd : b ∉ fp) : m' b = some o ∧ b ∉ fp' :=
  ⟨hf _ _ hb hd, fun hkf => by
    rcases hk b hkf with h1 | h1
    · exact hd h1
    · rw [h1] at hb; cases hb⟩

/-- All that was there at the call's begin is as it was. -/
theorem low_fr {w0 : World} {m m' : AM} {fp : List Nat} (h : (mOf w0).le m) (hf : Fr m m' fp) (hp : ∀ k ∈ fp, w0.heap.size ≤ k) : (mOf w0).le m' := fun k o hk =>
  hf k o (h k o hk) fun hin => by
    have := mOf_none w0 (hp k hin)
    rw [this] at hk; cases hk
theorem Reads.ex {m : AM} {sz : Nat} {A : Option Addr} {n : Nat} {xs : List Value} (h : Reads m sz A n xs) (hn : 0 < n) : ∃ ad, A = some ad ∧ Cells m ad xs := by
  obtain ⟨_, ⟨_, h⟩ | h⟩ := h
  · omega
  · exact h

/-- Eight numbers: an act of law 18. -/
structure ActV where
  kind : Int
  n : Int
  m : Int
  i : Ins
 deriving DecidableEq, Inhabited
def ActV.cells (a : ActV) : List Value := [.int .i64 a.kind, .int .i64 a.n, .int .i64 a.m, .int .i64 a.i.op, .int .i64 a.i.a, .int .i64 a.i.b, .int .i64 a.i.c, .int .i64 a.i.imm]
abbrev ActV.val (a : ActV) : Value := .agg #[.int .i64 a.kind, .int .i64 a.n, .int .i64 a.m, .int .i64 a.i.op, .int .i64 a.i.a, .int .i64 a.i.b, .int .i64 a.i.c, .int .i64 a.i.imm]
def ActV.wf (a : ActV) : Prop := InI a.kind ∧ InI a.n ∧ InI a.m ∧ a.i.wf
def actCells (l : List ActV) : List Value := l.flatMap ActV.cells
theorem ActV.len (a : ActV) : a.cells.length = 8 := rfl
theorem actCells_len (l : List ActV) : (actCells l).length = l.length * 8 := row_len ActV.len l
theorem act_rows : ∀ (rows : List (List Value)), (∀ r ∈ rows, AllFit [.int .i64, .int .i64, .int .i64, .int .i64, .int .i64, .int .i64, .int .i64, .int .i64] r) → ∃ l : List ActV, rows.flatten = actCells l ∧ l.length = rows.length ∧ ∀ i ∈ l, i.wf
  | [], _ => ⟨[], rfl, rfl, by simp⟩
  | r :: rows, h => by
    have hr := h r (by simp)
    obtain ⟨n0, e0, w0⟩ := fit_int hr (i := 0) rfl
    obtain ⟨n1, e1, w1⟩ := fit_int hr (i := 1) rfl
    obtain ⟨n2, e2, w2⟩ := fit_int hr (i := 2) rfl
    obtain ⟨n3, e3, w3⟩ := fit_int hr (i := 3) rfl
    obtain ⟨n4, e4, w4⟩ := fit_int hr (i := 4) rfl
    obtain ⟨n5, e5, w5⟩ := fit_int hr (i := 5) rfl
    obtain ⟨n6, e6, w6⟩ := fit_int hr (i := 6) rfl
    obtain ⟨n7, e7, w7⟩ := fit_int hr (i := 7) rfl
    obtain ⟨l, h1, h2, h3⟩ := act_rows rows (fun r hr => h r (by simp [hr]))
    refine ⟨⟨n0, n1, n2, n3, n4, n5, n6, n7⟩ :: l, ?_, by simp [h2], ?_⟩
    · rw [List.flatten_cons, h1]
      show r ++ actCells l = ActV.cells _ ++ actCells l
      congr 1
      match r, hr.1 with
      | [a, b, c, d, e, f, g, k], _ => simp at e0 e1 e2 e3 e4 e5 e6 e7; simp [ActV.cells, e0, e1, e2, e3, e4, e5, e6, e7]
    · simp only [List.mem_cons, forall_eq_or_imp]
      exact ⟨⟨wf_i64 w0, wf_i64 w1, wf_i64 w2, wf_i64 w3, wf_i64 w4, wf_i64 w5, wf_i64 w6, wf_i64 w7⟩, h3⟩
/-- The eight cells of an act in a row. -/
theorem Cells.act {m : AM} {a : Addr} {l : List ActV} (h : Cells m a (actCells l)) {k : Nat} {x : ActV} (hk : l[k]? = some x) :
    m.cell (a.add (k * 8)) = some (.int .i64 x.kind) ∧ m.cell ((a.add (k * 8)).add 1) = some (.int .i64 x.n) ∧ m.cell ((a.add (k * 8)).add 2) = some (.int .i64 x.m) ∧ m.cell ((a.add (k * 8)).add 3) = some (.int .i64 x.i.op) ∧ m.cell ((a.add (k * 8)).add 4) = some (.int .i64 x.i.a) ∧ m.cell ((a.add (k * 8)).add 5) = some (.int .i64 x.i.b) ∧ m.cell ((a.add (k * 8)).add 6) = some (.int .i64 x.i.c) ∧ m.cell ((a.add (k * 8)).add 7) = some (.int .i64 x.i.imm) := by
  simp only [add_add]
  exact ⟨Cells.at ActV.len h hk (j := 0) (by omega), Cells.at ActV.len h hk (j := 1) (by omega), Cells.at ActV.len h hk (j := 2) (by omega), Cells.at ActV.len h hk (j := 3) (by omega), Cells.at ActV.len h hk (j := 4) (by omega), Cells.at ActV.len h hk (j := 5) (by omega), Cells.at ActV.len h hk (j := 6) (by omega), Cells.at ActV.len h hk (j := 7) (by omega)⟩

theorem ins_eq (i j : Ins) : (i.op == j.op && (i.a == j.a && (i.b == j.b && (i.c == j.c && (i.imm == j.imm))))) = decide (i = j) := by
  cases i; cases j
  simp only [Ins.mk.injEq]
  rw [Bool.eq_iff_iff]
  simp
end Go.Alog

set_option linter.unusedSimpArgs false
set_option linter.unusedVariables false
/-! append onto a row that the call has made itself. -/
namespace Go.Alog
open Go Go.RowKit

theorem awp_append_loc {P : Program} {B : Nat} {t ty e : TypeId} {sz bs : Nat} {z : List Value} (hel : elOf P t = some (e, sz, bs, z)) {m0 m : AM} {A : Option Addr} {n cp : Nat} {xs : List Value} (hle : m0.le m) (hown : Own m B e sz A n cp xs) (hnew : ∀ k ∈ obl A, m0 k = none)
    {A2 : Option Addr} {k c2 : Nat} {news : List Value} (hr : Reads m sz A2 k news) (h1 : ∀ u ∈ news, u.oneCell' = true) (hfit : (n + k) * bs ≤ 140737488355328) (hfit2 : n + k ≤ 140737488355328) {K : Value → AM → Prop}
    (h : ∀ A' c' m', m0.le m' → Fr m m' (obl A) → Own m' B e sz A' (n + k) c' (xs ++ news) → (∀ x ∈ obl A', m0 x = none) → (∀ x ∈ obl A', x ∈ obl A ∨ m x = none) → K (.slice A' (n + k) c') m') :
    awp P B (Builtin.append_ #[t, t] ty #[.slice A n cp, .slice A2 k c2]) m K := by
  refine awp_append_own hel hown hr h1 hfit hfit2 (fun g cp' cur hor hB ho => ?_) (fun h0 hA => ?_)
  · have hg0 : m0 g = none := by
      rcases hor with h | h
      · exact hnew g (by rw [h]; simp [obl])
      · exact AM.le_none hle h
    refine h _ _ _ ?_ ?_ ho ?_ ?_
    · intro x o hx
      rw [upd_get]
      by_cases ex : x = g
      · subst ex; rw [hg0] at hx; cases hx
      · rw [if_neg ex]; exact hle _ _ hx
    · refine Fr.upd (Fr.refl _ _) ?_ _
      rcases hor with h | h
      · left; rw [h]; simp [obl]
      · right; exact h
    · intro x hx; simp [obl] at hx; subst hx; exact hg0
    · intro x hx
      simp [obl] at hx; subst hx
      rcases hor with h | h
      · left; rw [h]; simp [obl]
      · right; exact h
  · have hx : xs = [] := List.eq_nil_of_length_eq_zero (by rw [hown.1]; have : n = 0 := by omega
                                                           rw [this]; simp)
    have hn : news = [] := List.eq_nil_of_length_eq_zero (by rw [hr.1]; have : k = 0 := by omega
                                                             rw [this]; simp)
    have := h none 0 m hle (Fr.refl _ _) (by rw [h0, hx, hn]; exact Own.nil _ _ _ _) (by simp [obl]) (by simp [obl])
    rw [h0] at this
    exact this

/-- A known block is not one of a row of another type. -/
theorem Own.not_in {m : AM} {B : Nat} {e : TypeId} {sz : Nat} {A : Option Addr} {n cp : Nat} {xs : List Value} (h : Own m B e sz A n cp xs) {g : Nat} {c : Array Value} {t : TypeId} (hg : m g = some (.cells c t)) (ht : t ≠ e) : g ∉ obl A := h.obl_ne hg ht
/-- Two rows of different types lie apart. -/
theorem Own.apart {m : AM} {B B' : Nat} {e e' : TypeId} {sz sz' : Nat} {A A' : Option Addr} {n n' cp cp' : Nat} {xs xs' : List Value} (h : Own m B e sz A n cp xs) (h' : Own m B' e' sz' A' n' cp' xs') (ht : e ≠ e') : ∀ k ∈ obl A, k ∉ obl A' := fun k hk hk' => by
  obtain ⟨_, cur, h1⟩ := h.obl_some hk
  exact h'.obl_ne h1 ht hk'
theorem Reads.fr {m m' : AM} {sz : Nat} {A : Option Addr} {n : Nat} {xs : List Value} (h : Reads m sz A n xs) (hl : m.le m') : Reads m' sz A n xs := h.le hl
theorem ne_new {m : AM} {b b' : Nat} {o : Obj} (h : m b = some o) (h' : m b' = none) : b ≠ b' := fun e => by subst e; rw [h'] at h; cases h
end Go.Alog

set_option linter.unusedSimpArgs false
set_option linter.unusedVariables false
/-! Shapes that come again: a record kept in a block of its own, two of them, two rows joined. -/
namespace Go.Alog
open Go Go.RowKit

theorem app2 {P : Program} {w0 : World} {t e : TypeId} {sz bs : Nat} {z : List Value} (hel : elOf P t = some (e, sz, bs, z)) {m0 : AM} {A1 A2 : Option Addr} {n1 c1 n2 c2 : Nat} {xs1 xs2 : List Value} (r1 : Reads m0 sz A1 n1 xs1) (r2 : Reads m0 sz A2 n2 xs2)
    (o1 : ∀ u ∈ xs1, u.oneCell' = true) (o2 : ∀ u ∈ xs2, u.oneCell' = true) (hf : (n1 + n2) * bs ≤ 140737488355328) (hf2 : n1 + n2 ≤ 140737488355328) {K : Option Addr → Nat → Nat → AM → Prop}
    (hK : ∀ A c m', m0.le m' → Own m' w0.heap.size e sz A (n1 + n2) c (xs1 ++ xs2) → (∀ k ∈ obl A, m0 k = none) → K A (n1 + n2) c m') :
    ∀ b : Nat, w0.heap.size ≤ b → m0 b = none → let m1 := AM.upd m0 b (.cells #[] e);
      awp P w0.heap.size (Builtin.append_ #[t, t] t #[.slice (some ⟨b, 0, none⟩) 0 0, .slice A1 n1 c1]) m1 fun v2 m3 =>
      ∃ (A4 : Option Addr) (n5 c6 : Nat), v2 = .slice A4 n5 c6 ∧ awp P w0.heap.size (Builtin.append_ #[t, t] t #[.slice A4 n5 c6, .slice A2 n2 c2]) m3 fun v7 m8 =>
      ∃ (A9 : Option Addr) (n10 c11 : Nat), v7 = .slice A9 n10 c11 ∧ K A9 n10 c11 m8 := by
  intro b hb hmb m1
  have l1 : m0.le m1 := le_new hmb _
  have ow1 : Own m1 w0.heap.size e sz (some ⟨b, 0, none⟩) 0 0 [] := Own.new m0 hb e sz 0 [] (by simp)
  have hm1 : (0 + n1) * bs ≤ (n1 + n2) * bs := Nat.mul_le_mul_right _ (by omega)
  refine awp_append_loc (m0 := m0) hel l1 ow1 (fun k hk => by simp [obl] at hk; subst hk; exact hmb) (r1.le l1) o1 (by omega) (by omega) (fun A' c' m23 l23 f23 o23 n23 _ => ?_)
  refine ⟨A', 0 + n1, c', rfl, ?_⟩
  refine awp_append_loc (m0 := m0) hel l23 o23 n23 (r2.le l23) o2 (by rw [Nat.zero_add]; exact hf) (by omega) (fun A2' c2' m28 l28 f28 o28 n28 _ => ?_)
  refine ⟨A2', 0 + n1 + n2, c2', rfl, ?_⟩
  rw [Nat.zero_add] at o28 ⊢
  rw [List.nil_append] at o28
  exact hK _ _ _ l28 o28 n28

theorem blk4 {w0 : World} {m : AM} {T : TypeId} {z0 z1 z2 z3 v0 v1 v2 v3 : Value} {K : Nat → AM → Prop} (hK : ∀ b m', m.le m' → m b = none → w0.heap.size ≤ b → m' b = some (.cells #[v0, v1, v2, v3] T) → K b m') :
    ∀ b : Nat, w0.heap.size ≤ b → m b = none → let m1 := AM.upd m b (.cells #[z0, z1, z2, z3] T);
      StC w0.heap.size m1 ⟨b, 0, none⟩ v0 fun m2 => StC w0.heap.size m2 ⟨b, 1, none⟩ v1 fun m3 => StC w0.heap.size m3 ⟨b, 2, none⟩ v2 fun m4 => StC w0.heap.size m4 ⟨b, 3, none⟩ v3 fun m5 => K b m5 := by
  intro b hb hm m1
  refine StC_upd.2 ⟨hb, by simp, StC_upd.2 ⟨hb, by simp, StC_upd.2 ⟨hb, by simp, StC_upd.2 ⟨hb, by simp, ?_⟩⟩⟩⟩
  exact hK b _ (le_new hm _) hm hb (by rw [upd_get_same]; simp)

theorem blk5 {w0 : World} {m : AM} {T : TypeId} {z0 z1 z2 z3 z4 v0 v1 v2 v3 v4 : Value} {K : Nat → AM → Prop} (hK : ∀ b m', m.le m' → m b = none → w0.heap.size ≤ b → m' b = some (.cells #[v0, v1, v2, v3, v4] T) → K b m') :
    ∀ b : Nat, w0.heap.size ≤ b → m b = none → let m1 := AM.upd m b (.cells #[z0, z1, z2, z3, z4] T);
      StC w0.heap.size m1 ⟨b, 0, none⟩ v0 fun m2 => StC w0.heap.size m2 ⟨b, 1, none⟩ v1 fun m3 => StC w0.heap.size m3 ⟨b, 2, none⟩ v2 fun m4 => StC w0.heap.size m4 ⟨b, 3, none⟩ v3 fun m5 => StC w0.heap.size m5 ⟨b, 4, none⟩ v4 fun m6 => K b m6 := by
  intro b hb hm m1
  refine StC_upd.2 ⟨hb, by simp, StC_upd.2 ⟨hb, by simp, StC_upd.2 ⟨hb, by simp, StC_upd.2 ⟨hb, by simp, StC_upd.2 ⟨hb, by simp, ?_⟩⟩⟩⟩⟩
  exact hK b _ (le_new hm _) hm hb (by rw [upd_get_same]; simp)

theorem blk4x2 {w0 : World} {m : AM} {T : TypeId} {z0 z1 z2 z3 v0 v1 v2 v3 u0 u1 u2 u3 : Value} {K : Nat → Nat → AM → Prop}
    (hK : ∀ b c M, m.le M → m b = none → m c = none → b ≠ c → M b = some (.cells #[v0, v1, v2, v3] T) → M c = some (.cells #[u0, u1, u2, u3] T) → K b c M) :
    ∀ b : Nat, w0.heap.size ≤ b → m b = none → let m1 := AM.upd m b (.cells #[z0, z1, z2, z3] T);
    ∀ c : Nat, w0.heap.size ≤ c → m1 c = none → let m2 := AM.upd m1 c (.cells #[z0, z1, z2, z3] T);
      StC w0.heap.size m2 ⟨b, 0, none⟩ v0 fun m3 => StC w0.heap.size m3 ⟨b, 1, none⟩ v1 fun m4 => StC w0.heap.size m4 ⟨b, 2, none⟩ v2 fun m5 => StC w0.heap.size m5 ⟨b, 3, none⟩ v3 fun m6 =>
      StC w0.heap.size m6 ⟨c, 0, none⟩ u0 fun m7 => StC w0.heap.size m7 ⟨c, 1, none⟩ u1 fun m8 => StC w0.heap.size m8 ⟨c, 2, none⟩ u2 fun m9 => StC w0.heap.size m9 ⟨c, 3, none⟩ u3 fun m10 => K b c m10 := by
  intro b hb hmb m1 c hc hmc m2
  have hne : b ≠ c := fun e => by subst e; simp only [m1, upd_get_same] at hmc; cases hmc
  have hc0 : m c = none := by simp only [m1] at hmc; rwa [upd_get_ne hne.symm] at hmc
  have hb2 : m2 b = some (.cells #[z0, z1, z2, z3] T) := by simp only [m2, m1]; rw [upd_get_ne hne, upd_get_same]
  have hc2 : m2 c = some (.cells #[z0, z1, z2, z3] T) := by simp only [m2]; rw [upd_get_same]
  have hl2 : m.le m2 := AM.le_trans (le_new hmb _) (le_new hmc _)
  clear_value m2
  refine StC_own hb2 hb (by simp) (StC_upd.2 ⟨hb, by simp, StC_upd.2 ⟨hb, by simp, StC_upd.2 ⟨hb, by simp, ?_⟩⟩⟩)
  refine StC_own (by rw [upd_get_ne hne.symm]; exact hc2) hc (by simp) (StC_upd.2 ⟨hc, by simp, StC_upd.2 ⟨hc, by simp, StC_upd.2 ⟨hc, by simp, ?_⟩⟩⟩)
  refine hK b c _ ?_ hmb hc0 hne (by rw [upd_get_ne hne, upd_get_same]; simp) (by rw [upd_get_same]; simp)
  intro x o hx
  have hxb : x ≠ b := fun e => by subst e; rw [hmb] at hx; cases hx
  have hxc : x ≠ c := fun e => by subst e; rw [hc0] at hx; cases hx
  rw [upd_get_ne hxc, upd_get_ne hxb]
  exact hl2 _ _ hx
/-! One way of two. -/
theorem bcT {A B : Prop} (h : A) : bcase true A B := h
theorem bcF {A B : Prop} (h : B) : bcase false A B := h
theorem bcET {b : Bool} {A B : Prop} (hb : b = true) (h : A) : bcase b A B := by subst hb; exact h
theorem bcEF {b : Bool} {A B : Prop} (hb : b = false) (h : B) : bcase b A B := by subst hb; exact h
theorem bcI {b : Bool} {A B : Prop} (h1 : b = true → A) (h2 : b = false → B) : bcase b A B := by cases b <;> first | exact h1 rfl | exact h2 rfl
theorem bcP {p : Prop} [Decidable p] {A B : Prop} (h1 : p → A) (h2 : ¬ p → B) : bcase (decide p) A B := by
  by_cases h : p
  · rw [decide_eq_true h]; exact h1 h
  · rw [decide_eq_false h]; exact h2 h
/-- A cell of a known block. -/
theorem cel {m : AM} {b k : Nat} {c : Array Value} {t : TypeId} {f : Nat × Nat} {v : Value} (h : m b = some (.cells c t f)) (hk : c[k]? = some v) : m.cell ⟨b, k, none⟩ = some v := by rw [cell_of h]; exact hk
theorem cell_k {k : IntKind} {m : AM} {a : Addr} {l : List Int} (h : Cells m a (intCells k l)) {i : Int} (h0 : 0 ≤ i) (h1 : i < l.length) : m.cell (a.add (i.toNat * 1)) = some (.int k (l.getD i.toNat 0)) := by
  have hlt : i.toNat < l.length := by omega
  refine h _ _ ?_
  simp [intCells, hlt, List.getD]
end Go.Alog
