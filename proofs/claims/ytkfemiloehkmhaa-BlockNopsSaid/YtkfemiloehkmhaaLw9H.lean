/- Ytkfemiloehkmhaa: a text of our own, by an AI agent: Lw9H -/
import Derived.Test.YtkfemiloehkmhaaAw9H
set_option linter.unusedSimpArgs false
set_option linter.unusedVariables false
set_option maxRecDepth 100000
namespace Go.Proofs.Ytkfemiloehkmhaa.S
open Go Go.RowKit Go.Alog Go.Proofs.Ytkfemiloehkmhaa.T Go.Proofs.Ytkfemiloehkmhaa.V

theorem awake9e (w0 : World) (m : AM) : CallsA Try.prog w0 20 #[] m (fun r m' => r = .bool true ∧ m' = m) := (awake9 w0 m).down fun _ _ h => h
theorem aw9 (w0 : World) (M : AM) {b : Bool} (hb : b = true) : CallsA Try.prog w0 20 #[] M (fun r m' => ∃ t : Bool, r = .bool t ∧ RetP (fun r _ => r = .bool true) (.bool (bif b then t else false)) m') := by
  subst hb
  exact callB (awake9e w0 M) (retP_of rfl)
theorem aw9' (w0 : World) (M : AM) : CallsA Try.prog w0 20 #[] M (fun r m' => ∃ t : Bool, r = .bool t ∧ RetP (fun r _ => r = .bool true) (.bool t) m') := callB (awake9e w0 M) (retP_of rfl)

theorem callT {P : Program} {w0 : World} {f : FuncId} {a : Array Value} {m : AM} {v : Int} {b : Bool} {K : Int → Bool → AM → Prop} (h : CallsA P w0 f a m (fun r m' => r = .tuple #[.int .i64 v, .bool b] ∧ m' = m)) (k : K v b m) : CallsA P w0 f a m (fun r m' => ∃ t : Int, ∃ u : Bool, r = .tuple #[.int .i64 t, .bool u] ∧ K t u m') :=
  CallsA.mono h (by rintro r m' ⟨rfl, rfl⟩; exact ⟨v, b, rfl, k⟩)

theorem law_BlockFits (W : World) (A0 : Option Addr) (n0 c0 : Nat) (l0 : List Ins) (z0 : l0.length = n0) (hlc0 : n0 ≤ c0) (rd0 : Reads (mOf W) 5 A0 n0 (insCells l0)) (y0 : n0 * 40 ≤ 140737488351232) (hw0 : ∀ i ∈ l0, i.wf) (i1 : Ins) (wi1 : i1.wf) (a2 : Int) (w2 : (Lit.int .i64 a2).wf = true) :
    CallsA Try.prog W 3 #[.slice A0 n0 c0, i1.val, .int .i64 a2] (mOf W) (fun r _ => r = .bool true) := by
  subst z0
  refine cf3 W _ _ _ _ _ _ _ _ _ _ _ ?_
  intro b hBb hNb M
  have l : AM.le _ M := le_new hNb _
  have p : M b = some (.cells (Ins.cells i1).toArray 24) := upd_get_same
  clear_value M
  have rd := rd0.le l
  refine ⟨rfl, bcP (fun h => ⟨decide_eq_true h, rfl, aw9' W M⟩) fun h => ⟨rfl, ?_⟩⟩
  rw [decide_eq_false h]
  refine bcI (fun h2 => ⟨h2, aw9' W M⟩) fun h2 => ⟨rfl, ?_⟩
  rw [h2]
  refine bcI (fun h3 => aw9' W M) fun h3 => ?_
  refine ldIns p (callT (target_e W M i1 a2) (ldIns p (callT (refTarget_e W M i1 a2) ⟨rfl, ?_⟩)))
  have e1 : (tgt i1 a2 == tgt i1 a2) = true := by simp
  have e2 : (tok i1 == tok i1) = true := by simp
  rw [e1, e2]
  refine bcT (bcT (callB (fit_e W M A0 c0 l0 (by omega) rd) (callB (refFit_e W M A0 c0 l0 (by omega) rd) ?_)))
  have e3 : (fitP l0 == fitP l0) = true := by simp
  rw [e3]
  refine bcT (callB (strict_e W M A0 c0 l0 (by omega) rd) (callB (refStrict_e W M A0 c0 l0 (by omega) rd) ?_))
  have e4 : (strictP l0 == strictP l0) = true := by simp
  rw [e4]
  exact bcT (aw9 W M rfl)

theorem law_BlockTargets (W : World) (i0 : Ins) (wi0 : i0.wf) (a1 : Int) (w1 : (Lit.int .u16 a1).wf = true) :
    CallsA Try.prog W 9 #[i0.val, .int .u16 a1] (mOf W) (fun r _ => r = .bool true) := by
  refine cf9 W _ _ _ _ _ _ _ _ ?_
  intro b hBb hNb M
  have l : AM.le _ M := le_new hNb _
  have p : M b = some (.cells (Ins.cells i0).toArray 24) := upd_get_same
  clear_value M
  refine ldIns p (callT (target_e W M i0 _) (ldIns p (callB (refRight_e W M i0) ?_)))
  generalize IntKind.wrap .i64 a1 = k
  have zero : ∀ {t : Int} {v : Bool}, t = 0 → v = false → IntKind.i64 = IntKind.i64 ∧ (bcase ((t : Int) == 0) (bcase (bif (t : Int) == 0 then !v else false) (CallsA Try.prog W 20 #[] M fun r23 m24 => ∃ t22 : Bool, r23 = .bool t22 ∧ RetP (fun r _ => r = .bool true) (.bool (bif bif (t : Int) == 0 then !v else false then t22 else false)) m24) ((bif (t : Int) == 0 then !v else false) = false ∧ RetP (fun r _ => r = .bool true) (.bool false) M)) (((t : Int) == 0) = false ∧ false = false ∧ RetP (fun r _ => r = .bool true) (.bool false) M)) := by
    rintro t v rfl rfl
    exact ⟨rfl, bcT (bcT (aw9 W M rfl))⟩
  have same : ∀ {t u : Int} {v : Bool}, t = u → v = true → IntKind.i64 = IntKind.i64 ∧ (bcase ((t : Int) == u) (bcase (bif (t : Int) == u then v else false) (CallsA Try.prog W 20 #[] M fun r23 m24 => ∃ t22 : Bool, r23 = .bool t22 ∧ RetP (fun r _ => r = .bool true) (.bool (bif bif (t : Int) == u then v else false then t22 else false)) m24) ((bif (t : Int) == u then v else false) = false ∧ RetP (fun r _ => r = .bool true) (.bool false) M)) (((t : Int) == u) = false ∧ false = false ∧ RetP (fun r _ => r = .bool true) (.bool false) M)) := by
    rintro t u v rfl rfl
    have e : (t == t) = true := by simp
    rw [e]
    exact ⟨rfl, bcT (bcT (aw9 W M rfl))⟩
  cases hr : rightR i0 with
  | false => exact bcT (zero (by unfold tgt; rw [if_neg (by simp [hr])]) (by unfold tok; rw [hr]; rfl))
  | true =>
    have tt : tgt i0 k = (if i0.op = 15 ∨ i0.op = 16 then w64 (w64 (k + 1) + i0.imm) else if i0.op = 17 ∨ i0.op = 18 then i0.imm else 0) := by unfold tgt; rw [if_pos hr]
    have tk : tok i0 = decide (15 ≤ i0.op ∧ i0.op ≤ 18) := by unfold tok; rw [hr]; rfl
    refine bcF ⟨_, cel p rfl, rfl, ?_⟩
    refine bcI (fun h => bcET h ⟨rfl, _, cel p rfl, rfl, ?_⟩) (fun h => ⟨rfl, bcI (fun h2 => ⟨rfl, _, cel p rfl, rfl, ?_⟩) (fun h2 => ⟨rfl, bcI (fun h3 => bcET h3 ⟨_, cel p rfl, ?_⟩) (fun h3 => ⟨rfl, bcI (fun h4 => ⟨_, cel p rfl, ?_⟩) (fun h4 => ?_)⟩)⟩)⟩)
    · have e : i0.op = 15 := by simpa using h
      exact same (by rw [tt, if_pos (.inl e)]; rfl) (by rw [tk, e]; rfl)
    · have e : i0.op = 16 := by simpa using h2
      exact same (by rw [tt, if_pos (.inr e)]; rfl) (by rw [tk, e]; rfl)
    · have e : i0.op = 17 := by simpa using h3
      exact same (by rw [tt, if_neg (by omega), if_pos (.inl e)]) (by rw [tk, e]; rfl)
    · have e : i0.op = 18 := by simpa using h4
      exact same (by rw [tt, if_neg (by omega), if_pos (.inr e)]) (by rw [tk, e]; rfl)
    · simp only [beq_eq_false_iff_ne, ne_eq] at h h2 h3 h4
      exact zero (by rw [tt, if_neg (by omega), if_neg (by omega)]) (by rw [tk]; exact decide_eq_false (by omega))
end Go.Proofs.Ytkfemiloehkmhaa.S
