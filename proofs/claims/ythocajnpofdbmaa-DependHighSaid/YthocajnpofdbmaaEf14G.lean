/- Ythocajnpofdbmaa: a text of our own, by an AI agent: Ef14G -/
import Derived.Test.YthocajnpofdbmaaEf13G
import Derived.Test.YthocajnpofdbmaaVLaw3G
set_option linter.unusedSimpArgs false
set_option linter.unusedVariables false
set_option maxRecDepth 100000
namespace Go.Proofs.Ythocajnpofdbmaa.S
open Go Go.RowKit Go.Alog Go.Proofs.Ythocajnpofdbmaa.T Go.Proofs.Ythocajnpofdbmaa.V

theorem right_in {i : Ins} (h : rightR i = true) : (0 ≤ i.op ∧ i.op ≤ 20) ∧ (0 ≤ i.a ∧ i.a ≤ 31) ∧ (0 ≤ i.b ∧ i.b ≤ 31) ∧ (0 ≤ i.c ∧ i.c ≤ 31) := by
  rw [← rightI_eq] at h
  unfold rightI pOk regI at h
  simp only [Bool.and_eq_true, decide_eq_true_eq] at h
  omega
theorem fieldL_in {i : Ins} (h : rightR i = true) : ∀ x ∈ fieldL i, 0 ≤ x ∧ x ≤ 31 := by
  obtain ⟨_, ha, hb, hc⟩ := right_in h
  intro x hx
  unfold fieldL at hx
  repeat' split at hx
  all_goals simp at hx
  all_goals omega
/-- At most two registers, rising. -/
inductive Two : List Int → Prop
  | none : Two []
  | one (x : Int) : 1 ≤ x → x ≤ 31 → Two [x]
  | two (x y : Int) : 1 ≤ x → x < y → y ≤ 31 → Two [x, y]
theorem two_of {l : List Int} (h2 : l.length ≤ 2) (h : ∀ x ∈ l, 0 ≤ x ∧ x ≤ 31) : Two (dd (s2 (nz l))) ∧ ∀ n, n ∈ dd (s2 (nz l)) ↔ n ∈ l ∧ n ≠ 0 := by
  match l, h2 with
  | [], _ => exact ⟨.none, fun n => by simp [nz, s2, dd]⟩
  | [x], _ =>
    have hx := h x (by simp)
    by_cases x0 : x = 0
    · have : nz [x] = [] := by simp [nz, x0]
      rw [this]
      refine ⟨.none, fun n => ?_⟩
      simp [s2, dd, x0]
    · have : nz [x] = [x] := by simp [nz, x0]
      rw [this]
      refine ⟨.one x (by omega) hx.2, fun n => ?_⟩
      simp only [s2, dd, List.mem_singleton]
      constructor
      · rintro rfl; exact ⟨rfl, x0⟩
      · rintro ⟨rfl, _⟩; rfl
  | [x, y], _ =>
    have hx := h x (by simp)
    have hy := h y (by simp)
    by_cases x0 : x = 0
    · by_cases y0 : y = 0
      · have : nz [x, y] = [] := by simp [nz, x0, y0]
        rw [this]
        refine ⟨.none, fun n => ?_⟩
        simp [s2, dd, x0, y0]
      · have : nz [x, y] = [y] := by simp [nz, x0, y0]
        rw [this]
        refine ⟨.one y (by omega) hy.2, fun n => ?_⟩
        simp only [s2, dd, List.mem_singleton, List.mem_cons, List.not_mem_nil, or_false]
        constructor
        · rintro rfl; exact ⟨.inr rfl, y0⟩
        · rintro ⟨h | h, h'⟩ <;> omega
    · by_cases y0 : y = 0
      · have : nz [x, y] = [x] := by simp [nz, x0, y0]
        rw [this]
        refine ⟨.one x (by omega) hx.2, fun n => ?_⟩
        simp only [s2, dd, List.mem_singleton, List.mem_cons, List.not_mem_nil, or_false]
        constructor
        · rintro rfl; exact ⟨.inl rfl, x0⟩
        · rintro ⟨h | h, h'⟩ <;> omega
      · have : nz [x, y] = [x, y] := by simp [nz, x0, y0]
        rw [this]
        rcases Int.lt_trichotomy x y with hl | hl | hl
        · have e : dd (s2 [x, y]) = [x, y] := by unfold s2; simp only; rw [if_neg (by omega)]; unfold dd; simp only; rw [if_neg (by omega)]
          rw [e]
          refine ⟨.two x y (by omega) hl hy.2, fun n => ?_⟩
          simp only [List.mem_cons, List.not_mem_nil, or_false]
          constructor
          · intro h; exact ⟨h, by omega⟩
          · exact fun h => h.1
        · have e : dd (s2 [x, y]) = [x] := by unfold s2; simp only; rw [if_neg (by omega)]; unfold dd; simp only; rw [if_pos hl.symm]
          rw [e]
          refine ⟨.one x (by omega) hx.2, fun n => ?_⟩
          simp only [List.mem_cons, List.not_mem_nil, or_false]
          constructor
          · intro h; exact ⟨.inl h, by omega⟩
          · rintro ⟨h | h, _⟩ <;> omega
        · have e : dd (s2 [x, y]) = [y, x] := by unfold s2; simp only; rw [if_pos hl]; unfold dd; simp only; rw [if_neg (by omega)]
          rw [e]
          refine ⟨.two y x (by omega) hl hx.2, fun n => ?_⟩
          simp only [List.mem_cons, List.not_mem_nil, or_false]
          constructor
          · intro h; exact ⟨by omega, by omega⟩
          · rintro ⟨h, _⟩; omega
theorem readsL_two (i : Ins) : Two (readsL i) := by
  unfold readsL
  split
  · exact (two_of (fieldL_len i) (fieldL_in ‹_›)).1
  · exact .none
theorem readsL_c (i : Ins) (n : Int) : (readsL i).contains n = readsR i n := by
  unfold readsL readsR
  by_cases hr : rightR i = true
  · rw [if_pos hr, hr, Bool.true_and, Bool.eq_iff_iff]
    have h := (two_of (fieldL_len i) (fieldL_in hr)).2 n
    have h2 := fieldL_in hr n
    simp only [List.contains_iff_mem, Bool.and_eq_true, decide_eq_true_eq]
    rw [h]
    constructor
    · rintro ⟨a, b⟩; have := h2 a; exact ⟨by omega, a⟩
    · rintro ⟨a, b⟩; exact ⟨b, by omega⟩
  · rw [if_neg hr]
    simp at hr
    rw [hr]; rfl
theorem touchesP_eq (i : Ins) (n : Int) : touchesP i n = (n != 0 && (writesP i == n || readsR i n)) := by unfold touchesP; rw [readsL_c]
theorem writesP_in (i : Ins) : 0 ≤ writesP i ∧ writesP i ≤ 31 := by
  unfold writesP
  split
  · have := right_in ‹_›
    unfold fieldW
    repeat' split
    all_goals omega
  · omega
theorem wrong_reads {i : Ins} (h : rightR i = false) : readsL i = [] := by unfold readsL; rw [h]; rfl
theorem wrong_writes {i : Ins} (h : rightR i = false) : writesP i = 0 := by unfold writesP; rw [h]; rfl
theorem wrong_acts {i : Ins} (h : rightR i = false) : actsP i = false := by unfold actsP; rw [h]; rfl
theorem wrong_goes {i : Ins} (h : rightR i = false) : goesP i = false := by unfold goesP; rw [h]; rfl
theorem wrong_late {i : Ins} (h : rightR i = false) : lateP i = false := by unfold lateP; rw [h]; rfl
theorem wrong_touches {i : Ins} (h : rightR i = false) (n : Int) : touchesP i n = false := by
  rw [touchesP_eq, wrong_writes h]; unfold readsR; rw [h]
  by_cases e : n = 0
  · simp [e]
  · have : ((0 : Int) == n) = false := by simpa using fun h => e h.symm
    rw [this]; simp
theorem goes_acts {i : Ins} (h : goesP i = true) : actsP i = false := by
  unfold goesP at h; unfold actsP
  simp only [Bool.and_eq_true, decide_eq_true_eq] at h
  rw [decide_eq_false (by omega), Bool.and_false]
theorem late_acts {i : Ins} (h : lateP i = true) : actsP i = true := by
  unfold lateP at h; unfold actsP
  simp only [Bool.and_eq_true, Bool.or_eq_true, beq_iff_eq] at h
  rw [h.1, decide_eq_true (by omega)]; rfl
theorem touches_0 (i : Ins) : touchesP i 0 = false := by rw [touchesP_eq]; rfl

theorem awake3 (w0 : World) (m : AM) : CallsA Try.prog w0 26 #[] m (fun r m' => r = .bool true ∧ m' = m) := by
  refine CallsA.down (R := fun r m' => r = .bool true ∧ m.le m') ?_ fun _ _ h => h
  refine cf26 w0 m _ ⟨rfl, ?_⟩
  refine CallsA.mono (reads_spec w0 m ⟨13, 3, 3, 0, 0⟩) ?_
  rintro r m1 ⟨⟨A, c, rfl, o1, f1⟩, l1⟩
  have e : readsL ⟨13, 3, 3, 0, 0⟩ = [3] := by decide
  rw [e] at o1 ⊢
  obtain ⟨ad, rfl, hc⟩ := o1.ex (by decide)
  refine ⟨_, _, _, rfl, rfl, bcT ⟨⟨by decide, by decide⟩, ?_⟩⟩
  rw [nilO_some]
  refine ⟨_, hc 0 _ rfl, rfl, bcT ⟨rfl, ?_⟩⟩
  refine callI (writes_e w0 m1 ⟨11, 7, 0, 0, 0⟩) ?_
  rw [show writesP ⟨11, 7, 0, 0, 0⟩ = 7 by decide]
  refine ⟨rfl, bcT ⟨rfl, callB (acts_e w0 m1 ⟨4, 0, 0, 0, 0⟩) ?_⟩⟩
  rw [show actsP ⟨4, 0, 0, 0, 0⟩ = true by decide]
  refine bcT ⟨rfl, callB (goes_e w0 m1 ⟨17, 0, 0, 0, 0⟩) ?_⟩
  rw [show goesP ⟨17, 0, 0, 0, 0⟩ = true by decide]
  refine bcT ⟨rfl, callB (late_e w0 m1 ⟨12, 0, 0, 0, 0⟩) ?_⟩
  rw [show lateP ⟨12, 0, 0, 0, 0⟩ = true by decide]
  refine bcT ⟨rfl, callB (touches_e w0 m1 ⟨18, 0, 0, 0, 0⟩ 31) ?_⟩
  rw [show touchesP ⟨18, 0, 0, 0, 0⟩ 31 = true by decide]
  exact retP_of ⟨rfl, l1⟩
theorem aw3 (w0 : World) (M : AM) {b : Bool} (hb : b = true) : CallsA Try.prog w0 26 #[] M (fun r m' => ∃ t : Bool, r = .bool t ∧ RetP (fun r _ => r = .bool true) (.bool (bif b then t else false)) m') := by
  subst hb
  exact callB (awake3 w0 M) (retP_of rfl)

theorem law_EffectDoes (W : World) (i0 : Ins) (wi0 : i0.wf) : CallsA Try.prog W 4 #[i0.val] (mOf W) (fun r _ => r = .bool true) := by
  refine cf4 W _ _ _ _ _ _ _ ?_
  intro b hBb hNb M
  have l : AM.le _ M := le_new hNb _
  have p : M b = some (.cells (Ins.cells i0).toArray 23) := upd_get_same
  clear_value M
  refine ldIns p ⟨_, acts_e W M i0, ldIns p (callB (refActs_e W M i0) ?_)⟩
  have e1 : ∀ x : Bool, (x == x) = true := fun x => by cases x <;> rfl
  refine bcET (e1 _) (ldIns p ⟨_, goes_e W M i0, ldIns p (callB (refGoes_e W M i0) ?_)⟩)
  rw [e1]
  refine bcET (e1 _) (ldIns p ⟨_, late_e W M i0, ldIns p (callB (refLate_e W M i0) ?_)⟩)
  rw [e1]
  have e2 : (bif bif true then true else false then lateP i0 == lateP i0 else false) = true := e1 _
  exact bcET e2 (aw3 W M e2)

theorem law_EffectStops (W : World) (i0 : Ins) (wi0 : i0.wf) (a1 : Int) (w1 : (Lit.int .i64 a1).wf = true) : CallsA Try.prog W 7 #[i0.val, .int .i64 a1] (mOf W) (fun r _ => r = .bool true) := by
  refine cf7 W _ _ _ _ _ _ a1 _ ?_
  intro b hBb hNb M
  have l : AM.le _ M := le_new hNb _
  have p : M b = some (.cells (Ins.cells i0).toArray 23) := upd_get_same
  clear_value M
  refine StC_own p hBb (show 1 < 5 by decide) ?_
  have l2 : (mOf W).le (M.upd b (.cells ((Ins.cells i0).toArray.setIfInBounds 1 (.int .i64 (-1))) 23)) := fun k o hk => by
    have : k ≠ b := fun e => by subst e; rw [hNb] at hk; cases hk
    rw [upd_get_ne this]; exact l _ _ hk
  have p2 : (M.upd b (.cells ((Ins.cells i0).toArray.setIfInBounds 1 (.int .i64 (-1))) 23)) b = some (.cells (Ins.cells ⟨i0.op, -1, i0.b, i0.c, i0.imm⟩).toArray 23) := upd_get_same
  generalize (M.upd b (.cells ((Ins.cells i0).toArray.setIfInBounds 1 (.int .i64 (-1))) 23)) = M2 at l2 p2 ⊢
  clear p l
  generalize hj : (⟨i0.op, -1, i0.b, i0.c, i0.imm⟩ : Ins) = j at p2
  have hr : rightR j = false := by
    cases h : rightR j with
    | false => rfl
    | true => have := right_in h; rw [← hj] at this; exact absurd (show (0 : Int) ≤ -1 from this.2.1.1) (by decide)
  refine ldIns p2 ?_
  refine CallsA.mono (reads_spec W M2 j) ?_
  rintro r m1 ⟨⟨A, c, rfl, o1, f1⟩, l1⟩
  have p3 := l1 _ _ p2
  rw [wrong_reads hr]
  refine ⟨_, _, _, rfl, rfl, bcT (ldIns p3 (callI (writes_e W m1 j) ?_))⟩
  rw [wrong_writes hr]
  refine ⟨rfl, bcT (ldIns p3 (callB (acts_e W m1 j) ?_))⟩
  rw [wrong_acts hr]
  refine bcT (ldIns p3 (callB (goes_e W m1 j) ?_))
  rw [wrong_goes hr]
  refine bcT (ldIns p3 (callB (late_e W m1 j) ?_))
  rw [wrong_late hr]
  refine bcT (ldIns p3 (callB (touches_e W m1 j a1) ?_))
  rw [wrong_touches hr]
  exact bcT (aw3 W m1 rfl)
end Go.Proofs.Ythocajnpofdbmaa.S
