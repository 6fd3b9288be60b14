/- Ytkfemiloehkmhaa: a text of our own, by an AI agent: Ef2H -/
import Derived.Test.YtkfemiloehkmhaaEf1H
import Derived.Test.YtkfemiloehkmhaaVEff3H
import Derived.Test.YtkfemiloehkmhaaVR3H
set_option linter.unusedSimpArgs false
set_option linter.unusedVariables false
set_option maxRecDepth 100000
namespace Go.Proofs.Ytkfemiloehkmhaa.S
open Go Go.RowKit Go.Alog Go.Proofs.Ytkfemiloehkmhaa.T Go.Proofs.Ytkfemiloehkmhaa.V

def actsP (i : Ins) : Bool := rightR i && decide (i.op = 4 ∨ i.op = 5 ∨ i.op = 12 ∨ i.op = 13 ∨ i.op = 14 ∨ i.op = 20)
def goesP (i : Ins) : Bool := rightR i && decide (15 ≤ i.op ∧ i.op ≤ 19)

theorem acts_spec (w0 : World) (m : AM) (i : Ins) : CallsA Try.prog w0 92 #[i.val] m (fun r m' => r = .bool (actsP i) ∧ m.le m') := by
  generalize hR : (fun (r : Value) (m' : AM) => r = .bool (actsP i) ∧ m.le m') = R
  refine cf92 w0 m _ _ _ _ _ R ?_
  intro b hb hm M
  have l : m.le M := le_new hm _
  have p : M b = some (.cells i.cells.toArray 24) := upd_get_same
  clear_value M
  have ret : ∀ (v : Bool) (m' : AM), m.le m' → v = actsP i → RetP R (.bool v) m' := fun v m' l' e => retP_of (by rw [← hR, e]; exact ⟨rfl, l'⟩)
  have yes : actsP i = rightR i → ∃ i4 : Int, M.cell ⟨b, 0, none⟩ = some (.int .i64 i4) ∧ ∃ i5 : Int, M.cell ⟨b, 1, none⟩ = some (.int .i64 i5) ∧ ∃ i6 : Int, M.cell ⟨b, 2, none⟩ = some (.int .i64 i6) ∧ ∃ i7 : Int, M.cell ⟨b, 3, none⟩ = some (.int .i64 i7) ∧ ∃ i8 : Int, M.cell ⟨b, 4, none⟩ = some (.int .i64 i8) ∧ CallsA Try.prog w0 45 #[.agg #[.int .i64 i4, .int .i64 i5, .int .i64 i6, .int .i64 i7, .int .i64 i8]] M fun r10 m11 => ∃ t9 : Bool, r10 = .bool t9 ∧ RetP R (.bool t9) m11 := by
    intro e
    refine ⟨_, cel p rfl, _, cel p rfl, _, cel p rfl, _, cel p rfl, _, cel p rfl, ?_⟩
    refine CallsA.mono (isaRight w0 M i) ?_
    rintro r m2 ⟨rfl, l2⟩
    exact ⟨_, rfl, ret _ _ (AM.le_trans l l2) e.symm⟩
  refine ⟨_, cel p rfl, ?_⟩
  refine ⟨rfl, bcI (fun h => bcET h (yes (by unfold actsP; simp [show i.op = 4 by simpa using h]))) fun h4 => ?_⟩
  refine ⟨rfl, bcI (fun h => bcET h (yes (by unfold actsP; simp [show i.op = 5 by simpa using h]))) fun h5 => ?_⟩
  refine ⟨rfl, bcI (fun h => bcET h (yes (by unfold actsP; simp [show i.op = 12 by simpa using h]))) fun h12 => ?_⟩
  refine ⟨rfl, bcI (fun h => bcET h (yes (by unfold actsP; simp [show i.op = 13 by simpa using h]))) fun h13 => ?_⟩
  refine ⟨rfl, bcI (fun h => bcET h (yes (by unfold actsP; simp [show i.op = 14 by simpa using h]))) fun h14 => ?_⟩
  refine ⟨rfl, bcI (fun h =>  (yes (by unfold actsP; simp [show i.op = 20 by simpa using h]))) fun h20 => ?_⟩
  refine ret false M l ?_
  simp only [beq_eq_false_iff_ne, ne_eq] at h4 h5 h12 h13 h14 h20
  unfold actsP
  rw [decide_eq_false (by omega), Bool.and_false]

theorem goes_spec (w0 : World) (m : AM) (i : Ins) : CallsA Try.prog w0 52 #[i.val] m (fun r m' => r = .bool (goesP i) ∧ m.le m') := by
  generalize hR : (fun (r : Value) (m' : AM) => r = .bool (goesP i) ∧ m.le m') = R
  refine cf52 w0 m _ _ _ _ _ R ?_
  intro b hb hm M
  have l : m.le M := le_new hm _
  have p : M b = some (.cells i.cells.toArray 24) := upd_get_same
  clear_value M
  have ret : ∀ (v : Bool) (m' : AM), m.le m' → v = goesP i → RetP R (.bool v) m' := fun v m' l' e => retP_of (by rw [← hR, e]; exact ⟨rfl, l'⟩)
  have yes : goesP i = rightR i → ∃ i4 : Int, M.cell ⟨b, 0, none⟩ = some (.int .i64 i4) ∧ ∃ i5 : Int, M.cell ⟨b, 1, none⟩ = some (.int .i64 i5) ∧ ∃ i6 : Int, M.cell ⟨b, 2, none⟩ = some (.int .i64 i6) ∧ ∃ i7 : Int, M.cell ⟨b, 3, none⟩ = some (.int .i64 i7) ∧ ∃ i8 : Int, M.cell ⟨b, 4, none⟩ = some (.int .i64 i8) ∧ CallsA Try.prog w0 45 #[.agg #[.int .i64 i4, .int .i64 i5, .int .i64 i6, .int .i64 i7, .int .i64 i8]] M fun r10 m11 => ∃ t9 : Bool, r10 = .bool t9 ∧ RetP R (.bool t9) m11 := by
    intro e
    refine ⟨_, cel p rfl, _, cel p rfl, _, cel p rfl, _, cel p rfl, _, cel p rfl, ?_⟩
    refine CallsA.mono (isaRight w0 M i) ?_
    rintro r m2 ⟨rfl, l2⟩
    exact ⟨_, rfl, ret _ _ (AM.le_trans l l2) e.symm⟩
  refine ⟨_, cel p rfl, ?_⟩
  refine ⟨rfl, bcI (fun h => bcET h (yes (by unfold goesP; simp [show i.op = 15 by simpa using h]))) fun h15 => ?_⟩
  refine ⟨rfl, bcI (fun h => bcET h (yes (by unfold goesP; simp [show i.op = 16 by simpa using h]))) fun h16 => ?_⟩
  refine ⟨rfl, bcI (fun h => bcET h (yes (by unfold goesP; simp [show i.op = 17 by simpa using h]))) fun h17 => ?_⟩
  refine ⟨rfl, bcI (fun h => bcET h (yes (by unfold goesP; simp [show i.op = 18 by simpa using h]))) fun h18 => ?_⟩
  refine ⟨rfl, bcI (fun h => (yes (by unfold goesP; simp [show i.op = 19 by simpa using h]))) fun h19 => ?_⟩
  refine ret false M l ?_
  simp only [beq_eq_false_iff_ne, ne_eq] at h15 h16 h17 h18 h19
  unfold goesP
  rw [decide_eq_false (by omega), Bool.and_false]

theorem refGoes_spec (w0 : World) (m : AM) (i : Ins) : CallsA Try.prog w0 30 #[i.val] m (fun r m' => r = .bool (goesP i) ∧ m.le m') := by
  refine cf30 w0 m _ _ _ _ _ _ ?_
  intro b hb hm M
  have l : m.le M := le_new hm _
  have p : M b = some (.cells i.cells.toArray 24) := upd_get_same
  clear_value M
  refine ⟨_, cel p rfl, _, cel p rfl, _, cel p rfl, _, cel p rfl, _, cel p rfl, ?_⟩
  refine CallsA.mono (right_spec w0 M i) ?_
  rintro r m2 ⟨rfl, l2⟩
  refine ⟨_, rfl, ?_⟩
  have p2 := l2 _ _ p
  have L := AM.le_trans l l2
  unfold goesP
  cases hr : rightR i
  · exact ⟨rfl, rfl, retP_of ⟨rfl, L⟩⟩
  · refine ⟨_, cel p2 rfl, rfl, bcI (fun h => ⟨_, cel p2 rfl, rfl, retP_of ⟨?_, L⟩⟩) fun h => ⟨h, retP_of ⟨?_, L⟩⟩⟩
    · rw [h]
      have h := of_decide_eq_true h
      simp only [Bool.true_and, cond_true, Value.bool.injEq]
      exact decide_eq_decide.2 (by omega)
    · have h := of_decide_eq_false h
      rw [Bool.true_and, decide_eq_false (by omega)]

theorem refLate_spec (w0 : World) (m : AM) (i : Ins) : CallsA Try.prog w0 40 #[i.val] m (fun r m' => r = .bool (lateP i) ∧ m.le m') := by
  refine cf40 w0 m _ _ _ _ _ _ ?_
  intro b hb hm M
  have l : m.le M := le_new hm _
  have p : M b = some (.cells i.cells.toArray 24) := upd_get_same
  clear_value M
  refine ⟨_, cel p rfl, _, cel p rfl, _, cel p rfl, _, cel p rfl, _, cel p rfl, ?_⟩
  refine CallsA.mono (right_spec w0 M i) ?_
  rintro r m2 ⟨rfl, l2⟩
  refine ⟨_, rfl, ?_⟩
  have p2 := l2 _ _ p
  have L := AM.le_trans l l2
  unfold lateP
  cases hr : rightR i
  · exact ⟨rfl, retP_of ⟨rfl, L⟩⟩
  · refine ⟨_, cel p2 rfl, rfl, bcI (fun h => ⟨h, retP_of ⟨by rw [h]; rfl, L⟩⟩) fun h => ⟨_, cel p2 rfl, rfl, bcI (fun h2 => ⟨_, cel p2 rfl, rfl, retP_of ⟨?_, L⟩⟩) fun h2 => ⟨h2, retP_of ⟨by rw [h, h2]; rfl, L⟩⟩⟩⟩
    rw [h, h2]
    cases (i.imm == 1) <;> rfl
end Go.Proofs.Ytkfemiloehkmhaa.S
