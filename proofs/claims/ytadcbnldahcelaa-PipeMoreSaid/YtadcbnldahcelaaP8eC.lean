/- Ytadcbnldahcelaa: a text of our own, by an AI agent: P8eC -/
import Derived.Test.YtadcbnldahcelaaP8dC
set_option linter.unusedSimpArgs false
set_option linter.unusedVariables false
set_option maxRecDepth 100000
namespace Go.Proofs.Ytadcbnldahcelaa.S
open Go Go.RowKit Go.Alog Go.Proofs.Ytadcbnldahcelaa.T Go.Proofs.Ytadcbnldahcelaa.V

/-- The last stage. -/
def writeP (s : PS) : PS := { s with regs := if s.a.full = true ∧ s.a.reg ≠ 0 then s.regs.set s.a.reg.toNat s.a.value else s.regs, a := La0 }
theorem write_spec (w0 : World) (m : AM) (g : Nat) (code : List Ins) (s : PS) (q : PA) (hn : 0 ≤ s.a.reg ∧ s.a.reg < 32) (h : PipR m w0.heap.size g code s q) :
    CallsA Try.prog w0 60 #[.pointer (some ⟨g, 0, none⟩)] m (fun r m' => r = .tuple #[] ∧ PPost w0.heap.size m g q code (writeP s) m') := by
  refine cf60 w0 m g _ ?_
  refine ⟨_, h.hi' 36, _, h.hi' 37, _, h.hi' 38, _, h.hi' 39, _, h.hi' 40, _, h.hi' 41, _, h.hi' 42, _, h.hi' 43, _, h.hi' 44, _, h.hi' 45, _, h.hi' 46, _, h.hi' 47, ?_⟩
  refine new12 fun b m1 hb hm l1 p1 => ?_
  have Q : PQ m w0.heap.size g code q q m1 s := (PQ.of h).le l1
  unfold writeP
  refine ⟨_, cel p1 rfl, bcI (fun hf => ⟨_, cel p1 rfl, rfl, bcI (fun hr => ?_) fun hr => ?_⟩) fun hf => ?_⟩
  · refine ⟨_, cel p1 rfl, _, cel p1 rfl, hn, Q.putReg hn _ fun m2 Q2 _ => ⟨rfl, Q2.put_a La0 fun m3 Q3 _ => retP_of ⟨rfl, ?_⟩⟩⟩
    rw [if_pos (by simp [hf] at hr; exact ⟨hf, hr⟩)]
    exact Q3.post rfl
  · refine ⟨rfl, Q.put_a La0 fun m3 Q3 _ => retP_of ⟨rfl, ?_⟩⟩
    rw [if_neg (by simp [hf] at hr; simp [hr])]
    exact Q3.post rfl
  · refine ⟨hf, rfl, Q.put_a La0 fun m3 Q3 _ => retP_of ⟨rfl, ?_⟩⟩
    rw [if_neg (by simp [hf])]
    exact Q3.post rfl

/-- A call of the system. -/
def sysL (s : PS) (l : La) : PS × La :=
  if l.i.imm = 0 then (s, { l with trap := 1 })
  else if l.i.imm = 1 then match s.inp with
    | [] => (s, { l with trap := 6 })
    | x :: r => ({ s with inp := r }, { l with value := w32 x })
  else if l.i.imm = 2 then (if s.out.length ≥ 10000 then (s, { l with trap := 9 }) else ({ s with out := s.out ++ [l.stored] }, l))
  else (s, l)

theorem psys_spec (w0 : World) (m : AM) (g : Nat) (code : List Ins) (s : PS) (q : PA) (l : La) (h : PipR m w0.heap.size g code s q) :
    CallsA Try.prog w0 70 #[.pointer (some ⟨g, 0, none⟩), l.val] m (fun r m' => r = (sysL s l).2.val ∧ PPost w0.heap.size m g q code (sysL s l).1 m') := by
  generalize hR : (fun (r : Value) (m' : AM) => r = (sysL s l).2.val ∧ PPost w0.heap.size m g q code (sysL s l).1 m') = R
  refine cf70 w0 m g _ _ _ _ _ _ _ _ _ _ _ _ R ?_
  intro b1 hb1 hm1 m2
  have l1 : m.le m2 := le_new hm1 _
  have p1 : m2 b1 = some (.cells l.vals.toArray 77) := upd_get_same
  clear_value m2
  intro b3 hb3 hm3 m4
  have l3 : m2.le m4 := le_new hm3 _
  have p3 : m4 b3 = some (.cells La0.vals.toArray 77) := upd_get_same
  have q1 := l3 _ _ p1
  clear_value m4
  have ne : b1 ≠ b3 := fun e => by subst e; rw [p1] at hm3; cases hm3
  have hm3' : m b3 = none := AM.le_none l1 hm3
  have Q : PQ m w0.heap.size g code q q m4 s := ((PQ.of h).le l1).le l3
  -- the last part: the local latch is copied and given back
  have fin : ∀ (m5 : AM) (s' : PS) (q' : PA) (l' : La) (σ : Sg), q'.Ac = q.Ac → PQ m w0.heap.size g code q q' m5 s' → m5 b1 = some (.cells l'.vals.toArray 77) → m5 b3 = some (.cells La0.vals.toArray 77) → sysL s l = (s', l') →
      StC w0.heap.size m5 ⟨b3, 0, none⟩ (.bool l'.full) fun y0 => StC w0.heap.size y0 ⟨b3, 1, none⟩ (.int .i64 l'.i.op) fun y1 => StC w0.heap.size y1 ⟨b3, 2, none⟩ (.int .i64 l'.i.a) fun y2 => StC w0.heap.size y2 ⟨b3, 3, none⟩ (.int .i64 l'.i.b) fun y3 => StC w0.heap.size y3 ⟨b3, 4, none⟩ (.int .i64 l'.i.c) fun y4 => StC w0.heap.size y4 ⟨b3, 5, none⟩ (.int .i64 l'.i.imm) fun y5 => StC w0.heap.size y5 ⟨b3, 6, none⟩ (.int .i64 l'.at_) fun y6 => StC w0.heap.size y6 ⟨b3, 7, none⟩ (.int .i64 l'.reg) fun y7 => StC w0.heap.size y7 ⟨b3, 8, none⟩ (.int .i64 l'.value) fun y8 => StC w0.heap.size y8 ⟨b3, 9, none⟩ (.int .i64 l'.stored) fun y9 => StC w0.heap.size y9 ⟨b3, 10, none⟩ (.int .i64 l'.where_) fun y10 => StC w0.heap.size y10 ⟨b3, 11, none⟩ (.int .i64 l'.trap) fun y11 => ∃ t0 : Bool, y11.cell ⟨b3, 0, none⟩ = some (.bool t0) ∧ ∃ i1 : Int, y11.cell ⟨b3, 1, none⟩ = some (.int .i64 i1) ∧ ∃ i2 : Int, y11.cell ⟨b3, 2, none⟩ = some (.int .i64 i2) ∧ ∃ i3 : Int, y11.cell ⟨b3, 3, none⟩ = some (.int .i64 i3) ∧ ∃ i4 : Int, y11.cell ⟨b3, 4, none⟩ = some (.int .i64 i4) ∧ ∃ i5 : Int, y11.cell ⟨b3, 5, none⟩ = some (.int .i64 i5) ∧ ∃ i6 : Int, y11.cell ⟨b3, 6, none⟩ = some (.int .i64 i6) ∧ ∃ i7 : Int, y11.cell ⟨b3, 7, none⟩ = some (.int .i64 i7) ∧ ∃ i8 : Int, y11.cell ⟨b3, 8, none⟩ = some (.int .i64 i8) ∧ ∃ i9 : Int, y11.cell ⟨b3, 9, none⟩ = some (.int .i64 i9) ∧ ∃ i10 : Int, y11.cell ⟨b3, 10, none⟩ = some (.int .i64 i10) ∧ ∃ i11 : Int, y11.cell ⟨b3, 11, none⟩ = some (.int .i64 i11) ∧ RetP R (.agg #[.bool t0, .int .i64 i1, .int .i64 i2, .int .i64 i3, .int .i64 i4, .int .i64 i5, .int .i64 i6, .int .i64 i7, .int .i64 i8, .int .i64 i9, .int .i64 i10, .int .i64 i11]) y11 := by
    intro m5 s' q' l' σ hc Q5 p15 p35 hs
    refine Q5.locAll l' p35 hb3 hm3' fun m6 Q6 p6 _ => ?_
    refine ⟨_, cel p6 rfl, _, cel p6 rfl, _, cel p6 rfl, _, cel p6 rfl, _, cel p6 rfl, _, cel p6 rfl, _, cel p6 rfl, _, cel p6 rfl, _, cel p6 rfl, _, cel p6 rfl, _, cel p6 rfl, _, cel p6 rfl, retP_of ?_⟩
    rw [← hR, hs]
    exact ⟨rfl, Q6.post hc⟩
  have fin2 : ∀ (m5 : AM) (s' : PS) (q' : PA) (l' : La) (σ : Sg), q'.Ac = q.Ac → PQ m w0.heap.size g code q q' m5 s' → m5 b1 = some (.cells l'.vals.toArray 77) → m5 b3 = some (.cells La0.vals.toArray 77) → sysL s l = (s', l') → σ 3 = .pointer (some ⟨b1, 0, none⟩) → σ 4 = .pointer (some ⟨b3, 0, none⟩) → ∀ m, m = m5 → (vcS Try.prog w0 qs70 (sub c70 [1, 1]) σ m (retQ Try.prog Try.f70 R)) := by
    intro m5 s' q' l' σ hc Q5 p15 p35 hs h3 h4 m hm
    subst hm
    refine vk70_11 w0 m σ R b1 b3 h3 h4 ?_
    refine ⟨_, cel p15 rfl, _, cel p15 rfl, _, cel p15 rfl, _, cel p15 rfl, _, cel p15 rfl, _, cel p15 rfl, _, cel p15 rfl, _, cel p15 rfl, _, cel p15 rfl, _, cel p15 rfl, _, cel p15 rfl, _, cel p15 rfl, ?_⟩
    exact fin m s' q' l' σ hc Q5 p15 p35 hs
  refine ⟨_, cel q1 rfl, rfl, bcI (fun h0 => ?_) fun h0 => ⟨rfl, bcI (fun h1 => ?_) fun h1 => ⟨rfl, bcI (fun h2 => ?_) fun h2 => ?_⟩⟩⟩
  · refine Q.loc { l with trap := 1 } q1 hb1 hm1 rfl (by omega) fun m5 Q5 p5 f5 => ?_
    exact fin2 m5 _ q _ _ rfl Q5 p5 (keepB f5 p3 ne.symm) (by unfold sysL; rw [if_pos (by simpa using h0)]) rfl rfl _ rfl
  · have n0 : l.i.imm ≠ 0 := by simpa using h0
    have e1 : l.i.imm = 1 := by simpa using h1
    refine ⟨_, _, _, Q.R.cells.2.2.2.1, rfl, bcI (fun hl => ?_) fun hl => ?_⟩
    · refine Q.loc { l with trap := 6 } q1 hb1 hm1 rfl (by omega) fun m5 Q5 p5 f5 => ?_
      have hi : s.inp = [] := List.eq_nil_of_length_eq_zero (by simpa using hl)
      refine ⟨_, cel p5 rfl, _, cel p5 rfl, _, cel p5 rfl, _, cel p5 rfl, _, cel p5 rfl, _, cel p5 rfl, _, cel p5 rfl, _, cel p5 rfl, _, cel p5 rfl, _, cel p5 rfl, _, cel p5 rfl, _, cel p5 rfl, ?_⟩
      exact fin m5 s q { l with trap := 6 } (fun _ => .bool false) rfl Q5 p5 (keepB f5 p3 ne.symm) (by unfold sysL; rw [if_neg n0, if_pos e1, hi])
    · obtain ⟨x, r, hi⟩ : ∃ x r, s.inp = x :: r := by
        cases hs : s.inp with
        | nil => rw [hs] at hl; exact absurd hl (by decide)
        | cons x r => exact ⟨x, r, rfl⟩
      have hl2 : 1 ≤ s.inp.length := by rw [hi]; simp
      obtain ⟨ai, hai, hci⟩ := Q.R.hi.ex (by omega)
      have hx : m4.cell (ai.add 0) = some (.int .i64 x) := hci 0 _ (by rw [hi]; rfl)
      refine ⟨_, _, _, Q.R.cells.2.2.2.1, ⟨by decide, by omega⟩, ?_⟩
      rw [hai, nilO_some]
      refine ⟨_, hx, ?_⟩
      refine CallsA.mono (wrapW w0 m4 x) ?_
      rintro r' m5 ⟨rfl, hm5⟩
      subst hm5
      refine ⟨_, rfl, ?_⟩
      refine Q.loc { l with value := w32 x } q1 hb1 hm1 rfl (by omega) fun m6 Q6 p6 f6 => ?_
      refine ⟨_, _, _, Q6.R.cells.2.2.2.1, by decide, Q6.R.hic, hl2, ?_⟩
      refine Q6.putIn hi fun m7 q7 hc7 Q7 f7 => ?_
      exact fin2 m7 _ q7 _ _ hc7 Q7 (keepB f7 p6 (Q6.neg p6)) (keepB f7 (keepB f6 p3 ne.symm) (Q6.neg (keepB f6 p3 ne.symm))) (by unfold sysL; rw [if_neg n0, if_pos e1, hi]) rfl rfl _ rfl
  · have n0 : l.i.imm ≠ 0 := by simpa using h0
    have n1 : l.i.imm ≠ 1 := by simpa using h1
    have e2 : l.i.imm = 2 := by simpa using h2
    refine ⟨_, _, _, Q.R.cells.2.2.2.2, rfl, bcI (fun hl => ?_) fun hl => ?_⟩
    · refine Q.loc { l with trap := 9 } q1 hb1 hm1 rfl (by omega) fun m5 Q5 p5 f5 => ?_
      have hl' : s.out.length ≥ 10000 := by have := of_decide_eq_true hl; omega
      refine ⟨_, cel p5 rfl, _, cel p5 rfl, _, cel p5 rfl, _, cel p5 rfl, _, cel p5 rfl, _, cel p5 rfl, _, cel p5 rfl, _, cel p5 rfl, _, cel p5 rfl, _, cel p5 rfl, _, cel p5 rfl, _, cel p5 rfl, ?_⟩
      exact fin m5 s q { l with trap := 9 } (fun _ => .bool false) rfl Q5 p5 (keepB f5 p3 ne.symm) (by unfold sysL; rw [if_neg n0, if_neg n1, if_pos e2, if_pos hl'])
    · have hl' : ¬ s.out.length ≥ 10000 := by have := of_decide_eq_false hl; omega
      refine ⟨_, _, _, Q.R.cells.2.2.2.2, _, cel q1 rfl, rfl, ?_⟩
      refine Q.putOut l.stored (by omega) fun _ _ _ _ m5 q5 hc5 Q5 k5 => ?_
      exact fin2 m5 _ q5 _ _ hc5 Q5 (k5 _ _ q1) (k5 _ _ p3) (by unfold sysL; rw [if_neg n0, if_neg n1, if_pos e2, if_neg hl']) rfl rfl _ rfl
  · have n0 : l.i.imm ≠ 0 := by simpa using h0
    have n1 : l.i.imm ≠ 1 := by simpa using h1
    have n2 : l.i.imm ≠ 2 := by simpa using h2
    exact fin2 m4 s q l _ rfl Q q1 p3 (by unfold sysL; rw [if_neg n0, if_neg n1, if_neg n2]) rfl rfl _ rfl
end Go.Proofs.Ytadcbnldahcelaa.S
