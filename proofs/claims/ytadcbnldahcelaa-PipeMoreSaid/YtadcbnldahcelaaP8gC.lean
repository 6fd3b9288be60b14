/- Ytadcbnldahcelaa: a text of our own, by an AI agent: P8gC -/
import Derived.Test.YtadcbnldahcelaaP8fC
set_option linter.unusedSimpArgs false
set_option linter.unusedVariables false
set_option maxRecDepth 100000
namespace Go.Proofs.Ytadcbnldahcelaa.S
open Go Go.RowKit Go.Alog Go.Proofs.Ytadcbnldahcelaa.T Go.Proofs.Ytadcbnldahcelaa.V

/-- The third stage's result. -/
def stage3 (l ahead : La) (regs : List Int) : La :=
  let a := earlyP l.i.a ahead regs
  let b := earlyP l.i.b ahead regs
  let c := earlyP l.i.c ahead regs
  let l1 : La := { l with reg := writesP l.i, where_ := w32 (b + l.i.imm), stored := a }
  if l.i.op = 14 then (if a < 0 ∨ a ≥ l.i.imm then { l1 with trap := if l.i.b ≠ 0 then l.i.b else 5 } else l1)
  else if l.i.op = 18 then { l1 with value := IntKind.wrap .i64 (l.at_ + 2) }
  else if l.i.op = 20 then { l1 with stored := earlyP 4 ahead regs }
  else { l1 with value := (reckonP l.i b c).1, trap := (reckonP l.i b c).2.1 }
def reckP3 (s : PS) (ahead : La) : PS := { s with r := La0, k := if s.r.full = true ∧ s.r.trap = 0 then stage3 s.r ahead s.regs else s.r }

theorem reck3_spec (w0 : World) (m : AM) (g : Nat) (code : List Ins) (s : PS) (q : PA) (ahead : La) (hw : s.r.full = true → s.r.trap = 0 → InR s.r.i) (h : PipR m w0.heap.size g code s q) :
    CallsA Try.prog w0 62 #[.pointer (some ⟨g, 0, none⟩), ahead.val] m (fun r m' => r = .tuple #[] ∧ PPost w0.heap.size m g q code (reckP3 s ahead) m') := by
  generalize hR : (fun (r : Value) (m' : AM) => r = .tuple #[] ∧ PPost w0.heap.size m g q code (reckP3 s ahead) m') = R
  refine cf62 w0 m g _ _ _ _ _ _ _ _ _ _ _ _ R ?_
  intro b1 hb1 hm1 m2
  have l1 : m.le m2 := le_new hm1 _
  have p1 : m2 b1 = some (.cells ahead.vals.toArray 77) := upd_get_same
  clear_value m2
  have h2 := h.le l1
  refine ⟨_, h2.hi' 12, _, h2.hi' 13, _, h2.hi' 14, _, h2.hi' 15, _, h2.hi' 16, _, h2.hi' 17, _, h2.hi' 18, _, h2.hi' 19, _, h2.hi' 20, _, h2.hi' 21, _, h2.hi' 22, _, h2.hi' 23, ?_⟩
  refine new12 fun b m3 hb hm3 l3 p3 => ?_
  have p3 : m3 b = some (.cells s.r.vals.toArray 77) := p3
  have hm : m b = none := AM.le_none l1 hm3
  have ne : b1 ≠ b := fun e => by subst e; rw [p1] at hm3; cases hm3
  have Q3 : PQ m w0.heap.size g code q q m3 s := ((PQ.of h).le l1).le l3
  have a3 := l3 _ _ p1
  refine ⟨rfl, Q3.put_r La0 fun m4 Q4 f4 => ?_⟩
  have p4 := keepB f4 p3 (Q3.neg p3)
  have a4 := keepB f4 a3 (Q3.neg a3)
  have eP : reckP3 s ahead = { ({ s with r := La0 } : PS) with k := if s.r.full = true ∧ s.r.trap = 0 then stage3 s.r ahead ({ s with r := La0 } : PS).regs else s.r } := rfl
  generalize hs1 : ({ s with r := La0 } : PS) = s1 at Q4 eP
  generalize s.r = l at hw p4 eP
  have fin : ∀ (m5 : AM) (l' : La) (σ : Sg), PQ m w0.heap.size g code q q m5 s1 → m5 b = some (.cells l'.vals.toArray 77) → (if l.full = true ∧ l.trap = 0 then stage3 l ahead s1.regs else l) = l' → σ 0 = .pointer (some ⟨g, 0, none⟩) → σ 4 = .pointer (some ⟨b, 0, none⟩) → ∀ m, m = m5 → (vcS Try.prog w0 qs62 (sub c62 [1, 1, 1, 1]) σ m (retQ Try.prog Try.f62 R)) := by
    intro m5 l' σ Q5 p5 hs h0 h4 m hm
    subst hm
    refine vk62_1111 w0 m σ R g b h0 h4 ?_
    refine ⟨_, cel p5 rfl, _, cel p5 rfl, _, cel p5 rfl, _, cel p5 rfl, _, cel p5 rfl, _, cel p5 rfl, _, cel p5 rfl, _, cel p5 rfl, _, cel p5 rfl, _, cel p5 rfl, _, cel p5 rfl, _, cel p5 rfl, ?_⟩
    refine Q5.put_k l' fun m6 Q6 f6 => ?_
    refine retP_of ?_
    rw [← hR, eP, hs]
    exact ⟨rfl, Q6.post rfl⟩
  refine ⟨_, cel p4 rfl, bcI (fun hf => ⟨_, cel p4 rfl, rfl, bcI (fun ht => ?_) fun ht => ?_⟩) fun hf => ?_⟩
  · have hgo : l.full = true ∧ l.trap = 0 := by
      simp [hf] at ht
      exact ⟨hf, ht⟩
    have hI := hw hgo.1 hgo.2
    rw [if_pos hgo] at fin
    have early : ∀ n, 0 ≤ n ∧ n < 32 → ∀ m5, PQ m w0.heap.size g code q q m5 s1 → CallsA Try.prog w0 71 #[.int .i64 n, ahead.val, .agg (arr32 s1.regs)] m5 (fun r m' => r = .int .i64 (earlyP n ahead s1.regs) ∧ m' = m5) := fun n hn m5 Q5 => early_spec w0 m5 n hn ahead s1.regs
    have hr := Q4.R
    refine ⟨_, cel p4 rfl, _, cel a4 rfl, _, cel a4 rfl, _, cel a4 rfl, _, cel a4 rfl, _, cel a4 rfl, _, cel a4 rfl, _, cel a4 rfl, _, cel a4 rfl, _, cel a4 rfl, _, cel a4 rfl, _, cel a4 rfl, _, cel a4 rfl, _, hr.reg' 0 (by decide), _, hr.reg' 1 (by decide), _, hr.reg' 2 (by decide), _, hr.reg' 3 (by decide), _, hr.reg' 4 (by decide), _, hr.reg' 5 (by decide), _, hr.reg' 6 (by decide), _, hr.reg' 7 (by decide), _, hr.reg' 8 (by decide), _, hr.reg' 9 (by decide), _, hr.reg' 10 (by decide), _, hr.reg' 11 (by decide), _, hr.reg' 12 (by decide), _, hr.reg' 13 (by decide), _, hr.reg' 14 (by decide), _, hr.reg' 15 (by decide), _, hr.reg' 16 (by decide), _, hr.reg' 17 (by decide), _, hr.reg' 18 (by decide), _, hr.reg' 19 (by decide), _, hr.reg' 20 (by decide), _, hr.reg' 21 (by decide), _, hr.reg' 22 (by decide), _, hr.reg' 23 (by decide), _, hr.reg' 24 (by decide), _, hr.reg' 25 (by decide), _, hr.reg' 26 (by decide), _, hr.reg' 27 (by decide), _, hr.reg' 28 (by decide), _, hr.reg' 29 (by decide), _, hr.reg' 30 (by decide), _, hr.reg' 31 (by decide), _, early _ hI.1 _ Q4, _, cel p4 rfl, _, cel a4 rfl, _, cel a4 rfl, _, cel a4 rfl, _, cel a4 rfl, _, cel a4 rfl, _, cel a4 rfl, _, cel a4 rfl, _, cel a4 rfl, _, cel a4 rfl, _, cel a4 rfl, _, cel a4 rfl, _, cel a4 rfl, _, hr.reg' 0 (by decide), _, hr.reg' 1 (by decide), _, hr.reg' 2 (by decide), _, hr.reg' 3 (by decide), _, hr.reg' 4 (by decide), _, hr.reg' 5 (by decide), _, hr.reg' 6 (by decide), _, hr.reg' 7 (by decide), _, hr.reg' 8 (by decide), _, hr.reg' 9 (by decide), _, hr.reg' 10 (by decide), _, hr.reg' 11 (by decide), _, hr.reg' 12 (by decide), _, hr.reg' 13 (by decide), _, hr.reg' 14 (by decide), _, hr.reg' 15 (by decide), _, hr.reg' 16 (by decide), _, hr.reg' 17 (by decide), _, hr.reg' 18 (by decide), _, hr.reg' 19 (by decide), _, hr.reg' 20 (by decide), _, hr.reg' 21 (by decide), _, hr.reg' 22 (by decide), _, hr.reg' 23 (by decide), _, hr.reg' 24 (by decide), _, hr.reg' 25 (by decide), _, hr.reg' 26 (by decide), _, hr.reg' 27 (by decide), _, hr.reg' 28 (by decide), _, hr.reg' 29 (by decide), _, hr.reg' 30 (by decide), _, hr.reg' 31 (by decide), _, early _ hI.2.1 _ Q4, _, cel p4 rfl, _, cel a4 rfl, _, cel a4 rfl, _, cel a4 rfl, _, cel a4 rfl, _, cel a4 rfl, _, cel a4 rfl, _, cel a4 rfl, _, cel a4 rfl, _, cel a4 rfl, _, cel a4 rfl, _, cel a4 rfl, _, cel a4 rfl, _, hr.reg' 0 (by decide), _, hr.reg' 1 (by decide), _, hr.reg' 2 (by decide), _, hr.reg' 3 (by decide), _, hr.reg' 4 (by decide), _, hr.reg' 5 (by decide), _, hr.reg' 6 (by decide), _, hr.reg' 7 (by decide), _, hr.reg' 8 (by decide), _, hr.reg' 9 (by decide), _, hr.reg' 10 (by decide), _, hr.reg' 11 (by decide), _, hr.reg' 12 (by decide), _, hr.reg' 13 (by decide), _, hr.reg' 14 (by decide), _, hr.reg' 15 (by decide), _, hr.reg' 16 (by decide), _, hr.reg' 17 (by decide), _, hr.reg' 18 (by decide), _, hr.reg' 19 (by decide), _, hr.reg' 20 (by decide), _, hr.reg' 21 (by decide), _, hr.reg' 22 (by decide), _, hr.reg' 23 (by decide), _, hr.reg' 24 (by decide), _, hr.reg' 25 (by decide), _, hr.reg' 26 (by decide), _, hr.reg' 27 (by decide), _, hr.reg' 28 (by decide), _, hr.reg' 29 (by decide), _, hr.reg' 30 (by decide), _, hr.reg' 31 (by decide), _, early _ hI.2.2 _ Q4, _, cel p4 rfl, _, cel p4 rfl, _, cel p4 rfl, _, cel p4 rfl, _, cel p4 rfl, ?_⟩
    generalize hx : earlyP l.i.a ahead s1.regs = xa
    generalize hy : earlyP l.i.b ahead s1.regs = xb
    generalize hz : earlyP l.i.c ahead s1.regs = xc
    refine CallsA.mono (writes_spec w0 m4 l.i) ?_
    rintro r m5 ⟨rfl, l5⟩
    refine ⟨_, rfl, ?_⟩
    have p5 := l5 _ _ p4
    have a5 := l5 _ _ a4
    refine (Q4.le l5).loc { l with reg := writesP l.i } p5 hb hm rfl (by omega) fun m6 Q6 p6 f6 => ?_
    have a6 := keepB f6 a5 ne
    refine ⟨_, cel p6 rfl, ?_⟩
    refine CallsA.mono (addW w0 m6 xb l.i.imm) ?_
    rintro r m7 ⟨rfl, hm7⟩
    subst hm7
    refine ⟨_, rfl, ?_⟩
    refine Q6.loc { l with reg := writesP l.i, where_ := w32 (xb + l.i.imm) } p6 hb hm rfl (by omega) fun m7 Q7 p7 f7 => ?_
    have a7 := keepB f7 a6 ne
    refine Q7.loc { l with reg := writesP l.i, where_ := w32 (xb + l.i.imm), stored := xa } p7 hb hm rfl (by omega) fun m8 Q8 p8 f8 => ?_
    have a8 := keepB f8 a7 ne
    generalize hl1 : ({ l with reg := writesP l.i, where_ := w32 (xb + l.i.imm), stored := xa } : La) = l1 at p8
    have hS : stage3 l ahead s1.regs = (if l.i.op = 14 then (if xa < 0 ∨ xa ≥ l.i.imm then { l1 with trap := if l.i.b ≠ 0 then l.i.b else 5 } else l1)
      else if l.i.op = 18 then { l1 with value := IntKind.wrap .i64 (l.at_ + 2) }
      else if l.i.op = 20 then { l1 with stored := earlyP 4 ahead s1.regs }
      else { l1 with value := (reckonP l.i xb xc).1, trap := (reckonP l.i xb xc).2.1 }) := by
      rw [← hl1]; unfold stage3; simp only [hx, hy, hz]
    rw [hS] at fin
    have ei : l1.i = l.i := by rw [← hl1]
    have ea : l1.at_ = l.at_ := by rw [← hl1]
    have eop : l1.i.op = l.i.op := by rw [ei]
    refine ⟨_, cel p8 rfl, rfl, bcI (fun h14 => ?_) fun h14 => ⟨rfl, bcI (fun h18 => ?_) fun h18 => ⟨rfl, bcI (fun h20 => ?_) fun h20 => ?_⟩⟩⟩
    · have e14 : l.i.op = 14 := by rw [← eop]; simpa using h14
      rw [if_pos e14] at fin
      have K14 : ∀ (m5 : AM) (σ : Sg) (x : Bool), m5 = m8 → x = decide (xa < 0 ∨ xa ≥ l.i.imm) → σ 0 = .pointer (some ⟨g, 0, none⟩) → σ 4 = .pointer (some ⟨b, 0, none⟩) → σ 86 = .bool x → ∀ m, m = m5 → (vcS Try.prog w0 qs62 (sub c62 [1, 1, 1, 0, 1, 0, 1, 1, 1, 1, 0, 1, 0, 1]) σ m (blockS 0 (thenS (fun σ m => vcS Try.prog w0 qs62 (sub c62 [1, 1, 1, 1]) σ m (retQ Try.prog Try.f62 R)) (retQ Try.prog Try.f62 R)))) := by
        intro m5 σ x he hx h0 h4 h86 m hm'
        subst hm'
        subst he
        refine vk62_11101011110101 w0 m σ R g b x h0 h4 h86 ?_
        refine bcI (fun hc => ?_) fun hc => ?_
        · rw [hx] at hc
          rw [if_pos (of_decide_eq_true hc)] at fin
          refine Q8.loc { l1 with trap := 5 } p8 hb ‹_› rfl (by omega) fun m9 Q9 p9 f9 => ?_
          refine ⟨_, cel p9 rfl, rfl, bcI (fun hb0 => ?_) fun hb0 => ?_⟩
          · have nb : l.i.b ≠ 0 := by rw [← ei]; simpa using hb0
            refine ⟨_, cel p9 rfl, ?_⟩
            refine Q9.loc { l1 with trap := l.i.b } p9 hb ‹_› (by rw [← ei]; rfl) (by omega) fun m10 Q10 p10 f10 => ?_
            rw [if_pos nb] at fin
            exact fin m10 _ _ Q10 p10 rfl rfl rfl _ rfl
          · have nb : ¬ l.i.b ≠ 0 := by rw [← ei]; simpa using hb0
            rw [if_neg nb] at fin
            exact fin m9 _ _ Q9 p9 rfl rfl rfl _ rfl
        · rw [hx] at hc
          rw [if_neg (of_decide_eq_false hc)] at fin
          exact fin m _ _ Q8 p8 rfl rfl rfl _ rfl
      refine ⟨rfl, bcI (fun hn => ⟨hn, ?_⟩) fun hn => ⟨_, cel p8 rfl, rfl, ?_⟩⟩
      · refine K14 _ _ _ rfl ?_ rfl rfl rfl _ rfl
        have h1 := of_decide_eq_true hn
        simp [h1]
      · refine K14 _ _ _ rfl ?_ rfl rfl rfl _ rfl
        rw [hn, ei]
        have := of_decide_eq_false hn
        exact (decide_eq_decide.2 ⟨fun h => .inr h, fun h => h.resolve_left this⟩)
    · have n14 : l.i.op ≠ 14 := by rw [← eop]; simpa using h14
      have e18 : l.i.op = 18 := by rw [← eop]; simpa using h18
      rw [if_neg n14, if_pos e18] at fin
      refine ⟨_, cel p8 rfl, rfl, ?_⟩
      refine Q8.loc { l1 with value := IntKind.wrap .i64 (l.at_ + 2) } p8 hb hm (by rw [← ea]; rfl) (by omega) fun m9 Q9 p9 f9 => ?_
      exact fin m9 _ _ Q9 p9 rfl rfl rfl _ rfl
    · have n14 : l.i.op ≠ 14 := by rw [← eop]; simpa using h14
      have n18 : l.i.op ≠ 18 := by rw [← eop]; simpa using h18
      have e20 : l.i.op = 20 := by rw [← eop]; simpa using h20
      rw [if_neg n14, if_neg n18, if_pos e20] at fin
      have hr := Q8.R
      refine ⟨_, cel a8 rfl, _, cel a8 rfl, _, cel a8 rfl, _, cel a8 rfl, _, cel a8 rfl, _, cel a8 rfl, _, cel a8 rfl, _, cel a8 rfl, _, cel a8 rfl, _, cel a8 rfl, _, cel a8 rfl, _, cel a8 rfl, _, hr.reg' 0 (by decide), _, hr.reg' 1 (by decide), _, hr.reg' 2 (by decide), _, hr.reg' 3 (by decide), _, hr.reg' 4 (by decide), _, hr.reg' 5 (by decide), _, hr.reg' 6 (by decide), _, hr.reg' 7 (by decide), _, hr.reg' 8 (by decide), _, hr.reg' 9 (by decide), _, hr.reg' 10 (by decide), _, hr.reg' 11 (by decide), _, hr.reg' 12 (by decide), _, hr.reg' 13 (by decide), _, hr.reg' 14 (by decide), _, hr.reg' 15 (by decide), _, hr.reg' 16 (by decide), _, hr.reg' 17 (by decide), _, hr.reg' 18 (by decide), _, hr.reg' 19 (by decide), _, hr.reg' 20 (by decide), _, hr.reg' 21 (by decide), _, hr.reg' 22 (by decide), _, hr.reg' 23 (by decide), _, hr.reg' 24 (by decide), _, hr.reg' 25 (by decide), _, hr.reg' 26 (by decide), _, hr.reg' 27 (by decide), _, hr.reg' 28 (by decide), _, hr.reg' 29 (by decide), _, hr.reg' 30 (by decide), _, hr.reg' 31 (by decide), ?_⟩
      refine CallsA.mono (early 4 (by decide) _ Q8) ?_
      rintro r m9 ⟨rfl, hm9⟩
      subst hm9
      refine ⟨_, rfl, ?_⟩
      refine Q8.loc { l1 with stored := earlyP 4 ahead s1.regs } p8 hb hm rfl (by omega) fun m9 Q9 p9 f9 => ?_
      exact fin m9 _ _ Q9 p9 rfl rfl rfl _ rfl
    · have n14 : l.i.op ≠ 14 := by rw [← eop]; simpa using h14
      have n18 : l.i.op ≠ 18 := by rw [← eop]; simpa using h18
      have n20 : l.i.op ≠ 20 := by rw [← eop]; simpa using h20
      rw [if_neg n14, if_neg n18, if_neg n20] at fin
      refine ⟨_, cel p8 rfl, _, cel p8 rfl, _, cel p8 rfl, _, cel p8 rfl, _, cel p8 rfl, ?_⟩
      refine CallsA.mono (Reckon_spec w0 m8 l1.i xb xc) ?_
      rintro r m9 ⟨rfl, l9⟩
      refine ⟨_, _, _, rfl, ?_⟩
      rw [ei]
      refine (Q8.le l9).loc { l1 with value := (reckonP l.i xb xc).1 } (l9 _ _ p8) hb hm rfl (by omega) fun m10 Q10 p10 f10 => ?_
      refine Q10.loc { l1 with value := (reckonP l.i xb xc).1, trap := (reckonP l.i xb xc).2.1 } p10 hb hm rfl (by omega) fun m11 Q11 p11 f11 => ?_
      exact fin m11 _ _ Q11 p11 rfl rfl rfl _ rfl
  · have hno : ¬ (l.full = true ∧ l.trap = 0) := by
      rintro ⟨_, e⟩
      simp [hf, e] at ht
    exact fin m4 l _ Q4 p4 (by rw [if_neg hno]) rfl rfl _ rfl
  · have hno : ¬ (l.full = true ∧ l.trap = 0) := by
      rintro ⟨e, _⟩
      rw [e] at hf; cases hf
    exact ⟨hf, fin m4 l _ Q4 p4 (by rw [if_neg hno]) rfl rfl _ rfl⟩

/-- The first stage. -/
def fetchL (code : List Ins) (at_ : Int) : La :=
  if at_ < 0 ∨ at_ ≥ code.length then { La0 with full := true, at_ := at_, trap := 2 }
  else if rightR (code.getD at_.toNat default) = true then { La0 with full := true, at_ := at_, i := code.getD at_.toNat default }
  else { La0 with full := true, at_ := at_, trap := 8 }
def fetchP (code : List Ins) (s : PS) (next : Int) : PS := { s with f := fetchL code s.at_, at_ := next }

theorem fetch_spec (w0 : World) (m : AM) (g : Nat) (code : List Ins) (s : PS) (q : PA) (next : Int) (h : PipR m w0.heap.size g code s q) :
    CallsA Try.prog w0 63 #[.pointer (some ⟨g, 0, none⟩), .int .i64 next] m (fun r m' => r = .tuple #[] ∧ PPost w0.heap.size m g q code (fetchP code s next) m') := by
  generalize hR : (fun (r : Value) (m' : AM) => r = .tuple #[] ∧ PPost w0.heap.size m g q code (fetchP code s next) m') = R
  refine cf63 w0 m g next R ?_
  refine ⟨_, h.cells.2.2.1, rfl, ?_⟩
  refine new12 fun b m1 hb hm l1 p1 => ?_
  have p1 : m1 b = some (.cells ({ La0 with full := true, at_ := s.at_ } : La).vals.toArray 77) := p1
  have Q1 : PQ m w0.heap.size g code q q m1 s := (PQ.of h).le l1
  have fin : ∀ (m5 : AM) (l' : La) (σ : Sg), PQ m w0.heap.size g code q q m5 s → m5 b = some (.cells l'.vals.toArray 77) → fetchL code s.at_ = l' → σ 0 = .pointer (some ⟨g, 0, none⟩) → σ 1 = .int .i64 next → σ 4 = .pointer (some ⟨b, 0, none⟩) → ∀ m, m = m5 → (vcS Try.prog w0 qs63 (sub c63 [1, 1]) σ m (retQ Try.prog Try.f63 R)) := by
    intro m5 l' σ Q5 p5 hs h0 h1 h4 m hm
    subst hm
    refine vk63_11 w0 m σ R g next b h0 h1 h4 ?_
    refine ⟨_, cel p5 rfl, _, cel p5 rfl, _, cel p5 rfl, _, cel p5 rfl, _, cel p5 rfl, _, cel p5 rfl, _, cel p5 rfl, _, cel p5 rfl, _, cel p5 rfl, _, cel p5 rfl, _, cel p5 rfl, _, cel p5 rfl, ?_⟩
    refine Q5.put_f l' fun m6 Q6 f6 => ?_
    refine Q6.putAt next fun m7 Q7 f7 => retP_of ?_
    rw [← hR]
    unfold fetchP
    rw [hs]
    exact ⟨rfl, Q7.post rfl⟩
  unfold fetchL at fin
  refine ⟨_, Q1.R.cells.2.2.1, rfl, bcI (fun h1 => ⟨h1, ?_⟩) fun h1 => ⟨_, Q1.R.cells.2.2.1, _, _, _, Q1.R.cells.1, rfl, bcI (fun h2 => ?_) fun h2 => ?_⟩⟩
  · have h1 := of_decide_eq_true h1
    rw [if_pos (.inl h1)] at fin
    refine Q1.loc { La0 with full := true, at_ := s.at_, trap := 2 } p1 hb hm rfl (by omega) fun m2 Q2 p2 f2 => ?_
    exact fin m2 _ _ Q2 p2 rfl rfl rfl rfl _ rfl
  · rw [h1] at h2
    have h2 := of_decide_eq_true h2
    rw [if_pos (.inr h2)] at fin
    refine Q1.loc { La0 with full := true, at_ := s.at_, trap := 2 } p1 hb hm rfl (by omega) fun m2 Q2 p2 f2 => ?_
    exact fin m2 _ _ Q2 p2 rfl rfl rfl rfl _ rfl
  · rw [h1] at h2
    have h1 := of_decide_eq_false h1
    have h2 := of_decide_eq_false h2
    rw [if_neg (show ¬ (s.at_ < 0 ∨ s.at_ ≥ code.length) from fun h => h.elim h1 h2)] at fin
    have hlt : s.at_.toNat < code.length := by omega
    have hd : code.getD s.at_.toNat default = code[s.at_.toNat] := by simp [List.getD, hlt]
    rw [hd] at fin
    have get : ∀ m5, PQ m w0.heap.size g code q q m5 s → ∃ ad, q.Ac = some ad ∧ (m5.cell (ad.add (s.at_.toNat * 5)) = some (.int .i64 (code[s.at_.toNat]).op) ∧ m5.cell ((ad.add (s.at_.toNat * 5)).add 1) = some (.int .i64 (code[s.at_.toNat]).a) ∧ m5.cell ((ad.add (s.at_.toNat * 5)).add 2) = some (.int .i64 (code[s.at_.toNat]).b) ∧ m5.cell ((ad.add (s.at_.toNat * 5)).add 3) = some (.int .i64 (code[s.at_.toNat]).c) ∧ m5.cell ((ad.add (s.at_.toNat * 5)).add 4) = some (.int .i64 (code[s.at_.toNat]).imm)) := by
      intro m5 Q5
      obtain ⟨ad, ha, hc⟩ := Q5.R.hc.ex (by omega)
      exact ⟨ad, ha, hc.ins (List.getElem?_eq_getElem hlt)⟩
    generalize code[s.at_.toNat] = i at fin get
    obtain ⟨ad, ha, c0, c1, c2, c3, c4⟩ := get m1 Q1
    refine ⟨_, _, _, Q1.R.cells.1, _, Q1.R.cells.2.2.1, ⟨by omega, by omega⟩, ?_⟩
    rw [ha, nilO_some]
    refine ⟨_, c0, _, c1, _, c2, _, c3, _, c4, ?_⟩
    refine CallsA.mono (isaRight w0 m1 i) ?_
    rintro r m2 ⟨rfl, l2⟩
    refine ⟨_, rfl, ?_⟩
    have Q2 := Q1.le l2
    have p2 := l2 _ _ p1
    cases hr : rightR i
    · rw [if_neg (by rw [hr]; exact Bool.false_ne_true)] at fin
      refine bcET rfl ?_
      refine Q2.loc { La0 with full := true, at_ := s.at_, trap := 8 } p2 hb hm rfl (by omega) fun m3 Q3 p3 f3 => ?_
      exact fin m3 _ _ Q3 p3 rfl rfl rfl rfl _ rfl
    · rw [if_pos hr] at fin
      refine bcEF rfl ?_
      obtain ⟨ad2, ha2, d0, d1, d2, d3, d4⟩ := get m2 Q2
      rw [ha] at ha2; cases ha2
      refine ⟨_, _, _, Q2.R.cells.1, _, Q2.R.cells.2.2.1, ⟨by omega, by omega⟩, ?_⟩
      rw [ha, nilO_some]
      refine ⟨_, d0, _, d1, _, d2, _, d3, _, d4, ?_⟩
      refine Q2.loc { La0 with full := true, at_ := s.at_, i := ⟨i.op, 0, 0, 0, 0⟩ } p2 hb hm rfl (by omega) fun m3 Q3 p3 f3 => ?_
      refine Q3.loc { La0 with full := true, at_ := s.at_, i := ⟨i.op, i.a, 0, 0, 0⟩ } p3 hb hm rfl (by omega) fun m4 Q4 p4 f4 => ?_
      refine Q4.loc { La0 with full := true, at_ := s.at_, i := ⟨i.op, i.a, i.b, 0, 0⟩ } p4 hb hm rfl (by omega) fun m5 Q5 p5 f5 => ?_
      refine Q5.loc { La0 with full := true, at_ := s.at_, i := ⟨i.op, i.a, i.b, i.c, 0⟩ } p5 hb hm rfl (by omega) fun m6 Q6 p6 f6 => ?_
      refine Q6.loc { La0 with full := true, at_ := s.at_, i := i } p6 hb hm rfl (by omega) fun m7 Q7 p7 f7 => ?_
      exact fin m7 _ _ Q7 p7 rfl rfl rfl rfl _ rfl
end Go.Proofs.Ytadcbnldahcelaa.S
