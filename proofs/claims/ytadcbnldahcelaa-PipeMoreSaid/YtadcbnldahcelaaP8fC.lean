/- Ytadcbnldahcelaa: a text of our own, by an AI agent: P8fC -/
import Derived.Test.YtadcbnldahcelaaP8eC
set_option linter.unusedSimpArgs false
set_option linter.unusedVariables false
set_option maxRecDepth 100000
namespace Go.Proofs.Ytadcbnldahcelaa.S
open Go Go.RowKit Go.Alog Go.Proofs.Ytadcbnldahcelaa.T Go.Proofs.Ytadcbnldahcelaa.V

/-- The fourth stage. -/
def pactP (s : PS) : PS × Int :=
  let l := s.k
  let s1 : PS := { s with k := La0 }
  if l.full = false ∨ l.trap ≠ 0 then (s1, l.trap)
  else if l.i.op = 12 then (if 0 ≤ l.where_ ∧ l.where_ < s.mem.length then ({ s1 with a := { l with value := s.mem.getD l.where_.toNat 0 } }, l.trap) else (s1, 3))
  else if l.i.op = 13 then (if 0 ≤ l.where_ ∧ l.where_ < s.mem.length then ({ s1 with mem := s.mem.set l.where_.toNat (w32 l.stored), a := l }, l.trap) else (s1, 3))
  else if l.i.op = 20 then ({ (sysL s1 l).1 with a := (sysL s1 l).2 }, (sysL s1 l).2.trap)
  else ({ s1 with a := l }, l.trap)

theorem pact_spec (w0 : World) (m : AM) (g : Nat) (code : List Ins) (s : PS) (q : PA) (h : PipR m w0.heap.size g code s q) :
    CallsA Try.prog w0 61 #[.pointer (some ⟨g, 0, none⟩)] m (fun r m' => r = .int .i64 (pactP s).2 ∧ PPost w0.heap.size m g q code (pactP s).1 m') := by
  generalize hR : (fun (r : Value) (m' : AM) => r = .int .i64 (pactP s).2 ∧ PPost w0.heap.size m g q code (pactP s).1 m') = R
  refine cf61 w0 m g R ?_
  refine ⟨_, h.hi' 24, _, h.hi' 25, _, h.hi' 26, _, h.hi' 27, _, h.hi' 28, _, h.hi' 29, _, h.hi' 30, _, h.hi' 31, _, h.hi' 32, _, h.hi' 33, _, h.hi' 34, _, h.hi' 35, ?_⟩
  refine new12 fun b m1 hb hm l1 p1 => ?_
  have p1 : m1 b = some (.cells s.k.vals.toArray 77) := p1
  have Q1 : PQ m w0.heap.size g code q q m1 s := (PQ.of h).le l1
  refine ⟨rfl, Q1.put_k La0 fun m2 Q2 f2 => ?_⟩
  have p2 := keepB f2 p1 (Q1.neg p1)
  generalize hl : s.k = l at p2
  generalize hs1 : ({ s with k := La0 } : PS) = s1 at Q2
  have fin : ∀ (m5 : AM) (s' : PS) (q' : PA) (l' : La) (σ : Sg), q'.Ac = q.Ac → PQ m w0.heap.size g code q q' m5 s' → m5 b = some (.cells l'.vals.toArray 77) → pactP s = ({ s' with a := l' }, l'.trap) → σ 0 = .pointer (some ⟨g, 0, none⟩) → σ 3 = .pointer (some ⟨b, 0, none⟩) → ∀ m, m = m5 → (vcS Try.prog w0 qs61 (sub c61 [1, 1, 1, 1, 1]) σ m (retQ Try.prog Try.f61 R)) := by
    intro m5 s' q' l' σ hc Q5 p5 hs h0 h3 m hm
    subst hm
    refine vk61_11111 w0 m σ R g b h0 h3 ?_
    refine ⟨_, cel p5 rfl, _, cel p5 rfl, _, cel p5 rfl, _, cel p5 rfl, _, cel p5 rfl, _, cel p5 rfl, _, cel p5 rfl, _, cel p5 rfl, _, cel p5 rfl, _, cel p5 rfl, _, cel p5 rfl, _, cel p5 rfl, ?_⟩
    refine Q5.put_a l' fun m6 Q6 f6 => ?_
    refine ⟨_, cel (keepB f6 p5 (Q5.neg p5)) rfl, retP_of ?_⟩
    rw [← hR, hs]
    exact ⟨rfl, Q6.post hc⟩
  have eP : ¬ (l.full = false ∨ l.trap ≠ 0) → pactP s = (if l.i.op = 12 then (if 0 ≤ l.where_ ∧ l.where_ < s.mem.length then ({ s1 with a := { l with value := s.mem.getD l.where_.toNat 0 } }, l.trap) else (s1, 3))
      else if l.i.op = 13 then (if 0 ≤ l.where_ ∧ l.where_ < s.mem.length then ({ s1 with mem := s.mem.set l.where_.toNat (w32 l.stored), a := l }, l.trap) else (s1, 3))
      else if l.i.op = 20 then ({ (sysL s1 l).1 with a := (sysL s1 l).2 }, (sysL s1 l).2.trap)
      else ({ s1 with a := l }, l.trap)) := fun hh => by
    unfold pactP
    simp only [hl, hs1]
    rw [if_neg hh, ← hs1]
  have eN : (l.full = false ∨ l.trap ≠ 0) → pactP s = (s1, l.trap) := fun hh => by
    unfold pactP
    simp only [hl, hs1]
    rw [if_pos hh]
  have hmem : s1.mem = s.mem := by rw [← hs1]
  refine ⟨_, cel p2 rfl, bcI (fun hf => ?_) fun hf => ⟨_, cel p2 rfl, rfl, bcI (fun ht => ?_) fun ht => ?_⟩⟩
  · refine ⟨hf, _, cel p2 rfl, retP_of ?_⟩
    rw [← hR, eN (.inl (by simpa using hf))]
    exact ⟨rfl, Q2.post rfl⟩
  · refine ⟨_, cel p2 rfl, retP_of ?_⟩
    rw [← hR, eN (.inr (by simp [hf] at ht; exact ht))]
    exact ⟨rfl, Q2.post rfl⟩
  have hgo : ¬ (l.full = false ∨ l.trap ≠ 0) := by
    simp at hf
    simp [hf] at ht
    simp [hf, ht]
  refine ⟨_, cel p2 rfl, rfl, bcI (fun h12 => ?_) fun h12 => ⟨rfl, bcI (fun h13 => ?_) fun h13 => ⟨rfl, bcI (fun h20 => ?_) fun h20 => ?_⟩⟩⟩
  · have e12 : l.i.op = 12 := by simpa using h12
    refine ⟨_, Q2.R.cells.2.1, _, cel p2 rfl, ?_⟩
    refine CallsA.mono (load_mem w0 m2 w0.heap.size q.gm q.Aw s1.mem q.cw Q2.R.hm Q2.R.hw l.where_) ?_
    rintro r m3 ⟨rfl, hm3⟩
    subst hm3
    refine ⟨_, _, rfl, ?_⟩
    rw [hmem]
    by_cases hin : 0 ≤ l.where_ ∧ l.where_ < s.mem.length
    · rw [decide_eq_true hin, if_pos hin]
      refine bcEF rfl ?_
      refine Q2.loc { l with value := s.mem.getD l.where_.toNat 0 } p2 hb hm rfl (by omega) fun m4 Q4 p4 f4 => ?_
      exact fin m4 s1 q _ _ rfl Q4 p4 (by rw [eP hgo, if_pos e12, if_pos hin]) rfl rfl _ rfl
    · rw [decide_eq_false hin, if_neg hin]
      refine bcET rfl (retP_of ?_)
      rw [← hR, eP hgo, if_pos e12, if_neg hin]
      exact ⟨rfl, Q2.post rfl⟩
  · have n12 : l.i.op ≠ 12 := by simpa using h12
    have e13 : l.i.op = 13 := by simpa using h13
    refine ⟨_, Q2.R.cells.2.1, _, cel p2 rfl, _, cel p2 rfl, ?_⟩
    refine CallsA.mono (store_pip w0 m2 g code s1 q Q2.R l.where_ l.stored) ?_
    rintro r m3 ⟨rfl, Q3⟩
    refine ⟨_, rfl, ?_⟩
    rw [hmem] at Q3 ⊢
    have Q23 := Q2.trans Q3 rfl
    have p3 := Q3.fr _ _ p2 (Q2.notin p2)
    by_cases hin : 0 ≤ l.where_ ∧ l.where_ < s.mem.length
    · rw [decide_eq_true hin]
      rw [if_pos hin] at Q23
      refine bcEF rfl ?_
      exact fin m3 _ q l _ rfl Q23 p3 (by rw [eP hgo, if_neg n12, if_pos e13, if_pos hin]) rfl rfl _ rfl
    · rw [decide_eq_false hin]
      rw [if_neg hin] at Q23
      refine bcET rfl (retP_of ?_)
      rw [← hR, eP hgo, if_neg n12, if_pos e13, if_neg hin]
      exact ⟨rfl, Q23.post rfl⟩
  · have n12 : l.i.op ≠ 12 := by simpa using h12
    have n13 : l.i.op ≠ 13 := by simpa using h13
    have e20 : l.i.op = 20 := by simpa using h20
    refine ⟨_, cel p2 rfl, _, cel p2 rfl, _, cel p2 rfl, _, cel p2 rfl, _, cel p2 rfl, _, cel p2 rfl, _, cel p2 rfl, _, cel p2 rfl, _, cel p2 rfl, _, cel p2 rfl, _, cel p2 rfl, _, cel p2 rfl, ?_⟩
    refine CallsA.mono (psys_spec w0 m2 g code s1 q l Q2.R) ?_
    rintro r m3 ⟨rfl, q3, hc3, Q3⟩
    have Q23 := Q2.trans Q3 hc3
    have p3 := Q3.fr _ _ p2 (Q2.notin p2)
    refine ⟨_, _, _, _, _, _, _, _, _, _, _, _, rfl, ?_⟩
    refine Q23.locAll (sysL s1 l).2 p3 hb hm fun m4 Q4 p4 f4 => ?_
    exact fin m4 _ q3 _ _ hc3 Q4 p4 (by rw [eP hgo, if_neg n12, if_neg n13, if_pos e20]) rfl rfl _ rfl
  · have n12 : l.i.op ≠ 12 := by simpa using h12
    have n13 : l.i.op ≠ 13 := by simpa using h13
    have n20 : l.i.op ≠ 20 := by simpa using h20
    exact fin m2 s1 q l _ rfl Q2 p2 (by rw [eP hgo, if_neg n12, if_neg n13, if_neg n20]) rfl rfl _ rfl

/-- The second stage's place. -/
def nextF (s : PS) (l : La) : Int :=
  let n := IntKind.wrap .i64 (s.at_ + 1)
  if l.full = false ∨ l.trap ≠ 0 then n
  else if l.i.op = 15 ∨ l.i.op = 16 then (if (nowP s l.i.a == nowP s l.i.b) == (l.i.op == 15) then IntKind.wrap .i64 (IntKind.wrap .i64 (l.at_ + 1) + l.i.imm) else n)
  else if l.i.op = 17 ∨ l.i.op = 18 then l.i.imm
  else if l.i.op = 19 then nowP s l.i.a
  else n
def decideP (s : PS) : PS × Int :=
  let s1 : PS := { s with f := La0, r := s.f }
  (s1, nextF s1 s.f)

theorem decide_spec (w0 : World) (m : AM) (g : Nat) (code : List Ins) (s : PS) (q : PA) (hw : s.f.full = true → s.f.trap = 0 → InR s.f.i) (h : PipR m w0.heap.size g code s q) :
    CallsA Try.prog w0 64 #[.pointer (some ⟨g, 0, none⟩)] m (fun r m' => r = .int .i64 (decideP s).2 ∧ PPost w0.heap.size m g q code (decideP s).1 m') := by
  generalize hR : (fun (r : Value) (m' : AM) => r = .int .i64 (decideP s).2 ∧ PPost w0.heap.size m g q code (decideP s).1 m') = R
  refine cf64 w0 m g R ?_
  refine ⟨_, h.hi' 0, _, h.hi' 1, _, h.hi' 2, _, h.hi' 3, _, h.hi' 4, _, h.hi' 5, _, h.hi' 6, _, h.hi' 7, _, h.hi' 8, _, h.hi' 9, _, h.hi' 10, _, h.hi' 11, ?_⟩
  refine new12 fun b m1 hb hm l1 p1 => ?_
  have p1 : m1 b = some (.cells s.f.vals.toArray 77) := p1
  have Q1 : PQ m w0.heap.size g code q q m1 s := (PQ.of h).le l1
  refine ⟨rfl, Q1.put_f La0 fun m2 Q2 f2 => ?_⟩
  have p2 := keepB f2 p1 (Q1.neg p1)
  refine ⟨_, cel p2 rfl, _, cel p2 rfl, _, cel p2 rfl, _, cel p2 rfl, _, cel p2 rfl, _, cel p2 rfl, _, cel p2 rfl, _, cel p2 rfl, _, cel p2 rfl, _, cel p2 rfl, _, cel p2 rfl, _, cel p2 rfl, ?_⟩
  refine Q2.put_r s.f fun m3 Q3 f3 => ?_
  have p3 := keepB f3 p2 (Q2.neg p2)
  have eP : decideP s = (({ s with f := La0, r := s.f } : PS), nextF { s with f := La0, r := s.f } s.f) := rfl
  have Q3 : PQ m w0.heap.size g code q q m3 { s with f := La0, r := s.f } := Q3
  generalize hs1 : ({ s with f := La0, r := s.f } : PS) = s1 at Q3 eP
  generalize s.f = l at hw p3 eP
  have ret : ∀ v, v = nextF s1 l → RetP R (.int .i64 v) m3 := fun v hv => retP_of (by rw [← hR, eP, hv]; exact ⟨rfl, Q3.post rfl⟩)
  have hn : IntKind.wrap .i64 (s1.at_ + 1) = IntKind.wrap .i64 (s1.at_ + 1) := rfl
  refine ⟨_, Q3.R.cells.2.2.1, rfl, _, cel p3 rfl, bcI (fun hf => ?_) fun hf => ⟨_, cel p3 rfl, rfl, bcI (fun ht => ?_) fun ht => ?_⟩⟩
  · exact ⟨hf, ret _ (by unfold nextF; simp only []; rw [if_pos (.inl (by simpa using hf))])⟩
  · exact ret _ (by unfold nextF; simp only []; rw [if_pos (.inr (by simp [hf] at ht; exact ht))])
  have hgo : ¬ (l.full = false ∨ l.trap ≠ 0) := by
    simp at hf
    simp [hf] at ht
    simp [hf, ht]
  have hI : InR l.i := hw (by simpa using hf) (by
    simp at hf
    simpa [hf] using ht)
  have eN : nextF s1 l = (if l.i.op = 15 ∨ l.i.op = 16 then (if (nowP s1 l.i.a == nowP s1 l.i.b) == (l.i.op == 15) then IntKind.wrap .i64 (IntKind.wrap .i64 (l.at_ + 1) + l.i.imm) else IntKind.wrap .i64 (s1.at_ + 1))
      else if l.i.op = 17 ∨ l.i.op = 18 then l.i.imm else if l.i.op = 19 then nowP s1 l.i.a else IntKind.wrap .i64 (s1.at_ + 1)) := by
    unfold nextF; simp only []; rw [if_neg hgo]
  have now : ∀ n, 0 ≤ n ∧ n < 32 → CallsA Try.prog w0 73 #[.pointer (some ⟨g, 0, none⟩), .int .i64 n] m3 (fun r m' => r = .int .i64 (nowP s1 n) ∧ m' = m3) := fun n hn => now_spec w0 m3 g code s1 q n hn Q3.R
  refine ⟨_, cel p3 rfl, rfl, bcI (fun h15 => ?_) fun h15 => ⟨rfl, bcI (fun h16 => ?_) fun h16 => ⟨rfl, bcI (fun h17 => ?_) fun h17 => ⟨rfl, bcI (fun h18 => ?_) fun h18 => ⟨rfl, bcI (fun h19 => ?_) fun h19 => ?_⟩⟩⟩⟩⟩
  · refine bcET h15 ⟨_, cel p3 rfl, _, now _ hI.1, _, cel p3 rfl, _, now _ hI.2.1, rfl, _, cel p3 rfl, rfl, bcI (fun hb => ?_) fun hb => ?_⟩
    · exact ⟨_, cel p3 rfl, rfl, _, cel p3 rfl, rfl, ret _ (by rw [eN, if_pos (.inl (by simpa using h15)), if_pos hb])⟩
    · exact ret _ (by rw [eN, if_pos (.inl (by simpa using h15)), if_neg (by rw [hb]; exact Bool.false_ne_true)])
  · refine ⟨_, cel p3 rfl, _, now _ hI.1, _, cel p3 rfl, _, now _ hI.2.1, rfl, _, cel p3 rfl, rfl, bcI (fun hb => ?_) fun hb => ?_⟩
    · exact ⟨_, cel p3 rfl, rfl, _, cel p3 rfl, rfl, ret _ (by rw [eN, if_pos (.inr (by simpa using h16)), if_pos hb])⟩
    · exact ret _ (by rw [eN, if_pos (.inr (by simpa using h16)), if_neg (by rw [hb]; exact Bool.false_ne_true)])
  all_goals
    have n15 : l.i.op ≠ 15 := by simpa using h15
    have n16 : l.i.op ≠ 16 := by simpa using h16
    have n56 : ¬ (l.i.op = 15 ∨ l.i.op = 16) := by rintro (e | e) <;> contradiction
  · have e17 : l.i.op = 17 := by simpa using h17
    exact bcET h17 ⟨_, cel p3 rfl, ret _ (by rw [eN, if_neg n56, if_pos (.inl e17)])⟩
  · have e18 : l.i.op = 18 := by simpa using h18
    exact ⟨_, cel p3 rfl, ret _ (by rw [eN, if_neg n56, if_pos (.inr e18)])⟩
  all_goals
    have n17 : l.i.op ≠ 17 := by simpa using h17
    have n18 : l.i.op ≠ 18 := by simpa using h18
    have n78 : ¬ (l.i.op = 17 ∨ l.i.op = 18) := by rintro (e | e) <;> contradiction
  · have e19 : l.i.op = 19 := by simpa using h19
    refine ⟨_, cel p3 rfl, CallsA.mono (now _ hI.1) ?_⟩
    rintro r m4 ⟨rfl, hm4⟩
    subst hm4
    exact ⟨_, rfl, ret _ (by rw [eN, if_neg n56, if_neg n78, if_pos e19])⟩
  · have n19 : l.i.op ≠ 19 := by simpa using h19
    exact ret _ (by rw [eN, if_neg n56, if_neg n78, if_neg n19])
end Go.Proofs.Ytadcbnldahcelaa.S
