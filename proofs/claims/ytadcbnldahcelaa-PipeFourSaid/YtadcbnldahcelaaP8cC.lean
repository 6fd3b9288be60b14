/- Ytadcbnldahcelaa: a text of our own, by an AI agent: P8cC -/
import Derived.Test.YtadcbnldahcelaaP8bC
set_option linter.unusedSimpArgs false
set_option linter.unusedVariables false
set_option maxRecDepth 100000
namespace Go.Proofs.Ytadcbnldahcelaa.S
open Go Go.RowKit Go.Alog Go.Proofs.Ytadcbnldahcelaa.T Go.Proofs.Ytadcbnldahcelaa.V

/-- A register for the third stage. -/
def earlyP (n : Int) (l : La) (regs : List Int) : Int := if n ≠ 0 ∧ l.full = true ∧ l.reg = n ∧ lateP l.i = false then l.value else regOf regs n

theorem early_spec (w0 : World) (m : AM) (n : Int) (hn : 0 ≤ n ∧ n < 32) (l : La) (regs : List Int) :
    CallsA Try.prog w0 71 #[.int .i64 n, l.val, .agg (arr32 regs)] m (fun r m' => r = .int .i64 (earlyP n l regs) ∧ m' = m) := by
  refine cf71 w0 m _ _ _ _ _ _ _ _ _ _ _ _ _ _ _ _ _ _ _ _ _ _ _ _ _ _ _ _ _ _ _ _ _ _ _ _ _ _ _ _ _ _ _ _ _ _ ?_
  intro b1 hb1 hm1 m2
  have l1 : m.le m2 := le_new hm1 _
  have p1 : m2 b1 = some (.cells l.vals.toArray 77) := upd_get_same
  clear_value m2
  intro b3 hb3 hm3 m4
  have l3 : m2.le m4 := le_new hm3 _
  have p3 : m4 b3 = some (.cells (arr32 regs) 60) := upd_get_same
  have q1 := l3 _ _ p1
  clear_value m4
  have L := AM.le_trans l1 l3
  have reg : ∀ m', m4.le m' → ∀ v, v = earlyP n l regs → ∀ (R : Value → AM → Prop), R = (fun r m' => r = .int .i64 (earlyP n l regs) ∧ m' = m) → RetP R (.int .i64 v) m' := by
    intro m' l' v hv R hR
    rw [hR]
    exact ⟨m, AM.le_trans L l', by rw [hv], rfl⟩
  have ld : ∀ m', m4.le m' → m'.cell ((⟨b3, 0, none⟩ : Addr).add (n.toNat * 1)) = some (.int .i64 (regOf regs n)) := by
    intro m' l'
    rw [addn, Nat.mul_one, Nat.zero_add]
    exact cel (l' _ _ p3) (arr32_get regs hn)
  refine ⟨rfl, bcI (fun h0 => ?_) fun h0 => ?_⟩
  · refine ⟨_, cel q1 rfl, bcI (fun hf => ?_) fun hf => ?_⟩
    · refine ⟨_, cel q1 rfl, rfl, bcI (fun hr => ?_) fun hr => ?_⟩
      · refine ⟨_, cel q1 rfl, _, cel q1 rfl, _, cel q1 rfl, _, cel q1 rfl, _, cel q1 rfl, ?_⟩
        refine CallsA.mono (late_spec w0 m4 l.i) ?_
        rintro r m5 ⟨rfl, l5⟩
        refine ⟨_, rfl, bcI (fun ht => ?_) fun ht => ?_⟩
        · refine ⟨_, cel (l5 _ _ q1) rfl, reg m5 l5 _ ?_ _ rfl⟩
          simp [h0, hf] at hr ht
          simp at h0
          unfold earlyP
          rw [if_pos]; simp_all
        · refine ⟨⟨hn.1, hn.2⟩, _, ld m5 l5, reg m5 l5 _ ?_ _ rfl⟩
          simp [h0, hf] at hr ht
          simp at h0
          unfold earlyP
          rw [if_neg]; intro hh; simp_all
      · refine ⟨hr, ⟨hn.1, hn.2⟩, _, ld m4 (AM.le_refl _), reg m4 (AM.le_refl _) _ ?_ _ rfl⟩
        simp [h0, hf] at hr
        simp at h0
        unfold earlyP
        rw [if_neg]; intro hh; simp_all
    · refine ⟨hf, rfl, ⟨hn.1, hn.2⟩, _, ld m4 (AM.le_refl _), reg m4 (AM.le_refl _) _ ?_ _ rfl⟩
      simp [h0] at hf
      unfold earlyP
      rw [if_neg]; intro hh; simp_all
  · refine ⟨h0, rfl, rfl, ⟨hn.1, hn.2⟩, _, ld m4 (AM.le_refl _), reg m4 (AM.le_refl _) _ ?_ _ rfl⟩
    simp at h0
    unfold earlyP
    rw [if_neg]; intro hh; simp_all

theorem with_spec (w0 : World) (m : AM) (g : Nat) (code : List Ins) (s : PS) (q : PA) (n v : Int) (hn : 0 ≤ n ∧ n < 32) (h : PipR m w0.heap.size g code s q) :
    CallsA Try.prog w0 77 #[.pointer (some ⟨g, 0, none⟩), .int .i64 n, .int .i64 v] m (fun r m' => r = .agg (arr32 (s.regs.set n.toNat v)) ∧ m' = m) := by
  refine cf77 w0 m g n v _ ?_
  intro b1 hb1 hm1 m2
  have l1 : m.le m2 := le_new hm1 _
  have p1 : m2 b1 = some (.cells _ _) := upd_get_same
  clear_value m2
  have h2 := h.le l1
  refine ⟨_, h2.reg' 0 (by decide), _, h2.reg' 1 (by decide), _, h2.reg' 2 (by decide), _, h2.reg' 3 (by decide), _, h2.reg' 4 (by decide), _, h2.reg' 5 (by decide), _, h2.reg' 6 (by decide), _, h2.reg' 7 (by decide), _, h2.reg' 8 (by decide), _, h2.reg' 9 (by decide), _, h2.reg' 10 (by decide), _, h2.reg' 11 (by decide), _, h2.reg' 12 (by decide), _, h2.reg' 13 (by decide), _, h2.reg' 14 (by decide), _, h2.reg' 15 (by decide), _, h2.reg' 16 (by decide), _, h2.reg' 17 (by decide), _, h2.reg' 18 (by decide), _, h2.reg' 19 (by decide), _, h2.reg' 20 (by decide), _, h2.reg' 21 (by decide), _, h2.reg' 22 (by decide), _, h2.reg' 23 (by decide), _, h2.reg' 24 (by decide), _, h2.reg' 25 (by decide), _, h2.reg' 26 (by decide), _, h2.reg' 27 (by decide), _, h2.reg' 28 (by decide), _, h2.reg' 29 (by decide), _, h2.reg' 30 (by decide), _, h2.reg' 31 (by decide), ?_⟩
  intro b35 hb35 hm35 m36
  have l3 : m2.le m36 := le_new hm35 _
  have p35 : m36 b35 = some (.cells _ _) := upd_get_same
  have q1 := l3 _ _ p1
  clear_value m36
  have ne : b1 ≠ b35 := fun e => by subst e; rw [p1] at hm35; cases hm35
  refine st32a p35 hb35 (by simp) ?_
  have l4 : m2.le (m36.upd b35 (.cells (arr32 s.regs) 60)) := fun x o hx => by
    have : x ≠ b35 := fun e => by subst e; rw [hm35] at hx; cases hx
    rw [upd_get_ne this]; exact l3 _ _ hx
  refine (show (fun m68 => (0 ≤ n ∧ n < 32) ∧ StC w0.heap.size m68 ((⟨b35, 0, none⟩ : Addr).add (n.toNat * 1)) (.int .i64 v) _) (m36.upd b35 (.cells (arr32 s.regs) 60)) from ?_)
  refine ⟨hn, ?_⟩
  rw [addn, Nat.mul_one, Nat.zero_add]
  refine StC_own upd_get_same hb35 (by simp; omega) ?_
  rw [arr32_set _ h.hr (by omega)]
  generalize hM : (m36.upd b35 (.cells (arr32 s.regs) 60)).upd b35 (.cells (arr32 (s.regs.set n.toNat v)) 60) = M
  have pM : M b35 = some (.cells (arr32 (s.regs.set n.toNat v)) 60) := by rw [← hM]; exact upd_get_same
  have pM1 : M b1 = m36 b1 := by rw [← hM, upd_get_ne ne, upd_get_ne ne]
  rw [q1] at pM1
  have lM : m.le M := fun x o hx => by
    have : x ≠ b35 := fun e => by subst e; rw [l1 _ _ hx] at hm35; cases hm35
    rw [← hM, upd_get_ne this, upd_get_ne this]; exact l3 _ _ (l1 _ _ hx)
  refine ⟨_, cel pM rfl, _, cel pM rfl, _, cel pM rfl, _, cel pM rfl, _, cel pM rfl, _, cel pM rfl, _, cel pM rfl, _, cel pM rfl, _, cel pM rfl, _, cel pM rfl, _, cel pM rfl, _, cel pM rfl, _, cel pM rfl, _, cel pM rfl, _, cel pM rfl, _, cel pM rfl, _, cel pM rfl, _, cel pM rfl, _, cel pM rfl, _, cel pM rfl, _, cel pM rfl, _, cel pM rfl, _, cel pM rfl, _, cel pM rfl, _, cel pM rfl, _, cel pM rfl, _, cel pM rfl, _, cel pM rfl, _, cel pM rfl, _, cel pM rfl, _, cel pM rfl, _, cel pM rfl, ?_⟩
  refine st32a pM1 hb1 (by simp) ?_
  have pF : (M.upd b1 (.cells (arr32 (s.regs.set n.toNat v)) 60)) b1 = some (.cells (arr32 (s.regs.set n.toNat v)) 60) := upd_get_same
  have lF : m.le (M.upd b1 (.cells (arr32 (s.regs.set n.toNat v)) 60)) := fun x o hx => by
    have : x ≠ b1 := fun e => by subst e; rw [hx] at hm1; cases hm1
    rw [upd_get_ne this]; exact lM _ _ hx
  generalize M.upd b1 (.cells (arr32 (s.regs.set n.toNat v)) 60) = MF at pF lF ⊢
  refine ⟨_, cel pF rfl, _, cel pF rfl, _, cel pF rfl, _, cel pF rfl, _, cel pF rfl, _, cel pF rfl, _, cel pF rfl, _, cel pF rfl, _, cel pF rfl, _, cel pF rfl, _, cel pF rfl, _, cel pF rfl, _, cel pF rfl, _, cel pF rfl, _, cel pF rfl, _, cel pF rfl, _, cel pF rfl, _, cel pF rfl, _, cel pF rfl, _, cel pF rfl, _, cel pF rfl, _, cel pF rfl, _, cel pF rfl, _, cel pF rfl, _, cel pF rfl, _, cel pF rfl, _, cel pF rfl, _, cel pF rfl, _, cel pF rfl, _, cel pF rfl, _, cel pF rfl, _, cel pF rfl, ?_⟩
  exact ⟨m, lF, rfl, rfl⟩

/-- A register for the second stage. -/
def nowP (s : PS) (n : Int) : Int := if n ≠ 0 ∧ s.a.full = true ∧ s.a.reg = n then earlyP n s.k (s.regs.set n.toNat s.a.value) else earlyP n s.k s.regs
theorem now_spec (w0 : World) (m : AM) (g : Nat) (code : List Ins) (s : PS) (q : PA) (n : Int) (hn : 0 ≤ n ∧ n < 32) (h : PipR m w0.heap.size g code s q) :
    CallsA Try.prog w0 73 #[.pointer (some ⟨g, 0, none⟩), .int .i64 n] m (fun r m' => r = .int .i64 (nowP s n) ∧ m' = m) := by
  generalize hR : (fun (r : Value) (m' : AM) => r = .int .i64 (nowP s n) ∧ m' = m) = R
  refine cf73 w0 m g n _ ?_
  have low : ∀ (m' : AM) (σ : Sg), m' = m → σ 0 = .pointer (some ⟨g, 0, none⟩) → σ 1 = .int .i64 n → ¬ (n ≠ 0 ∧ s.a.full = true ∧ s.a.reg = n) → (∀ m, m = m' → (vcS Try.prog w0 qs73 (sub c73 [1, 1]) σ m (retQ Try.prog Try.f73 R))) := by
    intro m' σ hm h0 h1 hno m hm2
    subst hm2
    subst hm
    refine vk73_11 w0 m σ R g n h0 h1 ?_
    refine ⟨_, h.hi' 24, _, h.hi' 25, _, h.hi' 26, _, h.hi' 27, _, h.hi' 28, _, h.hi' 29, _, h.hi' 30, _, h.hi' 31, _, h.hi' 32, _, h.hi' 33, _, h.hi' 34, _, h.hi' 35, _, h.reg' 0 (by decide), _, h.reg' 1 (by decide), _, h.reg' 2 (by decide), _, h.reg' 3 (by decide), _, h.reg' 4 (by decide), _, h.reg' 5 (by decide), _, h.reg' 6 (by decide), _, h.reg' 7 (by decide), _, h.reg' 8 (by decide), _, h.reg' 9 (by decide), _, h.reg' 10 (by decide), _, h.reg' 11 (by decide), _, h.reg' 12 (by decide), _, h.reg' 13 (by decide), _, h.reg' 14 (by decide), _, h.reg' 15 (by decide), _, h.reg' 16 (by decide), _, h.reg' 17 (by decide), _, h.reg' 18 (by decide), _, h.reg' 19 (by decide), _, h.reg' 20 (by decide), _, h.reg' 21 (by decide), _, h.reg' 22 (by decide), _, h.reg' 23 (by decide), _, h.reg' 24 (by decide), _, h.reg' 25 (by decide), _, h.reg' 26 (by decide), _, h.reg' 27 (by decide), _, h.reg' 28 (by decide), _, h.reg' 29 (by decide), _, h.reg' 30 (by decide), _, h.reg' 31 (by decide), ?_⟩
    refine CallsA.mono (early_spec w0 m n hn s.k s.regs) ?_
    rintro r m2 ⟨rfl, h2⟩
    refine ⟨_, rfl, retP_of ?_⟩
    rw [← hR]
    refine ⟨?_, h2⟩
    unfold nowP
    rw [if_neg hno]
  refine ⟨rfl, bcI (fun c0 => ?_) fun c0 => ?_⟩
  · refine ⟨_, h.hi' 36, bcI (fun cf => ?_) fun cf => ?_⟩
    · refine ⟨_, h.hi' 43, rfl, bcI (fun cr => ?_) fun cr => ?_⟩
      · refine ⟨_, h.hi' 24, _, h.hi' 25, _, h.hi' 26, _, h.hi' 27, _, h.hi' 28, _, h.hi' 29, _, h.hi' 30, _, h.hi' 31, _, h.hi' 32, _, h.hi' 33, _, h.hi' 34, _, h.hi' 35, _, h.hi' 44, ?_⟩
        refine ⟨(s.regs.set n.toNat s.a.value).getD 0 0, (s.regs.set n.toNat s.a.value).getD 1 0, (s.regs.set n.toNat s.a.value).getD 2 0, (s.regs.set n.toNat s.a.value).getD 3 0, (s.regs.set n.toNat s.a.value).getD 4 0, (s.regs.set n.toNat s.a.value).getD 5 0, (s.regs.set n.toNat s.a.value).getD 6 0, (s.regs.set n.toNat s.a.value).getD 7 0, (s.regs.set n.toNat s.a.value).getD 8 0, (s.regs.set n.toNat s.a.value).getD 9 0, (s.regs.set n.toNat s.a.value).getD 10 0, (s.regs.set n.toNat s.a.value).getD 11 0, (s.regs.set n.toNat s.a.value).getD 12 0, (s.regs.set n.toNat s.a.value).getD 13 0, (s.regs.set n.toNat s.a.value).getD 14 0, (s.regs.set n.toNat s.a.value).getD 15 0, (s.regs.set n.toNat s.a.value).getD 16 0, (s.regs.set n.toNat s.a.value).getD 17 0, (s.regs.set n.toNat s.a.value).getD 18 0, (s.regs.set n.toNat s.a.value).getD 19 0, (s.regs.set n.toNat s.a.value).getD 20 0, (s.regs.set n.toNat s.a.value).getD 21 0, (s.regs.set n.toNat s.a.value).getD 22 0, (s.regs.set n.toNat s.a.value).getD 23 0, (s.regs.set n.toNat s.a.value).getD 24 0, (s.regs.set n.toNat s.a.value).getD 25 0, (s.regs.set n.toNat s.a.value).getD 26 0, (s.regs.set n.toNat s.a.value).getD 27 0, (s.regs.set n.toNat s.a.value).getD 28 0, (s.regs.set n.toNat s.a.value).getD 29 0, (s.regs.set n.toNat s.a.value).getD 30 0, (s.regs.set n.toNat s.a.value).getD 31 0, CallsA.mono (with_spec w0 m g code s q n s.a.value hn h) ?_, ?_⟩
        · rintro r m2 ⟨rfl, h2⟩
          exact ⟨rfl, h2⟩
        refine CallsA.mono (early_spec w0 m n hn s.k (s.regs.set n.toNat s.a.value)) ?_
        rintro r m2 ⟨rfl, h2⟩
        refine ⟨_, rfl, retP_of ?_⟩
        rw [← hR]
        refine ⟨?_, h2⟩
        unfold nowP
        rw [if_pos]
        simp at c0
        simp_all
      · refine low _ _ rfl rfl rfl ?_ _ rfl
        simp at c0
        simp_all
    · refine ⟨cf, ?_⟩
      refine low _ _ rfl rfl rfl ?_ _ rfl
      simp at c0
      simp_all
  · refine ⟨c0, rfl, ?_⟩
    refine low _ _ rfl rfl rfl ?_ _ rfl
    simp at c0
    simp_all
end Go.Proofs.Ytadcbnldahcelaa.S
