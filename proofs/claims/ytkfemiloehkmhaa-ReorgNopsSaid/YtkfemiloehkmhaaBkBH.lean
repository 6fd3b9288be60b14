/- Ytkfemiloehkmhaa: a text of our own, by an AI agent: BkBH -/
import Derived.Test.YtkfemiloehkmhaaEfDH
import Derived.Test.YtkfemiloehkmhaaVBlkH
import Derived.Test.YtkfemiloehkmhaaVR9H
import Derived.Test.YtkfemiloehkmhaaCoreD
set_option linter.unusedSimpArgs false
set_option linter.unusedVariables false
set_option maxRecDepth 100000
namespace Go.Proofs.Ytkfemiloehkmhaa.S
open Go Go.RowKit Go.Alog Go.Proofs.Ytkfemiloehkmhaa.T Go.Proofs.Ytkfemiloehkmhaa.V

def w64 (n : Int) : Int := IntKind.wrap .i64 n
/-- Where an instruction goes, and whether it says so. -/
def tgt (i : Ins) (at_ : Int) : Int := if rightR i = true then (if i.op = 15 ∨ i.op = 16 then w64 (w64 (at_ + 1) + i.imm) else if i.op = 17 ∨ i.op = 18 then i.imm else 0) else 0
def tok (i : Ins) : Bool := rightR i && decide (15 ≤ i.op ∧ i.op ≤ 18)

theorem target_e (w0 : World) (m : AM) (i : Ins) (k : Int) : CallsA Try.prog w0 21 #[i.val, .int .i64 k] m (fun r m' => r = .tuple #[.int .i64 (tgt i k), .bool (tok i)] ∧ m' = m) := by
  refine CallsA.down (Q := fun r => r = .tuple #[.int .i64 (tgt i k), .bool (tok i)]) (R := fun r m' => r = .tuple #[.int .i64 (tgt i k), .bool (tok i)] ∧ m.le m') ?_ fun _ _ h => h
  generalize hR : (fun (r : Value) (m' : AM) => r = .tuple #[.int .i64 (tgt i k), .bool (tok i)] ∧ m.le m') = R
  refine cf21 w0 m _ _ _ _ _ k R ?_
  intro b hb hm M
  have l : m.le M := le_new hm _
  have p : M b = some (.cells i.cells.toArray 24) := upd_get_same
  clear_value M
  have ret : ∀ (t : Int) (v : Bool), t = tgt i k → v = tok i → RetP R (.tuple #[.int .i64 t, .bool v]) M := fun t v e1 e2 => retP_of (by rw [← hR, e1, e2]; exact ⟨rfl, l⟩)
  refine ⟨_, cel p rfl, _, cel p rfl, _, cel p rfl, _, cel p rfl, _, cel p rfl, ?_⟩
  refine CallsA.mono ((isaRight w0 M i).down fun _ _ h => h) ?_
  rintro r m2 ⟨rfl, h2⟩
  replace h2 := h2.symm; subst h2
  refine ⟨_, rfl, bcI (fun hr => ret _ _ ?_ ?_) (fun hr => ?_)⟩
  · unfold tgt; rw [if_neg (by simpa using hr)]
  · unfold tok; rw [show rightR i = false by simpa using hr]; rfl
  have hr' : rightR i = true := by simpa using hr
  unfold tgt tok at ret
  rw [if_pos hr', hr', Bool.true_and] at ret
  refine ⟨_, cel p rfl, rfl, ?_⟩
  refine bcI (fun h => bcET h ?_) (fun h => ?_)
  · have e : i.op = 15 := by simpa using h
    refine ⟨rfl, _, cel p rfl, rfl, ret _ _ ?_ ?_⟩ <;> simp [e, w64]
  refine ⟨rfl, bcI (fun h2 => ?_) (fun h2 => ?_)⟩
  · have e : i.op = 16 := by simpa using h2
    refine ⟨rfl, _, cel p rfl, rfl, ret _ _ ?_ ?_⟩ <;> simp [e, w64]
  refine ⟨rfl, bcI (fun h3 => bcET h3 ?_) (fun h3 => ?_)⟩
  · have e : i.op = 17 := by simpa using h3
    refine ⟨_, cel p rfl, ret _ _ ?_ ?_⟩ <;> simp [e]
  refine ⟨rfl, bcI (fun h4 => ?_) (fun h4 => ?_)⟩
  · have e : i.op = 18 := by simpa using h4
    refine ⟨_, cel p rfl, ret _ _ ?_ ?_⟩ <;> simp [e]
  simp only [beq_eq_false_iff_ne, ne_eq] at h h2 h3 h4
  refine ret _ _ ?_ ?_
  · rw [if_neg (by omega), if_neg (by omega)]
  · rw [decide_eq_false (by omega)]

end Go.Proofs.Ytkfemiloehkmhaa.S

set_option linter.unusedSimpArgs false
set_option linter.unusedVariables false
set_option maxRecDepth 100000
namespace Go.Proofs.Ytkfemiloehkmhaa.S
open Go Go.RowKit Go.Alog Go.Proofs.Ytkfemiloehkmhaa.T Go.Proofs.Ytkfemiloehkmhaa.V

def fitAt (code : List Ins) (k : Int) : Bool := rightR (cAt code k) && !(tok (cAt code k) && (decide (tgt (cAt code k) k < 0) || decide (tgt (cAt code k) k > (code.length : Int))))
def fitP (code : List Ins) : Bool := decide (code.length ≤ 4096) && (List.range code.length).all (fun k => fitAt code (k : Int))

theorem fitP_true {code : List Ins} (h1 : code.length ≤ 4096) (h : ∀ j : Nat, j < code.length → fitAt code j = true) : fitP code = true := by
  unfold fitP
  rw [decide_eq_true h1, Bool.true_and, List.all_eq_true]
  intro k hk
  exact h k (List.mem_range.1 hk)
theorem fitP_false {code : List Ins} {j : Nat} (hj : j < code.length) (h : fitAt code j = false) : fitP code = false := by
  unfold fitP
  rw [Bool.and_eq_false_iff]
  right
  rw [List.all_eq_false]
  exact ⟨j, List.mem_range.2 hj, by rw [h]; simp⟩
theorem fitP_len {code : List Ins} (h : 4096 < code.length) : fitP code = false := by
  unfold fitP
  rw [decide_eq_false (by omega)]; rfl

theorem fit_e (w0 : World) (m : AM) (A : Option Addr) (c : Nat) (code : List Ins) (hl : code.length ≤ 1000000) (rd : Reads m 5 A code.length (insCells code)) :
    CallsA Try.prog w0 23 #[.slice A code.length c] m (fun r m' => r = .bool (fitP code) ∧ m' = m) := by
  refine CallsA.down (Q := fun r => r = .bool (fitP code)) (R := fun r m' => r = .bool (fitP code) ∧ m.le m') ?_ fun _ _ h => h
  generalize hR : (fun (r : Value) (m' : AM) => r = .bool (fitP code) ∧ m.le m') = R
  have ret : ∀ (v : Bool) (m' : AM), m.le m' → v = fitP code → RetP R (.bool v) m' := fun v m' l e => by rw [← hR]; exact retP_of ⟨by rw [e], l⟩
  refine cf23 w0 m A code.length c R ⟨rfl, bcP (fun h => ret _ _ (AM.le_refl _) (fitP_len (by omega)).symm) (fun h => ?_)⟩
  refine vl23_11010 w0 m _ _ A code.length c A code.length c code.length 0 (fun n k m' => m.le m' ∧ 0 ≤ k ∧ k ≤ code.length ∧ (n : Int) = code.length - k ∧ ∀ j : Nat, (j : Int) < k → fitAt code j = true) (fun m' => m.le m' ∧ ∀ j : Nat, j < code.length → fitAt code j = true) code.length rfl rfl rfl rfl
    ⟨AM.le_refl _, by omega, by omega, by omega, fun j hj => by omega⟩ ?_ ?_
  · rintro n σ k m1 ⟨l1, k0, k1, hn, hp⟩
    refine ⟨rfl, bcP (fun hlt => ?_) (fun hlt => by (repeat (refine And.intro (Eq.refl _) ?_)); exact ⟨l1, fun j hj => hp j (by omega)⟩)⟩
    refine ldAt (rd.le l1) rfl k0 hlt fun a => blk5 fun b M l nb hb p => ?_
    replace p : M b = some (.cells (Ins.cells (cAt code k)).toArray 24) := p
    have l2 : m.le M := AM.le_trans l1 l
    refine ldIns p ?_
    refine CallsA.mono (target_e w0 M (cAt code k) k) ?_
    rintro r m2 ⟨rfl, h2⟩
    replace h2 := h2.symm; subst h2
    refine ⟨_, _, rfl, ldIns p (callB ((isaRight w0 M (cAt code k)).down fun _ _ h => h) ?_)⟩
    have hkk : ((k.toNat : Nat) : Int) = k := by omega
    have hfa : fitAt code (k.toNat : Int) = (rightR (cAt code k) && !(tok (cAt code k) && (decide (tgt (cAt code k) k < 0) || decide (tgt (cAt code k) k > (code.length : Int))))) := by rw [hkk]; rfl
    have bad : fitAt code (k.toNat : Int) = false → RetP R (.bool false) M := fun e => ret _ _ l2 (fitP_false (j := k.toNat) (by omega) e).symm
    have wk : IntKind.wrap .i64 (k + 1) = k + 1 := wrap_s (by omega) (by omega)
    cases hr : rightR (cAt code k) with
    | false => exact bcT ⟨rfl, bad (by rw [hfa, hr]; rfl)⟩
    | true =>
      refine bcF ?_
      rw [hr, Bool.true_and] at hfa
      have good : fitAt code (k.toNat : Int) = true → ∃ n' : Nat, n' < n ∧ (m.le M ∧ 0 ≤ k + 1 ∧ k + 1 ≤ code.length ∧ (n' : Int) = code.length - (k + 1) ∧ ∀ j : Nat, (j : Int) < k + 1 → fitAt code j = true) := fun e => by
        refine ⟨n - 1, by omega, l2, by omega, by omega, by omega, fun j hj => ?_⟩
        by_cases e2 : (j : Int) = k
        · rw [show j = k.toNat by omega]; exact e
        · exact hp j (by omega)
      rw [wk]
      cases ht : tok (cAt code k) with
      | false =>
        rw [ht] at hfa
        exact bcF ⟨rfl, bcF (by (repeat (refine And.intro (Eq.refl _) ?_)); exact good hfa)⟩
      | true =>
        rw [ht, Bool.true_and] at hfa
        refine bcT ⟨rfl, bcP (fun h0 => ⟨decide_eq_true h0, bcT (bad (by rw [hfa, decide_eq_true h0]; rfl))⟩) (fun h0 => ⟨rfl, ?_⟩)⟩
        rw [decide_eq_false h0] at hfa ⊢
        rw [Bool.false_or] at hfa
        refine bcI (fun h1 => bad ?_) (fun h1 => ?_)
        · have h1' : decide (tgt (cAt code k) k > (code.length : Int)) = true := h1
          rw [hfa, h1']; rfl
        · have h1' : decide (tgt (cAt code k) k > (code.length : Int)) = false := h1
          (repeat (refine And.intro (Eq.refl _) ?_))
          exact good (by rw [hfa, h1']; rfl)
  · rintro σ m1 ⟨l1, hp⟩
    exact ret _ _ l1 (fitP_true (by omega) hp).symm
end Go.Proofs.Ytkfemiloehkmhaa.S

set_option linter.unusedSimpArgs false
set_option linter.unusedVariables false
set_option maxRecDepth 100000
namespace Go.Proofs.Ytkfemiloehkmhaa.S
open Go Go.RowKit Go.Alog Go.Proofs.Ytkfemiloehkmhaa.T Go.Proofs.Ytkfemiloehkmhaa.V

/-- Does a block begin at a place? -/
def toAt (code : List Ins) (k : Int) (j : Nat) : Bool := tok (cAt code j) && tgt (cAt code j) j == k
def headP (code : List Ins) (k : Int) : Bool := k == 0 || goesP (cAt code (k - 1)) || (List.range code.length).any (toAt code k)

end Go.Proofs.Ytkfemiloehkmhaa.S

