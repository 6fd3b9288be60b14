/- Ytijilloaggeepaa: a text of our own, by an AI agent: SpE -/
import Derived.Test.YtijilloaggeepaaE4E
import Derived.Test.YtijilloaggeepaaMgE
import Derived.Test.YtijilloaggeepaaCore12
set_option linter.unusedSimpArgs false
set_option linter.unusedVariables false
set_option maxRecDepth 100000
namespace Go.Proofs.Ytijilloaggeepaa.S
open Go Go.RowKit Go.Alog Go.Proofs.Ytijilloaggeepaa.T Go.Proofs.Ytijilloaggeepaa.V

/-! Runs, step by step. -/
theorem run_of (w0 : World) (m : AM) (Ac : Option Addr) (nc cc : Nat) (code : List Ins) (mem : Int) (Ai : Option Addr) (ni ci : Nat) (inp : List Int) (fuel : Int) (h1 : code.length = nc) (h2 : inp.length = ni) (hf : InI fuel) (hc : Reads m 5 Ac nc (insCells code)) (hi : Reads m 1 Ai ni (intCells .i64 inp)) (hin : ni ≤ 1000000) :
    CallsA Try.prog w0 25 #[.slice Ac nc cc, .int .i64 mem, .slice Ai ni ci, .int .i64 fuel] m (fun r m' => m.le m' ∧ RRes m' w0.heap.size r (runP code mem inp fuel)) := by
  subst h1; subst h2
  exact run_spec w0 m Ac cc code mem Ai ci inp fuel hf hc hi hin
theorem runG_stop (code : List Ins) (n : Nat) {x : MS × Int × Int} (h : x.2.1 ≠ 0) : runG code n x = x := by
  obtain ⟨s, t, k⟩ := x
  cases n with
  | zero => rfl
  | succ n => simp only [runG]; rw [if_neg h]
theorem runG_one (code : List Ins) (n : Nat) (s : MS) (k : Int) : runG code (n + 1) (s, 0, k) = runG code n ((stepP code s).1, (stepP code s).2, k + 1) := by simp [runG]
theorem stepP_go (code : List Ins) (s s1 : MS) (i : Ins) (v : Int) (ok : Bool) (h0 : 0 ≤ s.at_) (h1 : s.at_ < code.length) (hi : code.getD s.at_.toNat default = i) (hr : rightR i = true) (ha : actP s i = (s1, 0)) (hk : reckonP i (regOf s1.regs i.b) (regOf s1.regs i.c) = (v, 0, ok)) :
    stepP code s = ({ (nextP (if ok then { s1 with regs := setR s1.regs i.a v } else s1) i).1 with at_ := (nextP (if ok then { s1 with regs := setR s1.regs i.a v } else s1) i).2 }, 0) := by
  unfold stepP
  rw [if_neg (by omega), if_neg (by omega), hi]
  simp only [hr, ha, hk, Bool.true_eq_false, if_false, ne_eq, not_true_eq_false]
theorem stepP_trap (code : List Ins) (s s1 : MS) (i : Ins) (t : Int) (h0 : 0 ≤ s.at_) (h1 : s.at_ < code.length) (hi : code.getD s.at_.toNat default = i) (hr : rightR i = true) (ha : actP s i = (s1, t)) (ht : t ≠ 0) : stepP code s = (s1, t) := by
  unfold stepP
  rw [if_neg (by omega), if_neg (by omega), hi]
  simp only [hr, ha, Bool.true_eq_false, if_false]
  rw [if_pos ht]
theorem regOf_same (regs : List Int) (r v : Int) (h : regs.length = 32) (hr : 1 ≤ r ∧ r ≤ 31) : regOf (setR regs r v) r = w32 v := by
  unfold regOf setR
  rw [if_neg (by omega)]
  have : r.toNat < 32 := by omega
  simp [List.getD, h, this]
theorem regOf_other (regs : List Int) (r k v : Int) (hr : 0 ≤ r) (hk : 0 ≤ k) (hne : r ≠ k) : regOf (setR regs r v) k = regOf regs k := by
  unfold regOf setR
  split
  · rfl
  · have : ¬ r.toNat = k.toNat := by omega
    simp [List.getD, List.getElem?_set_ne this]
theorem setR_len (regs : List Int) (n v : Int) : (setR regs n v).length = regs.length := by
  unfold setR
  split
  · rfl
  · simp
theorem right13 (r n : Int) (h : 0 ≤ r ∧ r ≤ 31) (hn : -32768 ≤ n ∧ n ≤ 32767) : rightR ⟨13, r, 0, 0, n⟩ = true := by
  have e1 : shapeR 13 = 11 := by decide
  have e2 : (11 : Int).tdiv 2 = 5 := by decide
  have e3 : (5 : Int).tdiv 2 = 2 := by decide
  have e4 : (2 : Int).tdiv 2 = 1 := by decide
  have h1 : ¬ r < 0 := by omega
  have h2 : ¬ r > 31 := by omega
  have h5 : n ≥ -32768 := by omega
  have h6 : n ≤ 32767 := by omega
  simp [rightR, e1, e2, e3, e4, partR, rangeR, h1, h2, h5, h6]

/-- 'AddI r b n'. -/
theorem step_addi (code : List Ins) (s : MS) (r b n : Int) (h0 : 0 ≤ s.at_) (h1 : s.at_ < code.length) (hl : code.length ≤ 4096) (hi : code.getD s.at_.toNat default = ⟨10, r, b, 0, n⟩) (hr : 0 ≤ r ∧ r ≤ 31) (hb : 0 ≤ b ∧ b ≤ 31) (hn : -32768 ≤ n ∧ n ≤ 32767) :
    stepP code s = ({ s with regs := setR s.regs r (w32 (regOf s.regs b) + n), at_ := s.at_ + 1 }, 0) := by
  have hR := right10 r b n hr hb hn
  have hv : reckonP ⟨10, r, b, 0, n⟩ (regOf s.regs b) (regOf s.regs 0) = (w32 (w32 (regOf s.regs b) + n), 0, true) := by
    unfold reckonP
    rw [hR, if_neg (by decide)]
    show (w32 (IntKind.wrap .i64 (w32 (regOf s.regs b) + n)), (0 : Int), true) = _
    rw [w32_w64]
  rw [stepP_go code s s ⟨10, r, b, 0, n⟩ _ true h0 h1 hi hR rfl hv]
  have e : IntKind.wrap .i64 (s.at_ + 1) = s.at_ + 1 := by rw [IntKind.wrap_i64]; omega
  have ew : ∀ x, setR s.regs r (w32 x) = setR s.regs r x := fun x => by unfold setR; rw [w32_w32]
  simp only [if_true, ew]
  show (({ s with regs := setR s.regs r (w32 (regOf s.regs b) + n), at_ := IntKind.wrap .i64 (s.at_ + 1) } : MS), (0 : Int)) = _
  rw [e]
/-- 'Lui r n'. -/
theorem step_lui (code : List Ins) (s : MS) (r n : Int) (h0 : 0 ≤ s.at_) (h1 : s.at_ < code.length) (hl : code.length ≤ 4096) (hi : code.getD s.at_.toNat default = ⟨11, r, 0, 0, n⟩) (hr : 0 ≤ r ∧ r ≤ 31) (hn : -32768 ≤ n ∧ n ≤ 32767) :
    stepP code s = ({ s with regs := setR s.regs r (n * 65536), at_ := s.at_ + 1 }, 0) := by
  have hR := right11 r n hr hn
  have hv : reckonP ⟨11, r, 0, 0, n⟩ (regOf s.regs 0) (regOf s.regs 0) = (w32 (n * 65536), 0, true) := by
    unfold reckonP
    rw [hR, if_neg (by decide)]
    show (w32 (IntKind.wrap .i64 (n * 65536)), (0 : Int), true) = _
    rw [w32_w64]
  rw [stepP_go code s s ⟨11, r, 0, 0, n⟩ _ true h0 h1 hi hR rfl hv]
  have e : IntKind.wrap .i64 (s.at_ + 1) = s.at_ + 1 := by rw [IntKind.wrap_i64]; omega
  have ew : ∀ x, setR s.regs r (w32 x) = setR s.regs r x := fun x => by unfold setR; rw [w32_w32]
  simp only [if_true, ew]
  show (({ s with regs := setR s.regs r (n * 65536), at_ := IntKind.wrap .i64 (s.at_ + 1) } : MS), (0 : Int)) = _
  rw [e]
/-- 'Sw r 0 n'. -/
theorem step_sw (code : List Ins) (s : MS) (r n : Int) (h0 : 0 ≤ s.at_) (h1 : s.at_ < code.length) (hl : code.length ≤ 4096) (hi : code.getD s.at_.toNat default = ⟨13, r, 0, 0, n⟩) (hr : 0 ≤ r ∧ r ≤ 31) (hz : regOf s.regs 0 = 0) (hn : 0 ≤ n ∧ n < s.mem.length) (hn2 : n ≤ 32767) :
    stepP code s = ({ s with mem := s.mem.set n.toNat (w32 (regOf s.regs r)), at_ := s.at_ + 1 }, 0) := by
  have hR := right13 r n hr (by omega)
  have ha : actP s ⟨13, r, 0, 0, n⟩ = ({ s with mem := s.mem.set n.toNat (w32 (regOf s.regs r)) }, 0) := by
    unfold actP
    have e : w32 (regOf s.regs 0 + n) = n := by rw [hz, w32_id (by omega)]; omega
    simp only [e]
    rw [if_neg (by decide), if_pos trivial, if_pos hn]
  have hv : reckonP ⟨13, r, 0, 0, n⟩ (regOf s.regs 0) (regOf s.regs 0) = (0, 0, false) := by
    unfold reckonP
    rw [hR, if_neg (by decide)]
    rfl
  rw [stepP_go code s _ ⟨13, r, 0, 0, n⟩ _ false h0 h1 hi hR ha hv]
  have e : IntKind.wrap .i64 (s.at_ + 1) = s.at_ + 1 := by rw [IntKind.wrap_i64]; omega
  simp only [Bool.false_eq_true, if_false]
  show (({ s with mem := s.mem.set n.toNat (w32 (regOf s.regs r)), at_ := IntKind.wrap .i64 (s.at_ + 1) } : MS), (0 : Int)) = _
  rw [e]
/-- 'Sys 0'. -/
theorem step_halt (code : List Ins) (s : MS) (h0 : 0 ≤ s.at_) (h1 : s.at_ < code.length) (hi : code.getD s.at_.toNat default = ⟨20, 0, 0, 0, 0⟩) : stepP code s = (s, 1) :=
  stepP_trap code s s _ 1 h0 h1 hi (by decide +kernel) rfl (by decide)

/-- The stores and the end behind what Const makes. -/
theorem const_tail (code : List Ins) (k n : Nat) (r c : Int) (regs : List Int) (hr : 1 ≤ r ∧ r ≤ 31) (hl : code.length = k + 4) (hk : k ≤ 10) (h0 : code.getD k default = ⟨13, r, 0, 0, 1⟩) (h1 : code.getD (k + 1) default = ⟨10, r, 0, 0, 1⟩) (h2 : code.getD (k + 2) default = ⟨13, r, 0, 0, 0⟩) (h3 : code.getD (k + 3) default = ⟨20, 0, 0, 0, 0⟩)
    (hlen : regs.length = 32) (hz : regOf regs 0 = 0) : ∃ regs', runG code (n + 4) (⟨regs, [0, 0], k, [], []⟩, 0, c) = (⟨regs', [1, w32 (regOf regs r)], k + 3, [], []⟩, 1, c + 4) := by
  have t : ∀ j : Nat, ((k : Int) + j).toNat = k + j := fun j => by omega
  refine ⟨setR regs r (w32 (regOf regs 0) + 1), ?_⟩
  have hz' : regOf (setR regs r (w32 (regOf regs 0) + 1)) 0 = 0 := by rw [regOf_other _ _ _ _ (by omega) (by omega) (by omega)]; exact hz
  show runG code (n + 3 + 1) _ = _
  rw [runG_one, step_sw code ⟨regs, [0, 0], k, [], []⟩ r 1 (by show (0 : Int) ≤ k; omega) (by show (k : Int) < _; omega) (by omega) (by show code.getD ((k : Int).toNat) default = _; rw [Int.toNat_natCast]; exact h0) (by omega) hz (by simp) (by omega)]
  show runG code (n + 2 + 1) (⟨regs, [0, w32 (regOf regs r)], k + 1, [], []⟩, 0, c + 1) = _
  rw [runG_one, step_addi code ⟨regs, [0, w32 (regOf regs r)], k + 1, [], []⟩ r 0 1 (by show (0 : Int) ≤ k + 1; omega) (by show (k : Int) + 1 < _; omega) (by omega) (by show code.getD (((k : Int) + 1).toNat) default = _; rw [show ((k : Int) + 1).toNat = k + 1 by omega]; exact h1) (by omega) (by omega) (by omega)]
  show runG code (n + 1 + 1) (⟨setR regs r (w32 (regOf regs 0) + 1), [0, w32 (regOf regs r)], k + 1 + 1, [], []⟩, 0, c + 1 + 1) = _
  rw [runG_one, step_sw code ⟨setR regs r (w32 (regOf regs 0) + 1), [0, w32 (regOf regs r)], k + 1 + 1, [], []⟩ r 0 (by show (0 : Int) ≤ k + 1 + 1; omega) (by show (k : Int) + 1 + 1 < _; omega) (by omega) (by show code.getD (((k : Int) + 1 + 1).toNat) default = _; rw [show ((k : Int) + 1 + 1).toNat = k + 2 by omega]; exact h2) (by omega) hz' (by simp) (by omega)]
  show runG code (n + 1) (⟨setR regs r (w32 (regOf regs 0) + 1), [w32 (regOf (setR regs r (w32 (regOf regs 0) + 1)) r), w32 (regOf regs r)], k + 1 + 1 + 1, [], []⟩, 0, c + 1 + 1 + 1) = _
  rw [runG_one, step_halt code _ (by show (0 : Int) ≤ k + 1 + 1 + 1; omega) (by show (k : Int) + 1 + 1 + 1 < _; omega) (by show code.getD (((k : Int) + 1 + 1 + 1).toNat) default = _; rw [show ((k : Int) + 1 + 1 + 1).toNat = k + 3 by omega]; exact h3), runG_stop code n (by show (1 : Int) ≠ 0; decide)]
  have ev : w32 (regOf (setR regs r (w32 (regOf regs 0) + 1)) r) = 1 := by rw [regOf_same _ _ _ hlen hr, hz]; decide
  rw [ev]
  simp only [Int.add_assoc]
  rfl

theorem ext16_eq (n : Int) : ext16 n = (n + 32768) % 65536 - 32768 := by
  unfold ext16
  rw [IntKind.wrap_i32, IntKind.wrap_i32, Int.fdiv_eq_ediv_of_nonneg _ (by omega), IntKind.wrap_i64]
  omega

theorem const_run (r n : Int) (hr : 1 ≤ r ∧ r ≤ 31) : (runP (constI r n ++ [⟨13, r, 0, 0, 1⟩, ⟨10, r, 0, 0, 1⟩, ⟨13, r, 0, 0, 0⟩, ⟨20, 0, 0, 0, 0⟩]) 2 [] 10).trap = 1 ∧ (runP (constI r n ++ [⟨13, r, 0, 0, 1⟩, ⟨10, r, 0, 0, 1⟩, ⟨13, r, 0, 0, 0⟩, ⟨20, 0, 0, 0, 0⟩]) 2 [] 10).mem = usedP [1, w32 n] := by
  have hz0 : regOf (List.replicate 32 0) 0 = 0 := by decide
  by_cases h : -32768 ≤ n ∧ n < 32768
  · have hc : constI r n = [⟨10, r, 0, 0, n⟩] := if_pos h
    rw [hc]
    unfold runP
    rw [if_neg (by simp)]
    simp only
    have e0 : beginS 2 [] = ⟨List.replicate 32 0, [0, 0], 0, [], []⟩ := rfl
    rw [e0]
    show (runG _ (9 + 1) _).2.1 = 1 ∧ usedP (runG _ (9 + 1) _).1.mem = _
    rw [runG_one, step_addi _ ⟨List.replicate 32 0, [0, 0], 0, [], []⟩ r 0 n (by decide) (by simp) (by simp) rfl (by omega) (by omega) (by omega)]
    obtain ⟨regs', hE⟩ := const_tail ([⟨10, r, 0, 0, n⟩] ++ [⟨13, r, 0, 0, 1⟩, ⟨10, r, 0, 0, 1⟩, ⟨13, r, 0, 0, 0⟩, ⟨20, 0, 0, 0, 0⟩]) 1 5 r 1 (setR (List.replicate 32 0) r (w32 (regOf (List.replicate 32 0) 0) + n)) hr (by simp) (by omega) rfl rfl rfl rfl (by rw [setR_len]; simp) (by rw [regOf_other _ _ _ _ (by omega) (by omega) (by omega)]; exact hz0)
    have hE' : runG ([⟨10, r, 0, 0, n⟩] ++ [⟨13, r, 0, 0, 1⟩, ⟨10, r, 0, 0, 1⟩, ⟨13, r, 0, 0, 0⟩, ⟨20, 0, 0, 0, 0⟩]) 9 (⟨setR (List.replicate 32 0) r (w32 (regOf (List.replicate 32 0) 0) + n), [0, 0], 0 + 1, [], []⟩, 0, 0 + 1) = _ := hE
    rw [hE']
    refine ⟨rfl, ?_⟩
    show usedP [1, w32 (regOf (setR (List.replicate 32 0) r (w32 (regOf (List.replicate 32 0) 0) + n)) r)] = _
    rw [regOf_same _ _ _ (by simp) hr, w32_w32, hz0]
    congr 3
    show w32 (w32 0 + n) = w32 n
    rw [show w32 0 = 0 from rfl, Int.zero_add]
  · have hc : constI r n = [⟨11, r, 0, 0, ext16 (Int.fdiv (IntKind.wrap .i64 (IntKind.wrap .i64 (IntKind.wrap .i32 n) + 32768)) 65536)⟩, ⟨10, r, r, 0, ext16 (IntKind.wrap .i64 (IntKind.wrap .i32 n))⟩] := if_neg h
    rw [hc]
    have hx1 := ext16_le (Int.fdiv (IntKind.wrap .i64 (IntKind.wrap .i64 (IntKind.wrap .i32 n) + 32768)) 65536)
    have hx2 := ext16_le (IntKind.wrap .i64 (IntKind.wrap .i32 n))
    have hx3 : w32 (ext16 (Int.fdiv (IntKind.wrap .i64 (IntKind.wrap .i64 (IntKind.wrap .i32 n) + 32768)) 65536) * 65536 + ext16 (IntKind.wrap .i64 (IntKind.wrap .i32 n))) = w32 n := by
      rw [ext16_eq, ext16_eq, Int.fdiv_eq_ediv_of_nonneg _ (by omega)]
      have hw := IntKind.wrap_i32 n
      generalize IntKind.wrap .i32 n = y at hw ⊢
      rw [w32_eq, w32_eq, IntKind.wrap_i64, IntKind.wrap_i64]
      omega
    generalize ext16 (Int.fdiv (IntKind.wrap .i64 (IntKind.wrap .i64 (IntKind.wrap .i32 n) + 32768)) 65536) = hi at hx1 hx3 ⊢
    generalize ext16 (IntKind.wrap .i64 (IntKind.wrap .i32 n)) = lo at hx2 hx3 ⊢
    unfold runP
    rw [if_neg (by simp)]
    simp only
    have e0 : beginS 2 [] = ⟨List.replicate 32 0, [0, 0], 0, [], []⟩ := rfl
    rw [e0]
    show (runG _ (9 + 1) _).2.1 = 1 ∧ usedP (runG _ (9 + 1) _).1.mem = _
    rw [runG_one, step_lui _ ⟨List.replicate 32 0, [0, 0], 0, [], []⟩ r hi (by decide) (by simp) (by simp) rfl (by omega) hx1]
    show (runG _ (8 + 1) (⟨setR (List.replicate 32 0) r (hi * 65536), [0, 0], 0 + 1, [], []⟩, 0, 0 + 1)).2.1 = 1 ∧ usedP (runG _ (8 + 1) (⟨setR (List.replicate 32 0) r (hi * 65536), [0, 0], 0 + 1, [], []⟩, 0, 0 + 1)).1.mem = _
    rw [runG_one, step_addi _ ⟨setR (List.replicate 32 0) r (hi * 65536), [0, 0], 0 + 1, [], []⟩ r r lo (show (0 : Int) ≤ 0 + 1 by decide) (by simp) (by simp) rfl (by omega) (by omega) hx2]
    obtain ⟨regs', hE⟩ := const_tail ([⟨11, r, 0, 0, hi⟩, ⟨10, r, r, 0, lo⟩] ++ [⟨13, r, 0, 0, 1⟩, ⟨10, r, 0, 0, 1⟩, ⟨13, r, 0, 0, 0⟩, ⟨20, 0, 0, 0, 0⟩]) 2 4 r 2 (setR (setR (List.replicate 32 0) r (hi * 65536)) r (w32 (regOf (setR (List.replicate 32 0) r (hi * 65536)) r) + lo)) hr (by simp) (by omega) rfl rfl rfl rfl (by rw [setR_len, setR_len]; simp) (by rw [regOf_other _ _ _ _ (by omega) (by omega) (by omega), regOf_other _ _ _ _ (by omega) (by omega) (by omega)]; exact hz0)
    have hE' : runG ([⟨11, r, 0, 0, hi⟩, ⟨10, r, r, 0, lo⟩] ++ [⟨13, r, 0, 0, 1⟩, ⟨10, r, 0, 0, 1⟩, ⟨13, r, 0, 0, 0⟩, ⟨20, 0, 0, 0, 0⟩]) 8 (⟨setR (setR (List.replicate 32 0) r (hi * 65536)) r (w32 (regOf (setR (List.replicate 32 0) r (hi * 65536)) r) + lo), [0, 0], 0 + 1 + 1, [], []⟩, 0, 0 + 1 + 1) = _ := hE
    rw [hE']
    refine ⟨rfl, ?_⟩
    show usedP [1, w32 (regOf (setR (setR (List.replicate 32 0) r (hi * 65536)) r (w32 (regOf (setR (List.replicate 32 0) r (hi * 65536)) r) + lo)) r)] = _
    rw [regOf_same _ _ _ (by rw [setR_len]; simp) hr, regOf_same _ _ _ (by simp) hr, w32_w32, w32_w32, ← hx3]
    congr 3
    rw [w32_eq, w32_eq, w32_eq]
    omega
end Go.Proofs.Ytijilloaggeepaa.S
