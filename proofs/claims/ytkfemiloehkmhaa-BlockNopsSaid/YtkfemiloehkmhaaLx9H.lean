/- Ytkfemiloehkmhaa: a text of our own, by an AI agent: Lx9H -/
import Derived.Test.YtkfemiloehkmhaaLw9H
set_option linter.unusedSimpArgs false
set_option linter.unusedVariables false
set_option maxRecDepth 100000
namespace Go.Proofs.Ytkfemiloehkmhaa.S
open Go Go.RowKit Go.Alog Go.Proofs.Ytkfemiloehkmhaa.T Go.Proofs.Ytkfemiloehkmhaa.V

theorem sbad_31 {k : Int} (h0 : 1 ≤ k) (h1 : k ≤ 9) : sbad ⟨k, 31, 0, 0, 0⟩ = true := by
  have : k = 1 ∨ k = 2 ∨ k = 3 ∨ k = 4 ∨ k = 5 ∨ k = 6 ∨ k = 7 ∨ k = 8 ∨ k = 9 := by omega
  rcases this with rfl | rfl | rfl | rfl | rfl | rfl | rfl | rfl | rfl <;> decide +kernel

theorem strict_bad (l : List Ins) {x : Ins} (h : sbad x = true) : strictP (l ++ [x]) = false := by
  unfold strictP
  have : (l ++ [x]).any sbad = true := by rw [List.any_append]; simp [h]
  rw [this]; simp
theorem strict_fit {l : List Ins} (h : strictP l = true) : fitP l = true := by
  unfold strictP at h
  simp only [Bool.and_eq_true] at h
  exact h.1

theorem elIns : elOf Try.prog 22 = some (24, 5, 40, [.int .i64 0, .int .i64 0, .int .i64 0, .int .i64 0, .int .i64 0]) := by kernel_rfl

/-- A copy of code. -/
theorem cp1 {w0 : World} {m0 : AM} {A : Option Addr} {c : Nat} {l : List Ins} (rd : Reads m0 5 A l.length (insCells l)) (hl : l.length ≤ 1000000) {K : Option Addr → Nat → Nat → AM → Prop}
    (hK : ∀ A' c' m', m0.le m' → Alog.Own m' w0.heap.size 24 5 A' l.length c' (insCells l) → (∀ k ∈ obl A', m0 k = none) → K A' l.length c' m') :
    ∀ b4 : Nat, w0.heap.size ≤ b4 → m0 b4 = none → let m5 := AM.upd m0 b4 (.cells #[] 24);
      awp Try.prog w0.heap.size (Builtin.append_ #[22, 22] 22 #[.slice (some ⟨b4, 0, none⟩) 0 0, .slice A l.length c]) m5 fun v6 m7 =>
      ∃ (A8 : Option Addr) (n9 c10 : Nat), v6 = .slice A8 n9 c10 ∧ K A8 n9 c10 m7 := by
  intro b hb hmb m1
  have l1 : m0.le m1 := le_new hmb _
  have ow1 : Alog.Own m1 w0.heap.size 24 5 (some ⟨b, 0, none⟩) 0 0 [] := Alog.Own.new m0 hb 24 5 0 [] (by simp)
  refine awp_append_loc (m0 := m0) elIns l1 ow1 (fun k hk => by simp [obl] at hk; subst hk; exact hmb) (rd.le l1) (insCells_one l) (by omega) (by omega) (fun A' c' m23 l23 f23 o23 n23 _ => ?_)
  rw [List.nil_append, Nat.zero_add] at o23
  rw [Nat.zero_add]
  exact ⟨A', l.length, c', rfl, hK A' c' m23 l23 o23 n23⟩
/-- An instruction is appended to code of the call's own. -/
theorem snoc1 {w0 : World} {m0 m : AM} {A : Option Addr} {c : Nat} {l : List Ins} (lm : m0.le m) (o : Alog.Own m w0.heap.size 24 5 A l.length c (insCells l)) (nA : ∀ k ∈ obl A, m0 k = none) (hl : l.length ≤ 1000000) (x : Ins) {K : Option Addr → Nat → Nat → AM → Prop}
    (hK : ∀ A' c' m', m0.le m' → Alog.Own m' w0.heap.size 24 5 A' (l.length + 1) c' (insCells (l ++ [x])) → (∀ k ∈ obl A', m0 k = none) → K A' (l.length + 1) c' m') :
    ∀ b11 : Nat, w0.heap.size ≤ b11 → m b11 = none → let m12 := AM.upd m b11 (.cells (Ins.cells x).toArray 24);
      awp Try.prog w0.heap.size (Builtin.append_ #[22, 22] 22 #[.slice A l.length c, .slice (some ⟨b11, 0, none⟩) 1 1]) m12 fun v13 m14 =>
      ∃ (A15 : Option Addr) (n16 c17 : Nat), v13 = .slice A15 n16 c17 ∧ K A15 n16 c17 m14 := by
  intro b11 hb11 hn11
  refine awp_append_loc (m0 := m0) elIns (AM.le_trans lm (le_new hn11 _)) (o.upd (o.ne_none hn11)) nA (A2 := some ⟨b11, 0, none⟩) (k := 1) (news := Ins.cells x) (Reads.lit rfl) (ins_one x) (by omega) (by omega) (fun A2' c2' m28 l28 f28 o28 n28 _ => ?_)
  refine ⟨A2', l.length + 1, c2', rfl, hK A2' c2' m28 l28 ?_ n28⟩
  rw [show insCells (l ++ [x]) = insCells l ++ Ins.cells x by simp [insCells]]; exact o28

theorem tmod_in {a n : Int} (h0 : 0 ≤ a) (hn : 0 < n) : 0 ≤ Int.tmod a n ∧ Int.tmod a n < n := by
  rw [Int.tmod_eq_emod_of_nonneg h0]
  exact ⟨Int.emod_nonneg _ (by omega), Int.emod_lt_of_pos _ hn⟩

theorem law_BlockStrict (W : World) (A0 : Option Addr) (n0 c0 : Nat) (l0 : List Ins) (z0 : l0.length = n0) (hlc0 : n0 ≤ c0) (rd0 : Reads (mOf W) 5 A0 n0 (insCells l0)) (y0 : n0 * 40 ≤ 140737488351232) (hw0 : ∀ i ∈ l0, i.wf) (a1 : Int) (w1 : (Lit.int .u8 a1).wf = true) :
    CallsA Try.prog W 7 #[.slice A0 n0 c0, .int .u8 a1] (mOf W) (fun r _ => r = .bool true) := by
  subst z0
  have ha : 0 ≤ a1 ∧ a1 ≤ 255 := by simpa [Lit.wf, IntKind.min, IntKind.max, IntKind.bits, IntKind.signed] using w1
  refine cf7 W _ A0 _ c0 a1 _ ⟨rfl, bcP (fun h => aw9' W _) fun h => ⟨rfl, ?_⟩⟩
  refine cp1 rd0 (by omega) fun A8 c10 m7 l7 o7 n7 => ⟨rfl, by decide, rfl, rfl, rfl, ?_⟩
  have ht := tmod_in (n := 9) ha.1 (by omega)
  have e1 : IntKind.wrap .i64 (1 + IntKind.wrap .i64 (Int.tmod a1 9)) = 1 + Int.tmod a1 9 := by
    rw [wrap_s (i := Int.tmod a1 9) (by omega) (by omega), wrap_s (by omega) (by omega)]
  rw [e1]
  refine snoc1 l7 o7 n7 (by omega) ⟨1 + Int.tmod a1 9, 31, 0, 0, 0⟩ fun A15 c17 M l o n => ?_
  have hbad : strictP (l0 ++ [⟨1 + Int.tmod a1 9, 31, 0, 0, 0⟩]) = false := strict_bad l0 (sbad_31 (by omega) (by omega))
  have hlen : (l0 ++ [(⟨1 + Int.tmod a1 9, 31, 0, 0, 0⟩ : Ins)]).length = l0.length + 1 := by simp
  have rb := o.reads
  rw [← hlen] at rb ⊢
  refine callB (strict_e W M A0 c0 l0 (by omega) (rd0.le l)) ?_
  cases hs : strictP l0 with
  | false =>
    refine bcT ⟨rfl, callB (strict_e W M A15 c17 _ (by rw [hlen]; omega) rb) ?_⟩
    rw [hbad]
    exact bcT (aw9 W M rfl)
  | true =>
    refine bcF (callB (fit_e W M A0 c0 l0 (by omega) (rd0.le l)) ?_)
    rw [strict_fit hs]
    refine bcT (callB (strict_e W M A15 c17 _ (by rw [hlen]; omega) rb) ?_)
    rw [hbad]
    exact bcT (aw9 W M rfl)
end Go.Proofs.Ytkfemiloehkmhaa.S
