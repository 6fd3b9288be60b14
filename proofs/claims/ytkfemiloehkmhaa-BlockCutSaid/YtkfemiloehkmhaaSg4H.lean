/- Ytkfemiloehkmhaa: a text of our own, by an AI agent: Sg4H -/
import Derived.Test.YtkfemiloehkmhaaEfBH
import Derived.Test.YtkfemiloehkmhaaVBlkH
set_option linter.unusedSimpArgs false
set_option linter.unusedVariables false
set_option maxRecDepth 100000
namespace Go.Proofs.Ytkfemiloehkmhaa.S
open Go Go.RowKit Go.Alog Go.Proofs.Ytkfemiloehkmhaa.T Go.Proofs.Ytkfemiloehkmhaa.V

theorem h1_spec (w0 : World) (m : AM) {pc : Nat} {A' : Option Addr} {N c' : Nat} (hp : m pc = some (.cells #[.slice A' N c'] 22 (0, 0))) (x : Int) : CallsA Try.prog w0 56 #[.int .i64 x, .pointer (some ⟨pc, 0, none⟩)] m (fun r m' => r = .bool (x == (N : Int)) ∧ m' = m) :=
  cf56 w0 m x pc _ ⟨_, _, _, cel hp rfl, rfl, retP_of ⟨rfl, rfl⟩⟩
/-- The first 0's place. -/
theorem hindex_spec (w0 : World) (m : AM) (B : Nat) (A : Option Addr) (c : Nat) (l : List Int) (hl : l.length ≤ 100000) {pc : Nat} {A' : Option Addr} {N c' : Nat} (hp : m pc = some (.cells #[.slice A' N c'] 22 (0, 0))) (h : Own m B 3 1 A l.length c (intCells .i64 l)) :
    CallsA Try.prog w0 84 #[.slice A l.length c, .func (.func 56) #[] #[.pointer (some ⟨pc, 0, none⟩)]] m (fun r m' => m' = m ∧ ((r = .int .i64 (-1) ∧ ∀ x ∈ l, x ≠ (N : Int)) ∨ ∃ k : Nat, r = .int .i64 k ∧ k < l.length ∧ l.getD k 0 = (N : Int) ∧ ∀ j, j < k → l.getD j 0 ≠ (N : Int))) := by
  refine hcf84 w0 m A l.length c pc _ ?_
  refine hvl84_1010 w0 m _ _ A l.length c pc l.length 0 (fun k i m' => m' = m ∧ 0 ≤ i ∧ i ≤ l.length ∧ (k : Int) = l.length - i ∧ ∀ j, j < i.toNat → l.getD j 0 ≠ (N : Int)) (fun m' => m' = m ∧ ∀ j, j < l.length → l.getD j 0 ≠ (N : Int)) l.length rfl rfl rfl rfl ⟨rfl, by omega, by omega, by omega, fun j hj => by omega⟩ ?_ ?_
  · rintro k σ i m' ⟨rfl, i0, i1, hk, hq⟩
    refine ⟨rfl, ?_⟩
    by_cases c1 : i < l.length
    · refine bcET (decide_eq_true c1) ⟨⟨i0, c1⟩, ?_⟩
      obtain ⟨ad, rfl, hc⟩ := h.ex (by omega)
      rw [nilO_some]
      refine ⟨_, cell_k hc i0 c1, ?_⟩
      refine CallsA.mono (h1_spec w0 m' hp _) ?_
      rintro r m3 ⟨rfl, h3⟩
      replace h3 := h3.symm; subst h3
      refine ⟨_, rfl, ?_⟩
      by_cases hz : l.getD i.toNat 0 = (N : Int)
      · refine bcET (by rw [hz]; simp) (retP_of ⟨rfl, .inr ⟨i.toNat, ?_, by omega, hz, hq⟩⟩)
        rw [show ((i.toNat : Nat) : Int) = i by omega]
      · have w : IntKind.wrap .i64 (i + 1) = i + 1 := by rw [IntKind.wrap_i64]; omega
        refine bcEF (by simpa using hz) ⟨rfl, rfl, rfl, rfl, rfl, k - 1, by omega, ?_⟩
        rw [w]
        refine ⟨rfl, by omega, by omega, by omega, fun j hj => ?_⟩
        by_cases e : j = i.toNat
        · rw [e]; exact hz
        · exact hq j (by omega)
    · exact bcEF (decide_eq_false c1) ⟨rfl, rfl, rfl, rfl, fun j hj => hq j (by omega)⟩
  · rintro σ m' ⟨rfl, hq⟩
    refine retP_of ⟨rfl, .inl ⟨rfl, fun x hx => ?_⟩⟩
    obtain ⟨j, hj, rfl⟩ := List.mem_iff_getElem.1 hx
    have := hq j hj
    simpa [List.getD, hj] using this
def pd (N : Nat) (l : List Int) : List Int := l.filter (fun x => x != (N : Int))
theorem hdelete_spec (w0 : World) (m : AM) (A : Option Addr) (c : Nat) (l : List Int) (hl : l.length ≤ 100000) {pc : Nat} {A' : Option Addr} {N c' : Nat} (hp : m pc = some (.cells #[.slice A' N c'] 22 (0, 0))) (h2 : l.length - (pd N l).length ≤ 2) (h : Own m w0.heap.size 3 1 A l.length c (intCells .i64 l)) :
    CallsA Try.prog w0 53 #[.slice A l.length c, .func (.func 56) #[] #[.pointer (some ⟨pc, 0, none⟩)]] m (fun r m' => r = .slice A (pd N l).length c ∧ Own m' w0.heap.size 3 1 A (pd N l).length c (intCells .i64 (pd N l)) ∧ Fr m m' (obl A)) := by
  have hpo : pc ∉ obl A := fun hk => by
    obtain ⟨_, cur, hcur⟩ := h.obl_some hk
    rw [hp] at hcur; injection hcur with hcur; injection hcur with _ e; exact absurd e (by decide)
  refine hcf53 w0 m A l.length c pc _ ?_
  refine CallsA.mono (hindex_spec w0 m _ A c l hl hp h) ?_
  rintro r m1 ⟨h1, hr⟩
  replace h1 := h1.symm; subst h1
  rcases hr with ⟨rfl, hnz⟩ | ⟨k, rfl, hk, hz, hqq⟩
  · refine ⟨_, rfl, rfl, bcET (by decide) (retP_of ?_)⟩
    have : pd N l = l := by unfold pd; rw [List.filter_eq_self]; intro x hx; simpa using hnz x hx
    rw [this]
    exact ⟨rfl, h, Fr.refl _ _⟩
  · have hcap := h.2.1
    refine ⟨_, rfl, rfl, bcEF (by simp) ⟨rfl, ?_⟩⟩
    have wk : IntKind.wrap .i64 ((k : Int) + 1) = k + 1 := by rw [IntKind.wrap_i64]; omega
    rw [wk]
    have tk : pd N (l.take (k + 1)) = l.take k := by
      have hlt : k < l.length := hk
      rw [← List.take_append_getElem hlt]
      have e0 : l[k] = (N : Int) := by simpa [List.getD, hlt] using hz
      unfold pd
      rw [List.filter_append, e0]
      simp only [List.filter_cons, List.filter_nil]
      rw [if_neg (by simp), List.append_nil, List.filter_eq_self]
      intro x hx
      obtain ⟨j, hj, rfl⟩ := List.mem_iff_getElem.1 hx
      rw [List.length_take] at hj
      have := hqq j (by omega)
      rw [List.getElem_take]
      simpa [List.getD, show j < l.length by omega] using this
    refine hvl53_111010 w0 m _ _ A l.length c pc (k : Int) ((k : Int) + 1)
      (fun n i j m' => ∃ l' : List Int, l'.length = l.length ∧ Own m' w0.heap.size 3 1 A l.length c (intCells .i64 l') ∧ Fr m m' (obl A) ∧ 0 ≤ i ∧ i < j ∧ j ≤ l.length ∧ (n : Int) = l.length - j ∧ l'.take i.toNat = pd N (l.take j.toNat) ∧ ∀ q, j.toNat ≤ q → l'.getD q 0 = l.getD q 0)
      (fun i m' => ∃ l' : List Int, l'.length = l.length ∧ Own m' w0.heap.size 3 1 A l.length c (intCells .i64 l') ∧ Fr m m' (obl A) ∧ 0 ≤ i ∧ i ≤ l.length ∧ l'.take i.toNat = pd N l) (l.length - (k + 1)) rfl rfl rfl rfl
      ⟨l, rfl, h, Fr.refl _ _, by omega, by omega, by omega, by omega, by rw [show ((k : Int) + 1).toNat = k + 1 by omega, tk]; simp, fun _ _ => rfl⟩ ?_ ?_
    · rintro n σ i j m' ⟨l', hl', ho, hf, i0, ij, jn, hn, ht, hq⟩
      refine ⟨rfl, ?_⟩
      by_cases c1 : j < l.length
      · refine bcET (decide_eq_true c1) ⟨⟨by omega, c1⟩, ?_⟩
        obtain ⟨ad, rfl, hc⟩ := ho.ex (by omega)
        rw [nilO_some]
        have hcell := cell_k hc (i := j) (by omega) (by omega)
        refine ⟨_, hcell, ?_⟩
        refine CallsA.mono (h1_spec w0 m' (pc := pc) (A' := A') (N := N) (c' := c') (hf pc _ hp hpo) _) ?_
        rintro r m3 ⟨rfl, h3⟩
        replace h3 := h3.symm; subst h3
        refine ⟨_, rfl, ?_⟩
        have wj : IntKind.wrap .i64 (j + 1) = j + 1 := by rw [IntKind.wrap_i64]; omega
        have wi : IntKind.wrap .i64 (i + 1) = i + 1 := by rw [IntKind.wrap_i64]; omega
        have hjl : j.toNat < l.length := by omega
        have hv : l'.getD j.toNat 0 = l[j.toNat] := by rw [hq _ (Nat.le_refl _)]; simp [List.getD, hjl]
        have htk : pd N (l.take (j + 1).toNat) = pd N (l.take j.toNat) ++ pd N [l[j.toNat]] := by
          rw [show (j + 1).toNat = j.toNat + 1 by omega, ← List.take_append_getElem hjl]
          unfold pd; rw [List.filter_append]
        rw [hv]
        by_cases hz2 : l[j.toNat] = (N : Int)
        · refine bcEF (by rw [hz2]; simp) ⟨rfl, rfl, rfl, rfl, rfl, n - 1, by omega, ?_⟩
          rw [wj]
          refine ⟨l', hl', ho, hf, i0, by omega, by omega, by omega, ?_, fun q hq2 => hq q (by omega)⟩
          rw [htk, hz2, ht]; simp [pd]
        · refine bcET (by simpa using hz2) ⟨⟨i0, by omega⟩, ?_⟩
          rw [nilO_some]
          rw [← hl'] at ho
          refine own_set ho (k := i.toNat) (by omega) _ fun m4 o4 f4 => ⟨rfl, rfl, rfl, rfl, rfl, rfl, n - 1, by omega, ?_⟩
          rw [wi, wj]
          rw [hl'] at o4
          refine ⟨l'.set i.toNat l[j.toNat], by simp [hl'], o4, hf.trans f4 fun _ h => .inl h, by omega, by omega, by omega, by omega, ?_, fun q hq2 => ?_⟩
          · rw [htk, ← ht, show (i + 1).toNat = i.toNat + 1 by omega]
            have hil : i.toNat < (l'.set i.toNat l[j.toNat]).length := by simp; omega
            rw [← List.take_append_getElem hil]
            simp [pd, hz2, List.take_set_of_le]
          · have : i.toNat ≠ q := by omega
            rw [← hq q (by omega)]
            simp [List.getD, List.getElem?_set_ne this]
      · refine bcEF (decide_eq_false c1) ⟨rfl, rfl, rfl, l', hl', ho, hf, i0, by omega, ?_⟩
        rw [ht, List.take_of_length_le (by omega)]
    · rintro σ i m' ⟨l', hl', ho, hf, i0, il, ht⟩
      refine ⟨i0, hcap, by omega, ?_⟩
      rw [← hl'] at ho ⊢
      have hlen0 : (pd N l).length = i.toNat := by rw [← ht, List.length_take]; omega
      refine clear_tail ho (k := i.toNat) (by omega) (by omega) fun m5 o5 f5 => ⟨rfl, i0, by omega, by omega, retP_of ?_⟩
      have hlen : (pd N l).length = i.toNat := by rw [← ht, List.length_take]; omega
      have hA : (if c = 0 then A else Option.map (fun x => Addr.add x (0 * 1)) A) = A := by
        split
        · rfl
        · cases A with
          | none => rfl
          | some ad => simp [Addr.add]
      rw [hA, hlen, ← ht]
      exact ⟨rfl, o5, hf.trans f5 fun _ h => .inl h⟩
end Go.Proofs.Ytkfemiloehkmhaa.S
