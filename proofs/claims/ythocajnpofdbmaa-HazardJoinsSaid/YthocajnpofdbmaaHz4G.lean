/- Ythocajnpofdbmaa: a text of our own, by an AI agent: Hz4G -/
import Derived.Test.YthocajnpofdbmaaHz3G
import Derived.Test.YthocajnpofdbmaaEf16G
set_option linter.unusedSimpArgs false
set_option linter.unusedVariables false
set_option maxRecDepth 100000
namespace Go.Proofs.Ythocajnpofdbmaa.S
open Go Go.RowKit Go.Alog Go.Proofs.Ythocajnpofdbmaa.T Go.Proofs.Ythocajnpofdbmaa.V

theorem aw12K (w0 : World) (M : AM) {b : Bool} (hb : b = true) : CallsA Try.prog w0 34 #[] M (fun r m' => ∃ t : Bool, r = .bool t ∧ RetP (fun r _ => r = .bool true) (.bool (bif b then t else false)) m') := aw12 w0 M hb
theorem bEq (b : Bool) : (b == b) = true := by cases b <;> rfl

theorem law_HazardJoins (W : World) (A0 : Option Addr) (n0 c0 : Nat) (l0 : List Ins) (z0 : l0.length = n0) (hlc0 : n0 ≤ c0) (rd0 : Reads (mOf W) 5 A0 n0 (insCells l0)) (y0 : n0 * 40 ≤ 140737488351232) (hw0 : ∀ i ∈ l0, i.wf)
    (A1 : Option Addr) (n1 c1 : Nat) (l1 : List Ins) (z1 : l1.length = n1) (hlc1 : n1 ≤ c1) (rd1 : Reads (mOf W) 5 A1 n1 (insCells l1)) (y1 : n1 * 40 ≤ 140737488351232) (hw1 : ∀ i ∈ l1, i.wf) :
    CallsA Try.prog W 10 #[.slice A0 n0 c0, .slice A1 n1 c1] (mOf W) (fun r _ => r = .bool true) := by
  subst z0; subst z1
  refine cf10 W _ A0 _ c0 A1 _ c1 _ ⟨rfl, bcP (fun h => ⟨decide_eq_true h, aw12' W _⟩) fun h => ⟨rfl, ?_⟩⟩
  rw [decide_eq_false h]
  refine bifF (bcP (fun h => aw12' W _) fun h2 => ⟨rfl, ?_⟩)
  refine app2 el31 rd0 rd1 (insCells_one l0) (insCells_one l1) (by omega) (by omega) fun A c M l o n => ⟨rfl, ?_⟩
  rw [← insCells_app] at o
  have rd0 := rd0.le l
  have rd1 := rd1.le l
  have ra : Reads M 5 A (l0.length + l1.length) (insCells (l0 ++ l1)) := o.reads
  have fin : (l0.length = 0 ∨ (goesP (cAt l0 (l0.length - 1)) = false ∧ lateP (cAt l0 (l0.length - 1)) = false)) →
      CallsA Try.prog W 38 #[.slice A (l0.length + l1.length) c] M fun r74 m75 => ∃ t73 : Bool, r74 = .bool t73 ∧ CallsA Try.prog W 38 #[.slice A0 l0.length c0] m75 fun r77 m78 => ∃ t76 : Bool, r77 = .bool t76 ∧ bcase t76
        (CallsA Try.prog W 38 #[.slice A1 l1.length c1] m78 fun r80 m81 => ∃ t79 : Bool, r80 = .bool t79 ∧ bcase ((t73 : Bool) == (bif t76 then t79 else false)) (CallsA Try.prog W 34 #[] m81 fun r83 m84 => ∃ t82 : Bool, r83 = .bool t82 ∧ RetP (fun r _ => r = .bool true) (.bool (bif (t73 : Bool) == (bif t76 then t79 else false) then t82 else false)) m84) (((t73 : Bool) == (bif t76 then t79 else false)) = false ∧ RetP (fun r _ => r = .bool true) (.bool false) m81))
        (t76 = false ∧ bcase ((t73 : Bool) == false) (CallsA Try.prog W 34 #[] m78 fun r86 m87 => ∃ t85 : Bool, r86 = .bool t85 ∧ RetP (fun r _ => r = .bool true) (.bool (bif (t73 : Bool) == false then t85 else false)) m87) (((t73 : Bool) == false) = false ∧ RetP (fun r _ => r = .bool true) (.bool false) m78)) := by
    intro hh
    have hj := safe_joins l0 l1 hh
    refine callB (safe_e W M A _ c (l0 ++ l1) (by simp) (by simp; omega) ra) (callB (safe_e W M A0 _ c0 l0 rfl (by omega) rd0) ?_)
    rw [hj]
    cases hs : safeP l0
    · exact bcF ⟨rfl, bcT (aw12K W M rfl)⟩
    · refine bcT (callB (safe_e W M A1 _ c1 l1 rfl (by omega) rd1) ?_)
      have e : ((true && safeP l1) == (bif true then safeP l1 else false)) = true := bEq _
      exact bcET e (aw12K W M e)
  refine bcP (fun h3 => ⟨rfl, ?_⟩) fun h3 => ⟨decide_eq_false h3, fin (.inl (by omega))⟩
  rw [wrap_s (i := (l0.length : Int) - 1) (by omega) (by omega), decide_eq_true h3]
  refine ldAt rd0 rfl (by omega) (by omega) fun a => callB (refGoes_e W M (cAt l0 (l0.length - 1))) ?_
  cases hg : goesP (cAt l0 (l0.length - 1))
  · refine bcF ⟨rfl, ldAt rd0 rfl (by omega) (by omega) fun a => callB (refLate_e W M (cAt l0 (l0.length - 1))) ?_⟩
    cases hl : lateP (cAt l0 (l0.length - 1))
    · exact bcF (fin (.inr ⟨hg, hl⟩))
    · exact bcT (aw12' W M)
  · exact bcT ⟨rfl, bcT (aw12' W M)⟩

theorem law_HazardLate (W : World) (a0 : Int) (w0 : (Lit.int .u8 a0).wf = true) (i1 : Ins) (wi1 : i1.wf) :
    CallsA Try.prog W 13 #[.int .u8 a0, i1.val] (mOf W) (fun r _ => r = .bool true) := by
  have g0 := wf_u8 w0
  have en : IntKind.wrap .i64 (Int.tmod a0 32) = a0 % 32 := by rw [Int.tmod_eq_emod_of_nonneg g0.1, IntKind.wrap_i64]; omega
  refine cf13 W _ a0 _ _ _ _ _ _ ?_
  intro b hBb hNb M
  have l : AM.le _ M := le_new hNb _
  have p : M b = some (.cells (Ins.cells i1).toArray 23) := upd_get_same
  clear_value M
  rw [en]
  have hn : 0 ≤ a0 % 32 ∧ a0 % 32 ≤ 31 := by omega
  generalize a0 % 32 = n at hn ⊢
  refine ⟨rfl, by decide, rfl, blk5 fun b3 M2 l2 n3 hb3 p3 => ?_⟩
  replace p3 : M2 b3 = some (.cells (Ins.cells ⟨12, n, 0, 0, 0⟩).toArray 23) := p3
  have p := l2 _ _ p
  refine ldIns p (callB (refRight_e W M2 i1) ?_)
  cases hr : rightR i1
  · exact bcT ⟨rfl, rfl, aw12' W M2⟩
  refine bcF (ldIns p (callB (refGoes_e W M2 i1) ?_))
  cases hg : goesP i1
  · refine bcF (ldIns p (callB (refLate_e W M2 i1) ?_))
    cases hl : lateP i1
    · obtain ⟨s1, s2, s3⟩ := load_ahead hn hr hg hl
      refine bcF (ldIns p3 (ldIns p ⟨rfl, ?_⟩))
      intro b53 hb53 hm53 M3
      have l3 : M2.le M3 := le_new hm53 _
      have r3 : Reads M3 5 (some ⟨b53, 0, none⟩) 2 (insCells [⟨12, n, 0, 0, 0⟩, i1]) := Reads.lit rfl
      clear_value M3
      refine callB (safe_e W M3 _ 2 2 [⟨12, n, 0, 0, 0⟩, i1] rfl (by simp) r3) ⟨rfl, ldIns (l3 _ _ p3) (ldIns (l3 _ _ p) ⟨rfl, ?_⟩)⟩
      rw [s1]
      intro b68 hb68 hm68 M4
      have l4 : M3.le M4 := le_new hm68 _
      have r4 : Reads M4 5 (some ⟨b68, 0, none⟩) 3 (insCells [⟨17, 0, 0, 0, 0⟩, ⟨12, n, 0, 0, 0⟩, i1]) := Reads.lit rfl
      clear_value M4
      have L4 := AM.le_trans l3 l4
      refine callB (safe_e W M4 _ 3 3 [⟨17, 0, 0, 0, 0⟩, ⟨12, n, 0, 0, 0⟩, i1] rfl (by simp) r4) (ldIns (L4 _ _ p) (callB (refReads_e W M4 i1 n) ?_))
      rw [s2]
      have e : ((!readsR i1 n) == (!readsR i1 n)) = true := bEq _
      rw [e]
      refine bcT (bcT (ldIns (L4 _ _ p3) ⟨rfl, ldIns (L4 _ _ p) ⟨rfl, ?_⟩⟩))
      intro b91 hb91 hm91 M5
      have r5 : Reads M5 5 (some ⟨b91, 0, none⟩) 3 (insCells [⟨12, n, 0, 0, 0⟩, ⟨0, 0, 0, 0, 0⟩, i1]) := Reads.lit rfl
      clear_value M5
      refine callB (safe_e W M5 _ 3 3 [⟨12, n, 0, 0, 0⟩, ⟨0, 0, 0, 0, 0⟩, i1] rfl (by simp) r5) ?_
      rw [s3]
      exact bcT (aw12K W M5 rfl)
    · exact bcT (aw12' W M2)
  · exact bcT ⟨rfl, aw12' W M2⟩

theorem law_HazardPlain (W : World) (A0 : Option Addr) (n0 c0 : Nat) (l0 : List Ins) (z0 : l0.length = n0) (hlc0 : n0 ≤ c0) (rd0 : Reads (mOf W) 5 A0 n0 (insCells l0)) (y0 : n0 * 40 ≤ 140737488351232) (hw0 : ∀ i ∈ l0, i.wf) (i1 : Ins) (wi1 : i1.wf) :
    CallsA Try.prog W 12 #[.slice A0 n0 c0, i1.val] (mOf W) (fun r _ => r = .bool true) := by
  subst z0
  refine cf12 W _ A0 _ c0 _ _ _ _ _ _ ?_
  intro b hBb hNb M
  have l : AM.le _ M := le_new hNb _
  have p : M b = some (.cells (Ins.cells i1).toArray 23) := upd_get_same
  clear_value M
  refine ⟨rfl, bcP (fun h => aw12' W _) fun h => ?_⟩
  have rd0 := rd0.le l
  refine vl12_111010 W M _ _ A0 _ c0 b A0 _ c0 l0.length true 0 (fun k t i m' => M.le m' ∧ 0 ≤ i ∧ i ≤ l0.length ∧ (k : Int) = l0.length - i ∧ (t = true → ∀ x ∈ l0.take i.toNat, rightR x = true ∧ goesP x = false ∧ lateP x = false)) (fun t m' => M.le m' ∧ (t = true → safeP l0 = true)) l0.length rfl rfl rfl rfl rfl rfl ⟨AM.le_refl _, by omega, by omega, by omega, by simp⟩ ?_ ?_
  · rintro k σ t i m' ⟨L, i0, i1', hk, ht⟩
    refine ⟨rfl, bcP (fun c1 => ldAt (rd0.le L) rfl i0 c1 fun a => blk5 fun b2 m2 l2 n2 hb2 p2 => ?_) fun c1 => ?_⟩
    · have w : IntKind.wrap .i64 (i + 1) = i + 1 := wrap_s (by omega) (by omega)
      replace p2 : m2 b2 = some (.cells (Ins.cells (cAt l0 i)).toArray 23) := p2
      rw [w]
      have L2 := AM.le_trans L l2
      have tk : l0.take (i + 1).toNat = l0.take i.toNat ++ [cAt l0 i] := by
        have hi : i.toNat < l0.length := by omega
        rw [show (i + 1).toNat = i.toNat + 1 by omega, ← List.take_append_getElem hi]
        congr 2
        simp [cAt, List.getD, hi]
      have no : ∃ n' : Nat, n' < k ∧ (M.le m2 ∧ 0 ≤ i + 1 ∧ i + 1 ≤ l0.length ∧ (n' : Int) = l0.length - (i + 1) ∧ (false = true → ∀ x ∈ l0.take (i + 1).toNat, rightR x = true ∧ goesP x = false ∧ lateP x = false)) := ⟨k - 1, by omega, L2, by omega, by omega, by omega, fun h => by cases h⟩
      cases t
      · refine bcF ?_
        repeat refine ⟨rfl, ?_⟩
        exact no
      refine bcT (ldIns p2 (callB (refRight_e W m2 (cAt l0 i)) ?_))
      cases hr : rightR (cAt l0 i)
      · refine bcF ?_
        repeat refine ⟨rfl, ?_⟩
        exact no
      refine bcT (ldIns p2 (callB (refGoes_e W m2 (cAt l0 i)) ?_))
      cases hg : goesP (cAt l0 i)
      · refine bcT (ldIns p2 (callB (refLate_e W m2 (cAt l0 i)) ?_))
        cases hl : lateP (cAt l0 i)
        · repeat refine ⟨rfl, ?_⟩
          refine ⟨k - 1, by omega, L2, by omega, by omega, by omega, fun _ => ?_⟩
          rw [tk]
          intro x hx
          rcases List.mem_append.1 hx with h | h
          · exact ht rfl x h
          · rw [List.mem_singleton] at h; rw [h]; exact ⟨hr, hg, hl⟩
        · repeat refine ⟨rfl, ?_⟩
          exact no
      · refine bcF ?_
        repeat refine ⟨rfl, ?_⟩
        exact no
    · repeat refine ⟨rfl, ?_⟩
      refine ⟨L, fun e => plain_safe l0 ?_⟩
      have := ht e
      rwa [List.take_of_length_le (by omega)] at this
  · rintro σ t m' ⟨L, ht⟩
    have p' := L _ _ p
    refine ldIns p' ⟨rfl, ?_⟩
    intro b48 hb48 hm48 M3
    have l3 : m'.le M3 := le_new hm48 _
    have r3 : Reads M3 5 (some ⟨b48, 0, none⟩) 1 (insCells [i1]) := Reads.lit rfl
    clear_value M3
    have p3 := l3 _ _ p'
    have eq : (safeP [i1] == (bif rightR i1 then !goesP i1 else false)) = true := by
      rw [safe_one]; cases rightR i1 <;> cases goesP i1 <;> rfl
    refine callB (safe_e W M3 _ 1 1 [i1] rfl (by simp) r3) ?_
    cases t
    · refine bcT ⟨rfl, ldIns p3 (callB (refRight_e W M3 i1) ?_)⟩
      cases hr : rightR i1
      · rw [hr] at eq
        exact bcF ⟨rfl, bcET eq (aw12K W M3 eq)⟩
      · rw [hr] at eq
        refine bcT (ldIns p3 (callB (refGoes_e W M3 i1) ?_))
        exact bcET eq (aw12K W M3 eq)
    · refine bcF (callB (safe_e W M3 A0 _ c0 l0 rfl (by omega) ((rd0.le L).le l3)) ?_)
      rw [ht rfl]
      refine bcT (ldIns p3 (callB (refRight_e W M3 i1) ?_))
      cases hr : rightR i1
      · rw [hr] at eq
        exact bcF ⟨rfl, bcET eq (aw12K W M3 eq)⟩
      · rw [hr] at eq
        refine bcT (ldIns p3 (callB (refGoes_e W M3 i1) ?_))
        exact bcET eq (aw12K W M3 eq)
end Go.Proofs.Ythocajnpofdbmaa.S
