/- Ytkfemiloehkmhaa: a text of our own, by an AI agent: Lx11H -/
import Derived.Test.YtkfemiloehkmhaaOeBH
import Derived.Test.YtkfemiloehkmhaaVLaw11bH
set_option linter.unusedSimpArgs false
set_option linter.unusedVariables false
set_option maxRecDepth 100000
namespace Go.Proofs.Ytkfemiloehkmhaa.S
open Go Go.RowKit Go.Alog Go.Proofs.Ytkfemiloehkmhaa.T Go.Proofs.Ytkfemiloehkmhaa.V

theorem pick_at {l : List Ins} {o : List Int} {k : Nat} (hk : k < o.length) : cAt (pickP l o) k = pickAt l (o.getD k 0) := by
  have h1 : k < (pickP l o).length := by rw [pickP_len]; exact hk
  unfold cAt pickP
  simp [List.getD, hk]

theorem law_SchedLays (W : World) (A0 : Option Addr) (n0 c0 : Nat) (l0 : List Ins) (z0 : l0.length = n0) (hlc0 : n0 ≤ c0) (rd0 : Reads (mOf W) 5 A0 n0 (insCells l0)) (y0 : n0 * 40 ≤ 140737488351232) (hw0 : ∀ i ∈ l0, i.wf)
    (A1 : Option Addr) (n1 c1 : Nat) (l1 : List Int) (z1 : l1.length = n1) (hlc1 : n1 ≤ c1) (rd1 : Reads (mOf W) 1 A1 n1 (intCells .i64 l1)) (y1 : n1 * 8 ≤ 140737488351232) (hw1 : ∀ i ∈ l1, (Lit.int .i64 i).wf = true) :
    CallsA Try.prog W 11 #[.slice A0 n0 c0, .slice A1 n1 c1] (mOf W) (fun r _ => r = .bool true) := by
  subst z0; subst z1
  generalize hm : mOf W = m
  rw [hm] at rd0 rd1
  generalize hR : (fun (r : Value) (_ : AM) => r = Value.bool true) = R
  have aw : ∀ M : AM, CallsA Try.prog W 32 #[] M (fun r m' => ∃ t : Bool, r = .bool t ∧ RetP R (.bool t) m') := fun M => by rw [← hR]; exact aw11' W M
  refine cf11 W m A0 _ c0 A1 _ c1 R ⟨rfl, bcP (fun h => ⟨decide_eq_true h, aw _⟩) fun h => ⟨rfl, ?_⟩⟩
  rw [decide_eq_false h]
  refine bcP (fun h2 => aw _) fun h2 => ?_
  refine CallsA.mono (pick_spec W m A0 c0 l0 (by omega) rd0 A1 c1 l1 (by omega) rd1) ?_
  rintro r m1 ⟨⟨A7, c7, rfl, o7, n7⟩, L1⟩
  have plen := pickP_len l0 l1
  refine ⟨_, _, _, rfl, rfl, bcEF (by rw [plen]; simp) ?_⟩
  refine vl11_1111010 W m1 _ R A0 _ c0 A7 _ c7 A1 _ c1 l1.length 0 (fun q k m' => m1.le m' ∧ 0 ≤ k ∧ k ≤ l1.length ∧ (q : Int) = l1.length - k) (fun m' => m1.le m') l1.length rfl rfl rfl rfl rfl ⟨AM.le_refl _, by omega, by omega, by omega⟩ ?_ ?_
  · rintro q σ k m2 ⟨l2, k0, k1, hq⟩
    refine ⟨rfl, bcP (fun hlt => ⟨⟨k0, hlt⟩, ?_⟩) (fun hlt => ⟨rfl, rfl, rfl, rfl, l2⟩)⟩
    have rdo := (rd1.le L1).le l2
    obtain ⟨a1, hA1, hc⟩ := rdo.ex (by omega)
    rw [hA1, nilO_some]
    have wk : IntKind.wrap .i64 (k + 1) = k + 1 := wrap_s (by omega) (by omega)
    have hpk : cAt (pickP l0 l1) k = pickAt l0 (l1.getD k.toNat 0) := by
      have := pick_at (l := l0) (o := l1) (k := k.toNat) (by omega)
      rwa [show ((k.toNat : Nat) : Int) = k by omega] at this
    refine ⟨_, cell_k hc k0 hlt, rfl, blk5 fun b M l3 nb hb p => ?_⟩
    generalize l1.getD k.toNat 0 = x at hpk ⊢
    rw [wk]
    have fin : ∀ (M3 : AM) (i : Ins), m2.le M3 → M3 b = some (.cells i.cells.toArray 24 (0, 0)) → pickAt l0 x = i → (0 ≤ k ∧ k < ((pickP l0 l1).length : Int)) ∧ nilO A7 fun a44 => ∃ i45 : Int, M3.cell (a44.add (k.toNat * 5)) = some (.int .i64 i45) ∧ ∃ i46 : Int, M3.cell ((a44.add (k.toNat * 5)).add 1) = some (.int .i64 i46) ∧ ∃ i47 : Int, M3.cell ((a44.add (k.toNat * 5)).add 2) = some (.int .i64 i47) ∧ ∃ i48 : Int, M3.cell ((a44.add (k.toNat * 5)).add 3) = some (.int .i64 i48) ∧ ∃ i49 : Int, M3.cell ((a44.add (k.toNat * 5)).add 4) = some (.int .i64 i49) ∧
        ∃ i50 : Int, M3.cell ⟨b, 0, none⟩ = some (.int .i64 i50) ∧ ∃ i51 : Int, M3.cell ⟨b, 1, none⟩ = some (.int .i64 i51) ∧ ∃ i52 : Int, M3.cell ⟨b, 2, none⟩ = some (.int .i64 i52) ∧ ∃ i53 : Int, M3.cell ⟨b, 3, none⟩ = some (.int .i64 i53) ∧ ∃ i54 : Int, M3.cell ⟨b, 4, none⟩ = some (.int .i64 i54) ∧
        ∃ t55 : Bool, EqP Try.prog .neq 24 (.agg #[.int .i64 i45, .int .i64 i46, .int .i64 i47, .int .i64 i48, .int .i64 i49]) (.agg #[.int .i64 i50, .int .i64 i51, .int .i64 i52, .int .i64 i53, .int .i64 i54]) t55 ∧ bcase t55 (RetP R (.bool false) M3) (IntKind.i64 = IntKind.i64 ∧ (Value.slice A0 l0.length c0) = .slice A0 l0.length c0 ∧ (Value.slice A7 (pickP l0 l1).length c7) = .slice A7 (pickP l0 l1).length c7 ∧ (Value.slice (some a1) l1.length c1) = .slice (some a1) l1.length c1 ∧ (Value.int .i64 l1.length) = .int .i64 l1.length ∧ true = true ∧ ∃ n' : Nat, n' < q ∧ (m1.le M3 ∧ 0 ≤ k + 1 ∧ k + 1 ≤ l1.length ∧ (n' : Int) = l1.length - (k + 1))) := by
      intro M3 i lM p3 hi
      refine ldAt ((o7.le (AM.le_trans l2 lM)).reads) rfl k0 (by omega) fun a => ?_
      refine ldIns p3 ⟨_, eqp_n _ _, ?_⟩
      rw [hpk, hi, decide_eq_true rfl]
      exact bcF ⟨rfl, rfl, rfl, rfl, rfl, rfl, q - 1, by omega, AM.le_trans l2 lM, by omega, by omega, by omega⟩
    refine ⟨rfl, bcP (fun h1 => ⟨rfl, ?_⟩) (fun h1 => ⟨decide_eq_false h1, ?_⟩)⟩
    · rw [decide_eq_true h1]
      refine bcP (fun h2 => ?_) (fun h2 => ?_)
      · refine ldAt ((rd0.le L1).le (AM.le_trans l2 l3)) rfl h1 h2 fun a => ?_
        refine blk5o (b := b) l3 nb p hb (i := cAt l0 x) fun M3 l4 p3 => ?_
        have := fin M3 _ l4 p3 (by unfold pickAt; rw [if_pos ⟨h1, h2⟩])
        exact this
      · exact fin M nop l3 p (by unfold pickAt; rw [if_neg (fun hh => h2 hh.2)])
    · exact fin M nop l3 p (by unfold pickAt; rw [if_neg (fun hh => h1 hh.1)])
  · rintro σ m2 l2
    have hol := layP_len l0
    have rd2 := (rd0.le L1).le l2
    refine CallsA.mono (lay_spec W m2 A0 c0 l0 (by omega) (by omega) rd2) ?_
    rintro r m3 ⟨⟨A4, c4, rfl, o4, n4⟩, l3⟩
    refine ⟨_, _, _, rfl, CallsA.mono (refLay_spec W m3 A0 c0 l0 (by omega) (by omega) (rd2.le l3)) ?_⟩
    rintro r m4 ⟨⟨A9, c9, rfl, o9, n9⟩, l4⟩
    refine ⟨_, _, _, rfl, callB (same_e W m4 A4 _ c4 (layP l0) A9 _ c9 (layP l0) rfl rfl (by omega) (o4.le l4).reads o9.reads) ?_⟩
    rw [decide_eq_true (rfl : layP l0 = layP l0), ← hR]
    exact bcT (aw11 W m4 rfl)
end Go.Proofs.Ytkfemiloehkmhaa.S
