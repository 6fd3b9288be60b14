/- Ytkfemiloehkmhaa: a text of our own, by an AI agent: Lw13H -/
import Derived.Test.YtkfemiloehkmhaaLsBH
import Derived.Test.YtkfemiloehkmhaaPlBH
import Derived.Test.YtkfemiloehkmhaaVLaw13H
set_option linter.unusedSimpArgs false
set_option linter.unusedVariables false
set_option maxRecDepth 100000
namespace Go.Proofs.Ytkfemiloehkmhaa.S
open Go Go.RowKit Go.Alog Go.Proofs.Ytkfemiloehkmhaa.T Go.Proofs.Ytkfemiloehkmhaa.V

def aw13C : List Ins := [⟨10, 4, 0, 0, 7⟩, ⟨17, 0, 0, 0, 2⟩]
theorem aw13_re : reorgP aw13C = ([⟨17, 0, 0, 0, 2⟩, ⟨10, 4, 0, 0, 7⟩], [0, 2], 0) := by decide +kernel
theorem reorgP_len (code : List Ins) : (reorgP code).1.length ≤ 4096 ∧ (reorgP code).2.1.length ≤ code.length + 1 := by
  unfold reorgP
  split
  · simp
  · split
    · simp
    · rename_i h2
      cases hp : posF code (outU code (mB code)).length with
      | none => simp
      | some out =>
        have h3 := posF_len hp
        have h4 := plU_len code (mB code + 1)
        have h5 := mB_le code
        exact ⟨by show out.length ≤ 4096; omega, by show (plU code (mB code + 1)).length ≤ code.length + 1; omega⟩

theorem awake13 (w0 : World) (m : AM) : CallsA Try.prog w0 42 #[] m (fun r m' => r = .bool true ∧ m' = m) := by
  refine CallsA.down (Q := fun r => r = .bool true) (R := fun r m' => r = .bool true ∧ m.le m') ?_ fun _ _ h => h
  refine cf42 w0 m _ ⟨rfl, rfl, rfl, fun b1 hb1 hn1 => ?_⟩
  have l1 := le_new hn1 (.cells (insCells aw13C).toArray 24)
  have rd : Reads (m.upd b1 (.cells (insCells aw13C).toArray 24)) 5 (some ⟨b1, 0, none⟩) aw13C.length (insCells aw13C) := Reads.lit rfl
  change CallsA Try.prog w0 43 _ (m.upd b1 (.cells (insCells aw13C).toArray 24)) _
  generalize m.upd b1 (.cells (insCells aw13C).toArray 24) = M at l1 rd ⊢
  refine CallsA.mono (reorg_spec w0 M (some ⟨b1, 0, none⟩) 2 aw13C (by decide) (by decide) rd) ?_
  rintro r m11 ⟨A3, c5, A6, c8, rfl, o3, o6, n3, n6, l2⟩
  rw [aw13_re] at o3 o6 ⊢
  refine ⟨_, _, _, _, _, _, _, rfl, rfl, bcT ⟨rfl, bcT ⟨⟨by decide, by decide⟩, ?_⟩⟩⟩
  obtain ⟨ad, rfl, hc⟩ := o3.ex (by decide)
  rw [nilO_some]
  refine ⟨17, hc 0 _ rfl, 0, by rw [Addr.add_add]; exact hc 1 _ rfl, 0, by rw [Addr.add_add]; exact hc 2 _ rfl, 0, by rw [Addr.add_add]; exact hc 3 _ rfl, 2, by rw [Addr.add_add]; exact hc 4 _ rfl, rfl, _, eqp_i ⟨17, 0, 0, 0, 2⟩ ⟨17, 0, 0, 0, 2⟩, bcT ⟨⟨by decide, by decide⟩, ?_⟩⟩
  rw [nilO_some]
  refine ⟨7, by rw [Addr.add_add]; exact hc 9 _ rfl, rfl, bcT ⟨rfl, fun b24 hb24 hn24 => ?_⟩⟩
  have l3 := le_new hn24 (.cells #[.int .i64 0, .int .i64 2] 3)
  have r3 : Reads (m11.upd b24 (.cells #[.int .i64 0, .int .i64 2] 3)) 1 (some ⟨b24, 0, none⟩) 2 (intCells .i64 [0, 2]) := Reads.lit (cs := intCells .i64 [0, 2]) rfl
  try dsimp only
  generalize m11.upd b24 (.cells #[.int .i64 0, .int .i64 2] 3) = M3 at l3 r3 ⊢
  refine callB (same_e w0 M3 A6 _ c8 [0, 2] (some ⟨b24, 0, none⟩) 2 2 [0, 2] rfl rfl (by decide) (o6.le l3).reads r3) ?_
  rw [decide_eq_true rfl]
  exact retP_of ⟨rfl, AM.le_trans l1 (AM.le_trans l2 l3)⟩
theorem aw13' (w0 : World) (M : AM) {R : Value → AM → Prop} (hR : ∀ M, R (.bool true) M) : CallsA Try.prog w0 42 #[] M (fun r m' => ∃ t : Bool, r = .bool t ∧ RetP R (.bool t) m') := callB (awake13 w0 M) (retP_of (hR M))

theorem law_ReorgLays (W : World) (A0 : Option Addr) (n0 c0 : Nat) (l0 : List Ins) (z0 : l0.length = n0) (hlc0 : n0 ≤ c0) (rd0 : Reads (mOf W) 5 A0 n0 (insCells l0)) (y0 : n0 * 40 ≤ 140737488351232) (hw0 : ∀ i ∈ l0, i.wf) :
    CallsA Try.prog W 17 #[.slice A0 n0 c0] (mOf W) (fun r _ => r = .bool true) := by
  subst z0
  generalize hm : mOf W = m
  rw [hm] at rd0
  generalize hR : (fun (r : Value) (_ : AM) => r = Value.bool true) = R
  have hT : ∀ M : AM, R (.bool true) M := fun M => by rw [← hR]
  refine cf17 W m A0 _ c0 R ⟨rfl, bcP (fun h => aw13' W m hT) fun h => ?_⟩
  refine CallsA.mono (reorg_spec W m A0 c0 l0 (by omega) (by omega) rd0) ?_
  rintro r m12 ⟨A4, c6, A7, c9, rfl, o4, o7, n4, n7, l1⟩
  refine ⟨_, _, _, _, _, _, _, rfl, CallsA.mono (refReorg_spec W m12 A0 c0 l0 (by omega) (by omega) (rd0.le l1)) ?_⟩
  rintro r m24 ⟨A16, c18, A19, c21, rfl, o16, o19, n16, n19, l2⟩
  obtain ⟨h1, h2⟩ := reorgP_len l0
  generalize reorgP l0 = p at *
  refine ⟨_, _, _, _, _, _, _, rfl, rfl, bcEF (by simp) ⟨rfl, bcEF (by simp) ?_⟩⟩
  refine callB (same_e W m24 A7 _ c9 p.2.1 A19 _ c21 p.2.1 rfl rfl (by omega) (o7.le l2).reads o19.reads) ?_
  rw [decide_eq_true (rfl : p.2.1 = p.2.1)]
  refine bcEF (by simp) ?_
  have r4 := (o4.le l2).reads
  have r16 := o16.reads
  refine vl17_11111010 W m24 _ R A4 _ c6 A16 _ c18 p.1.length 0 (fun q k m' => m' = m24 ∧ 0 ≤ k ∧ k ≤ p.1.length ∧ (q : Int) = p.1.length - k) (fun m' => True) p.1.length rfl rfl rfl rfl ⟨rfl, by omega, by omega, by omega⟩ ?_ ?_
  · rintro q σ k M ⟨rfl, k0, k1, hq⟩
    refine ⟨rfl, bcP (fun hlt => ?_) (fun hlt => by (repeat (refine And.intro (Eq.refl _) ?_)); trivial)⟩
    have wk : IntKind.wrap .i64 (k + 1) = k + 1 := wrap_s (by omega) (by omega)
    refine ldAt r4 rfl k0 hlt fun a => ldAt r16 rfl k0 hlt fun a2 => ⟨_, eqp_n _ _, ?_⟩
    rw [decide_eq_true rfl, wk]
    refine bcF ?_
    (repeat (refine And.intro (Eq.refl _) ?_))
    exact ⟨q - 1, by omega, rfl, by omega, by omega, by omega⟩
  · intro σ M _
    exact aw13' W M hT
end Go.Proofs.Ytkfemiloehkmhaa.S

