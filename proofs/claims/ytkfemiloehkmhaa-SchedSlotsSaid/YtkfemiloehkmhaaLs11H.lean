/- Ytkfemiloehkmhaa: a text of our own, by an AI agent: Ls11H -/
import Derived.Test.YtkfemiloehkmhaaOeBH
import Derived.Test.YtkfemiloehkmhaaVLaw11cH
set_option linter.unusedSimpArgs false
set_option linter.unusedVariables false
set_option maxRecDepth 100000
namespace Go.Proofs.Ytkfemiloehkmhaa.S
open Go Go.RowKit Go.Alog Go.Proofs.Ytkfemiloehkmhaa.T Go.Proofs.Ytkfemiloehkmhaa.V

/-- How often each number stands. -/
def cntL (n : Nat) (o : List Int) : List Int := (List.range n).map (fun q : Nat => ((o.countP (fun x => decide (x = (q : Int))) : Nat) : Int))
theorem cntL_len (n : Nat) (o : List Int) : (cntL n o).length = n := by simp [cntL]
theorem cntL_at {n q : Nat} {o : List Int} (h : q < n) : (cntL n o).getD q 0 = ((o.countP (fun x => decide (x = (q : Int))) : Nat) : Int) := by
  unfold cntL; simp [List.getD, h]
theorem cntL_nil (n : Nat) : cntL n [] = List.replicate n 0 := by
  apply List.ext_getElem
  · simp [cntL]
  · intro i h1 h2; simp [cntL]
theorem cntL_neg (n : Nat) (o : List Int) : cntL n (o ++ [-1]) = cntL n o := by
  unfold cntL
  refine List.map_congr_left fun q hq => ?_
  rw [List.countP_append]
  have : ¬ (-1 : Int) = q := by omega
  simp [this]
theorem cntL_new {n : Nat} {o : List Int} {x : Int} (h0 : 0 ≤ x) : cntL n (o ++ [x]) = (cntL n o).set x.toNat ((cntL n o).getD x.toNat 0 + 1) := by
  apply List.ext_getElem
  · simp [cntL]
  · intro i h1 h2
    have hi : i < n := by simpa [cntL] using h1
    have e : (cntL n (o ++ [x]))[i] = ((o ++ [x]).countP (fun x => decide (x = (i : Int))) : Nat) := by simp [cntL]
    rw [e, List.getElem_set, List.countP_append]
    by_cases hx : x.toNat = i
    · rw [if_pos hx, cntL_at (by omega)]
      have : x = (i : Int) := by omega
      subst this
      simp
    · rw [if_neg hx]
      have : ¬ x = (i : Int) := by omega
      simp [cntL, this]
theorem cells_set {l : List Int} {k : Nat} {v : Int} : (intCells .i64 l).toArray.setIfInBounds k (.int .i64 v) = (intCells .i64 (l.set k v)).toArray := by
  unfold intCells
  rw [List.setIfInBounds_toArray, List.map_set]
theorem st1i {B : Nat} {m : AM} {g : Nat} {c : Array Value} {t : TypeId} {v : Value} {K : AM → Prop} (hg : m g = some (.cells c t (0, 0))) (hB : B ≤ g) {k : Int} (hk : k.toNat < c.size) (h : K (m.upd g (.cells (c.setIfInBounds k.toNat v) t))) :
    StC B m ((⟨g, 0, none⟩ : Addr).add (k.toNat * 1)) v K := by
  rw [addn, Nat.zero_add, Nat.mul_one]
  exact StC_own hg hB hk h

theorem law_SchedSlots (W : World) (A0 : Option Addr) (n0 c0 : Nat) (l0 : List Ins) (z0 : l0.length = n0) (hlc0 : n0 ≤ c0) (rd0 : Reads (mOf W) 5 A0 n0 (insCells l0)) (y0 : n0 * 40 ≤ 140737488351232) (hw0 : ∀ i ∈ l0, i.wf) :
    CallsA Try.prog W 13 #[.slice A0 n0 c0] (mOf W) (fun r _ => r = .bool true) := by
  subst z0
  generalize hm : mOf W = m
  rw [hm] at rd0
  generalize hR : (fun (r : Value) (_ : AM) => r = Value.bool true) = R
  have aw : ∀ M : AM, CallsA Try.prog W 32 #[] M (fun r m' => ∃ t : Bool, r = .bool t ∧ RetP R (.bool t) m') := fun M => by rw [← hR]; exact aw11' W M
  have awB : ∀ (M : AM) {b : Bool}, b = true → CallsA Try.prog W 32 #[] M (fun r m' => ∃ t : Bool, r = .bool t ∧ RetP R (.bool (bif b then t else false)) m') := fun M b hb => by rw [← hR]; exact aw11 W M hb
  refine cf13 W m A0 _ c0 R ?_
  have wn : IntKind.wrap .i64 ((l0.length : Int) - 1) = l0.length - 1 := wrap_s (by omega) (by omega)
  refine vl13_1010 W m _ R A0 _ c0 A0 _ c0 l0.length 0 (fun q k m' => m.le m' ∧ 0 ≤ k ∧ k ≤ l0.length ∧ (q : Int) = l0.length - k ∧ (0 < k → l0.length ≤ 40)) (fun m' => m.le m' ∧ l0.length ≤ 40) l0.length rfl rfl rfl rfl ⟨AM.le_refl _, by omega, by omega, by omega, by omega⟩ ?_ ?_
  · rintro q σ k m' ⟨l', k0, k1, hq, h40⟩
    refine ⟨rfl, bcP (fun hlt => ?_) (fun hlt => ?_)⟩
    · have wk : IntKind.wrap .i64 (k + 1) = k + 1 := wrap_s (by omega) (by omega)
      rw [wk]
      refine ldAt (rd0.le l') rfl k0 hlt fun a => blk5 fun b M l2 nb hb p => ?_
      replace p : M b = some (.cells (Ins.cells (cAt l0 k)).toArray 24) := p
      refine ⟨rfl, bcP (fun h => ⟨decide_eq_true h, aw M⟩) fun h => ⟨rfl, rfl, ?_⟩⟩
      rw [wn, decide_eq_false h]
      have fin : ∃ n' : Nat, n' < q ∧ (m.le M ∧ 0 ≤ k + 1 ∧ k + 1 ≤ l0.length ∧ (n' : Int) = l0.length - (k + 1) ∧ (0 < k + 1 → l0.length ≤ 40)) := ⟨q - 1, by omega, AM.le_trans l' l2, by omega, by omega, by omega, by omega⟩
      refine bcP (fun h1 => ldIns p (callB (refGoes_e W M (cAt l0 k)) ?_)) (fun h1 => ⟨decide_eq_false h1, bcF ?_⟩)
      · rw [decide_eq_true h1]
        cases goesP (cAt l0 k) with
        | true => exact bcT (aw M)
        | false =>
          refine bcF ?_
          (repeat (refine And.intro (Eq.refl _) ?_))
          exact fin
      · (repeat (refine And.intro (Eq.refl _) ?_))
        exact fin
    · (repeat (refine And.intro (Eq.refl _) ?_))
      refine ⟨l', ?_⟩
      by_cases e : 0 < k
      · exact h40 e
      · omega
  · rintro σ m' ⟨l', h40⟩
    have hol := layP_len l0
    have hge := layP_ge l0
    have hin := layP_in l0
    have hcnt := layP_count l0
    have hend := layP_end l0
    have hgo := layP_goes l0
    refine CallsA.mono (lay_spec W m' A0 c0 l0 (by omega) (by omega) (rd0.le l')) ?_
    rintro r m1 ⟨⟨A5, c5, rfl, o5, n5⟩, l1⟩
    refine ⟨_, _, _, rfl, rfl, bcI (fun h => ⟨rfl, ?_⟩) fun h => ⟨rfl, rfl, rfl, ?_⟩⟩
    · have : l0 = [] := List.eq_nil_of_length_eq_zero (by simpa using h)
      subst this
      exact bcT (awB m1 rfl)
    · have hne : l0 ≠ [] := fun e => by rw [e] at h; simp at h
      have hpos : 0 < l0.length := by
        cases hh : l0 with
        | nil => exact absurd hh hne
        | cons => simp
      replace hend := hend hne
      replace hgo := hgo hne
      have rd1 := (rd0.le l').le l1
      have hlast : lastI l0 = cAt l0 ((l0.length : Int) - 1) := rfl
      generalize layP l0 = o at hol hge hin hcnt hend hgo o5 ⊢
      rw [wrap_s (i := 2 * (l0.length : Int)) (by omega) (by omega), wrap_s (i := 2 * (l0.length : Int) + 1) (by omega) (by omega)]
      refine bcP (fun hbad => absurd hbad (by omega)) fun hg => ⟨rfl, ?_⟩
      rw [decide_eq_false hg]
      refine bcP (fun hbad => absurd hbad (by omega)) fun hg2 => ?_
      refine ⟨⟨by omega, by omega, by omega, by omega⟩, fun b hb hn => ?_⟩
      have etl : ((l0.length : Nat) : Int).toNat = l0.length := by omega
      rw [etl]
      have l2 := le_new hn (.cells (zeros [.int .i64 0] l0.length).toArray 3)
      have p2 : (m1.upd b (.cells (zeros [.int .i64 0] l0.length).toArray 3)) b = some (.cells (intCells .i64 (cntL l0.length [])).toArray 3 (0, 0)) := by rw [cntL_nil, ← zeros_int]; exact upd_get_same
      generalize m1.upd b (.cells (zeros [.int .i64 0] l0.length).toArray 3) = M2 at l2 p2 ⊢
      have ro := o5.reads
      refine vl13_111111010 W M2 _ R A0 _ c0 A5 o.length c5 (some ⟨b, 0, none⟩) l0.length l0.length A5 o.length c5 o.length 0 (fun q k m' => m1.le m' ∧ m' b = some (.cells (intCells .i64 (cntL l0.length (o.take k.toNat))).toArray 3 (0, 0)) ∧ 0 ≤ k ∧ k ≤ o.length ∧ (q : Int) = o.length - k) (fun m' => m1.le m' ∧ m' b = some (.cells (intCells .i64 (cntL l0.length o)).toArray 3 (0, 0))) o.length rfl rfl rfl rfl rfl rfl ⟨l2, p2, by omega, by omega, by omega⟩ ?_ ?_
      · rintro q σ k M3 ⟨l3, p3, k0, k1, hq⟩
        refine ⟨rfl, bcP (fun hlt => ⟨⟨k0, hlt⟩, ?_⟩) (fun hlt => ?_)⟩
        · obtain ⟨a1, hA1, hc⟩ := (ro.le l3).ex (by omega)
          rw [hA1, nilO_some]
          have wk : IntKind.wrap .i64 (k + 1) = k + 1 := wrap_s (by omega) (by omega)
          have ek : (k + 1).toNat = k.toNat + 1 := by omega
          have htk : o.take (k + 1).toNat = o.take k.toNat ++ [o.getD k.toNat 0] := take_stepI k0 hlt
          have hx := hin (o.getD k.toNat 0) (by simp [List.getD, show k.toNat < o.length by omega])
          refine ⟨_, cell_k hc k0 hlt, rfl, ?_⟩
          generalize o.getD k.toNat 0 = x at htk hx ⊢
          rw [wk]
          refine bcP (fun hbad => absurd hbad (by omega)) fun hg => ⟨rfl, ?_⟩
          rw [decide_eq_false hg]
          refine bcP (fun hbad => absurd hbad (by omega)) fun hg2 => ⟨rfl, bcP (fun h1 => ⟨⟨h1, by omega⟩, ?_⟩) fun h1 => ?_⟩
          · rw [nilO_some]
            have hlen := cntL_len l0.length (o.take k.toNat)
            have hcell : M3.cell ((⟨b, 0, none⟩ : Addr).add (x.toNat * 1)) = some (.int .i64 ((cntL l0.length (o.take k.toNat)).getD x.toNat 0)) := by
              rw [addn, Nat.zero_add, Nat.mul_one]
              refine cel p3 ?_
              unfold intCells
              rw [List.getElem?_toArray, List.getElem?_map]
              simp [List.getD, show x.toNat < (cntL l0.length (o.take k.toNat)).length by omega]
            refine ⟨_, hcell, rfl, ⟨h1, by omega⟩, ?_⟩
            rw [nilO_some]
            have hcb : (cntL l0.length (o.take k.toNat)).getD x.toNat 0 = (((o.take k.toNat).countP (fun y => decide (y = ((x.toNat : Nat) : Int))) : Nat) : Int) := cntL_at (by omega)
            have hcl : (o.take k.toNat).countP (fun y => decide (y = ((x.toNat : Nat) : Int))) ≤ (o.take k.toNat).length := List.countP_le_length
            rw [List.length_take] at hcl
            rw [wrap_s (i := (cntL l0.length (o.take k.toNat)).getD x.toNat 0 + 1) (by omega) (by omega)]
            refine st1i p3 hb (by unfold intCells; simp; omega) ?_
            (repeat (refine And.intro (Eq.refl _) ?_))
            refine ⟨q - 1, by omega, le_upd_fresh l3 hn, ?_, by omega, by omega, by omega⟩
            rw [upd_get_same, cells_set, htk, cntL_new h1]
          · (repeat (refine And.intro (Eq.refl _) ?_))
            have : x = -1 := by omega
            subst this
            refine ⟨q - 1, by omega, l3, ?_, by omega, by omega, by omega⟩
            rw [htk, cntL_neg]; exact p3
        · (repeat (refine And.intro (Eq.refl _) ?_))
          rw [show k.toNat = o.length by omega, List.take_of_length_le (Nat.le_refl _)] at p3
          exact ⟨l3, p3⟩
      · rintro σ M3 ⟨l3, p3⟩
        refine vl13_1111111010 W M3 _ R A0 _ c0 A5 o.length c5 (some ⟨b, 0, none⟩) l0.length l0.length l0.length 0 (fun q k m' => m' = M3 ∧ 0 ≤ k ∧ k ≤ l0.length ∧ (q : Int) = l0.length - k) (fun m' => m' = M3) l0.length rfl rfl rfl rfl rfl ⟨rfl, by omega, by omega, by omega⟩ ?_ ?_
        · rintro q σ k M4 ⟨rfl, k0, k1, hq⟩
          refine ⟨rfl, bcP (fun hlt => ⟨⟨k0, hlt⟩, ?_⟩) (fun hlt => by (repeat (refine And.intro (Eq.refl _) ?_)); rfl)⟩
          rw [nilO_some]
          have wk : IntKind.wrap .i64 (k + 1) = k + 1 := wrap_s (by omega) (by omega)
          have hlen := cntL_len l0.length o
          have hone : (cntL l0.length o).getD k.toNat 0 = 1 := by
            rw [cntL_at (by omega), hcnt k.toNat (by omega)]; rfl
          have hcell : M4.cell ((⟨b, 0, none⟩ : Addr).add (k.toNat * 1)) = some (.int .i64 ((cntL l0.length o).getD k.toNat 0)) := by
            rw [addn, Nat.zero_add, Nat.mul_one]
            refine cel p3 ?_
            unfold intCells
            rw [List.getElem?_toArray, List.getElem?_map]
            simp [List.getD, show k.toNat < (cntL l0.length o).length by omega]
          rw [hone] at hcell
          refine ⟨_, hcell, rfl, bcEF (by decide) ?_⟩
          (repeat (refine And.intro (Eq.refl _) ?_))
          rw [wk]
          exact ⟨q - 1, by omega, rfl, by omega, by omega, by omega⟩
        · rintro σ M4 rfl
          have rdM := rd1.le l3
          have roM := ro.le l3
          obtain ⟨a1, hA1, hc⟩ := roM.ex (by omega)
          have we : IntKind.wrap .i64 ((o.length : Int) - 1) = o.length - 1 := wrap_s (by omega) (by omega)
          have we2 : IntKind.wrap .i64 ((o.length : Int) - 2) = o.length - 2 := wrap_s (by omega) (by omega)
          rw [hA1, we, wn]
          refine ⟨rfl, ⟨by omega, by omega⟩, ?_⟩
          rw [nilO_some]
          have hx := cell_k hc (i := (o.length : Int) - 1) (by omega) (by omega)
          rw [show ((o.length : Int) - 1).toNat = o.length - 1 by omega] at hx ⊢
          have hxin := hin (o.getD (o.length - 1) 0) (by simp [List.getD, show o.length - 1 < o.length by omega])
          generalize o.getD (o.length - 1) 0 = x at hx hxin hend
          refine ⟨_, hx, rfl, ?_⟩
          -- the end
          have tail : IntKind.i64 = IntKind.i64 ∧ (0 ≤ (l0.length : Int) - 1 ∧ (l0.length : Int) - 1 < l0.length) ∧ nilO A0 fun a80 => ∃ i81 : Int, M4.cell (a80.add (((l0.length : Int) - 1).toNat * 5)) = some (.int .i64 i81) ∧ ∃ i82 : Int, M4.cell ((a80.add (((l0.length : Int) - 1).toNat * 5)).add 1) = some (.int .i64 i82) ∧ ∃ i83 : Int, M4.cell ((a80.add (((l0.length : Int) - 1).toNat * 5)).add 2) = some (.int .i64 i83) ∧ ∃ i84 : Int, M4.cell ((a80.add (((l0.length : Int) - 1).toNat * 5)).add 3) = some (.int .i64 i84) ∧ ∃ i85 : Int, M4.cell ((a80.add (((l0.length : Int) - 1).toNat * 5)).add 4) = some (.int .i64 i85) ∧
              CallsA Try.prog W 30 #[.agg #[.int .i64 i81, .int .i64 i82, .int .i64 i83, .int .i64 i84, .int .i64 i85]] M4 fun r87 m88 => ∃ t86 : Bool, r87 = .bool t86 ∧ bcase (!t86) ((!t86) = true ∧ CallsA Try.prog W 32 #[] m88 fun r90 m91 => ∃ t89 : Bool, r90 = .bool t89 ∧ RetP R (.bool (bif true then t89 else false)) m91)
                (IntKind.i64 = IntKind.i64 ∧ bcase (decide ((o.length : Int) > 1)) (IntKind.i64 = IntKind.i64 ∧ (0 ≤ (IntKind.wrap .i64 ((o.length : Int) - 2)) ∧ (IntKind.wrap .i64 ((o.length : Int) - 2)) < o.length) ∧ nilO (some a1) fun a92 => ∃ i93 : Int, m88.cell (a92.add ((IntKind.wrap .i64 ((o.length : Int) - 2)).toNat * 1)) = some (.int .i64 i93) ∧ IntKind.i64 = IntKind.i64 ∧ IntKind.i64 = IntKind.i64 ∧ bcase (bif !t86 then true else bif decide ((o.length : Int) > 1) then i93 == ((l0.length : Int) - 1) else false) (CallsA Try.prog W 32 #[] m88 fun r95 m96 => ∃ t94 : Bool, r95 = .bool t94 ∧ RetP R (.bool (bif bif !t86 then true else bif decide ((o.length : Int) > 1) then i93 == ((l0.length : Int) - 1) else false then t94 else false)) m96) ((bif !t86 then true else bif decide ((o.length : Int) > 1) then i93 == ((l0.length : Int) - 1) else false) = false ∧ RetP R (.bool false) m88))
                  (decide ((o.length : Int) > 1) = false ∧ bcase (bif !t86 then true else false) (CallsA Try.prog W 32 #[] m88 fun r98 m99 => ∃ t97 : Bool, r98 = .bool t97 ∧ RetP R (.bool (bif bif !t86 then true else false then t97 else false)) m99) ((bif !t86 then true else false) = false ∧ RetP R (.bool false) m88))) := by
            refine ⟨rfl, ldAt rdM rfl (by omega) (by omega) fun a => callB (refGoes_e W M4 _) ?_⟩
            rw [hlast] at hgo
            cases hgp : goesP (cAt l0 ((l0.length : Int) - 1)) with
            | false => exact bcT ⟨rfl, awB M4 rfl⟩
            | true =>
              obtain ⟨g1, g2⟩ := hgo hgp
              refine bcF ⟨rfl, bcP (fun h1 => ⟨rfl, ?_⟩) fun h1 => absurd h1 (by omega)⟩
              rw [we2]
              refine ⟨⟨by omega, by omega⟩, ?_⟩
              rw [nilO_some]
              have hy := cell_k hc (i := (o.length : Int) - 2) (by omega) (by omega)
              rw [show ((o.length : Int) - 2).toNat = o.length - 2 by omega, g2] at hy
              rw [show ((o.length : Int) - 2).toNat = o.length - 2 by omega]
              refine ⟨_, hy, rfl, rfl, ?_⟩
              have e : (bif !true then true else bif decide ((o.length : Int) > 1) then ((l0.length : Int) - 1) == ((l0.length : Int) - 1) else false) = true := by
                rw [decide_eq_true h1]; simp
              exact bcET e (awB M4 e)
          refine bcP (fun h1 => ?_) fun h1 => ⟨decide_eq_false h1, tail⟩
          refine ldAt rdM rfl h1 (by omega) fun a => callB (refLate_e W M4 _) ?_
          rw [hend h1]
          exact bcEF (by cases decide (x ≥ 0) <;> rfl) tail
end Go.Proofs.Ytkfemiloehkmhaa.S
