/- Ytkfemiloehkmhaa: a text of our own, by an AI agent: Wi9H -/
import Derived.Test.YtkfemiloehkmhaaWh9H
set_option linter.unusedSimpArgs false
set_option linter.unusedVariables false
set_option maxRecDepth 100000
namespace Go.Proofs.Ytkfemiloehkmhaa.S
open Go Go.RowKit Go.Alog Go.Proofs.Ytkfemiloehkmhaa.T Go.Proofs.Ytkfemiloehkmhaa.V

theorem blk2 {w0 : World} {m : AM} {T : TypeId} {z0 z1 v0 v1 : Value} {K : Nat → AM → Prop} (hK : ∀ b m', m.le m' → m b = none → w0.heap.size ≤ b → m' b = some (.cells #[v0, v1] T) → K b m') :
    ∀ b : Nat, w0.heap.size ≤ b → m b = none → let m1 := AM.upd m b (.cells #[z0, z1] T);
      StC w0.heap.size m1 ⟨b, 0, none⟩ v0 fun m2 => StC w0.heap.size m2 ⟨b, 1, none⟩ v1 fun m3 => K b m3 := by
  intro b hb hm m1
  refine StC_upd.2 ⟨hb, by simp, StC_upd.2 ⟨hb, by simp, ?_⟩⟩
  exact hK b _ (le_new hm _) hm hb (by rw [upd_get_same]; simp)

/-- A cell of a row of the call's own is stored. -/
theorem st1 {B : Nat} {m : AM} {g : Nat} {c : Array Value} {t : TypeId} {v : Value} {K : AM → Prop} (hg : m g = some (.cells c t (0, 0))) (hB : B ≤ g) {k : Int} (hk : k.toNat < c.size) (h : K (m.upd g (.cells (c.setIfInBounds k.toNat v) t))) :
    StC B m ((⟨g, 0, none⟩ : Addr).add (k.toNat * 1)) v K := by
  rw [addn, Nat.zero_add, Nat.mul_one]
  exact StC_own hg hB hk h

theorem le_upd_fresh {m m' : AM} {g : Nat} {o : Obj} (l : m.le m') (hg : m g = none) : m.le (m'.upd g o) := fun k o' hk => by
  have e : k ≠ g := fun e => by rw [e, hg] at hk; cases hk
  rw [upd_get_ne e]; exact l k o' hk

theorem law_BlockWhole (W : World) (A0 : Option Addr) (n0 c0 : Nat) (l0 : List Ins) (z0 : l0.length = n0) (hlc0 : n0 ≤ c0) (rd0 : Reads (mOf W) 5 A0 n0 (insCells l0)) (y0 : n0 * 40 ≤ 140737488351232) (hw0 : ∀ i ∈ l0, i.wf) :
    CallsA Try.prog W 5 #[.slice A0 n0 c0] (mOf W) (fun r _ => r = .bool true) := by
  subst z0
  refine cf5 W _ A0 _ c0 _ ⟨rfl, bcP (fun h => ⟨decide_eq_true h, aw9' W _⟩) fun h => ?_⟩
  refine callB (fit_e W _ A0 c0 l0 (by omega) rd0) ?_
  rw [decide_eq_false h]
  cases hf : fitP l0 with
  | false => exact bcT (aw9' W _)
  | true =>
    refine bcF ?_
    have wn : IntKind.wrap .i64 ((l0.length : Int) + 1) = (l0.length : Int) + 1 := wrap_s (by omega) (by omega)
    rw [wn]
    refine ⟨rfl, ⟨by omega, by omega, by omega, by omega⟩, fun b10 hb10 hn10 => ⟨⟨by omega, by omega⟩, ?_⟩⟩
    rw [nilO_some]
    have etn : ((l0.length : Int) + 1).toNat = l0.length + 1 := by omega
    have etl : ((l0.length : Nat) : Int).toNat = l0.length := by omega
    rw [etn]
    refine st1 upd_get_same hb10 (by simp [zeros, etl]) ?_
    rw [upd_upd, etl]
    have hr0 := HsRow.start l0
    have lm := le_new hn10 (.cells ((zeros [.bool false] (l0.length + 1)).toArray.setIfInBounds l0.length (.bool true)) 4)
    have pb : ((mOf W).upd b10 (.cells ((zeros [.bool false] (l0.length + 1)).toArray.setIfInBounds l0.length (.bool true)) 4)) b10 = _ := upd_get_same
    generalize (mOf W).upd b10 (.cells ((zeros [.bool false] (l0.length + 1)).toArray.setIfInBounds l0.length (.bool true)) 4) = M at lm pb ⊢
    generalize ((zeros [.bool false] (l0.length + 1)).toArray.setIfInBounds l0.length (.bool true)) = cc at hr0 pb
    refine CallsA.mono (blocks_spec W M A0 c0 l0 (by omega) (rd0.le lm)) ?_
    rintro r m1 ⟨⟨A9, c9, rfl, o9, n9⟩, l1⟩
    have hbl := blkP_len (headsP l0) l0.length
    have hhl := headsP_len l0
    rw [headsP_up hf] at o9 hbl hhl ⊢
    refine ⟨_, _, _, rfl, ?_⟩
    refine vl5_111111010 W m1 _ _ A0 l0.length c0 (some ⟨b10, 0, none⟩) (l0.length + 1) (l0.length + 1) A9 (blkP (hsUp l0 l0.length) l0.length).length c9 (blkP (hsUp l0 l0.length) l0.length).length 0 0
      (fun n at_ j m' => (mOf W).le m' ∧ Alog.Own m' W.heap.size 36 2 A9 (blkP (hsUp l0 l0.length) l0.length).length c9 (blkCells (blkP (hsUp l0 l0.length) l0.length)) ∧ (∃ c, m' b10 = some (.cells c 4 (0, 0)) ∧ HsRow l0 j.toNat c) ∧ 0 ≤ j ∧ j ≤ (hsUp l0 l0.length).length ∧ (n : Int) = (hsUp l0 l0.length).length - j ∧ at_ = nxt l0 l0.length j.toNat)
      (fun at_ m' => (mOf W).le m' ∧ (∃ c, m' b10 = some (.cells c 4 (0, 0)) ∧ HsRow l0 (hsUp l0 l0.length).length c) ∧ at_ = l0.length) (hsUp l0 l0.length).length rfl rfl rfl rfl rfl rfl ⟨AM.le_trans lm l1, o9, ⟨cc, l1 _ _ pb, hr0⟩, by omega, by omega, by omega, by rw [show (0 : Int).toNat = 0 from rfl, nxt_0]⟩ ?_ ?_
    · rintro n σ at_ j m' ⟨l', ob, ⟨c, pc, hc⟩, j0, j1, hn, rfl⟩
      refine ⟨rfl, bcP (fun hlt => ?_) (fun hlt => ?_)⟩
      · have hjl : j.toNat < (hsUp l0 l0.length).length := by omega
        have hnx := nxt_lt l0 l0.length j.toNat hjl
        have hng := fun q => nogo l0 l0.length j.toNat hjl (q := q)
        have wj : IntKind.wrap .i64 (j + 1) = j + 1 := wrap_s (by omega) (by omega)
        have ej : (j + 1).toNat = j.toNat + 1 := by omega
        refine ⟨⟨j0, hlt⟩, ?_⟩
        obtain ⟨ad9, hA9, hc9⟩ := ob.ex (by omega)
        rw [hA9, nilO_some]
        have b9 := cell_blk hc9 (i := j) j0 (by omega)
        rw [blkP_get _ _ hjl, blkAt_nxt _ _ _ hjl] at b9
        refine ⟨_, b9.1, _, b9.2, blk2 fun b22 M2 l2 n22 hb22 p22 => ?_⟩
        dsimp only at p22 ⊢
        have hb1022 : b10 ≠ b22 := fun e => by rw [← e, pc] at n22; cases n22
        generalize hfr : nxt l0 l0.length j.toNat = fr at hnx hng p22 ⊢
        generalize hto : nxt l0 l0.length (j.toNat + 1) = to at hnx hng p22 ⊢
        refine ⟨_, cel p22 rfl, rfl, ?_⟩
        rw [show (fr != fr) = false by simp]
        refine bcF ⟨_, cel p22 rfl, _, cel p22 rfl, rfl, ?_⟩
        rw [show decide (to ≤ fr) = false from decide_eq_false (by omega)]
        refine bcF ⟨_, cel p22 rfl, rfl, ?_⟩
        rw [show decide (to > (l0.length : Int)) = false from decide_eq_false (by omega)]
        refine bcF ⟨⟨by omega, by omega⟩, ?_⟩
        rw [nilO_some]
        have pc2 := l2 _ _ pc
        refine st1 pc2 hb10 (k := fr) (by rw [hc.1]; omega) ?_
        have hset := hc.set (k := fr.toNat) (by omega) (by rw [hfr]; omega)
        have lW : (mOf W).le (M2.upd b10 (.cells (c.setIfInBounds fr.toNat (.bool true)) 4)) := le_upd_fresh (AM.le_trans l' l2) hn10
        have p22' : (M2.upd b10 (.cells (c.setIfInBounds fr.toNat (.bool true)) 4)) b22 = some (.cells #[.int .i64 fr, .int .i64 to] 36) := by rw [upd_get_ne hb1022.symm]; exact p22
        have pcs : (M2.upd b10 (.cells (c.setIfInBounds fr.toNat (.bool true)) 4)) b10 = some (.cells (c.setIfInBounds fr.toNat (.bool true)) 4 (0, 0)) := upd_get_same
        have ob2 : Alog.Own (M2.upd b10 (.cells (c.setIfInBounds fr.toNat (.bool true)) 4)) W.heap.size 36 2 A9 (blkP (hsUp l0 l0.length) l0.length).length c9 (blkCells (blkP (hsUp l0 l0.length) l0.length)) := (ob.le l2).upd ((ob.le l2).ne_type pc2 (by decide))
        rw [hA9] at ob2
        generalize M2.upd b10 (.cells (c.setIfInBounds fr.toNat (.bool true)) 4) = M3 at lW p22' pcs ob2 ⊢
        refine ⟨_, cel p22' rfl, ?_⟩
        refine vl5_11111101001100111010 W M3 _ _ n _ _ A0 l0.length c0 (some ⟨b10, 0, none⟩) (l0.length + 1) (l0.length + 1) b22 (some ad9) (blkP (hsUp l0 l0.length) l0.length).length c9 (blkP (hsUp l0 l0.length) l0.length).length j fr
          (fun n1 q m' => m' = M3 ∧ fr ≤ q ∧ q ≤ to - 1 ∧ (n1 : Int) = to - 1 - q) (fun m' => m' = M3) (to - 1 - fr).toNat rfl rfl rfl rfl rfl rfl rfl ⟨rfl, by omega, by omega, by omega⟩ ?_ ?_
        · rintro n1 σ q M4 ⟨rfl, q0, q1, hn1⟩
          refine ⟨_, cel p22' rfl, rfl, rfl, ?_⟩
          rw [wrap_s (i := to - 1) (by omega) (by omega)]
          refine bcP (fun hq => ?_) (fun hq => by rf; rfl)
          refine ldAt (rd0.le lW) rfl (by omega) (by omega) fun a => callB (refGoes_e W M4 (cAt l0 q)) ?_
          rw [hng q (by omega) (by omega)]
          refine bcF ?_
          rf
          rw [wrap_s (i := q + 1) (by omega) (by omega)]
          exact ⟨n1 - 1, by omega, rfl, by omega, by omega, by omega⟩
        · rintro σ M4 rfl
          refine ⟨_, cel p22' rfl, ?_⟩
          rf
          rw [wj]
          exact ⟨n - 1, by omega, lW, ob2, ⟨_, pcs, by rw [ej]; exact hset⟩, by omega, by omega, by omega, by rw [ej, hto]⟩
      · have ejl : j.toNat = (hsUp l0 l0.length).length := by omega
        rf
        rw [ejl] at hc
        exact ⟨l', ⟨c, pc, hc⟩, by rw [ejl]; exact nxt_end _ _ _ (Nat.le_refl _)⟩
    · rintro σ at_ m' ⟨l', ⟨c, pc, hc⟩, rfl⟩
      refine vl5_1111111010 W m' _ _ A0 l0.length c0 l0.length (some ⟨b10, 0, none⟩) (l0.length + 1) (l0.length + 1) A0 l0.length c0 l0.length 0
        (fun n k m2 => (mOf W).le m2 ∧ m2 b10 = some (.cells c 4 (0, 0)) ∧ 0 ≤ k ∧ k ≤ l0.length ∧ (n : Int) = l0.length - k) (fun m2 => True) l0.length rfl rfl rfl rfl rfl rfl ⟨l', pc, by omega, by omega, by omega⟩ ?_ ?_
      · rintro n σ k m1 ⟨l1, p1, k0, k1, hn⟩
        refine ⟨rfl, bcP (fun hlt => ?_) (fun hlt => by rf; trivial)⟩
        refine ldAt (rd0.le l1) rfl k0 hlt fun a => blk5 fun b M2 l2 nb hb p => ?_
        replace p : M2 b = some (.cells (Ins.cells (cAt l0 k)).toArray 24) := p
        have wk : IntKind.wrap .i64 (k + 1) = k + 1 := wrap_s (by omega) (by omega)
        have hkk : ((k.toNat : Nat) : Int) = k := by omega
        have fin : ∃ n' : Nat, n' < n ∧ ((mOf W).le M2 ∧ M2 b10 = some (.cells c 4 (0, 0)) ∧ 0 ≤ k + 1 ∧ k + 1 ≤ l0.length ∧ (n' : Int) = l0.length - (k + 1)) := ⟨n - 1, by omega, AM.le_trans l1 l2, l2 _ _ p1, by omega, by omega, by omega⟩
        rw [wk]
        refine ldIns p (callT (target_e W M2 (cAt l0 k) k) ?_)
        cases ht : tok (cAt l0 k) with
        | false =>
          refine bcF ⟨rfl, ?_⟩
          rf
          exact fin
        | true =>
          have hfa := (fitP_at hf (j := k.toNat) (by omega)).2 (by rw [hkk]; exact ht)
          have hth := target_head hf (k := k.toNat) (by omega) (by rw [hkk]; exact ht)
          rw [hkk] at hfa hth
          generalize tgt (cAt l0 k) k = t at hfa hth ⊢
          refine bcT ⟨rfl, ?_⟩
          rw [show decide (t < 0) = false from decide_eq_false (by omega)]
          refine bcF ⟨rfl, ?_⟩
          rw [show decide (t > (l0.length : Int)) = false from decide_eq_false (by omega)]
          refine bcF ⟨⟨by omega, by omega⟩, ?_⟩
          rw [nilO_some]
          obtain ⟨bv, hbv, hbt⟩ := hc.2 t.toNat (by omega)
          have hbt := hbt (by
            rcases hth with h1 | ⟨q, hq, h1⟩
            · exact .inl (by omega)
            · exact .inr ⟨q, hq, by omega⟩)
          subst hbt
          refine ⟨true, ?_, ?_⟩
          · rw [addn, Nat.zero_add, Nat.mul_one]; exact cel (l2 _ _ p1) hbv
          · refine bcF ?_
            rf
            exact fin
      · rintro σ m1 _
        rw [show (((l0.length : Nat) : Int) == ((l0.length : Nat) : Int)) = true by simp]
        exact ⟨rfl, bcT (aw9 W m1 rfl)⟩
end Go.Proofs.Ytkfemiloehkmhaa.S
