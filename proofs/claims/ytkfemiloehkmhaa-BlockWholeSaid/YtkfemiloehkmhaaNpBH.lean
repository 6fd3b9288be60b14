/- Ytkfemiloehkmhaa: a text of our own, by an AI agent: NpBH -/
import Derived.Test.YtkfemiloehkmhaaLwBH

set_option linter.unusedSimpArgs false
set_option linter.unusedVariables false
set_option maxRecDepth 100000
namespace Go.Proofs.Ytkfemiloehkmhaa.S
open Go Go.RowKit Go.Alog Go.Proofs.Ytkfemiloehkmhaa.T Go.Proofs.Ytkfemiloehkmhaa.V

theorem hsUp_mem {code : List Ins} {n : Nat} {x : Int} : x ∈ hsUp code n ↔ 0 ≤ x ∧ x < n ∧ headP code x = true := by
  unfold hsUp
  rw [List.mem_filter, List.mem_map]
  constructor
  · rintro ⟨⟨j, hj, rfl⟩, h⟩
    have := List.mem_range.1 hj
    exact ⟨by omega, by omega, h⟩
  · rintro ⟨h0, h1, h⟩
    exact ⟨⟨x.toNat, List.mem_range.2 (by omega), by omega⟩, h⟩
theorem hsUp_mono {code : List Ins} {n q r : Nat} (h : q < r) (hr : r < (hsUp code n).length) : (hsUp code n).getD q 0 < (hsUp code n).getD r 0 := by
  have hp : (hsUp code n).Pairwise (· < ·) := (range_rise n).filter _
  rw [List.pairwise_iff_getElem] at hp
  have := hp q r (by omega) hr h
  simpa [List.getD, hr, show q < (hsUp code n).length by omega] using this
theorem hsUp_get {code : List Ins} {n q : Nat} (hq : q < (hsUp code n).length) : (hsUp code n).getD q 0 ∈ hsUp code n := by
  simp [List.getD, hq]
theorem mem_at {l : List Int} {x : Int} (h : x ∈ l) : ∃ r, r < l.length ∧ l.getD r 0 = x := by
  obtain ⟨r, hr, e⟩ := List.mem_iff_getElem.1 h
  exact ⟨r, hr, by simp [List.getD, hr, e]⟩

/-- Where the next block begins. -/
def nxt (code : List Ins) (n j : Nat) : Int := if j < (hsUp code n).length then (hsUp code n).getD j 0 else n
theorem blkAt_nxt (code : List Ins) (n j : Nat) (h : j < (hsUp code n).length) : blkAt (hsUp code n) n j = (nxt code n j, nxt code n (j + 1)) := by
  unfold blkAt nxt
  rw [if_pos h]
theorem nxt_0 (code : List Ins) (n : Nat) : nxt code n 0 = 0 := by
  unfold nxt
  by_cases hn : n = 0
  · subst hn; simp [hsUp]
  · have := hsUp_at (code := code) (a := 0) (n := n) (by omega) (by simp [headP])
    have e : (hsUp code 0).length = 0 := by simp [hsUp]
    rw [e] at this
    rw [if_pos this.1, this.2]; rfl
theorem nxt_lt (code : List Ins) (n j : Nat) (h : j < (hsUp code n).length) : 0 ≤ nxt code n j ∧ nxt code n j < nxt code n (j + 1) ∧ nxt code n (j + 1) ≤ n := by
  unfold nxt
  rw [if_pos h]
  have h1 := hsUp_mem.1 (hsUp_get h)
  split
  · rename_i h2
    have h3 := hsUp_mem.1 (hsUp_get h2)
    have h4 := hsUp_mono (code := code) (n := n) (q := j) (r := j + 1) (by omega) h2
    omega
  · omega
theorem nxt_end (code : List Ins) (n j : Nat) (h : (hsUp code n).length ≤ j) : nxt code n j = n := by unfold nxt; rw [if_neg (by omega)]
theorem nogo (code : List Ins) (n j : Nat) (h : j < (hsUp code n).length) {q : Int} (h0 : nxt code n j ≤ q) (h1 : q + 1 < nxt code n (j + 1)) : goesP (cAt code q) = false := by
  cases hg : goesP (cAt code q) with
  | false => rfl
  | true =>
    have hl := nxt_lt code n j h
    have hh : headP code (q + 1) = true := by
      unfold headP
      rw [show q + 1 - 1 = q by omega, hg]; simp
    obtain ⟨r, hr, e⟩ := mem_at (hsUp_mem.2 ⟨by omega, by omega, hh⟩ : q + 1 ∈ hsUp code n)
    have hj : nxt code n j = (hsUp code n).getD j 0 := by unfold nxt; rw [if_pos h]
    have hrj : j < r := by
      rcases Nat.lt_trichotomy j r with h2 | h2 | h2
      · exact h2
      · subst h2; omega
      · have := hsUp_mono (code := code) (n := n) h2 h; omega
    have hn1 : nxt code n (j + 1) = (hsUp code n).getD (j + 1) 0 := by unfold nxt; rw [if_pos (by omega)]
    rcases Nat.lt_or_ge (j + 1) r with h2 | h2
    · have := hsUp_mono (code := code) (n := n) h2 hr; omega
    · have : r = j + 1 := by omega
      subst this; omega

/-- The row of heads: what is known of it. -/
def HsRow (code : List Ins) (j : Nat) (c : Array Value) : Prop := c.size = code.length + 1 ∧ ∀ x : Nat, x ≤ code.length → ∃ b : Bool, c[x]? = some (.bool b) ∧ ((x = code.length ∨ ∃ q, q < j ∧ nxt code code.length q = x) → b = true)

theorem HsRow.set {code : List Ins} {j : Nat} {c : Array Value} (h : HsRow code j c) {k : Nat} (hk : k ≤ code.length) (he : nxt code code.length j = k) : HsRow code (j + 1) (c.setIfInBounds k (.bool true)) := by
  refine ⟨by rw [Array.size_setIfInBounds]; exact h.1, fun x hx => ?_⟩
  by_cases e : k = x
  · subst e
    exact ⟨true, by simp [show k < c.size by rw [h.1]; omega], fun _ => rfl⟩
  · obtain ⟨b, hb, hp⟩ := h.2 x hx
    refine ⟨b, by rw [Array.getElem?_setIfInBounds_ne e]; exact hb, fun h2 => hp ?_⟩
    rcases h2 with h2 | ⟨q, hq, h2⟩
    · exact .inl h2
    · refine .inr ⟨q, ?_, h2⟩
      by_cases eq : q = j
      · subst eq; rw [he] at h2; omega
      · omega
theorem HsRow.start (code : List Ins) : HsRow code 0 ((zeros [.bool false] (code.length + 1)).toArray.setIfInBounds code.length (.bool true)) := by
  have hz : ∀ n, (zeros [Value.bool false] n) = List.replicate n (Value.bool false) := fun n => by
    unfold zeros
    induction n with
    | zero => rfl
    | succ n ih => rw [List.replicate_succ, List.flatten_cons, ih]; rfl
  rw [hz]
  refine ⟨by simp, fun x hx => ?_⟩
  by_cases e : code.length = x
  · subst e; exact ⟨true, by simp, fun _ => rfl⟩
  · refine ⟨false, ?_, fun h => ?_⟩
    · rw [Array.getElem?_setIfInBounds_ne e]
      simp [show x < code.length + 1 by omega]
    · rcases h with h | ⟨q, hq, _⟩
      · exact absurd h.symm e
      · omega

theorem target_head {code : List Ins} (hf : fitP code = true) {k : Nat} (hk : k < code.length) (ht : tok (cAt code k) = true) : tgt (cAt code k) k = code.length ∨ ∃ q, q < (hsUp code code.length).length ∧ nxt code code.length q = tgt (cAt code k) k := by
  have hb := (fitP_at hf hk).2 ht
  by_cases e : tgt (cAt code k) k = code.length
  · exact .inl e
  · right
    have hh : headP code (tgt (cAt code k) k) = true := by
      unfold headP
      rw [Bool.or_eq_true]
      right
      exact List.any_eq_true.2 ⟨k, List.mem_range.2 hk, by unfold toAt; rw [ht]; simp⟩
    obtain ⟨q, hq, e2⟩ := mem_at (hsUp_mem.2 ⟨hb.1, by omega, hh⟩ : tgt (cAt code k) k ∈ hsUp code code.length)
    exact ⟨q, hq, by unfold nxt; rw [if_pos hq]; exact e2⟩
end Go.Proofs.Ytkfemiloehkmhaa.S

set_option linter.unusedSimpArgs false
set_option linter.unusedVariables false
set_option maxRecDepth 100000
namespace Go.Proofs.Ytkfemiloehkmhaa.S
open Go Go.RowKit Go.Alog Go.Proofs.Ytkfemiloehkmhaa.T Go.Proofs.Ytkfemiloehkmhaa.V

theorem blk2 {w0 : World} {m : AM} {T : TypeId} {z0 z1 v0 v1 : Value} {K : Nat → AM → Prop} (hK : ∀ b m', m.le m' → m b = none → w0.heap.size ≤ b → m' b = some (.cells #[v0, v1] T) → K b m') :
    ∀ b : Nat, w0.heap.size ≤ b → m b = none → let m1 := AM.upd m b (.cells #[z0, z1] T);
      StC w0.heap.size m1 ⟨b, 0, none⟩ v0 fun m2 => StC w0.heap.size m2 ⟨b, 1, none⟩ v1 fun m3 => K b m3 := by
  intro b hb hm m1
  refine StC_upd.2 ⟨hb, by simp, StC_upd.2 ⟨hb, by simp, ?_⟩⟩
  exact hK b _ (le_new hm _) hm hb (by rw [upd_get_same]; simp)

/-- A cell of a row of the call's own is stored. -/
theorem st1 {B : Nat} {m : AM} {g : Nat} {c : Array Value} {t : TypeId} {v : Value} {K : AM → Prop} (hg : m g = some (.cells c t (0, 0))) (hB : B ≤ g) {k : Int} (hk : k.toNat < c.size) (h : K (m.upd g (.cells (c.setIfInBounds k.toNat v) t))) :
    StC B m ((⟨g, 0, none⟩ : Addr).add (k.toNat * 1)) v K := by
  rw [addn, Nat.zero_add, Nat.mul_one]
  exact StC_own hg hB hk h

theorem law_BlockWhole (W : World) (A0 : Option Addr) (n0 c0 : Nat) (l0 : List Ins) (z0 : l0.length = n0) (hlc0 : n0 ≤ c0) (rd0 : Reads (mOf W) 5 A0 n0 (insCells l0)) (y0 : n0 * 40 ≤ 140737488351232) (hw0 : ∀ i ∈ l0, i.wf) :
    CallsA Try.prog W 5 #[.slice A0 n0 c0] (mOf W) (fun r _ => r = .bool true) := by
  subst z0
  refine cf5 W _ A0 _ c0 _ ⟨rfl, bcP (fun h => ⟨decide_eq_true h, aw9' W _⟩) fun h => ?_⟩
  refine callB (fit_e W _ A0 c0 l0 (by omega) rd0) ?_
  rw [decide_eq_false h]
  cases hf : fitP l0 with
  | false => exact bcT (aw9' W _)
  | true =>
    refine bcF ?_
    have wn : IntKind.wrap .i64 ((l0.length : Int) + 1) = (l0.length : Int) + 1 := wrap_s (by omega) (by omega)
    rw [wn]
    refine ⟨rfl, ⟨by omega, by omega, by omega, by omega⟩, fun b10 hb10 hn10 => ⟨⟨by omega, by omega⟩, ?_⟩⟩
    rw [nilO_some]
    have etn : ((l0.length : Int) + 1).toNat = l0.length + 1 := by omega
    have etl : ((l0.length : Nat) : Int).toNat = l0.length := by omega
    rw [etn]
    refine st1 upd_get_same hb10 (by simp [zeros, etl]) ?_
    rw [upd_upd, etl]
    have hr0 := HsRow.start l0
    have lm := le_new hn10 (.cells ((zeros [.bool false] (l0.length + 1)).toArray.setIfInBounds l0.length (.bool true)) 4)
    have pb : ((mOf W).upd b10 (.cells ((zeros [.bool false] (l0.length + 1)).toArray.setIfInBounds l0.length (.bool true)) 4)) b10 = _ := upd_get_same
    generalize (mOf W).upd b10 (.cells ((zeros [.bool false] (l0.length + 1)).toArray.setIfInBounds l0.length (.bool true)) 4) = M at lm pb ⊢
    generalize ((zeros [.bool false] (l0.length + 1)).toArray.setIfInBounds l0.length (.bool true)) = cc at hr0 pb
    refine CallsA.mono (blocks_spec W M A0 c0 l0 (by omega) (rd0.le lm)) ?_
    rintro r m1 ⟨⟨A9, c9, rfl, o9, n9⟩, l1⟩
    have hbl := blkP_len (headsP l0) l0.length
    have hhl := headsP_len l0
    rw [headsP_up hf] at o9 hbl hhl ⊢
    refine ⟨_, _, _, rfl, ?_⟩
    refine vl5_111111010 W m1 _ _ A0 l0.length c0 (some ⟨b10, 0, none⟩) (l0.length + 1) (l0.length + 1) A9 (blkP (hsUp l0 l0.length) l0.length).length c9 (blkP (hsUp l0 l0.length) l0.length).length 0 0
      (fun n at_ j m' => (mOf W).le m' ∧ Alog.Own m' W.heap.size 36 2 A9 (blkP (hsUp l0 l0.length) l0.length).length c9 (blkCells (blkP (hsUp l0 l0.length) l0.length)) ∧ (∃ c, m' b10 = some (.cells c 4 (0, 0)) ∧ HsRow l0 j.toNat c) ∧ 0 ≤ j ∧ j ≤ (hsUp l0 l0.length).length ∧ (n : Int) = (hsUp l0 l0.length).length - j ∧ at_ = nxt l0 l0.length j.toNat)
      (fun at_ m' => (mOf W).le m' ∧ (∃ c, m' b10 = some (.cells c 4 (0, 0)) ∧ HsRow l0 (hsUp l0 l0.length).length c) ∧ at_ = l0.length) (hsUp l0 l0.length).length rfl rfl rfl rfl rfl rfl ⟨AM.le_trans lm l1, o9, ⟨cc, l1 _ _ pb, hr0⟩, by omega, by omega, by omega, by rw [show (0 : Int).toNat = 0 from rfl, nxt_0]⟩ ?_ ?_
    · rintro n σ at_ j m' ⟨l', ob, ⟨c, pc, hc⟩, j0, j1, hn, rfl⟩
      refine ⟨rfl, bcP (fun hlt => ?_) (fun hlt => ?_)⟩
      · have hjl : j.toNat < (hsUp l0 l0.length).length := by omega
        have hnx := nxt_lt l0 l0.length j.toNat hjl
        have hng := fun q => nogo l0 l0.length j.toNat hjl (q := q)
        have wj : IntKind.wrap .i64 (j + 1) = j + 1 := wrap_s (by omega) (by omega)
        have ej : (j + 1).toNat = j.toNat + 1 := by omega
        refine ⟨⟨j0, hlt⟩, ?_⟩
        obtain ⟨ad9, hA9, hc9⟩ := ob.ex (by omega)
        rw [hA9, nilO_some]
        have b9 := cell_blk hc9 (i := j) j0 (by omega)
        rw [blkP_get _ _ hjl, blkAt_nxt _ _ _ hjl] at b9
        refine ⟨_, b9.1, _, b9.2, blk2 fun b22 M2 l2 n22 hb22 p22 => ?_⟩
        dsimp only at p22 ⊢
        have hb1022 : b10 ≠ b22 := fun e => by rw [← e, pc] at n22; cases n22
        generalize hfr : nxt l0 l0.length j.toNat = fr at hnx hng p22 ⊢
        generalize hto : nxt l0 l0.length (j.toNat + 1) = to at hnx hng p22 ⊢
        refine ⟨_, cel p22 rfl, rfl, ?_⟩
        rw [show (fr != fr) = false by simp]
        refine bcF ⟨_, cel p22 rfl, _, cel p22 rfl, rfl, ?_⟩
        rw [show decide (to ≤ fr) = false from decide_eq_false (by omega)]
        refine bcF ⟨_, cel p22 rfl, rfl, ?_⟩
        rw [show decide (to > (l0.length : Int)) = false from decide_eq_false (by omega)]
        refine bcF ⟨⟨by omega, by omega⟩, ?_⟩
        rw [nilO_some]
        have pc2 := l2 _ _ pc
        refine st1 pc2 hb10 (k := fr) (by rw [hc.1]; omega) ?_
        have hset := hc.set (k := fr.toNat) (by omega) (by rw [hfr]; omega)
        have lW : (mOf W).le (M2.upd b10 (.cells (c.setIfInBounds fr.toNat (.bool true)) 4)) := le_upd_fresh (AM.le_trans l' l2) hn10
        have p22' : (M2.upd b10 (.cells (c.setIfInBounds fr.toNat (.bool true)) 4)) b22 = some (.cells #[.int .i64 fr, .int .i64 to] 36) := by rw [upd_get_ne hb1022.symm]; exact p22
        have pcs : (M2.upd b10 (.cells (c.setIfInBounds fr.toNat (.bool true)) 4)) b10 = some (.cells (c.setIfInBounds fr.toNat (.bool true)) 4 (0, 0)) := upd_get_same
        have ob2 : Alog.Own (M2.upd b10 (.cells (c.setIfInBounds fr.toNat (.bool true)) 4)) W.heap.size 36 2 A9 (blkP (hsUp l0 l0.length) l0.length).length c9 (blkCells (blkP (hsUp l0 l0.length) l0.length)) := (ob.le l2).upd ((ob.le l2).ne_type pc2 (by decide))
        rw [hA9] at ob2
        generalize M2.upd b10 (.cells (c.setIfInBounds fr.toNat (.bool true)) 4) = M3 at lW p22' pcs ob2 ⊢
        refine ⟨_, cel p22' rfl, ?_⟩
        refine vl5_11111101001100111010 W M3 _ _ n _ _ A0 l0.length c0 (some ⟨b10, 0, none⟩) (l0.length + 1) (l0.length + 1) b22 (some ad9) (blkP (hsUp l0 l0.length) l0.length).length c9 (blkP (hsUp l0 l0.length) l0.length).length j fr
          (fun n1 q m' => m' = M3 ∧ fr ≤ q ∧ q ≤ to - 1 ∧ (n1 : Int) = to - 1 - q) (fun m' => m' = M3) (to - 1 - fr).toNat rfl rfl rfl rfl rfl rfl rfl ⟨rfl, by omega, by omega, by omega⟩ ?_ ?_
        · rintro n1 σ q M4 ⟨rfl, q0, q1, hn1⟩
          refine ⟨_, cel p22' rfl, rfl, rfl, ?_⟩
          rw [wrap_s (i := to - 1) (by omega) (by omega)]
          refine bcP (fun hq => ?_) (fun hq => by (repeat (refine And.intro (Eq.refl _) ?_)); rfl)
          refine ldAt (rd0.le lW) rfl (by omega) (by omega) fun a => callB (refGoes_e W M4 (cAt l0 q)) ?_
          rw [hng q (by omega) (by omega)]
          refine bcF ?_
          (repeat (refine And.intro (Eq.refl _) ?_))
          rw [wrap_s (i := q + 1) (by omega) (by omega)]
          exact ⟨n1 - 1, by omega, rfl, by omega, by omega, by omega⟩
        · rintro σ M4 rfl
          refine ⟨_, cel p22' rfl, ?_⟩
          (repeat (refine And.intro (Eq.refl _) ?_))
          rw [wj]
          exact ⟨n - 1, by omega, lW, ob2, ⟨_, pcs, by rw [ej]; exact hset⟩, by omega, by omega, by omega, by rw [ej, hto]⟩
      · have ejl : j.toNat = (hsUp l0 l0.length).length := by omega
        (repeat (refine And.intro (Eq.refl _) ?_))
        rw [ejl] at hc
        exact ⟨l', ⟨c, pc, hc⟩, by rw [ejl]; exact nxt_end _ _ _ (Nat.le_refl _)⟩
    · rintro σ at_ m' ⟨l', ⟨c, pc, hc⟩, rfl⟩
      refine vl5_1111111010 W m' _ _ A0 l0.length c0 l0.length (some ⟨b10, 0, none⟩) (l0.length + 1) (l0.length + 1) A0 l0.length c0 l0.length 0
        (fun n k m2 => (mOf W).le m2 ∧ m2 b10 = some (.cells c 4 (0, 0)) ∧ 0 ≤ k ∧ k ≤ l0.length ∧ (n : Int) = l0.length - k) (fun m2 => True) l0.length rfl rfl rfl rfl rfl rfl ⟨l', pc, by omega, by omega, by omega⟩ ?_ ?_
      · rintro n σ k m1 ⟨l1, p1, k0, k1, hn⟩
        refine ⟨rfl, bcP (fun hlt => ?_) (fun hlt => by (repeat (refine And.intro (Eq.refl _) ?_)); trivial)⟩
        refine ldAt (rd0.le l1) rfl k0 hlt fun a => blk5 fun b M2 l2 nb hb p => ?_
        replace p : M2 b = some (.cells (Ins.cells (cAt l0 k)).toArray 24) := p
        have wk : IntKind.wrap .i64 (k + 1) = k + 1 := wrap_s (by omega) (by omega)
        have hkk : ((k.toNat : Nat) : Int) = k := by omega
        have fin : ∃ n' : Nat, n' < n ∧ ((mOf W).le M2 ∧ M2 b10 = some (.cells c 4 (0, 0)) ∧ 0 ≤ k + 1 ∧ k + 1 ≤ l0.length ∧ (n' : Int) = l0.length - (k + 1)) := ⟨n - 1, by omega, AM.le_trans l1 l2, l2 _ _ p1, by omega, by omega, by omega⟩
        rw [wk]
        refine ldIns p (callT (target_e W M2 (cAt l0 k) k) ?_)
        cases ht : tok (cAt l0 k) with
        | false =>
          refine bcF ⟨rfl, ?_⟩
          (repeat (refine And.intro (Eq.refl _) ?_))
          exact fin
        | true =>
          have hfa := (fitP_at hf (j := k.toNat) (by omega)).2 (by rw [hkk]; exact ht)
          have hth := target_head hf (k := k.toNat) (by omega) (by rw [hkk]; exact ht)
          rw [hkk] at hfa hth
          generalize tgt (cAt l0 k) k = t at hfa hth ⊢
          refine bcT ⟨rfl, ?_⟩
          rw [show decide (t < 0) = false from decide_eq_false (by omega)]
          refine bcF ⟨rfl, ?_⟩
          rw [show decide (t > (l0.length : Int)) = false from decide_eq_false (by omega)]
          refine bcF ⟨⟨by omega, by omega⟩, ?_⟩
          rw [nilO_some]
          obtain ⟨bv, hbv, hbt⟩ := hc.2 t.toNat (by omega)
          have hbt := hbt (by
            rcases hth with h1 | ⟨q, hq, h1⟩
            · exact .inl (by omega)
            · exact .inr ⟨q, hq, by omega⟩)
          subst hbt
          refine ⟨true, ?_, ?_⟩
          · rw [addn, Nat.zero_add, Nat.mul_one]; exact cel (l2 _ _ p1) hbv
          · refine bcF ?_
            (repeat (refine And.intro (Eq.refl _) ?_))
            exact fin
      · rintro σ m1 _
        rw [show (((l0.length : Nat) : Int) == ((l0.length : Nat) : Int)) = true by simp]
        exact ⟨rfl, bcT (aw9 W m1 rfl)⟩
end Go.Proofs.Ytkfemiloehkmhaa.S

set_option linter.unusedSimpArgs false
set_option linter.unusedVariables false
set_option maxRecDepth 100000
namespace Go.Proofs.Ytkfemiloehkmhaa.S
open Go Go.RowKit Go.Alog Go.Proofs.Ytkfemiloehkmhaa.T Go.Proofs.Ytkfemiloehkmhaa.V

theorem zeros_nops (n : Nat) : zeros [.int .i64 0, .int .i64 0, .int .i64 0, .int .i64 0, .int .i64 0] n = insCells (List.replicate n nop) := by
  unfold zeros insCells
  induction n with
  | zero => rfl
  | succ n ih => rw [List.replicate_succ, List.replicate_succ, List.flatten_cons, List.flatMap_cons, ih]; rfl
theorem nop_right : rightR nop = true := by decide +kernel
theorem nop_tok : tok nop = false := by decide +kernel
theorem nop_goes : goesP nop = false := by decide +kernel
theorem cAt_nops {n : Nat} {k : Int} : cAt (List.replicate n nop) k = nop := by
  unfold cAt
  rw [List.getD_eq_getElem?_getD, List.getElem?_replicate]
  split <;> rfl
theorem nops_fit {n : Nat} (h : n ≤ 4096) : fitP (List.replicate n nop) = true := by
  refine fitP_true (by simpa using h) fun j hj => ?_
  unfold fitAt
  rw [cAt_nops, nop_right, nop_tok]; rfl
theorem nops_headP {n : Nat} (k : Int) : headP (List.replicate n nop) k = (k == 0) := by
  unfold headP
  rw [cAt_nops, nop_goes, Bool.or_false]
  have : (List.range (List.replicate n nop).length).any (toAt (List.replicate n nop) k) = false := by
    rw [List.any_eq_false]
    intro j _
    unfold toAt
    rw [cAt_nops, nop_tok]; simp
  rw [this, Bool.or_false]
theorem nops_heads {n : Nat} (h0 : 0 < n) (h : n ≤ 4096) : headsP (List.replicate n nop) = [0] := by
  unfold headsP
  rw [if_pos (nops_fit h)]
  refine rise_eq ((range_rise _).filter _) (by simp) fun x => ?_
  rw [List.mem_filter, List.mem_map, nops_headP]
  simp only [List.mem_range, List.length_replicate, List.mem_singleton, beq_iff_eq]
  constructor
  · rintro ⟨_, h⟩; exact h
  · rintro rfl; exact ⟨⟨0, h0, rfl⟩, rfl⟩

theorem cAt_snoc_lt {l : List Ins} {x : Ins} {k : Int} (h : k < l.length) (h0 : 0 < l.length) : cAt (l ++ [x]) k = cAt l k := by
  unfold cAt
  rw [List.getD_eq_getElem?_getD, List.getD_eq_getElem?_getD, List.getElem?_append_left (by omega)]
theorem cAt_snoc_eq {l : List Ins} {x : Ins} : cAt (l ++ [x]) (l.length : Int) = x := by
  unfold cAt
  rw [List.getD_eq_getElem?_getD]
  simp
theorem snoc_fit {l : List Ins} (h : fitP l = true) (hl : l.length ≤ 1000) : fitP (l ++ [nop]) = true := by
  refine fitP_true (by simp; omega) fun j hj => ?_
  simp only [List.length_append, List.length_cons, List.length_nil] at hj
  unfold fitAt
  by_cases e : j = l.length
  · subst e; rw [cAt_snoc_eq, nop_right, nop_tok]; rfl
  · have hb := fitP_at h (j := j) (by omega)
    rw [cAt_snoc_lt (by omega) (by omega), hb.1, Bool.true_and]
    cases ht : tok (cAt l j) with
    | false => rfl
    | true =>
      have := hb.2 ht
      rw [decide_eq_false (by omega), decide_eq_false (by simp; omega)]; rfl
theorem snoc_headP {l : List Ins} (hl : 0 < l.length) {k : Int} (h0 : 0 ≤ k) (h : k ≤ l.length) : headP (l ++ [nop]) k = (k == 0 || goesP (cAt l (k - 1)) || (List.range l.length).any (toAt l k)) := by
  unfold headP
  rw [cAt_snoc_lt (by omega) hl]
  congr 1
  simp only [List.length_append, List.length_cons, List.length_nil, Nat.zero_add]
  rw [List.range_succ, List.any_append]
  have e1 : (List.range l.length).any (toAt (l ++ [nop]) k) = (List.range l.length).any (toAt l k) := by
    rw [Bool.eq_iff_iff, List.any_eq_true, List.any_eq_true]
    constructor
    · rintro ⟨j, hj, hp⟩
      refine ⟨j, hj, ?_⟩
      have := List.mem_range.1 hj
      unfold toAt at hp ⊢
      rwa [cAt_snoc_lt (by omega) hl] at hp
    · rintro ⟨j, hj, hp⟩
      refine ⟨j, hj, ?_⟩
      have := List.mem_range.1 hj
      unfold toAt at hp ⊢
      rwa [cAt_snoc_lt (by omega) hl]
  rw [e1]
  have : toAt (l ++ [nop]) k l.length = false := by unfold toAt; rw [cAt_snoc_eq, nop_tok]; rfl
  simp [this]
theorem snoc_heads {l : List Ins} (hl : 0 < l.length) : ∃ t, hsUp (l ++ [nop]) (l.length + 1) = hsUp l l.length ++ t ∧ (t = [] ∨ t = [(l.length : Int)]) := by
  have e : ∀ a, a ≤ l.length → hsUp (l ++ [nop]) a = hsUp l a := by
    intro a ha
    unfold hsUp
    refine List.filter_congr fun x hx => ?_
    obtain ⟨j, hj, rfl⟩ := List.mem_map.1 hx
    have := List.mem_range.1 hj
    rw [snoc_headP hl (by omega) (by omega)]; rfl
  rw [hsUp_succ, e _ (Nat.le_refl _)]
  refine ⟨_, rfl, ?_⟩
  split
  · exact .inr rfl
  · exact .inl rfl
end Go.Proofs.Ytkfemiloehkmhaa.S

set_option linter.unusedSimpArgs false
set_option linter.unusedVariables false
set_option maxRecDepth 100000
namespace Go.Proofs.Ytkfemiloehkmhaa.S
open Go Go.RowKit Go.Alog Go.Proofs.Ytkfemiloehkmhaa.T Go.Proofs.Ytkfemiloehkmhaa.V

theorem insCells_len5 (l : List Ins) : (insCells l).length = l.length * 5 := by
  unfold insCells
  induction l with
  | nil => rfl
  | cons x l ih => rw [List.flatMap_cons, List.length_append, ih]; simp [Ins.cells]; omega

theorem nops_reads {m : AM} {b : Nat} (n : Nat) : Reads (m.upd b (.cells (zeros [.int .i64 0, .int .i64 0, .int .i64 0, .int .i64 0, .int .i64 0] n).toArray 24 (0, 0))) 5 (some ⟨b, 0, none⟩) (List.replicate n nop).length (insCells (List.replicate n nop)) := by
  have := Reads.lit (m := m) (b := b) (e := 24) (sz := 5) (n := (List.replicate n nop).length) (cs := insCells (List.replicate n nop)) (insCells_len5 _)
  rw [zeros_nops]; exact this

theorem nops_loop (W : World) (m : AM) (σ : Sg) {A25 A30 : Option Addr} {c25 c30 : Nat} {H t : List Int} (o25 : Alog.Own m W.heap.size 3 1 A25 H.length c25 (intCells .i64 H)) (o30 : Alog.Own m W.heap.size 3 1 A30 (H ++ t).length c30 (intCells .i64 (H ++ t))) (hcl : H.length ≤ 1000)
    {R : Value → AM → Prop} (hR : ∀ v : Bool, v = true → RetP R (.bool v) m) (h8 : σ 8 = .slice A25 H.length c25) (h9 : σ 9 = .slice A30 (H ++ t).length c30) (h89 : σ 89 = .int .i64 H.length) (h90 : σ 90 = .int .i64 0) : (vcS Try.prog W qs6 (sub c6 [1, 1, 1, 1, 1, 1, 1, 1, 1, 0, 1, 0]) σ m (blockS 0 (thenS (fun σ m => vcS Try.prog W qs6 (sub c6 [1, 1, 1, 1, 1, 1, 1, 1, 1, 1]) σ m (retQ Try.prog Try.f6 R)) (retQ Try.prog Try.f6 R)))) := by
  refine vl6_111111111010 W m _ _ A25 H.length c25 A30 (H ++ t).length c30 H.length 0 (fun n k m' => m' = m ∧ 0 ≤ k ∧ k ≤ H.length ∧ (n : Int) = H.length - k) (fun m' => m' = m) H.length h8 h9 h89 h90 ⟨rfl, by omega, by omega, by omega⟩ ?_ ?_
  · rintro n σ k M ⟨rfl, k0, k1, hn⟩
    refine ⟨rfl, bcP (fun hlt => ?_) (fun hlt => by (repeat (refine And.intro (Eq.refl _) ?_)); rfl)⟩
    have e1 : (H ++ t).length = H.length + t.length := by simp
    obtain ⟨a1, rfl, hc1⟩ := o25.ex (by omega)
    obtain ⟨a2, rfl, hc2⟩ := o30.ex (by omega)
    refine ⟨⟨k0, hlt⟩, ?_⟩
    rw [nilO_some]
    refine ⟨_, cell_k hc1 k0 hlt, ⟨k0, by omega⟩, ?_⟩
    rw [nilO_some]
    refine ⟨_, cell_k hc2 k0 (by omega), rfl, ?_⟩
    have e : (H ++ t).getD k.toNat 0 = H.getD k.toNat 0 := by
      rw [List.getD_eq_getElem?_getD, List.getD_eq_getElem?_getD, List.getElem?_append_left (by omega)]
    rw [e, show (H.getD k.toNat 0 != H.getD k.toNat 0) = false by simp]
    refine bcF ?_
    (repeat (refine And.intro (Eq.refl _) ?_))
    rw [wrap_s (i := k + 1) (by omega) (by omega)]
    exact ⟨n - 1, by omega, rfl, by omega, by omega, by omega⟩
  · rintro σ M rfl
    exact callB (awake9e W M) (hR true rfl)

theorem law_BlockNops (W : World) (A0 : Option Addr) (n0 c0 : Nat) (l0 : List Ins) (z0 : l0.length = n0) (hlc0 : n0 ≤ c0) (rd0 : Reads (mOf W) 5 A0 n0 (insCells l0)) (y0 : n0 * 40 ≤ 140737488351232) (hw0 : ∀ i ∈ l0, i.wf) (a1 : Int) (w1 : (Lit.int .u8 a1).wf = true) :
    CallsA Try.prog W 6 #[.slice A0 n0 c0, .int .u8 a1] (mOf W) (fun r _ => r = .bool true) := by
  subst z0
  have ha : 0 ≤ a1 ∧ a1 ≤ 255 := by simpa [Lit.wf, IntKind.min, IntKind.max, IntKind.bits, IntKind.signed] using w1
  refine cf6 W _ A0 _ c0 a1 _ ⟨rfl, bcP (fun h => aw9' W _) fun h => ⟨rfl, ?_⟩⟩
  have ew : IntKind.wrap .i64 (1 + IntKind.wrap .i64 a1) = 1 + a1 := by rw [wrap_s (i := a1) (by omega) (by omega), wrap_s (by omega) (by omega)]
  rw [ew]
  obtain ⟨N, hN⟩ : ∃ N, N = (1 + a1).toNat := ⟨_, rfl⟩
  have hNN : (1 + a1) = (N : Int) := by omega
  rw [hNN]
  rw [show ((N : Nat) : Int).toNat = N by omega]
  refine ⟨⟨by omega, by omega, by omega, by omega⟩, fun b4 hb4 hn4 => ?_⟩
  have lm := le_new hn4 (.cells (zeros [.int .i64 0, .int .i64 0, .int .i64 0, .int .i64 0, .int .i64 0] N).toArray 24 (0, 0))
  have rN := nops_reads (m := mOf W) (b := b4) N
  have eN : (List.replicate N nop).length = N := by simp
  generalize (mOf W).upd b4 (.cells (zeros [.int .i64 0, .int .i64 0, .int .i64 0, .int .i64 0, .int .i64 0] N).toArray 24 (0, 0)) = M at lm rN
  have hs1 := heads_spec W M (some ⟨b4, 0, none⟩) N (List.replicate N nop) (by rw [eN]; omega) rN
  rw [nops_heads (by omega) (by omega), eN] at hs1
  refine CallsA.mono hs1 ?_
  rintro r m1 ⟨⟨A6, c6, rfl, o6, n6⟩, l1⟩
  refine ⟨_, _, _, rfl, rfl, ?_⟩
  have lW1 := AM.le_trans lm l1
  intro b11 hb11 hn11
  refine awp_mono _ _ _ _ ?_ (cp1 (w0 := W) (c := c0) (rd0.le lW1) (by omega) (K := fun A n c m' => ∃ c', n = l0.length ∧ c = c' ∧ m1.le m' ∧ Alog.Own m' W.heap.size 24 5 A l0.length c' (insCells l0) ∧ (∀ k ∈ obl A, m1 k = none)) (fun A c m' h1 h2 h3 => ⟨c, rfl, rfl, h1, h2, h3⟩) b11 hb11 hn11)
  rintro v m2 ⟨A15, n16, c17, rfl, c', rfl, rfl, l2, o2, n2⟩
  refine ⟨_, _, _, rfl, ?_⟩
  refine ⟨rfl, rfl, ?_⟩
  intro b18 hb18 hn18
  refine awp_mono _ _ _ _ ?_ (snoc1 (w0 := W) l2 o2 n2 (by omega) nop (K := fun A n c m' => n = l0.length + 1 ∧ m1.le m' ∧ Alog.Own m' W.heap.size 24 5 A (l0.length + 1) c (insCells (l0 ++ [nop])) ∧ (∀ k ∈ obl A, m1 k = none)) (fun A c m' h1 h2 h3 => ⟨rfl, h1, h2, h3⟩) b18 hb18 hn18)
  rintro v m3 ⟨A22, n23, c24, rfl, rfl, l3, o3, n3⟩
  refine ⟨_, _, _, rfl, ?_⟩
  have lW3 := AM.le_trans lW1 l3
  have eL : (l0 ++ [nop]).length = l0.length + 1 := by simp
  have rB := o3.reads
  rw [← eL] at rB
  refine CallsA.mono (heads_spec W m3 A0 c0 l0 (by omega) (rd0.le lW3)) ?_
  rintro r m4 ⟨⟨A25, c25, rfl, o25, n25⟩, l4⟩
  refine ⟨_, _, _, rfl, ?_⟩
  have hs2 := heads_spec W m4 A22 c24 (l0 ++ [nop]) (by omega) (rB.le l4)
  rw [eL] at hs2
  refine CallsA.mono hs2 ?_
  rintro r m5 ⟨⟨A30, c30, rfl, o30, n30⟩, l5⟩
  have o6 := (o6.le (AM.le_trans l3 (AM.le_trans l4 l5)))
  have o25 := o25.le l5
  have rB := rB.le (AM.le_trans l4 l5)
  have rd5 := rd0.le (AM.le_trans lW3 (AM.le_trans l4 l5))
  clear hs1 hs2 l1 l2 l3 l4 l5 lm lW1 lW3
  refine ⟨_, _, _, rfl, rfl, bcF ⟨⟨by decide, by decide⟩, ?_⟩⟩
  obtain ⟨ad6, rfl, hc6⟩ := o6.ex (by decide)
  rw [nilO_some]
  refine ⟨_, hc6 0 _ rfl, rfl, bcF ?_⟩
  have hfit2 := fit_e W m5 A22 c24 (l0 ++ [nop]) (by omega) rB
  rw [eL] at hfit2
  refine callB (fit_e W m5 A0 c0 l0 (by omega) rd5) ?_
  cases hf : fitP l0 with
  | false =>
    refine bcF ⟨rfl, bcF ?_⟩
    refine vk6_1111111 W m5 _ _ A0 l0.length c0 A25 (headsP l0).length c25 A30 (headsP (l0 ++ [nop])).length c30 rfl rfl rfl ?_
    refine callB (fit_e W m5 A0 c0 l0 (by omega) rd5) ?_
    rw [hf]
    exact bcT ⟨rfl, aw9' W _⟩
  | true =>
    refine bcT (callB hfit2 ?_)
    have hf2 := snoc_fit hf (by omega)
    rw [hf2]
    refine bcF ?_
    refine vk6_1111111 W m5 _ _ A0 l0.length c0 A25 (headsP l0).length c25 A30 (headsP (l0 ++ [nop])).length c30 rfl rfl rfl ?_
    refine callB (fit_e W m5 A0 c0 l0 (by omega) rd5) ?_
    rw [hf]
    refine bcF ⟨rfl, bcI (fun h0 => aw9' W _) (fun h0 => ?_)⟩
    have hpos : 0 < l0.length := by
      have h0' : (((l0.length : Nat) : Int) == 0) = false := h0
      have : l0.length ≠ 0 := by intro e; rw [e] at h0'; simp at h0'
      omega
    obtain ⟨t, ht, hto⟩ := snoc_heads hpos
    have e1 := headsP_up hf
    have e2 := headsP_up hf2
    rw [eL, ht] at e2
    have hhl := headsP_len l0
    rw [e1] at o25 hhl ⊢
    rw [e2] at o30 ⊢
    generalize hsUp l0 l0.length = H at o25 o30 hhl ⊢
    have hcl : H.length ≤ 1000 := by omega
    have tl : t.length ≤ 1 := by rcases hto with rfl | rfl <;> simp
    have eT : (H ++ t).length = H.length + t.length := by simp
    have wH : IntKind.wrap .i64 ((H.length : Int) + 1) = (H.length : Int) + 1 := wrap_s (by omega) (by omega)
    rw [wH]
    refine ⟨rfl, ?_⟩
    rw [show decide (((H ++ t).length : Int) < (H.length : Int)) = false from decide_eq_false (by rw [eT]; omega)]
    refine bcF ⟨rfl, rfl, ?_⟩
    rw [show decide (((H ++ t).length : Int) > (H.length : Int) + 1) = false from decide_eq_false (by rw [eT]; omega)]
    refine bcF ⟨rfl, ?_⟩
    have hRR : ∀ v : Bool, v = true → RetP (fun r (_ : AM) => r = .bool true) (.bool v) m5 := fun v e => by rw [e]; exact retP_of rfl
    rcases hto with rfl | rfl
    · rw [List.append_nil] at o30 ⊢
      rw [show decide ((H.length : Int) > (H.length : Int)) = false from decide_eq_false (by omega)]
      refine bcF ⟨rfl, bcF ?_⟩
      exact nops_loop W m5 _ (t := []) o25 (by rw [List.append_nil]; exact o30) hcl hRR rfl (by rw [List.append_nil]; rfl) rfl rfl
    · rw [show decide (((H ++ [(l0.length : Int)]).length : Int) > (H.length : Int)) = true from decide_eq_true (by rw [List.length_append, List.length_singleton]; omega)]
      refine bcT ⟨⟨by omega, by rw [List.length_append, List.length_singleton]; omega⟩, ?_⟩
      obtain ⟨ad30, rfl, hc30⟩ := o30.ex (by rw [List.length_append, List.length_singleton]; omega)
      rw [nilO_some]
      refine ⟨_, cell_k hc30 (i := (H.length : Int)) (by omega) (by rw [List.length_append, List.length_singleton]; omega), rfl, ?_⟩
      rw [show ((H ++ [(l0.length : Int)]).getD ((H.length : Nat) : Int).toNat 0 != (l0.length : Int)) = false by rw [show ((H.length : Nat) : Int).toNat = H.length by omega]; simp [List.getD_eq_getElem?_getD]]
      refine bcF ?_
      exact nops_loop W m5 _ (t := [(l0.length : Int)]) o25 o30 hcl hRR rfl rfl rfl rfl
end Go.Proofs.Ytkfemiloehkmhaa.S
