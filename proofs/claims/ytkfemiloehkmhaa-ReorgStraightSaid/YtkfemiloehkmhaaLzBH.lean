/- Ytkfemiloehkmhaa: a text of our own, by an AI agent: LzBH -/
import Derived.Test.YtkfemiloehkmhaaLyBH
set_option linter.unusedSimpArgs false
set_option linter.unusedVariables false
set_option maxRecDepth 100000
namespace Go.Proofs.Ytkfemiloehkmhaa.S
open Go Go.RowKit Go.Alog Go.Proofs.Ytkfemiloehkmhaa.T Go.Proofs.Ytkfemiloehkmhaa.V

theorem refLayDec (w0 : World) (m0 m : AM) (σ : Sg) {R : Value → AM → Prop} {A : Option Addr} {c : Nat} {l : List Ins} (hl : l.length ≤ 100000) (hpos : 0 < l.length) (rd : Reads m0 5 A l.length (insCells l)) {last : Ins} (hlast : cAt l ((l.length : Int) - 1) = last)
    {A7 : Option Addr} {c7 : Nat} {o : List Int} (ho : ∀ x ∈ o, x = -1 ∨ (0 ≤ x ∧ x < l.length)) (hol : o.length ≤ 100000) (L : m0.le m) (oo : Alog.Own m w0.heap.size 3 1 A7 o.length c7 (intCells .i64 o)) (no : ∀ k ∈ obl A7, m0 k = none) (t : Bool) (ht : t = true → 0 < o.length)
    (hR : ∀ A' c' m', m0.le m' → Alog.Own m' w0.heap.size 3 1 A' (layG l o last t).length c' (intCells .i64 (layG l o last t)) → (∀ k ∈ obl A', m0 k = none) → RetP R (.slice A' (layG l o last t).length c') m')
    (h0 : σ 0 = .slice A l.length c) (h3 : σ 3 = .int .i64 ((l.length : Int) - 1)) (h6 : σ 6 = .slice A7 o.length c7) (h7 : σ 7 = .int .i64 ((o.length : Int) - 1)) (h89 : σ 89 = .bool t) : (vcS Try.prog w0 qs38 (sub c38 [1, 1, 1, 1, 1, 1, 0, 1]) σ m (thenS (fun σ m => vcS Try.prog w0 qs38 (sub c38 [1, 1, 1, 1, 1, 1, 1]) σ m (retQ Try.prog Try.f38 R)) (retQ Try.prog Try.f38 R))) := by
  refine vk38_11111101 w0 m σ R A l.length c ((l.length : Int) - 1) A7 o.length c7 ((o.length : Int) - 1) t h0 h3 h6 h7 h89 ?_
  cases t with
  | true =>
    have hop := ht rfl
    have ek : ((o.length : Int) - 1).toNat = o.length - 1 := by omega
    have hcap := oo.2.1
    refine bcT ⟨⟨by omega, by omega⟩, ?_⟩
    have rp := reads_intPre oo.reads (o.length - 1) (by omega) hcap
    obtain ⟨a, rfl, hc⟩ := oo.ex hop
    rw [nilO_some]
    have hx := cell_k hc (i := (o.length : Int) - 1) (by omega) (by omega)
    rw [ek] at hx ⊢
    unfold layG at hR
    rw [if_pos rfl] at hR
    generalize o.getD (o.length - 1) 0 = x at hx hR
    refine ⟨_, hx, by omega, by omega, by omega, ?_⟩
    have etk : (o.take (o.length - 1)).length = o.length - 1 - 0 := by rw [List.length_take]; omega
    rw [← etk] at rp ⊢
    refine awp_append_loc (m0 := m0) el30' L (Alog.Own.nil m w0.heap.size 3 1) (by simp [obl]) rp (by intro u hu; obtain ⟨x, _, rfl⟩ := List.mem_map.1 hu; rfl) (by omega) (by omega) (fun A' c' m23 l23 f23 o23 n23 _ => ?_)
    rw [List.nil_append, Nat.zero_add] at o23
    rw [Nat.zero_add]
    refine ⟨_, _, _, rfl, rfl, fun b hb hn => ?_⟩
    refine snoc2I (b11 := b) (m0 := m0) (AM.le_trans l23 (le_new hn _)) (o23.upd (o23.ne_none hn)) n23 (by omega) ((l.length : Int) - 1) x (Reads.lit rfl) ?_
    intro A2 c2 M l6 o6 n6
    exact ⟨_, _, _, rfl, hR A2 c2 M l6 o6 n6⟩
  | false =>
    refine bcF ?_
    refine vk38_1111111 w0 m _ R A l.length c ((l.length : Int) - 1) A7 o.length c7 rfl rfl rfl ?_
    exact refLayTail w0 m0 m _ hl hpos rd hlast ho hol L oo no hR rfl rfl rfl
end Go.Proofs.Ytkfemiloehkmhaa.S

set_option linter.unusedSimpArgs false
set_option linter.unusedVariables false
set_option maxRecDepth 100000
namespace Go.Proofs.Ytkfemiloehkmhaa.S
open Go Go.RowKit Go.Alog Go.Proofs.Ytkfemiloehkmhaa.T Go.Proofs.Ytkfemiloehkmhaa.V

theorem refLay_spec (w0 : World) (m : AM) (A : Option Addr) (c : Nat) (l : List Ins) (hl : l.length ≤ 5000) (hc : l.length ≤ c) (rd : Reads m 5 A l.length (insCells l)) :
    CallsA Try.prog w0 38 #[.slice A l.length c] m (oI w0 m (layP l)) := by
  generalize hR : oI w0 m (layP l) = R
  refine cf38 w0 m A l.length c R ⟨rfl, bcI (fun h => ?_) (fun h => ⟨rfl, ?_⟩)⟩
  · have h' : (((l.length : Nat) : Int) == 0) = true := h
    have : l = [] := List.eq_nil_of_length_eq_zero (by simpa using h')
    rw [← hR]
    unfold layP
    rw [if_pos this]
    exact retP_of ⟨⟨none, 0, rfl, Alog.Own.nil _ _ _ _, by simp [obl]⟩, AM.le_refl _⟩
  have hne : l ≠ [] := fun e => by
    have h' : (((l.length : Nat) : Int) == 0) = false := h
    rw [e] at h'; simp at h'
  have hpos : 0 < l.length := by
    cases l with
    | nil => exact absurd rfl hne
    | cons => simp
  have wn : IntKind.wrap .i64 ((l.length : Int) - 1) = (l.length : Int) - 1 := wrap_s (by omega) (by omega)
  rw [wn]
  obtain ⟨M, hM⟩ : ∃ M, M = m := ⟨_, rfl⟩
  have l7 : m.le M := by rw [hM]; exact AM.le_refl _
  refine ldAt rd rfl (by omega) (by omega) fun a => ?_
  rw [← hM]
  unfold layP at hR
  rw [if_neg hne] at hR
  unfold lastI at hR
  generalize p7 : cAt l ((l.length : Int) - 1) = last at hR ⊢
  have ret : ∀ (A' : Option Addr) (c' : Nat) (m' : AM) (r : List Int), R = oI w0 m r → M.le m' → Alog.Own m' w0.heap.size 3 1 A' r.length c' (intCells .i64 r) → (∀ k ∈ obl A', M k = none) → RetP R (.slice A' r.length c') m' := fun A' c' m' r e h1 h2 h3 => by
    rw [e]
    refine retP_of ⟨⟨A', c', rfl, h2, fun k hk => ?_⟩, AM.le_trans l7 h1⟩
    cases hm : m k with
    | none => rfl
    | some o => have := h3 k hk; rw [l7 _ _ hm] at this; cases this
  have rdM := rd.le l7
  refine callB (refGoes_e w0 M last) ?_
  cases hg : goesP last with
  | false =>
    rw [hg, if_pos rfl] at hR
    refine bcT (CallsA.mono (refOrder_spec w0 M A c l hl rdM) ?_)
    rintro r m1 ⟨⟨A1, c1, rfl, o1, n1⟩, l1⟩
    have hon : ordP l ≠ [] := ordP_ne hne
    have hop : 0 < (ordP l).length := by
      cases ho : ordP l with
      | nil => exact absurd ho hon
      | cons => simp
    have hol := ordP_len l
    have hin := ordP_in l
    have hlast := ordP_last l (last_get hop)
    have hmem : (ordP l).getD ((ordP l).length - 1) 0 ∈ ordP l := by simp [List.getD, show (ordP l).length - 1 < (ordP l).length by omega]
    have hlt := hin _ hmem
    generalize ordP l = o at hR o1 hop hol hin hlast hlt ⊢
    have wo : IntKind.wrap .i64 ((o.length : Int) - 1) = (o.length : Int) - 1 := wrap_s (by omega) (by omega)
    have ek : ((o.length : Int) - 1).toNat = o.length - 1 := by omega
    refine ⟨_, _, _, rfl, ?_⟩
    rw [wo]
    refine ⟨rfl, ⟨by omega, by omega⟩, ?_⟩
    have o1' := o1
    obtain ⟨a1, hA1, hc1⟩ := o1.ex hop
    subst hA1
    rw [nilO_some]
    have hx := cell_k hc1 (i := (o.length : Int) - 1) (by omega) (by omega)
    rw [ek] at hx ⊢
    generalize o.getD (o.length - 1) 0 = x at hx hlast hlt hR ⊢
    refine ⟨_, hx, rfl, bcET (decide_eq_true hlast) ?_⟩
    rw [decide_eq_true hlast]
    refine ldAt (rdM.le l1) rfl hlast (by omega) fun a => callB (refLate_e w0 m1 (cAt l x)) ?_
    cases hlate : lateP (cAt l x) with
    | true =>
      rw [hlate, if_pos rfl] at hR
      refine bcT ⟨rfl, ?_⟩
      refine snocI l1 o1 n1 (by omega) (-1) (K := fun A n c m11 => _) ?_
      intro B' c' M6 l6 o6 n6
      exact ret B' c' M6 _ hR.symm l6 o6 n6
    | false =>
      rw [hlate, if_neg (by simp)] at hR
      exact bcF (ret _ _ m1 _ hR.symm l1 o1 n1)
  | true =>
    rw [hg, if_neg (by simp)] at hR
    have etk : (l.take (l.length - 1)).length = l.length - 1 - 0 := by rw [List.length_take]; omega
    have rs : Reads M 5 (if c = 0 then A else Option.map (fun x => Addr.add x (0 * 5)) A) (l.length - 1 - 0) (insCells (l.take (l.length - 1))) := by
      have := rdM.insSlice 0 (l.length - 1) (by omega) (by omega) hc
      rwa [List.drop_zero, Nat.sub_zero] at this
    refine bcF ?_
    rw [show ((l.length : Int) - 1).toNat = l.length - 1 by omega]
    refine ⟨by omega, by omega, by omega, ?_⟩
    have hsp := refOrder_spec w0 M (if c = 0 then A else Option.map (fun x => Addr.add x (0 * 5)) A) (c - 0) (l.take (l.length - 1)) (by omega) (by rw [etk]; exact rs)
    rw [etk] at hsp
    refine CallsA.mono hsp ?_
    rintro r m1 ⟨⟨A1, c1, rfl, o1, n1⟩, l1⟩
    have hol := ordP_len (l.take (l.length - 1))
    have hin : ∀ x ∈ ordP (l.take (l.length - 1)), x = -1 ∨ (0 ≤ x ∧ x < l.length) := fun x hx => by
      have := ordP_in (l.take (l.length - 1)) x hx
      rw [etk] at this; omega
    have hlast : 0 < (ordP (l.take (l.length - 1))).length → 0 ≤ (ordP (l.take (l.length - 1))).getD ((ordP (l.take (l.length - 1))).length - 1) 0 := fun h => ordP_last _ (last_get h)
    rw [etk] at hol
    generalize ordP (l.take (l.length - 1)) = o at hR o1 hol hin hlast ⊢
    have wo : IntKind.wrap .i64 ((o.length : Int) - 1) = (o.length : Int) - 1 := wrap_s (by omega) (by omega)
    have ek : o.length ≠ 0 → ((o.length : Int) - 1).toNat = o.length - 1 := fun h => by omega
    have dec : ∀ (m2 : AM) (σ : Sg) (t : Bool), m1.le m2 → (t = true ↔ (o ≠ [] ∧ slotOk l o last = true)) → σ 0 = .slice A l.length c → σ 3 = .int .i64 ((l.length : Int) - 1) → σ 6 = .slice A1 o.length c1 → σ 7 = .int .i64 ((o.length : Int) - 1) → σ 89 = .bool t → (vcS Try.prog w0 qs38 (sub c38 [1, 1, 1, 1, 1, 1, 0, 1]) σ m2 (thenS (fun σ m2 => vcS Try.prog w0 qs38 (sub c38 [1, 1, 1, 1, 1, 1, 1]) σ m2 (retQ Try.prog Try.f38 R)) (retQ Try.prog Try.f38 R))) := by
      intro m2 σ t l2 ht h0 h3 h4 h7 h8
      refine refLayDec w0 M m2 σ (by omega) hpos rdM p7 hin (by omega) (AM.le_trans l1 l2) (o1.le l2) n1 t (fun h => ?_) (fun A' c' m' q1 q2 q3 => ret A' c' m' _ ?_ q1 q2 q3) h0 h3 h4 h7 h8
      · have := (ht.1 h).1
        cases o with
        | nil => exact absurd rfl this
        | cons => simp
      · rw [← hR]
        unfold layG
        cases t with
        | true => rw [if_pos (ht.1 rfl), if_pos rfl]
        | false => rw [if_neg (fun h => by have := ht.2 h; cases this), if_neg (by simp)]
    refine ⟨_, _, _, rfl, ?_⟩
    rw [wo]
    refine ⟨rfl, rfl, bcP (fun h0 => ?_) (fun h0 => ?_)⟩
    · have hop : 0 < o.length := by omega
      have hon : o ≠ [] := fun e => by rw [e] at hop; simp at hop
      have hlast := hlast hop
      have hmem : o.getD (o.length - 1) 0 ∈ o := by simp [List.getD, show o.length - 1 < o.length by omega]
      have hlt := hin _ hmem
      have ek := ek (by omega)
      refine ⟨⟨by omega, by omega⟩, ?_⟩
      obtain ⟨a1, hA1, hc1⟩ := o1.ex hop
      subst hA1
      rw [nilO_some]
      have hx := cell_k hc1 (i := (o.length : Int) - 1) (by omega) (by omega)
      rw [ek] at hx ⊢
      have hso : slotOk l o last = (!lateP (cAt l (o.getD (o.length - 1) 0)) && (farP (cAt l (o.getD (o.length - 1) 0)) last == 0) && clearP l (o.take (o.length - 1)) last ((o.length : Int) - 1)) := rfl
      generalize o.getD (o.length - 1) 0 = x at hx hlast hlt hso ⊢
      have rd1 := rdM.le l1
      refine ⟨_, hx, ldAt rd1 rfl hlast (by omega) fun a => callB (refLate_e w0 m1 (cAt l x)) ?_⟩
      rw [decide_eq_true h0]
      cases hlate : lateP (cAt l x) with
      | true =>
        rw [hlate] at hso
        exact bcF ⟨rfl, rfl, dec m1 _ false (AM.le_refl _) ⟨(fun h => by cases h), fun h => by rw [hso] at h; simp at h⟩ rfl rfl rfl rfl rfl⟩
      | false =>
        rw [hlate] at hso
        refine bcT ⟨⟨by omega, by omega⟩, ?_⟩
        rw [nilO_some]
        rw [show l.length - 1 = ((l.length : Int) - 1).toNat by omega]
        refine ⟨_, hx, ldAt rd1 rfl hlast (by omega) fun a => ldAt rd1 rfl (by omega) (by omega) fun a => ?_⟩
        rw [p7]
        refine callI (refFar_e w0 m1 (cAt l x) last) ⟨rfl, ?_⟩
        cases hfar : (farP (cAt l x) last == 0) with
        | false =>
          rw [hfar] at hso
          exact bcF ⟨rfl, dec m1 _ false (AM.le_refl _) ⟨(fun h => by cases h), fun h => by rw [hso] at h; simp at h⟩ rfl rfl rfl rfl rfl⟩
        | true =>
          rw [hfar] at hso
          have hcap := o1.2.1
          have rp := reads_intPre o1.reads (o.length - 1) (by omega) hcap
          refine bcT ⟨by omega, by omega, by omega, ldAt rd1 rfl (by omega) (by omega) fun a => ?_⟩
          rw [p7]
          refine callB (refClear_e w0 m1 A c l (by omega) rd1 _ _ _ (o.take (o.length - 1)) (by rw [List.length_take]; omega) (by rw [List.length_take]; omega) ?_ rp last ((o.length : Int) - 1) (by omega) (by omega)) ?_
          · exact ord_lt (fun y hy => hin y (List.mem_of_mem_take hy)) (Nat.le_refl _) hpos
          · have hcl : slotOk l o last = clearP l (o.take (o.length - 1)) last ((o.length : Int) - 1) := by rw [hso]; simp
            refine dec m1 _ _ (AM.le_refl _) ⟨fun h => ⟨hon, by rw [hcl]; exact h⟩, fun h => by rw [hcl] at h; exact h.2⟩ rfl rfl rfl rfl rfl
    · have hon : o = [] := List.eq_nil_of_length_eq_zero (by omega)
      refine ⟨decide_eq_false h0, rfl, rfl, dec m1 _ false (AM.le_refl _) ⟨(fun h => by cases h), fun h => absurd hon h.1⟩ rfl rfl rfl rfl rfl⟩
end Go.Proofs.Ytkfemiloehkmhaa.S

