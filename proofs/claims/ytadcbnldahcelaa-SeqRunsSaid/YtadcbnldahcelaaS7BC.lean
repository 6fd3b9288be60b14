/- Ytadcbnldahcelaa: a text of our own, by an AI agent: S7BC -/
import Derived.Test.YtadcbnldahcelaaF9C
import Derived.Test.YtadcbnldahcelaaMgC
import Derived.Test.YtadcbnldahcelaaVR7C
import Derived.Test.YtadcbnldahcelaaMeC
import Derived.Test.YtadcbnldahcelaaMfC
import Derived.Test.YtadcbnldahcelaaL7mC
import Derived.Test.YtadcbnldahcelaaCore12
import Derived.Test.YtadcbnldahcelaaL7fC

set_option linter.unusedSimpArgs false
set_option linter.unusedVariables false
set_option maxRecDepth 100000
namespace Go.Proofs.Ytadcbnldahcelaa.S
open Go Go.RowKit Go.Alog Go.Proofs.Ytadcbnldahcelaa.T Go.Proofs.Ytadcbnldahcelaa.V

theorem reckP_some {i : Ins} (h : 1 ≤ i.op ∧ i.op ≤ 11) (h45 : ¬ (i.op = 4 ∨ i.op = 5)) (b c : Int) : ∃ x, reckP i b c = some x := by
  cases hk : reckP i b c with
  | some x => exact ⟨x, rfl⟩
  | none =>
    exfalso
    unfold reckP at hk
    by_cases c1 : i.op = 1
    · rw [if_pos c1] at hk; cases hk
    rw [if_neg c1] at hk
    by_cases c2 : i.op = 2
    · rw [if_pos c2] at hk; cases hk
    rw [if_neg c2] at hk
    by_cases c3 : i.op = 3
    · rw [if_pos c3] at hk; cases hk
    rw [if_neg c3] at hk
    by_cases c6 : i.op = 6
    · rw [if_pos c6] at hk; cases hk
    rw [if_neg c6] at hk
    by_cases c7 : i.op = 7
    · rw [if_pos c7] at hk; cases hk
    rw [if_neg c7] at hk
    by_cases c8 : i.op = 8
    · rw [if_pos c8] at hk; cases hk
    rw [if_neg c8] at hk
    by_cases c9 : i.op = 9
    · rw [if_pos c9] at hk; cases hk
    rw [if_neg c9] at hk
    by_cases c10 : i.op = 10
    · rw [if_pos c10] at hk; cases hk
    rw [if_neg c10] at hk
    by_cases c11 : i.op = 11
    · rw [if_pos c11] at hk; cases hk
    · omega
theorem reckP_none {i : Ins} (h45 : i.op = 4 ∨ i.op = 5) (b c : Int) : reckP i b c = none := by
  unfold reckP
  rw [if_neg (by omega), if_neg (by omega), if_neg (by omega), if_neg (by omega), if_neg (by omega), if_neg (by omega), if_neg (by omega), if_neg (by omega), if_neg (by omega)]
theorem tmodW (b c : Int) : w32 ((w32 b).tmod (w32 c)) = (w32 b).tmod (w32 c) := by
  apply w32_id
  have hb := w32_le b
  generalize w32 b = x at *
  generalize w32 c = y at *
  have hn : (x.tmod y).natAbs ≤ x.natAbs := by rw [Int.natAbs_tmod]; exact Nat.mod_le _ _
  rcases Int.le_total 0 x with h | h
  · have h1 := Int.tmod_nonneg y h
    omega
  · have e : x.tmod y = -((-x).tmod y) := by rw [Int.neg_tmod]; omega
    have h1 := Int.tmod_nonneg y (show 0 ≤ -x by omega)
    omega
/-- The document's value is the program's. -/
theorem reck_rel {i : Ins} {b c v : Int} {ok : Bool} (hr : rightR i = true) (h : 1 ≤ i.op ∧ i.op ≤ 11) (hv : valRel i (w32 b) (w32 c) v ok) :
    (ok = false → reckonP i b c = (0, 4, true)) ∧ (ok = true → (reckonP i b c).2 = (0, true) ∧ w32 (reckonP i b c).1 = w32 v) := by
  unfold valRel at hv
  rw [if_pos h] at hv
  unfold reckonP
  rw [if_neg (by rw [hr]; exact Bool.noConfusion)]
  by_cases h45 : i.op = 4 ∨ i.op = 5
  · rw [reckP_none h45]
    simp only
    rw [if_neg (by omega)]
    by_cases hc : w32 c = 0
    · rw [if_pos ⟨h45, hc⟩] at hv
      rw [if_pos hc]
      exact ⟨fun _ => rfl, fun hok => (by rw [hv.1] at hok; cases hok)⟩
    · rw [if_neg (fun hh => hc hh.2)] at hv
      unfold reckV at hv
      rw [reckP_none h45] at hv
      simp only at hv
      rw [if_neg hc]
      refine ⟨fun hok => (by rw [hv.1] at hok; cases hok), fun _ => ?_⟩
      by_cases h5 : i.op = 5
      · rw [if_pos h5] at hv ⊢
        exact ⟨rfl, by rw [hv.2]; exact tmodW b c⟩
      · rw [if_neg h5] at hv ⊢
        exact ⟨rfl, by rw [hv.2]; exact w32_w32 _⟩
  · obtain ⟨x, hx⟩ := reckP_some h h45 (w32 b) (w32 c)
    rw [hx]
    rw [if_neg (fun hh => h45 hh.1)] at hv
    unfold reckV at hv
    rw [hx] at hv
    exact ⟨fun hok => (by rw [hv.1] at hok; cases hok), fun _ => ⟨rfl, by rw [hv.2]; exact w32_w32 _⟩⟩
theorem reck_zero {i : Ins} {b c : Int} (h : ¬ (1 ≤ i.op ∧ i.op ≤ 11)) : reckonP i b c = (0, 0, false) := by
  unfold reckonP
  split
  · rfl
  have : reckP i (w32 b) (w32 c) = none := by
    unfold reckP
    rw [if_neg (by omega), if_neg (by omega), if_neg (by omega), if_neg (by omega), if_neg (by omega), if_neg (by omega), if_neg (by omega), if_neg (by omega), if_neg (by omega)]
  rw [this]
  simp only
  rw [if_pos (by omega)]

/-! The document's machine, as the heap holds it. -/
structure RA where
  Ar : Option Addr
  Am : Option Addr
  Ao : Option Addr
  cr : Nat
  cm : Nat
  co : Nat
def RA.fp (q : RA) (g : Nat) : List Nat := g :: (obl q.Ar ++ (obl q.Am ++ obl q.Ao))
def rfL (q : RA) (s : MS) (rd t : Int) : Array Value := #[.slice q.Ar s.regs.length q.cr, .slice q.Am s.mem.length q.cm, .int .i64 s.at_, .int .i64 rd, .slice q.Ao s.out.length q.co, .int .i64 t]
structure RfR (m0 m : AM) (B g : Nat) (s : MS) (rd t : Int) (q : RA) : Prop where
  L : m0.le m
  hg : m g = some (.cells (rfL q s rd t) 68)
  hB : B ≤ g
  hl : s.regs.length = 32
  hr : Own m B 3 1 q.Ar s.regs.length q.cr (intCells .i64 s.regs)
  hm : Own m B 3 1 q.Am s.mem.length q.cm (intCells .i64 s.mem)
  ho : Own m B 3 1 q.Ao s.out.length q.co (intCells .i64 s.out)
  drm : ∀ k ∈ obl q.Ar, k ∉ obl q.Am
  dro : ∀ k ∈ obl q.Ar, k ∉ obl q.Ao
  dmo : ∀ k ∈ obl q.Am, k ∉ obl q.Ao
  f : ∀ k ∈ q.fp g, m0 k = none
def RPost (m0 m : AM) (B g : Nat) (q : RA) (s : MS) (rd t : Int) (m' : AM) : Prop := Fr m m' (q.fp g) ∧ ∃ q', RfR m0 m' B g s rd t q' ∧ ∀ k ∈ q'.fp g, k ∈ q.fp g ∨ m k = none

section
variable {m0 m m' M : AM} {B g : Nat} {s s' : MS} {rd t rd' t' : Int} {q : RA}
theorem RfR.le (h : RfR m0 m B g s rd t q) (hl : m.le m') : RfR m0 m' B g s rd t q := ⟨AM.le_trans h.L hl, hl _ _ h.hg, h.hB, h.hl, h.hr.le hl, h.hm.le hl, h.ho.le hl, h.drm, h.dro, h.dmo, h.f⟩
theorem RPost.self (h : RfR m0 m B g s rd t q) (hl : m.le m') : RPost m0 m B g q s rd t m' := ⟨Fr.of_le hl _, q, h.le hl, fun _ h => .inl h⟩
theorem RPost.pre (hp : RPost m0 M B g q s rd t m') (hl : m.le M) : RPost m0 m B g q s rd t m' := by
  obtain ⟨hf, q', h', hk⟩ := hp
  exact ⟨(Fr.of_le hl _).trans hf fun _ h => .inl h, q', h', fun k hk' => (hk k hk').imp id fun h => AM.le_none hl h⟩
theorem RPost.trans {q' : RA} (hf : Fr m M (q.fp g)) (hk : ∀ k ∈ q'.fp g, k ∈ q.fp g ∨ m k = none) (hp : RPost m0 M B g q' s rd t m') : RPost m0 m B g q s rd t m' := by
  obtain ⟨hf2, q2, h2, hk2⟩ := hp
  refine ⟨hf.trans hf2 hk, q2, h2, fun k hk' => ?_⟩
  rcases hk2 k hk' with h | h
  · exact hk k h
  · by_cases hin : k ∈ q.fp g
    · exact .inl hin
    · cases hm : m k with
      | none => exact .inr rfl
      | some o => rw [hf k o hm hin] at h; cases h
theorem rgfp : g ∈ q.fp g := by simp [RA.fp]
theorem upd_le0 {b : Nat} {o : Obj} (h : m0.le m) (hb : m0 b = none) : m0.le (m.upd b o) := fun x o' hx => by
  have : x ≠ b := fun e => by subst e; rw [hb] at hx; cases hx
  rw [upd_get_ne this]; exact h x o' hx
/-- The record is written. -/
theorem RfR.put (h : RfR m0 m B g s rd t q) (hr : s'.regs = s.regs) (hm : s'.mem = s.mem) (ho : s'.out = s.out) : RPost m0 m B g q s' rd' t' (m.upd g (.cells (rfL q s' rd' t') 68)) := by
  refine ⟨Fr.upd (Fr.refl _ _) (.inl rgfp) _, q, ⟨upd_le0 h.L (h.f g rgfp), upd_get_same, h.hB, by rw [hr]; exact h.hl, ?_, ?_, ?_, h.drm, h.dro, h.dmo, h.f⟩, fun _ h => .inl h⟩
  · rw [hr]; exact h.hr.upd (h.hr.ne_type h.hg (by decide))
  · rw [hm]; exact h.hm.upd (h.hm.ne_type h.hg (by decide))
  · rw [ho]; exact h.ho.upd (h.ho.ne_type h.hg (by decide))
theorem RfR.putAt (h : RfR m0 m B g s rd t q) (v : Int) {K : AM → Prop} (hK : ∀ m', RPost m0 m B g q { s with at_ := v } rd t m' → K m') : StC B m ⟨g, 2, none⟩ (.int .i64 v) K :=
  StC_own h.hg h.hB (by simp [rfL]) (hK _ (h.put (s' := { s with at_ := v }) rfl rfl rfl))
theorem RfR.putRd (h : RfR m0 m B g s rd t q) (v : Int) (i' : List Int) {K : AM → Prop} (hK : ∀ m', RPost m0 m B g q { s with inp := i' } v t m' → K m') : StC B m ⟨g, 3, none⟩ (.int .i64 v) K :=
  StC_own h.hg h.hB (by simp [rfL]) (hK _ (h.put (s' := { s with inp := i' }) rfl rfl rfl))
theorem RfR.putT (h : RfR m0 m B g s rd t q) (v : Int) {K : AM → Prop} (hK : ∀ m', RPost m0 m B g q s rd v m' → K m') : StC B m ⟨g, 5, none⟩ (.int .i64 v) K :=
  StC_own h.hg h.hB (by simp [rfL]) (hK _ (h.put (s' := s) rfl rfl rfl))
/-- A register is written. -/
theorem RfR.setReg (h : RfR m0 m B g s rd t q) {ad : Addr} (hA : q.Ar = some ad) {k : Nat} (hk : k < s.regs.length) (v : Int) {K : AM → Prop} (hK : ∀ m', RPost m0 m B g q { s with regs := s.regs.set k v } rd t m' → K m') : StC B m (ad.add (k * 1)) (.int .i64 v) K := by
  have hw := h.hr
  rw [intCells_flat, hA] at hw
  refine Own.storeRow (f := fun x => [Value.int .i64 x]) (sz := 1) (fun _ => rfl) hw hk v (K := K) (fun gA cur hA' ho => ?_)
  subst hA'
  have hgin : gA ∈ obl q.Ar := by simp [hA, obl]
  have hgf : gA ∈ q.fp g := by simp [RA.fp, hgin]
  have hgne : g ≠ gA := fun e => by subst e; exact h.hr.ne_type h.hg (by decide) 0 hA
  refine hK _ ⟨Fr.upd (Fr.refl _ _) (.inl hgf) _, q, ⟨upd_le0 h.L (h.f gA hgf), ?_, h.hB, by simp [h.hl], ?_, ?_, ?_, h.drm, h.dro, h.dmo, h.f⟩, fun _ h => .inl h⟩
  · rw [upd_get_ne hgne, h.hg]; simp [rfL]
  · rw [intCells_flat, hA]; exact ho
  · exact h.hm.upd fun off e => h.drm gA hgin (by rw [e]; simp [obl])
  · exact h.ho.upd fun off e => h.dro gA hgin (by rw [e]; simp [obl])
/-- A cell is written. -/
theorem RfR.setMem (h : RfR m0 m B g s rd t q) {ad : Addr} (hA : q.Am = some ad) {k : Nat} (hk : k < s.mem.length) (v : Int) {K : AM → Prop} (hK : ∀ m', RPost m0 m B g q { s with mem := s.mem.set k v } rd t m' → K m') : StC B m (ad.add (k * 1)) (.int .i64 v) K := by
  have hw := h.hm
  rw [intCells_flat, hA] at hw
  refine Own.storeRow (f := fun x => [Value.int .i64 x]) (sz := 1) (fun _ => rfl) hw hk v (K := K) (fun gA cur hA' ho => ?_)
  subst hA'
  have hgin : gA ∈ obl q.Am := by simp [hA, obl]
  have hgf : gA ∈ q.fp g := by simp [RA.fp, hgin]
  have hgne : g ≠ gA := fun e => by subst e; exact h.hm.ne_type h.hg (by decide) 0 hA
  refine hK _ ⟨Fr.upd (Fr.refl _ _) (.inl hgf) _, q, ⟨upd_le0 h.L (h.f gA hgf), ?_, h.hB, h.hl, ?_, ?_, ?_, h.drm, h.dro, h.dmo, h.f⟩, fun _ h => .inl h⟩
  · rw [upd_get_ne hgne, h.hg]; simp [rfL]
  · exact h.hr.upd fun off e => h.drm gA (by rw [e]; simp [obl]) hgin
  · rw [intCells_flat, hA]; exact ho
  · exact h.ho.upd fun off e => h.dmo gA hgin (by rw [e]; simp [obl])
theorem RfR.cells (h : RfR m0 m B g s rd t q) : m.cell ⟨g, 0, none⟩ = some (.slice q.Ar s.regs.length q.cr) ∧ m.cell ⟨g, 1, none⟩ = some (.slice q.Am s.mem.length q.cm) ∧ m.cell ⟨g, 2, none⟩ = some (.int .i64 s.at_) ∧ m.cell ⟨g, 3, none⟩ = some (.int .i64 rd) ∧ m.cell ⟨g, 4, none⟩ = some (.slice q.Ao s.out.length q.co) ∧ m.cell ⟨g, 5, none⟩ = some (.int .i64 t) :=
  ⟨cel h.hg rfl, cel h.hg rfl, cel h.hg rfl, cel h.hg rfl, cel h.hg rfl, cel h.hg rfl⟩
theorem RfR.reg (h : RfR m0 m B g s rd t q) {n : Int} (hn : 0 ≤ n ∧ n < 32) : ∃ ad, q.Ar = some ad ∧ m.cell (ad.add (n.toNat * 1)) = some (.int .i64 (regOf s.regs n)) := by
  obtain ⟨ad, hA, hc⟩ := h.hr.ex (by rw [h.hl]; decide)
  exact ⟨ad, hA, cell_k hc hn.1 (by rw [h.hl]; omega)⟩
/-- A block of another kind is none of its. -/
theorem RfR.notin (h : RfR m0 m B g s rd t q) {b : Nat} {c : Array Value} {e : TypeId} (hb : m b = some (.cells c e)) (t1 : e ≠ 68) (t2 : e ≠ 3) : b ∉ q.fp g := by
  intro hin
  simp only [RA.fp, List.mem_cons, List.mem_append] at hin
  rcases hin with rfl | hin | hin | hin
  · rw [h.hg] at hb; injection hb with hb; injection hb with _ h2; exact t1 h2.symm
  · exact h.hr.obl_ne hb t2 hin
  · exact h.hm.obl_ne hb t2 hin
  · exact h.ho.obl_ne hb t2 hin
end

/-- A number is put out. -/
theorem RfR.putOut {w0 : World} {m0 m : AM} {g : Nat} {s : MS} {rd t : Int} {q : RA} (h : RfR m0 m w0.heap.size g s rd t q) (v : Int) (hlen : s.out.length ≤ 100000) {K : Nat → Option Addr → Nat → Nat → AM → Prop}
    (hK : ∀ b A n c m', RPost m0 m w0.heap.size g q { s with out := s.out ++ [v] } rd t m' → K b A n c m') :
    ∀ b : Nat, w0.heap.size ≤ b → m b = none → let m1 := AM.upd m b (.cells #[.int .i64 v] 3);
      awp Try.prog w0.heap.size (Builtin.append_ #[23, 23] 23 #[.slice q.Ao s.out.length q.co, .slice (some ⟨b, 0, none⟩) 1 1]) m1 fun v106 m107 => ∃ (A : Option Addr) (n c : Nat), v106 = .slice A n c ∧ StC w0.heap.size m107 ⟨g, 4, none⟩ (.slice A n c) (K b A n c) := by
  intro b hb hmb m1
  have lb : m.le m1 := le_new hmb _
  have hrd : Reads m1 1 (some ⟨b, 0, none⟩) 1 [Value.int .i64 v] := Reads.lit rfl
  clear_value m1
  have h1 := h.le lb
  have hnew : ∀ k ∈ obl q.Ao, m0 k = none := fun k hk => h.f k (by simp [RA.fp, hk])
  refine awp_append_loc (m0 := m0) el23 h1.L h1.ho hnew hrd (by intro u hu; simp at hu; subst hu; rfl) (by omega) (by omega) (fun A' c' m2 l2 f2 o2 n2 n3 => ?_)
  refine ⟨A', s.out.length + 1, c', rfl, ?_⟩
  have hgn : g ∉ obl q.Ao := h1.ho.obl_ne h1.hg (by decide)
  have hg2 : m2 g = some (.cells (rfL q s rd t) 68) := f2 _ _ h1.hg hgn
  have eo : intCells .i64 s.out ++ [Value.int .i64 v] = intCells .i64 (s.out ++ [v]) := by simp [intCells]
  rw [eo] at o2
  have dis : ∀ {A : Option Addr} {n c : Nat} {xs : List Value}, Own m1 w0.heap.size 3 1 A n c xs → (∀ k ∈ obl A, k ∉ obl q.Ao) → Own m2 w0.heap.size 3 1 A n c xs ∧ ∀ k ∈ obl A, k ∉ obl A' := by
    intro A n c xs ho hd
    refine ⟨ho.fr f2 hd, fun k hk hin => ?_⟩
    rcases n3 k hin with h' | h'
    · exact hd k hk h'
    · obtain ⟨_, cur, hc⟩ := ho.obl_some hk
      rw [hc] at h'; cases h'
  obtain ⟨hr2, dr2⟩ := dis h1.hr h1.dro
  obtain ⟨hm2, dm2⟩ := dis h1.hm h1.dmo
  refine StC_own hg2 h.hB (by simp [rfL]) (hK b _ _ _ _ ?_)
  have he : (rfL q s rd t).setIfInBounds 4 (.slice A' (s.out.length + 1) c') = rfL { q with Ao := A', co := c' } { s with out := s.out ++ [v] } rd t := by
    simp [rfL]
  rw [he]
  have fpq : ∀ k ∈ RA.fp { q with Ao := A', co := c' } g, k ∈ q.fp g ∨ m k = none := by
    intro k hk
    simp only [RA.fp, List.mem_cons, List.mem_append] at hk ⊢
    rcases hk with hk | hk | hk | hk
    · exact .inl (.inl hk)
    · exact .inl (.inr (.inl hk))
    · exact .inl (.inr (.inr (.inl hk)))
    · rcases n3 k hk with h' | h'
      · exact .inl (.inr (.inr (.inr h')))
      · exact .inr (AM.le_none lb h')
  refine ⟨?_, { q with Ao := A', co := c' }, ⟨upd_le0 l2 (h.f g rgfp), upd_get_same, h.hB, h.hl, hr2.upd (hr2.ne_type hg2 (by decide)), hm2.upd (hm2.ne_type hg2 (by decide)), ?_, h.drm, dr2, dm2, ?_⟩, fpq⟩
  · refine ((Fr.of_le lb _).trans (f2.mono fun k hk => ?_) fun _ h => .inl h).trans (Fr.upd (Fr.refl _ _) (.inl rgfp) _) fun _ h => .inl h
    simp [RA.fp, hk]
  · have h9 := o2.upd (o2.ne_type hg2 (by decide)) (o := .cells (rfL { q with Ao := A', co := c' } { s with out := s.out ++ [v] } rd t) 68)
    simpa using h9
  · intro k hk
    simp only [RA.fp, List.mem_cons, List.mem_append] at hk
    rcases hk with rfl | hk | hk | hk
    · exact h.f _ rgfp
    · exact h.f k (by simp [RA.fp, hk])
    · exact h.f k (by simp [RA.fp, hk])
    · exact n2 k hk

theorem set_ref (w0 : World) (m0 m : AM) (g : Nat) (s : MS) (rd t : Int) (q : RA) (n v : Int) (hn : 0 ≤ n ∧ n < 32) (h : RfR m0 m w0.heap.size g s rd t q) :
    CallsA Try.prog w0 54 #[.pointer (some ⟨g, 0, none⟩), .int .i64 n, .int .i64 v] m (fun r m' => r = .tuple #[] ∧ RPost m0 m w0.heap.size g q { s with regs := setR s.regs n v } rd t m') := by
  refine cf54 w0 m g n v _ ⟨rfl, bcI (fun h0 => ?_) fun h0 => ?_⟩
  · have h0 : n ≠ 0 := by simpa using h0
    have eS : setR s.regs n v = s.regs.set n.toNat (w32 v) := by unfold setR; rw [if_neg h0]
    rw [eS]
    obtain ⟨ad, hA, _⟩ := h.reg hn
    have hk : n.toNat < s.regs.length := by rw [h.hl]; omega
    have hn2 : 0 ≤ n ∧ n < ((s.regs.length : Nat) : Int) := ⟨hn.1, by rw [h.hl]; omega⟩
    refine vr54_10 w0 m _ _ g n v (fun m' => RPost m0 m w0.heap.size g q { s with regs := s.regs.set n.toNat (w32 v) } rd t m') rfl rfl rfl ⟨?_, ?_⟩ ?_
    · refine ⟨_, _, _, h.cells.1, ?_⟩
      refine CallsA.mono (refWrap w0 m v) ?_
      rintro r m2 ⟨rfl, h2⟩
      replace h2 := h2.symm; subst h2
      refine ⟨_, rfl, hn2, ?_⟩
      rw [hA, nilO_some]
      exact h.setReg hA hk (w32 v) fun m' hp => ⟨rfl, hp⟩
    · refine CallsA.mono (refWrap w0 m v) ?_
      rintro r m2 ⟨rfl, h2⟩
      replace h2 := h2.symm; subst h2
      refine ⟨_, rfl, _, _, _, h.cells.1, hn2, ?_⟩
      rw [hA, nilO_some]
      exact h.setReg hA hk (w32 v) fun m' hp => ⟨rfl, hp⟩
    · intro σ m' hp
      exact retP_of ⟨rfl, hp⟩
  · have h0 : n = 0 := by simpa using h0
    have eS : setR s.regs n v = s.regs := by unfold setR; rw [if_pos h0]
    rw [eS]
    exact retP_of ⟨rfl, RPost.self h (AM.le_refl _)⟩

/-- What acts, by the document: what is read more, by what it stops, the number. -/
def effP (s : MS) (i : Ins) (a b four : Int) : MS × Int × Int × Int :=
  let ad := w32 (b + i.imm)
  if i.op = 12 then (if 0 ≤ ad ∧ ad < s.mem.length then (s, 0, 0, s.mem.getD ad.toNat 0) else (s, 0, 3, 0))
  else if i.op = 13 then (if 0 ≤ ad ∧ ad < s.mem.length then ({ s with mem := s.mem.set ad.toNat a }, 0, 0, 0) else (s, 0, 3, 0))
  else if i.op = 14 then (if a < 0 ∨ a ≥ i.imm then (s, 0, (if i.b = 0 then 5 else i.b), 0) else (s, 0, 0, 0))
  else if i.op = 20 then (if i.imm = 0 then (s, 0, 1, 0) else if i.imm = 1 then (match s.inp with
      | [] => (s, 0, 6, 0)
      | x :: r => ({ s with inp := r }, 1, 0, w32 x))
    else if s.out.length > 9999 then (s, 0, 9, 0) else ({ s with out := s.out ++ [four] }, 0, 0, 0))
  else (s, 0, 0, 0)

theorem effect_spec (w0 : World) (m0 m : AM) (g : Nat) (s : MS) (rd t : Int) (q : RA) (i : Ins) (a b four : Int) (Ai : Option Addr) (ni ci : Nat) (inp0 : List Int) (hin : ni = inp0.length) (hi : Reads m0 1 Ai ni (intCells .i64 inp0)) (hbig : ni ≤ 1000000) (hrd : 0 ≤ rd ∧ rd ≤ ni ∧ s.inp = inp0.drop rd.toNat) (hlen : s.out.length ≤ 100000) (h : RfR m0 m w0.heap.size g s rd t q) :
    CallsA Try.prog w0 53 #[.pointer (some ⟨g, 0, none⟩), i.val, .int .i64 a, .int .i64 b, .int .i64 four, .slice Ai ni ci] m (fun r m' => r = .tuple #[.int .i64 (effP s i a b four).2.2.1, .int .i64 (effP s i a b four).2.2.2] ∧ RPost m0 m w0.heap.size g q (effP s i a b four).1 (rd + (effP s i a b four).2.1) t m') := by
  generalize hR : (fun (r : Value) (m' : AM) => r = .tuple #[.int .i64 (effP s i a b four).2.2.1, .int .i64 (effP s i a b four).2.2.2] ∧ RPost m0 m w0.heap.size g q (effP s i a b four).1 (rd + (effP s i a b four).2.1) t m') = R
  refine cf53 w0 m g _ _ _ _ _ a b four Ai ni ci R ?_
  intro b1 hb1 hm1 M
  have l1 : m.le M := le_new hm1 _
  have p1 : M b1 = some (.cells i.cells.toArray 34) := upd_get_same
  clear_value M
  have h1 := h.le l1
  refine ⟨_, cel p1 rfl, rfl, ?_⟩
  refine CallsA.mono (refWrap w0 M _) ?_
  rintro r M' ⟨rfl, hM⟩
  replace hM := hM.symm; subst hM
  refine ⟨_, rfl, rfl, ?_⟩
  rw [w32_w64]
  have ret : ∀ (e : MS × Int × Int × Int) (m' : AM), effP s i a b four = e → RPost m0 M w0.heap.size g q e.1 (rd + e.2.1) t m' → RetP R (.tuple #[.int .i64 e.2.2.1, .int .i64 e.2.2.2]) m' := by
    intro e m' he hp
    refine retP_of ?_
    rw [← hR, he]
    exact ⟨rfl, hp.pre l1⟩
  have self : RPost m0 M w0.heap.size g q s (rd + 0) t M := by rw [Int.add_zero]; exact RPost.self h1 (AM.le_refl _)
  generalize hAd : w32 (b + i.imm) = ad at *
  have K : ∀ (σ : Sg) (x : Bool), x = decide (0 ≤ ad ∧ ad < s.mem.length) → σ 0 = .pointer (some ⟨g, 0, none⟩) → σ 2 = .int .i64 a → σ 4 = .int .i64 four → σ 5 = .slice Ai ni ci → σ 7 = .pointer (some ⟨b1, 0, none⟩) → σ 14 = .int .i64 ad → σ 15 = .bool x → ∀ m, m = M → (vcS Try.prog w0 qs53 (sub c53 [1, 1, 1]) σ m (retQ Try.prog Try.f53 R)) := by
    intro σ x hx s0 s2 s4 s5 s7 s14 s15 m' hm'
    subst hm'
    refine vk53_111 w0 m' σ R g a four Ai ni ci b1 ad x s0 s2 s4 s5 s7 s14 s15 ?_
    refine ⟨_, cel p1 rfl, rfl, bcI (fun c12 => ?_) fun c12 => ⟨rfl, bcI (fun c13 => ?_) fun c13 => ⟨rfl, bcI (fun c14 => ?_) fun c14 => ⟨rfl, bcI (fun c20 => ?_) fun c20 => ?_⟩⟩⟩⟩
    · have e12 : i.op = 12 := by simpa using c12
      refine bcI (fun hx0 => ?_) fun hx0 => ?_
      · have : ¬ (0 ≤ ad ∧ ad < s.mem.length) := by
          have hx1 : x = false := by simpa using hx0
          rw [hx] at hx1
          exact of_decide_eq_false hx1
        exact ret (s, 0, 3, 0) _ (by unfold effP; simp only [hAd]; rw [if_pos e12, if_neg this]) self
      · have hh : 0 ≤ ad ∧ ad < s.mem.length := by
          have hx1 : x = true := by simpa using hx0
          rw [hx] at hx1
          exact of_decide_eq_true hx1
        obtain ⟨am, hA, hc⟩ := h1.hm.ex (by omega)
        refine ⟨_, _, _, h1.cells.2.1, hh, ?_⟩
        rw [hA, nilO_some]
        refine ⟨_, cell_k hc hh.1 hh.2, ?_⟩
        exact ret (s, 0, 0, s.mem.getD ad.toNat 0) _ (by unfold effP; simp only [hAd]; rw [if_pos e12, if_pos hh]) self
    · have n12 : i.op ≠ 12 := by simpa using c12
      have e13 : i.op = 13 := by simpa using c13
      refine bcI (fun hx0 => ?_) fun hx0 => ?_
      · have : ¬ (0 ≤ ad ∧ ad < s.mem.length) := by
          have hx1 : x = false := by simpa using hx0
          rw [hx] at hx1
          exact of_decide_eq_false hx1
        exact ret (s, 0, 3, 0) _ (by unfold effP; simp only [hAd]; rw [if_neg n12, if_pos e13, if_neg this]) self
      · have hh : 0 ≤ ad ∧ ad < s.mem.length := by
          have hx1 : x = true := by simpa using hx0
          rw [hx] at hx1
          exact of_decide_eq_true hx1
        obtain ⟨am, hA, hc⟩ := h1.hm.ex (by omega)
        refine ⟨_, _, _, h1.cells.2.1, hh, ?_⟩
        rw [hA, nilO_some]
        refine h1.setMem hA (by omega) a fun m2 hp => ?_
        exact ret ({ s with mem := s.mem.set ad.toNat a }, 0, 0, 0) _ (by unfold effP; simp only [hAd]; rw [if_neg n12, if_pos e13, if_pos hh]) (by rw [Int.add_zero]; exact hp)
    · have n12 : i.op ≠ 12 := by simpa using c12
      have n13 : i.op ≠ 13 := by simpa using c13
      have e14 : i.op = 14 := by simpa using c14
      have bad : (a < 0 ∨ a ≥ i.imm) → ∃ i21 : Int, m'.cell ⟨b1, 2, none⟩ = some (.int .i64 i21) ∧ IntKind.i64 = IntKind.i64 ∧ (bcase (i21 == 0) (RetP R (.tuple #[.int .i64 5, .int .i64 0]) m') (∃ i22 : Int, m'.cell ⟨b1, 2, none⟩ = some (.int .i64 i22) ∧ RetP R (.tuple #[.int .i64 i22, .int .i64 0]) m')) := by
        intro hc
        refine ⟨_, cel p1 rfl, rfl, bcI (fun hb0 => ?_) fun hb0 => ⟨_, cel p1 rfl, ?_⟩⟩
        · exact ret (s, 0, 5, 0) _ (by unfold effP; simp only [hAd]; rw [if_neg n12, if_neg n13, if_pos e14, if_pos hc, if_pos (by simpa using hb0)]) self
        · exact ret (s, 0, i.b, 0) _ (by unfold effP; simp only [hAd]; rw [if_neg n12, if_neg n13, if_pos e14, if_pos hc, if_neg (by simpa using hb0)]) self
      refine ⟨rfl, bcI (fun ha => ⟨ha, bad (.inl (of_decide_eq_true ha))⟩) fun ha => ⟨_, cel p1 rfl, rfl, bcI (fun hc => ?_) fun hc => ?_⟩⟩
      · rw [ha] at hc
        exact bad (.inr (of_decide_eq_true hc))
      · rw [ha] at hc
        have h1' := of_decide_eq_false ha
        have h2' := of_decide_eq_false hc
        exact ret (s, 0, 0, 0) _ (by unfold effP; simp only [hAd]; rw [if_neg n12, if_neg n13, if_pos e14, if_neg (fun h => h.elim h1' h2')]) self
    · have n12 : i.op ≠ 12 := by simpa using c12
      have n13 : i.op ≠ 13 := by simpa using c13
      have n14 : i.op ≠ 14 := by simpa using c14
      have e20 : i.op = 20 := by simpa using c20
      refine ⟨_, cel p1 rfl, rfl, bcI (fun d0 => ?_) fun d0 => ⟨_, cel p1 rfl, rfl, bcI (fun d1 => ?_) fun d1 => ?_⟩⟩
      · exact ret (s, 0, 1, 0) _ (by unfold effP; simp only [hAd]; rw [if_neg n12, if_neg n13, if_neg n14, if_pos e20, if_pos (by simpa using d0)]) self
      · have n0 : i.imm ≠ 0 := by simpa using d0
        have e1 : i.imm = 1 := by simpa using d1
        refine ⟨_, h1.cells.2.2.2.1, rfl, bcI (fun hge => ?_) fun hge => ?_⟩
        · have hge := of_decide_eq_true hge
          have hnil : s.inp = [] := by rw [hrd.2.2]; exact List.drop_of_length_le (by omega)
          exact ret (s, 0, 6, 0) _ (by unfold effP; simp only [hAd]; rw [if_neg n12, if_neg n13, if_neg n14, if_pos e20, if_neg n0, if_pos e1, hnil]) self
        · have hlt := of_decide_eq_false hge
          have hlt2 : rd.toNat < inp0.length := by omega
          have hcons : s.inp = inp0[rd.toNat] :: inp0.drop (rd.toNat + 1) := by rw [hrd.2.2]; exact List.drop_eq_getElem_cons hlt2
          have w1 : IntKind.wrap .i64 (rd + 1) = rd + 1 := by rw [IntKind.wrap_i64]; omega
          have w2 : IntKind.wrap .i64 (rd + 1 - 1) = rd := by rw [IntKind.wrap_i64]; omega
          refine ⟨_, h1.cells.2.2.2.1, rfl, ?_⟩
          rw [w1]
          refine h1.putRd (rd + 1) (inp0.drop (rd.toNat + 1)) fun m2 hp => ?_
          have hp' := hp
          obtain ⟨hf2, q2, h2, hk2⟩ := hp'
          refine ⟨_, h2.cells.2.2.2.1, rfl, ?_⟩
          rw [w2]
          obtain ⟨ai, hA, hc⟩ := (hi.le h2.L).ex (by omega)
          refine ⟨⟨hrd.1, by omega⟩, ?_⟩
          rw [hA, nilO_some]
          refine ⟨_, cell_k hc hrd.1 (by omega), ?_⟩
          refine CallsA.mono (refWrap w0 m2 _) ?_
          rintro r m3 ⟨rfl, hm3⟩
          replace hm3 := hm3.symm; subst hm3
          refine ⟨_, rfl, ?_⟩
          have hx : inp0.getD rd.toNat 0 = inp0[rd.toNat] := by simp [List.getD, hlt2]
          rw [hx]
          exact ret ({ s with inp := inp0.drop (rd.toNat + 1) }, 1, 0, w32 inp0[rd.toNat]) _ (by unfold effP; simp only [hAd]; rw [if_neg n12, if_neg n13, if_neg n14, if_pos e20, if_neg n0, if_pos e1, hcons]) hp
      · have n0 : i.imm ≠ 0 := by simpa using d0
        have n1 : i.imm ≠ 1 := by simpa using d1
        refine ⟨_, _, _, h1.cells.2.2.2.2.1, rfl, bcI (fun hge => ?_) fun hge => ?_⟩
        · have hge := of_decide_eq_true hge
          exact ret (s, 0, 9, 0) _ (by unfold effP; simp only [hAd]; rw [if_neg n12, if_neg n13, if_neg n14, if_pos e20, if_neg n0, if_neg n1, if_pos (by omega)]) self
        · have hge := of_decide_eq_false hge
          refine ⟨_, _, _, h1.cells.2.2.2.2.1, rfl, ?_⟩
          refine h1.putOut four hlen fun _ _ _ _ m2 hp => ?_
          exact ret ({ s with out := s.out ++ [four] }, 0, 0, 0) _ (by unfold effP; simp only [hAd]; rw [if_neg n12, if_neg n13, if_neg n14, if_pos e20, if_neg n0, if_neg n1, if_neg (by omega)]) (by rw [Int.add_zero]; exact hp)
    · have n12 : i.op ≠ 12 := by simpa using c12
      have n13 : i.op ≠ 13 := by simpa using c13
      have n14 : i.op ≠ 14 := by simpa using c14
      have n20 : i.op ≠ 20 := by simpa using c20
      exact ret (s, 0, 0, 0) _ (by unfold effP; simp only [hAd]; rw [if_neg n12, if_neg n13, if_neg n14, if_neg n20]) self
  refine bcI (fun hge => ⟨_, _, _, h1.cells.2.1, rfl, ?_⟩) fun hge => ⟨hge, ?_⟩
  · refine K _ _ ?_ rfl rfl rfl rfl rfl rfl rfl _ rfl
    have h0 := of_decide_eq_true hge
    rw [hge]
    exact decide_eq_decide.2 ⟨fun h => ⟨h0, h⟩, fun h => h.2⟩
  · refine K _ _ ?_ rfl rfl rfl rfl rfl rfl rfl _ rfl
    have h0 := of_decide_eq_false hge
    simp [show ¬ 0 ≤ ad from h0]
end Go.Proofs.Ytadcbnldahcelaa.S

set_option linter.unusedSimpArgs false
set_option linter.unusedVariables false
set_option maxRecDepth 100000
namespace Go.Proofs.Ytadcbnldahcelaa.S
open Go Go.RowKit Go.Alog Go.Proofs.Ytadcbnldahcelaa.T Go.Proofs.Ytadcbnldahcelaa.V

theorem right_sys {i : Ins} (hr : rightR i = true) (h : i.op = 20) : 0 ≤ i.imm ∧ i.imm ≤ 2 := by
  unfold rightR at hr
  simp only [Bool.and_eq_true] at hr
  have h2 := hr.1.2
  rw [h] at h2
  have h3 : (decide (i.imm ≥ 0) && decide (i.imm ≤ 2)) = true := h2
  simp only [Bool.and_eq_true, decide_eq_true_eq] at h3
  exact h3
theorem right_op {i : Ins} (hr : rightR i = true) : 0 ≤ i.op ∧ i.op ≤ 20 := by
  unfold rightR at hr
  simp only [Bool.and_eq_true] at hr
  obtain ⟨⟨⟨⟨⟨h, _⟩, _⟩, _⟩, _⟩, _⟩ := hr
  have h : ¬ shapeR i.op < 0 := by simpa using h
  unfold shapeR at h
  by_cases h0 : i.op < 0
  · rw [if_pos h0] at h; exact absurd (by decide) h
  · rw [if_neg h0] at h
    by_cases h1 : i.op > 20
    · rw [if_pos h1] at h; exact absurd (by decide) h
    · omega
theorem setR_w (r : List Int) (n x : Int) : setR r n (w32 x) = setR r n x := by unfold setR; rw [w32_w32]
theorem regOf_w {r : List Int} (h : ∀ v ∈ r, w32 v = v) (n : Int) : w32 (regOf r n) = regOf r n := by
  unfold regOf
  by_cases hl : n.toNat < r.length
  · rw [show r.getD n.toNat 0 = r[n.toNat] by simp [List.getD, hl]]
    exact h _ (List.getElem_mem hl)
  · rw [show r.getD n.toNat 0 = 0 by simp [List.getD, List.getElem?_eq_none (Nat.le_of_not_lt hl)]]; rfl

/-- What the document's machine does, where it acts. -/
theorem eff_act (s : MS) (i : Ins) (hr : rightR i = true) (hw : ∀ v ∈ s.regs, w32 v = v) (hop : i.op = 12 ∨ i.op = 13 ∨ i.op = 14 ∨ i.op = 20) (e : MS × Int × Int × Int) (he : effP s i (regOf s.regs i.a) (regOf s.regs i.b) (regOf s.regs 4) = e) :
    (actP s i).2 = e.2.2.1 ∧ (actP s i).1.mem = e.1.mem ∧ (actP s i).1.out = e.1.out ∧ e.1.regs = s.regs ∧ e.1.at_ = s.at_ ∧
    (e.2.2.1 = 0 → (actP s i).1 = (if i.op = 12 then { e.1 with regs := setR e.1.regs i.a e.2.2.2 } else if i.op = 20 ∧ i.imm = 1 then { e.1 with regs := setR e.1.regs 4 e.2.2.2 } else e.1)) ∧
    (∀ rd ni inp0, 0 ≤ rd ∧ rd ≤ ((inp0 : List Int).length : Int) ∧ s.inp = inp0.drop rd.toNat → ni = inp0.length → 0 ≤ rd + e.2.1 ∧ rd + e.2.1 ≤ ni ∧ e.1.inp = inp0.drop (rd + e.2.1).toNat) := by
  obtain ⟨regs, mem, at_, inp, out⟩ := s
  have hi0 : ∀ rd (ni : Nat) (inp0 : List Int), 0 ≤ rd ∧ rd ≤ (inp0.length : Int) ∧ inp = inp0.drop rd.toNat → ni = inp0.length → 0 ≤ rd + 0 ∧ rd + 0 ≤ ni ∧ inp = inp0.drop (rd + 0).toNat := by
    intro rd ni inp0 h hn
    rw [Int.add_zero, hn]; exact h
  unfold effP at he
  simp only [] at he
  unfold actP
  simp only []
  by_cases c12 : i.op = 12
  · rw [if_pos c12] at he ⊢
    split at he
    · rename_i hin
      subst he
      rw [if_pos hin]
      exact ⟨rfl, rfl, rfl, rfl, rfl, fun _ => by rw [if_pos c12], hi0⟩
    · rename_i hin
      subst he
      rw [if_neg hin]
      exact ⟨rfl, rfl, rfl, rfl, rfl, fun h => (by cases h), hi0⟩
  rw [if_neg c12] at he ⊢
  by_cases c13 : i.op = 13
  · rw [if_pos c13] at he ⊢
    have ha := regOf_w hw i.a
    split at he
    · rename_i hin
      subst he
      rw [if_pos hin, ha]
      exact ⟨rfl, rfl, rfl, rfl, rfl, fun _ => by rw [if_neg c12, if_neg (by omega)], hi0⟩
    · rename_i hin
      subst he
      rw [if_neg hin]
      exact ⟨rfl, rfl, rfl, rfl, rfl, fun h => (by cases h), hi0⟩
  rw [if_neg c13] at he ⊢
  by_cases c14 : i.op = 14
  · rw [if_pos c14] at he ⊢
    split at he
    · rename_i hin
      subst he
      rw [if_pos hin]
      refine ⟨rfl, rfl, rfl, rfl, rfl, fun h => ?_, hi0⟩
      rw [if_neg c12, if_neg (show ¬ (i.op = 20 ∧ i.imm = 1) by omega)]
    · rename_i hin
      subst he
      rw [if_neg hin]
      exact ⟨rfl, rfl, rfl, rfl, rfl, fun _ => by rw [if_neg c12, if_neg (by omega)], hi0⟩
  rw [if_neg c14] at he ⊢
  have c20 : i.op = 20 := by omega
  have hs := right_sys hr c20
  rw [if_pos c20] at he ⊢
  unfold sysP
  by_cases d0 : i.imm = 0
  · rw [if_pos d0] at he ⊢
    subst he
    exact ⟨rfl, rfl, rfl, rfl, rfl, fun h => (by cases h), hi0⟩
  rw [if_neg d0] at he ⊢
  by_cases d1 : i.imm = 1
  · rw [if_pos d1] at he ⊢
    cases inp with
    | nil =>
      simp only at he
      subst he
      exact ⟨rfl, rfl, rfl, rfl, rfl, fun h => (by cases h), hi0⟩
    | cons x r =>
      simp only at he
      subst he
      refine ⟨rfl, rfl, rfl, rfl, rfl, fun _ => ?_, ?_⟩
      · rw [if_neg c12, if_pos ⟨c20, d1⟩]
        simp only [setR_w]
      · intro rd ni inp0 h hn
        have hlt : rd.toNat < inp0.length := by
          rcases Nat.lt_or_ge rd.toNat inp0.length with h1 | h1
          · exact h1
          · have h3 := h.2.2
            rw [List.drop_of_length_le h1] at h3; cases h3
        refine ⟨by show 0 ≤ rd + 1; omega, by show rd + 1 ≤ ni; omega, ?_⟩
        show r = inp0.drop (rd + 1).toNat
        have := h.2.2
        rw [List.drop_eq_getElem_cons hlt] at this
        injection this with _ h2
        rw [h2, show (rd + 1).toNat = rd.toNat + 1 by omega]
  rw [if_neg d1] at he ⊢
  rw [if_pos (show i.imm = 2 by omega)]
  split at he
  · rename_i ho
    subst he
    rw [if_pos (show out.length ≥ 10000 by omega)]
    exact ⟨rfl, rfl, rfl, rfl, rfl, fun h => (by cases h), hi0⟩
  · rename_i ho
    subst he
    rw [if_neg (show ¬ out.length ≥ 10000 by omega)]
    exact ⟨rfl, rfl, rfl, rfl, rfl, fun _ => by rw [if_neg c12, if_neg (fun h => d1 h.2)], hi0⟩

/-- The state that a step leaves. -/
def RStep (m0 m : AM) (B g : Nat) (q : RA) (code : List Ins) (s : MS) (ni : Int) (inp0 : List Int) (m' : AM) : Prop :=
  ∃ s' rd', RPost m0 m B g q s' rd' (stepP code s).2 m' ∧ s'.mem = (stepP code s).1.mem ∧ s'.out = (stepP code s).1.out ∧ ((stepP code s).2 = 0 → s' = (stepP code s).1) ∧ 0 ≤ rd' ∧ rd' ≤ ni ∧ s'.inp = inp0.drop rd'.toNat

theorem rstep_spec (w0 : World) (m0 m : AM) (g : Nat) (s : MS) (rd : Int) (q : RA) (Ac : Option Addr) (nc cc : Nat) (code : List Ins) (hcl : code.length = nc) (hc0 : Reads m0 5 Ac nc (insCells code)) (Ai : Option Addr) (ni ci : Nat) (inp0 : List Int) (hin : ni = inp0.length) (hi : Reads m0 1 Ai ni (intCells .i64 inp0)) (hbig : ni ≤ 1000000) (hrd : 0 ≤ rd ∧ rd ≤ ni ∧ s.inp = inp0.drop rd.toNat) (hlen : s.out.length ≤ 100000) (hw : ∀ v ∈ s.regs, w32 v = v) (h : RfR m0 m w0.heap.size g s rd 0 q) :
    CallsA Try.prog w0 38 #[.pointer (some ⟨g, 0, none⟩), .slice Ac nc cc, .slice Ai ni ci] m (fun r m' => r = .tuple #[] ∧ RStep m0 m w0.heap.size g q code s ni inp0 m') := by
  generalize hR : (fun (r : Value) (m' : AM) => r = .tuple #[] ∧ RStep m0 m w0.heap.size g q code s ni inp0 m') = R
  refine cf38 w0 m g Ac nc cc Ai ni ci R ?_
  have fin : ∀ (M m' : AM) (s' : MS) (rd' t : Int), m.le M → RPost m0 M w0.heap.size g q s' rd' t m' → (stepP code s).2 = t → s'.mem = (stepP code s).1.mem → s'.out = (stepP code s).1.out → (t = 0 → s' = (stepP code s).1) → 0 ≤ rd' ∧ rd' ≤ ni ∧ s'.inp = inp0.drop rd'.toNat → RetP R (.tuple #[]) m' := by
    intro M m' s' rd' t l hp ht h1 h2 h3 h4
    refine retP_of ?_
    rw [← hR]
    exact ⟨rfl, s', rd', by rw [ht]; exact hp.pre l, h1, h2, fun h => h3 (ht ▸ h), h4⟩
  refine ⟨_, h.cells.2.2.1, rfl, bcI (fun hneg => ⟨hneg, ?_⟩) fun hneg => ⟨_, h.cells.2.2.1, rfl, bcI (fun hge => ?_) fun hge => ?_⟩⟩
  · have e : stepP code s = (s, 2) := by unfold stepP; rw [if_pos (of_decide_eq_true hneg)]
    exact h.putT 2 fun m' hp => fin m m' s rd 2 (AM.le_refl _) hp (by rw [e]) (by rw [e]) (by rw [e]) (fun h => by cases h) hrd
  · have e : stepP code s = (s, 2) := by
      rw [hneg] at hge
      have := of_decide_eq_true hge
      unfold stepP; rw [if_neg (of_decide_eq_false hneg), if_pos (by omega)]
    exact h.putT 2 fun m' hp => fin m m' s rd 2 (AM.le_refl _) hp (by rw [e]) (by rw [e]) (by rw [e]) (fun h => by cases h) hrd
  have h0 : 0 ≤ s.at_ := by have := of_decide_eq_false hneg; omega
  have h1 : s.at_ < nc := by rw [hneg] at hge; have := of_decide_eq_false hge; omega
  have hlt : s.at_.toNat < code.length := by omega
  obtain ⟨ad, hA, hcc⟩ := (hc0.le h.L).ex (by omega)
  have hci := hcc.ins (List.getElem?_eq_getElem hlt)
  have hX : code.getD s.at_.toNat default = code[s.at_.toNat] := by simp [List.getD, hlt]
  rw [← hX] at hci
  generalize hi2 : code.getD s.at_.toNat default = i at hci
  refine ⟨_, h.cells.2.2.1, ⟨h0, h1⟩, ?_⟩
  rw [hA, nilO_some]
  refine ⟨_, hci.1, _, hci.2.1, _, hci.2.2.1, _, hci.2.2.2.1, _, hci.2.2.2.2, ?_⟩
  refine blk5 fun b M lM nb hb pb => ?_
  have pb : M b = some (.cells i.cells.toArray 34) := pb
  refine ⟨_, cel pb rfl, _, cel pb rfl, _, cel pb rfl, _, cel pb rfl, _, cel pb rfl, ?_⟩
  refine CallsA.mono (right_spec w0 M i) ?_
  rintro r M2 ⟨rfl, l2⟩
  refine ⟨_, rfl, ?_⟩
  have p2 := l2 _ _ pb
  have LM := AM.le_trans lM l2
  have hM := h.le LM
  cases hr : rightR i with
  | false =>
    have e : stepP code s = (s, 8) := by
      unfold stepP; rw [if_neg (by omega), if_neg (by omega), hi2]; simp only [hr, if_true]
    refine bcET rfl ?_
    exact hM.putT 8 fun m' hp => fin M2 m' s rd 8 LM hp (by rw [e]) (by rw [e]) (by rw [e]) (fun h => by cases h) hrd
  | true =>
  refine bcEF rfl ?_
  have hI := right_regs hr
  have nn : ∀ {n : Int}, 0 ≤ n ∧ n < 32 → 0 ≤ n ∧ n < ((s.regs.length : Nat) : Int) := fun hn => ⟨hn.1, by rw [h.hl]; exact hn.2⟩
  obtain ⟨ar, hAr, ca⟩ := hM.reg hI.1
  obtain ⟨ar2, hAr2, cb⟩ := hM.reg hI.2.1
  obtain ⟨ar3, hAr3, c3⟩ := hM.reg hI.2.2
  have e2 : ar2 = ar := by rw [hAr] at hAr2; injection hAr2 with e; exact e.symm
  have e3 : ar3 = ar := by rw [hAr] at hAr3; injection hAr3 with e; exact e.symm
  subst e2 e3
  refine ⟨_, _, _, hM.cells.1, _, cel p2 rfl, nn hI.1, ?_⟩
  rw [hAr, nilO_some]
  refine ⟨_, ca, _, _, _, hM.cells.1, _, cel p2 rfl, nn hI.2.1, ?_⟩
  rw [hAr, nilO_some]
  refine ⟨_, cb, _, _, _, hM.cells.1, _, cel p2 rfl, nn hI.2.2, ?_⟩
  rw [hAr, nilO_some]
  refine ⟨_, c3, _, hM.cells.2.2.1, rfl, _, cel p2 rfl, rfl, ?_⟩
  have hat : (⟨s.regs, s.mem, s.at_, s.inp, s.out⟩ : MS) = s := rfl
  -- stepP, unfolded
  have eS : stepP code s = (if (actP s i).2 ≠ 0 then ((actP s i).1, (actP s i).2) else
        let r := reckonP i (regOf (actP s i).1.regs i.b) (regOf (actP s i).1.regs i.c)
        if r.2.1 ≠ 0 then ((actP s i).1, r.2.1) else
          let s2 := if r.2.2 then { (actP s i).1 with regs := setR (actP s i).1.regs i.a r.1 } else (actP s i).1
          ({ (nextP s2 i).1 with at_ := (nextP s2 i).2 }, 0)) := by
    unfold stepP; rw [if_neg (by omega), if_neg (by omega), hi2]; simp only [hr, Bool.true_eq_false, if_false]
  have actN : i.op ≠ 12 → i.op ≠ 13 → i.op ≠ 14 → i.op ≠ 20 → actP s i = (s, 0) := by
    intro a1 a2 a3 a4; unfold actP; simp only []; rw [if_neg a1, if_neg a2, if_neg a3, if_neg a4]
  have nextN : ∀ s' : MS, i.op < 15 ∨ 19 < i.op → nextP s' i = (s', IntKind.wrap .i64 (s'.at_ + 1)) := by
    intro s' hop; unfold nextP; simp only; rw [if_neg (by omega), if_neg (by omega), if_neg (by omega), if_neg (by omega)]
  generalize ex10 : IntKind.wrap .i64 (s.at_ + 1) = x10
  have K2 : ∀ (σ : Sg) (x : Bool), x = decide (i.op = 15 ∨ i.op = 16) → i.op ≠ 12 → i.op ≠ 13 → i.op ≠ 14 → i.op ≠ 20 → i.op ≠ 0 → σ 0 = .pointer (some ⟨g, 0, none⟩) → σ 6 = .pointer (some ⟨b, 0, none⟩) → σ 7 = .int .i64 (regOf s.regs i.a) → σ 8 = .int .i64 (regOf s.regs i.b) → σ 9 = .int .i64 (regOf s.regs i.c) → σ 10 = .int .i64 x10 → σ 75 = .int .i64 i.op → σ 146 = .bool x → ∀ m, m = M2 → (vcS Try.prog w0 qs38 (sub c38 [1, 1, 1, 1, 1, 0, 1, 0, 1, 1, 1, 1, 1]) σ m (blockS 0 (thenS (fun σ m => vcS Try.prog w0 qs38 (sub c38 [1, 1, 1, 1, 1, 1]) σ m (retQ Try.prog Try.f38 R)) (retQ Try.prog Try.f38 R)))) := by
    intro σ x hx n12 n13 n14 n20 n0 s0 s6 s7 s8 s9 s10 s75 s146 m' hm'
    subst hm'
    refine vk38_1111101011111 w0 m' σ R g b _ _ _ x10 i.op x s0 s6 s7 s8 s9 s10 s75 s146 ?_
    have aN := actN n12 n13 n14 n20
    have go : ∀ (v : Int) (K : AM → Prop), (nextP s i = (s, v)) → reckonP i (regOf s.regs i.b) (regOf s.regs i.c) = (0, 0, false) → (∀ m2, RetP R (.tuple #[]) m2 → K m2) → StC w0.heap.size m' ⟨g, 2, none⟩ (.int .i64 v) K := by
      intro v K hnx hrk hK
      refine hM.putAt v fun m2 hp => hK m2 ?_
      have e : stepP code s = ({ s with at_ := v }, 0) := by
        rw [eS, aN]
        simp only [ne_eq, not_true_eq_false, if_false, hrk, hnx, Bool.false_eq_true]
      exact fin m' m2 { s with at_ := v } rd 0 LM hp (by rw [e]) (by rw [e]) (by rw [e]) (fun _ => by rw [e]) hrd
    have nextB : i.op = 15 ∨ i.op = 16 → nextP s i = (s, if (regOf s.regs i.a == regOf s.regs i.b) == (i.op == 15) then IntKind.wrap .i64 (x10 + i.imm) else x10) := by
      intro hop; unfold nextP; simp only; rw [if_pos hop, ex10]
    refine bcI (fun hb1 => ?_) fun hb1 => ?_
    · rw [hx] at hb1
      have hop := of_decide_eq_true hb1
      have hrk := reck_zero (i := i) (b := regOf s.regs i.b) (c := regOf s.regs i.c) (by omega)
      refine ⟨rfl, bcI (fun heq => ?_) fun heq => ⟨heq, rfl, ?_⟩⟩
      · have heq' : regOf s.regs i.a = regOf s.regs i.b := by simpa using heq
        refine ⟨_, cel p2 rfl, rfl, bcI (fun h15 => ?_) fun h15 => ⟨rfl, ?_⟩⟩
        · refine ⟨h15, _, cel p2 rfl, rfl, ?_⟩
          rw [heq] at h15
          have h15 : (i.op == 15) = true := h15
          exact go _ _ (by rw [nextB hop, heq, h15]; rfl) hrk fun m2 h => h
        · have hne : (regOf s.regs i.a != regOf s.regs i.b) = false := by simpa using heq'
          refine bcEF hne ⟨hne, ?_⟩
          refine bcEF (by rw [h15]; rfl) ?_
          rw [heq] at h15
          have h15 : (i.op == 15) = false := h15
          exact go _ _ (by rw [nextB hop, heq, h15]; rfl) hrk fun m2 h => h
      · have hne : (regOf s.regs i.a != regOf s.regs i.b) = true := by
          simp only [beq_eq_false_iff_ne] at heq; simpa using heq
        refine bcET hne ⟨_, cel p2 rfl, rfl, bcI (fun h16 => ?_) fun h16 => ?_⟩
        · rw [hne] at h16
          have h16 : (i.op == 16) = true := h16
          have e16 : i.op = 16 := by simpa using h16
          have e15 : (i.op == 15) = false := by rw [e16]; rfl
          refine ⟨_, cel p2 rfl, rfl, ?_⟩
          exact go _ _ (by rw [nextB hop, heq, e15]; rfl) hrk fun m2 h => h
        · rw [hne] at h16
          have h16 : (i.op == 16) = false := h16
          have n16 : i.op ≠ 16 := by simpa using h16
          have e15 : (i.op == 15) = true := by have : i.op = 15 := by omega
                                               rw [this]; rfl
          exact go _ _ (by rw [nextB hop, heq, e15]; rfl) hrk fun m2 h => h
    · rw [hx] at hb1
      have hop := of_decide_eq_false hb1
      refine ⟨rfl, bcI (fun h17 => bcET h17 ⟨_, cel p2 rfl, rfl, ?_⟩) fun h17 => ⟨rfl, bcI (fun h18 => ⟨_, cel p2 rfl, rfl, bcET h18 ?_⟩) fun h18 => ⟨rfl, bcI (fun h19 => ?_) fun h19 => ?_⟩⟩⟩
      · have e17 : i.op = 17 := by simpa using h17
        have hrk := reck_zero (i := i) (b := regOf s.regs i.b) (c := regOf s.regs i.c) (by omega)
        refine bcEF (by rw [e17]; rfl) ⟨_, cel p2 rfl, ?_⟩
        exact go _ _ (by unfold nextP; simp only; rw [if_neg hop, if_neg (by omega), if_pos e17]) hrk fun m2 h => h
      · have e18 : i.op = 18 := by simpa using h18
        have hrk := reck_zero (i := i) (b := regOf s.regs i.b) (c := regOf s.regs i.c) (by omega)
        refine CallsA.mono (set_ref w0 m0 m' g s rd 0 q 31 x10 (by decide) hM) ?_
        rintro r m3 ⟨rfl, hf3, q3, h3, hk3⟩
        have p3 := hf3 _ _ p2 (hM.notin p2 (by decide) (by decide))
        refine ⟨rfl, _, cel p3 rfl, ?_⟩
        refine h3.putAt i.imm fun m4 hp4 => ?_
        have e : stepP code s = ({ s with regs := setR s.regs 31 x10, at_ := i.imm }, 0) := by
          have hnx : nextP s i = ({ s with regs := setR s.regs 31 x10 }, i.imm) := by
            unfold nextP; simp only; rw [if_neg hop, if_pos e18, ex10]
          rw [eS, aN]
          simp only [ne_eq, not_true_eq_false, if_false, hrk, hnx, Bool.false_eq_true]
        exact fin m' m4 _ rd 0 LM (RPost.trans hf3 hk3 hp4) (by rw [e]) (by rw [e]) (by rw [e]) (fun _ => by rw [e]) hrd
      · have e19 : i.op = 19 := by simpa using h19
        have hrk := reck_zero (i := i) (b := regOf s.regs i.b) (c := regOf s.regs i.c) (by omega)
        exact go _ _ (by unfold nextP; simp only; rw [if_neg hop, if_neg (by omega), if_neg (by omega), if_pos e19]) hrk fun m2 h => h
      · have n17 : i.op ≠ 17 := by simpa using h17
        have n18 : i.op ≠ 18 := by simpa using h18
        have n19 : i.op ≠ 19 := by simpa using h19
        have hb2 := regOf_w hw i.b
        have hc2 := regOf_w hw i.c
        refine ⟨_, cel p2 rfl, _, cel p2 rfl, _, cel p2 rfl, _, cel p2 rfl, _, cel p2 rfl, ?_⟩
        refine CallsA.mono (value_spec w0 m' i (regOf s.regs i.b) (regOf s.regs i.c) (by rw [← hb2]; exact w32_le _) (by rw [← hc2]; exact w32_le _)) ?_
        rintro r m3 ⟨l3, v, ok, rfl, hv⟩
        refine ⟨v, ok, rfl, ?_⟩
        have h3 := hM.le l3
        have p3 := l3 _ _ p2
        have h11 : 1 ≤ i.op ∧ i.op ≤ 11 := by
          have hsh := right_op hr
          omega
        rw [← hb2, ← hc2] at hv
        obtain ⟨r1, r2⟩ := reck_rel hr h11 hv
        cases ok with
        | false =>
          have hrk := r1 rfl
          refine bcET rfl ?_
          refine h3.putT 4 fun m4 hp => ?_
          have e : stepP code s = (s, 4) := by
            rw [eS, aN]
            simp only [ne_eq, not_true_eq_false, if_false, hrk]
            rfl
          exact fin m3 m4 s rd 4 (AM.le_trans LM l3) hp (by rw [e]) (by rw [e]) (by rw [e]) (fun h => by cases h) hrd
        | true =>
          obtain ⟨g1, g2⟩ := r2 rfl
          refine bcEF rfl ⟨_, cel p3 rfl, ?_⟩
          refine CallsA.mono (set_ref w0 m0 m3 g s rd 0 q i.a v hI.1 h3) ?_
          rintro r m4 ⟨rfl, hf4, q4, h4, hk4⟩
          refine ⟨rfl, ?_⟩
          refine h4.putAt x10 fun m5 hp5 => ?_
          have e : stepP code s = ({ s with regs := setR s.regs i.a v, at_ := x10 }, 0) := by
            have g3 : setR s.regs i.a (reckonP i (regOf s.regs i.b) (regOf s.regs i.c)).1 = setR s.regs i.a v := by
              rw [← setR_w s.regs i.a v, ← g2, setR_w]
            have g4 : (reckonP i (regOf s.regs i.b) (regOf s.regs i.c)).2.1 = 0 := by rw [g1]
            have g5 : (reckonP i (regOf s.regs i.b) (regOf s.regs i.c)).2.2 = true := by rw [g1]
            rw [eS, aN]
            simp only [ne_eq, not_true_eq_false, if_false, g4, g5, if_true, g3]
            rw [nextN _ (by omega)]
            simp only [ex10]
          exact fin m3 m5 _ rd 0 (AM.le_trans LM l3) (RPost.trans hf4 hk4 hp5) (by rw [e]) (by rw [e]) (by rw [e]) (fun _ => by rw [e]) hrd
  have K1 : ∀ (σ : Sg) (x : Bool), x = decide (i.op = 12 ∨ i.op = 13 ∨ i.op = 14 ∨ i.op = 20) → i.op ≠ 0 → σ 0 = .pointer (some ⟨g, 0, none⟩) → σ 2 = .slice Ai ni ci → σ 6 = .pointer (some ⟨b, 0, none⟩) → σ 7 = .int .i64 (regOf s.regs i.a) → σ 8 = .int .i64 (regOf s.regs i.b) → σ 9 = .int .i64 (regOf s.regs i.c) → σ 10 = .int .i64 x10 → σ 75 = .int .i64 i.op → σ 95 = .bool x → ∀ m, m = M2 → (vcS Try.prog w0 qs38 (sub c38 [1, 1, 1, 1, 1, 0, 1, 0, 1, 1, 1]) σ m (blockS 0 (thenS (fun σ m => vcS Try.prog w0 qs38 (sub c38 [1, 1, 1, 1, 1, 1]) σ m (retQ Try.prog Try.f38 R)) (retQ Try.prog Try.f38 R)))) := by
    intro σ x hx n0 s0 s2 s6 s7 s8 s9 s10 s75 s95 m' hm'
    subst hm'
    refine vk38_11111010111 w0 m' σ R g Ai ni ci b _ _ _ x10 i.op x s0 s2 s6 s7 s8 s9 s10 s75 s95 ?_
    refine bcI (fun hb1 => ?_) fun hb1 => ?_
    · rw [hx] at hb1
      have hop := of_decide_eq_true hb1
      obtain ⟨ar4, hAr4, c4⟩ := hM.reg (n := 4) (by decide)
      refine ⟨_, cel p2 rfl, _, cel p2 rfl, _, cel p2 rfl, _, cel p2 rfl, _, cel p2 rfl, _, _, _, hM.cells.1, ⟨by decide, by rw [h.hl]; decide⟩, ?_⟩
      rw [hAr4, nilO_some]
      refine ⟨_, c4, ?_⟩
      refine CallsA.mono (effect_spec w0 m0 m' g s rd 0 q i (regOf s.regs i.a) (regOf s.regs i.b) (regOf s.regs 4) Ai ni ci inp0 hin hi hbig hrd hlen hM) ?_
      rintro r m3 ⟨rfl, hf3, q3, h3, hk3⟩
      have p3 := hf3 _ _ p2 (hM.notin p2 (by decide) (by decide))
      obtain ⟨a1, a2, a3, a4, a5, a6, a7⟩ := eff_act s i hr hw hop _ rfl
      have a7 := a7 rd ni inp0 (by rw [← hin]; exact hrd) (by rw [hin])
      generalize effP s i (regOf s.regs i.a) (regOf s.regs i.b) (regOf s.regs 4) = e at *
      obtain ⟨s1, drd, t, v⟩ := e
      simp only at a1 a2 a3 a4 a5 a6 a7 h3
      refine ⟨_, _, rfl, ?_⟩
      refine h3.putT t fun m4 hp4 => ?_
      obtain ⟨hf4, q4, h4, hk4⟩ := hp4
      have p4 := hf4 _ _ p3 (h3.notin p3 (by decide) (by decide))
      have hk4' : ∀ k ∈ q4.fp g, k ∈ q.fp g ∨ m' k = none := (RPost.trans hf3 hk3 ⟨hf4, q4, h4, hk4⟩ : RPost m0 m' w0.heap.size g q s1 (rd + drd) t m4).2.elim fun _ _ => fun k hk => by
        rcases hk4 k hk with h | h
        · exact hk3 k h
        · by_cases hin : k ∈ q.fp g
          · exact .inl hin
          · cases hm : m' k with
            | none => exact .inr rfl
            | some o => rw [hf3 k o hm hin] at h; cases h
      have hf4' : Fr m' m4 (q.fp g) := hf3.trans hf4 hk3
      have hrk := reck_zero (i := i) (b := regOf (actP s i).1.regs i.b) (c := regOf (actP s i).1.regs i.c) (by omega)
      -- the place, last
      have last : ∀ (s2 : MS) (q5 : RA) (m5 : AM) (K : AM → Prop), RfR m0 m5 w0.heap.size g s2 (rd + drd) t q5 → Fr m' m5 (q.fp g) → (∀ k ∈ q5.fp g, k ∈ q.fp g ∨ m' k = none) → s2.mem = (actP s i).1.mem → s2.out = (actP s i).1.out → s2.inp = s1.inp → (t = 0 → s2 = (actP s i).1) → (∀ m6, RetP R (.tuple #[]) m6 → K m6) → StC w0.heap.size m5 ⟨g, 2, none⟩ (.int .i64 x10) K := by
        intro s2 q5 m5 K h5 hf5 hk5 e1 e2 e3 e4 hK
        refine h5.putAt x10 fun m6 hp6 => hK m6 ?_
        have eT : t ≠ 0 → stepP code s = ((actP s i).1, t) := fun ht => by
          rw [eS, a1]
          simp only [ne_eq, ht, not_false_eq_true, if_true]
        have eZ : t = 0 → stepP code s = ({ (actP s i).1 with at_ := x10 }, 0) := fun ht => by
          rw [eS, a1]
          simp only [ne_eq, ht, not_true_eq_false, if_false, hrk, Bool.false_eq_true]
          rw [nextN _ (by omega)]
          have : (actP s i).1.at_ = s.at_ := by
            rw [← e4 ht]
            have hh := a6 ht
            rw [e4 ht, hh]
            split
            · exact a5
            split
            · exact a5
            · exact a5
          simp only [this, ex10]
        have hP : RPost m0 m' w0.heap.size g q { s2 with at_ := x10 } (rd + drd) t m6 := RPost.trans hf5 hk5 hp6
        by_cases ht : t = 0
        · refine fin m' m6 { s2 with at_ := x10 } (rd + drd) t LM hP (by rw [eZ ht, ht]) ?_ ?_ (fun _ => by rw [eZ ht, e4 ht]) ⟨a7.1, a7.2.1, by show s2.inp = _; rw [e3]; exact a7.2.2⟩
          · rw [eZ ht]; exact e1
          · rw [eZ ht]; exact e2
        · refine fin m' m6 { s2 with at_ := x10 } (rd + drd) t LM hP (by rw [eT ht]) ?_ ?_ (fun h => absurd h ht) ⟨a7.1, a7.2.1, by show s2.inp = _; rw [e3]; exact a7.2.2⟩
          · rw [eT ht]; exact e1
          · rw [eT ht]; exact e2
      have plain : (t = 0 → (actP s i).1 = s1) → ∀ K : AM → Prop, (∀ m6, RetP R (.tuple #[]) m6 → K m6) → StC w0.heap.size m4 ⟨g, 2, none⟩ (.int .i64 x10) K := fun hh K hK => last s1 q4 m4 K h4 hf4' hk4' a2.symm a3.symm rfl (fun ht => (hh ht).symm) hK
      refine ⟨rfl, bcI (fun ht => ⟨_, cel p4 rfl, rfl, bcI (fun c12 => ?_) fun c12 => ⟨rfl, bcET ht ⟨_, cel p4 rfl, rfl, bcI (fun c20 => ⟨_, cel p4 rfl, rfl, bcI (fun d1 => ?_) fun d1 => ?_⟩) fun c20 => ?_⟩⟩⟩) fun ht => ⟨ht, rfl, bcEF ht ⟨ht, rfl, ?_⟩⟩⟩
      · have t0 : t = 0 := by simpa using ht
        rw [ht] at c12
        have e12 : i.op = 12 := by have : (i.op == 12) = true := c12
                                   simpa using this
        refine ⟨_, cel p4 rfl, ?_⟩
        refine CallsA.mono (set_ref w0 m0 m4 g s1 (rd + drd) t q4 i.a v hI.1 h4) ?_
        rintro r m5 ⟨rfl, hf5, q5, h5, hk5⟩
        have p5 := hf5 _ _ p4 (h4.notin p4 (by decide) (by decide))
        have eA := a6 t0
        rw [if_pos e12] at eA
        refine ⟨rfl, rfl, bcET ht ⟨_, cel p5 rfl, rfl, ?_⟩⟩
        have n20 : (bif t == 0 then i.op == 20 else false) = false := by rw [ht, e12]; rfl
        refine bcEF n20 ⟨n20, ?_⟩
        obtain ⟨hfT, qT, hT, hkT⟩ := RPost.trans hf4' hk4' (⟨hf5, q5, h5, hk5⟩ : RPost m0 m4 w0.heap.size g q4 { s1 with regs := setR s1.regs i.a v } (rd + drd) t m5)
        refine last { s1 with regs := setR s1.regs i.a v } qT m5 _ hT hfT hkT a2.symm a3.symm rfl (fun _ => eA.symm) fun m6 h => h
      · have t0 : t = 0 := by simpa using ht
        rw [ht] at c20 d1 c12
        have e20 : i.op = 20 := by have : (i.op == 20) = true := c20
                                   simpa using this
        rw [c20] at d1
        have e1 : i.imm = 1 := by have : (i.imm == 1) = true := d1
                                  simpa using this
        refine CallsA.mono (set_ref w0 m0 m4 g s1 (rd + drd) t q4 4 v (by decide) h4) ?_
        rintro r m5 ⟨rfl, hf5, q5, h5, hk5⟩
        have eA := a6 t0
        rw [if_neg (by omega), if_pos ⟨e20, e1⟩] at eA
        refine ⟨rfl, ?_⟩
        obtain ⟨hfT, qT, hT, hkT⟩ := RPost.trans hf4' hk4' (⟨hf5, q5, h5, hk5⟩ : RPost m0 m4 w0.heap.size g q4 { s1 with regs := setR s1.regs 4 v } (rd + drd) t m5)
        refine last { s1 with regs := setR s1.regs 4 v } qT m5 _ hT hfT hkT a2.symm a3.symm rfl (fun _ => eA.symm) fun m6 h => h
      · have t0 : t = 0 := by simpa using ht
        rw [ht] at c20 d1 c12
        have e20 : i.op = 20 := by have : (i.op == 20) = true := c20
                                   simpa using this
        rw [c20] at d1
        have e1 : i.imm ≠ 1 := by have : (i.imm == 1) = false := d1
                                  simpa using this
        refine plain (fun _ => ?_) _ fun m6 h => h
        have eA := a6 t0
        rw [if_neg (by omega), if_neg (fun h => e1 h.2)] at eA
        exact eA
      · have t0 : t = 0 := by simpa using ht
        refine ⟨c20, ?_⟩
        rw [ht] at c20 c12
        have n20 : i.op ≠ 20 := by have : (i.op == 20) = false := c20
                                   simpa using this
        have n12 : i.op ≠ 12 := by have : (i.op == 12) = false := c12
                                   simpa using this
        refine plain (fun _ => ?_) _ fun m6 h => h
        have eA := a6 t0
        rw [if_neg n12, if_neg (fun h => n20 h.1)] at eA
        exact eA
      · have t0 : t ≠ 0 := by simpa using ht
        exact plain (fun h => absurd h t0) _ fun m6 h => h
    · rw [hx] at hb1
      have hop := of_decide_eq_false hb1
      refine ⟨rfl, bcI (fun h15 => ?_) fun h15 => ⟨rfl, ?_⟩⟩
      · have e15 : i.op = 15 := by simpa using h15
        exact K2 _ _ (by simp [e15]) (by omega) (by omega) (by omega) (by omega) n0 rfl rfl rfl rfl rfl rfl rfl rfl _ rfl
      · have n15 : i.op ≠ 15 := by simpa using h15
        refine K2 _ _ ?_ (by omega) (by omega) (by omega) (by omega) n0 rfl rfl rfl rfl rfl rfl rfl rfl _ rfl
        by_cases e : i.op = 16 <;> simp [e, n15]
  refine bcI (fun c0 => ?_) fun c0 => ⟨rfl, bcI (fun c12 => ?_) fun c12 => ⟨rfl, bcI (fun c13 => ?_) fun c13 => ⟨rfl, bcI (fun c14 => ?_) fun c14 => ⟨rfl, ?_⟩⟩⟩⟩
  · have e0 : i.op = 0 := by simpa using c0
    refine hM.putAt x10 fun m3 hp => ?_
    have e : stepP code s = ({ s with at_ := x10 }, 0) := by
      rw [eS, actN (by omega) (by omega) (by omega) (by omega)]
      simp only [ne_eq, not_true_eq_false, if_false, reck_zero (i := i) (b := regOf s.regs i.b) (c := regOf s.regs i.c) (by omega), Bool.false_eq_true]
      rw [nextN _ (by omega), ex10]
    exact fin M2 m3 _ rd 0 LM hp (by rw [e]) (by rw [e]) (by rw [e]) (fun _ => by rw [e]) hrd
  all_goals have n0 : i.op ≠ 0 := by simpa using c0
  · have e12 : i.op = 12 := by simpa using c12
    exact K1 _ _ (by simp [e12]) n0 rfl rfl rfl rfl rfl rfl rfl rfl rfl _ rfl
  · have e13 : i.op = 13 := by simpa using c13
    exact K1 _ _ (by simp [e13]) n0 rfl rfl rfl rfl rfl rfl rfl rfl rfl _ rfl
  · have e14 : i.op = 14 := by simpa using c14
    exact K1 _ _ (by simp [e14]) n0 rfl rfl rfl rfl rfl rfl rfl rfl rfl _ rfl
  · have n12 : i.op ≠ 12 := by simpa using c12
    have n13 : i.op ≠ 13 := by simpa using c13
    have n14 : i.op ≠ 14 := by simpa using c14
    refine K1 _ _ ?_ n0 rfl rfl rfl rfl rfl rfl rfl rfl rfl _ rfl
    by_cases e : i.op = 20 <;> simp [e, n12, n13, n14]
end Go.Proofs.Ytadcbnldahcelaa.S

set_option linter.unusedSimpArgs false
set_option linter.unusedVariables false
set_option maxRecDepth 100000
namespace Go.Proofs.Ytadcbnldahcelaa.S
open Go Go.RowKit Go.Alog Go.Proofs.Ytadcbnldahcelaa.T Go.Proofs.Ytadcbnldahcelaa.V

theorem begin_spec (w0 : World) (m : AM) (mem : Int) (inp : List Int) (h : 0 ≤ mem ∧ mem ≤ 32000) :
    CallsA Try.prog w0 37 #[.int .i64 mem] m (fun r m' => ∃ g q, r = .pointer (some ⟨g, 0, none⟩) ∧ RfR m m' w0.heap.size g (beginS mem inp) 0 0 q) := by
  refine cf37 w0 m mem _ ?_
  have hb : (0 ≤ mem ∧ mem ≤ mem ∧ mem ≤ 9223372036854775807 ∧ 8 * mem ≤ 281474976710656) := by omega
  have mk : ∀ (b1 b3 b5 : Nat) (m6 : AM), w0.heap.size ≤ b5 → m b1 = none → m b3 = none → m b5 = none → b1 ≠ b3 → m.le m6 → m6 b5 = some (.cells #[.slice (some ⟨b1, 0, none⟩) ((32 : Int).toNat) ((32 : Int).toNat), .slice (some ⟨b3, 0, none⟩) (mem.toNat) (mem.toNat), .int .i64 0, .int .i64 0, .slice none 0 0, .int .i64 0] 68) →
      Own m6 w0.heap.size 3 1 (some ⟨b1, 0, none⟩) 32 32 (intCells .i64 (List.replicate 32 0)) → Own m6 w0.heap.size 3 1 (some ⟨b3, 0, none⟩) mem.toNat mem.toNat (intCells .i64 (List.replicate mem.toNat 0)) → ∃ q, RfR m m6 w0.heap.size b5 (beginS mem inp) 0 0 q := by
    intro b1 b3 b5 m6 hB n1 n3 n5 ne L hg o1 o3
    refine ⟨⟨some ⟨b1, 0, none⟩, some ⟨b3, 0, none⟩, none, 32, mem.toNat, 0⟩, L, ?_, hB, by simp [beginS], ?_, ?_, Own.nil _ _ _ _, ?_, by simp [obl], by simp [obl], ?_⟩
    · rw [hg]; simp [rfL, beginS]
    · simpa [beginS] using o1
    · simpa [beginS] using o3
    · intro k hk hin
      simp [obl] at hk hin
      exact ne (hk.symm.trans hin)
    · intro k hk
      simp [RA.fp, obl] at hk
      rcases hk with rfl | rfl | rfl
      · exact n5
      · exact n1
      · exact n3
  refine vr37_10 w0 m _ _ mem (fun g m' => ∃ q, RfR m m' w0.heap.size g (beginS mem inp) 0 0 q) rfl ⟨?_, ?_⟩ ?_
  · refine ⟨by decide, ?_⟩
    intro b1 hb1 hm1 m2
    have l1 : m.le m2 := le_new hm1 _
    have o1 : Own m2 w0.heap.size 3 1 (some ⟨b1, 0, none⟩) 32 32 (intCells .i64 (List.replicate 32 0)) := by
      have := Own.new m hb1 3 1 32 (intCells .i64 (List.replicate 32 0)) (by simp [intCells])
      rw [← zeros_int] at this ⊢
      exact this
    clear_value m2
    refine ⟨hb, ?_⟩
    intro b3 hb3 hm3 m4
    have l3 : m2.le m4 := le_new hm3 _
    have o3 : Own m4 w0.heap.size 3 1 (some ⟨b3, 0, none⟩) mem.toNat mem.toNat (intCells .i64 (List.replicate mem.toNat 0)) := by
      have := Own.new m2 hb3 3 1 mem.toNat (intCells .i64 (List.replicate mem.toNat 0)) (by simp [intCells])
      rw [← zeros_int] at this ⊢
      exact this
    clear_value m4
    refine ⟨rfl, ?_⟩
    intro b5 hb5 hm5 m6
    have l5 : m4.le m6 := le_new hm5 _
    have p5 : m6 b5 = some (.cells _ _) := upd_get_same
    clear_value m6
    have ne : b1 ≠ b3 := fun e => by
      obtain ⟨_, cur, hc⟩ := o1.obl_some (k := b1) (by simp [obl])
      rw [e, hm3] at hc; cases hc
    exact ⟨rfl, rfl, mk b1 b3 b5 m6 hb5 hm1 (AM.le_none l1 hm3) (AM.le_none l1 (AM.le_none l3 hm5)) ne (AM.le_trans (AM.le_trans l1 l3) l5) p5 ((o1.le l3).le l5) (o3.le l5)⟩
  · refine ⟨hb, ?_⟩
    intro b3 hb3 hm3 m2
    have l1 : m.le m2 := le_new hm3 _
    have o3 : Own m2 w0.heap.size 3 1 (some ⟨b3, 0, none⟩) mem.toNat mem.toNat (intCells .i64 (List.replicate mem.toNat 0)) := by
      have := Own.new m hb3 3 1 mem.toNat (intCells .i64 (List.replicate mem.toNat 0)) (by simp [intCells])
      rw [← zeros_int] at this ⊢
      exact this
    clear_value m2
    refine ⟨by decide, ?_⟩
    intro b1 hb1 hm1 m4
    have l3 : m2.le m4 := le_new hm1 _
    have o1 : Own m4 w0.heap.size 3 1 (some ⟨b1, 0, none⟩) 32 32 (intCells .i64 (List.replicate 32 0)) := by
      have := Own.new m2 hb1 3 1 32 (intCells .i64 (List.replicate 32 0)) (by simp [intCells])
      rw [← zeros_int] at this ⊢
      exact this
    clear_value m4
    refine ⟨rfl, ?_⟩
    intro b5 hb5 hm5 m6
    have l5 : m4.le m6 := le_new hm5 _
    have p5 : m6 b5 = some (.cells _ _) := upd_get_same
    clear_value m6
    have ne : b1 ≠ b3 := fun e => by
      obtain ⟨_, cur, hc⟩ := o3.obl_some (k := b3) (by simp [obl])
      rw [← e, hm1] at hc; cases hc
    exact ⟨rfl, rfl, mk b1 b3 b5 m6 hb5 (AM.le_none l1 hm1) hm3 (AM.le_none l1 (AM.le_none l3 hm5)) ne (AM.le_trans (AM.le_trans l1 l3) l5) p5 (o1.le l5) ((o3.le l3).le l5)⟩
  · rintro σ g m' ⟨q, hq⟩
    exact retP_of ⟨g, q, rfl, hq⟩

theorem usedR_spec (w0 : World) (m : AM) (B : Nat) (A : Option Addr) (l : List Int) (c : Nat) (hw : Own m B 3 1 A l.length c (intCells .i64 l)) (hl : l.length ≤ 1000000) :
    CallsA Try.prog w0 39 #[.slice A l.length c] m (fun r m' => m' = m ∧ r = .slice A (usedP l).length c ∧ Own m B 3 1 A (usedP l).length c (intCells .i64 (usedP l))) := by
  refine cf39 w0 m A l.length c _ ?_
  refine vl39_11010 w0 m _ _ A l.length c 0 0 (fun k n i m' => m' = m ∧ 0 ≤ n ∧ n ≤ i ∧ i ≤ l.length ∧ (k : Int) = l.length - i ∧ usedP (l.take i.toNat) = l.take n.toNat) (fun n m' => m' = m ∧ 0 ≤ n ∧ n ≤ l.length ∧ usedP l = l.take n.toNat) l.length rfl rfl rfl ⟨rfl, by omega, by omega, by omega, by omega, by simp [usedP]⟩ ?_ ?_
  · rintro k σ n i m' ⟨hm, n0, ni, il, hk, hu⟩
    subst hm
    refine ⟨rfl, ?_⟩
    by_cases c1 : i < l.length
    · refine bcET (decide_eq_true c1) ⟨⟨by omega, c1⟩, ?_⟩
      obtain ⟨ad, hA, hc⟩ := hw.ex (by omega)
      subst hA
      have hlt : i.toNat < l.length := by omega
      refine ⟨_, cell_k hc (by omega) c1, rfl, ?_⟩
      have htake : l.take (i + 1).toNat = l.take i.toNat ++ [l.getD i.toNat 0] := by
        rw [show (i + 1).toNat = i.toNat + 1 by omega, show l.getD i.toNat 0 = l[i.toNat] by simp [List.getD, hlt]]
        exact (List.take_append_getElem hlt).symm
      have w : IntKind.wrap .i64 (i + 1) = i + 1 := by rw [IntKind.wrap_i64]; omega
      rw [w]
      by_cases hz : l.getD i.toNat 0 = 0
      · refine bcEF (by rw [hz]; rfl) ⟨rfl, rfl, rfl, rfl, k - 1, by omega, rfl, n0, by omega, by omega, by omega, ?_⟩
        rw [htake, hz, usedP_snoc0, hu]
      · refine bcET (by simpa using hz) ⟨rfl, rfl, rfl, rfl, rfl, k - 1, by omega, rfl, by omega, by omega, by omega, by omega, ?_⟩
        rw [htake, usedP_snoc _ _ hz]
    · refine bcEF (decide_eq_false c1) ⟨rfl, rfl, rfl, n0, by omega, ?_⟩
      rw [List.take_of_length_le (by omega)] at hu
      exact hu
  · rintro σ n m' ⟨hm, n0, nl, hu⟩
    subst hm
    have hlen : (usedP l).length = n.toNat := by rw [hu, List.length_take]; omega
    have hcap := hw.2.1
    refine ⟨n0, by omega, by omega, retP_of ⟨rfl, ?_, ?_⟩⟩
    · have hA : (if c = 0 then A else Option.map (fun x => Addr.add x (0 * 1)) A) = A := by
        split
        · rfl
        · cases A with
          | none => rfl
          | some ad => simp [Addr.add]
      rw [hA, hlen, Nat.sub_zero, Nat.sub_zero]
    · have h2 := Own.shrink hw (k := n.toNat) (by omega)
      rw [hlen, hu]
      simpa [intCells, List.map_take] using h2

/-! The registers are words. -/
theorem setR_wd {r : List Int} (h : ∀ v ∈ r, w32 v = v) (n x : Int) : ∀ v ∈ setR r n x, w32 v = v := by
  unfold setR
  split
  · exact h
  · intro v hv
    rcases List.mem_or_eq_of_mem_set hv with h' | h'
    · exact h v h'
    · rw [h']; exact w32_w32 _
theorem sysP_wd {s : MS} (h : ∀ v ∈ s.regs, w32 v = v) (n : Int) : ∀ v ∈ (sysP s n).1.regs, w32 v = v := by
  unfold sysP
  split
  · exact h
  split
  · cases s.inp with
    | nil => exact h
    | cons x r => exact setR_wd h 4 x
  split
  · split <;> exact h
  · exact h
theorem actP_wd {s : MS} (h : ∀ v ∈ s.regs, w32 v = v) (i : Ins) : ∀ v ∈ (actP s i).1.regs, w32 v = v := by
  unfold actP; simp only []
  split
  · split
    · exact setR_wd h _ _
    · exact h
  split
  · split <;> exact h
  split
  · split <;> exact h
  split
  · exact sysP_wd h _
  · exact h
theorem nextP_wd {s : MS} (h : ∀ v ∈ s.regs, w32 v = v) (i : Ins) : ∀ v ∈ (nextP s i).1.regs, w32 v = v := by
  unfold nextP; simp only
  split
  · exact h
  split
  · exact setR_wd h 31 (IntKind.wrap .i64 (s.at_ + 1))
  split
  · exact h
  split <;> exact h
theorem stepP_wd (code : List Ins) {s : MS} (h : ∀ v ∈ s.regs, w32 v = v) : ∀ v ∈ (stepP code s).1.regs, w32 v = v := by
  unfold stepP
  simp only
  split
  · exact h
  split
  · exact h
  split
  · exact h
  have h1 := actP_wd h (code.getD s.at_.toNat default)
  split
  · exact h1
  split
  · exact h1
  show ∀ v ∈ (nextP _ _).1.regs, w32 v = v
  refine nextP_wd ?_ _
  split
  · exact setR_wd h1 _ _
  · exact h1
end Go.Proofs.Ytadcbnldahcelaa.S

set_option linter.unusedSimpArgs false
set_option linter.unusedVariables false
set_option maxRecDepth 100000
namespace Go.Proofs.Ytadcbnldahcelaa.S
open Go Go.RowKit Go.Alog Go.Proofs.Ytadcbnldahcelaa.T Go.Proofs.Ytadcbnldahcelaa.V

structure RRunI (w0 : World) (M : AM) (g : Nat) (code : List Ins) (inp : List Int) (n : Nat) (F : MS × Int × Int) (k : Int) (s sS : MS) (rd t : Int) (q : RA) (m' : AM) : Prop where
  h : RfR M m' w0.heap.size g s rd t q
  hG : runG code n (sS, t, k) = F
  h0 : 0 ≤ k
  em : s.mem = sS.mem
  eo : s.out = sS.out
  es : t = 0 → s = sS
  hrd : 0 ≤ rd ∧ rd ≤ inp.length ∧ s.inp = inp.drop rd.toNat
  hw : ∀ v ∈ sS.regs, w32 v = v
  hlen : sS.out.length ≤ 10000

theorem runRef_spec (w0 : World) (m : AM) (Ac : Option Addr) (nc cc : Nat) (code : List Ins) (mem : Int) (Ai : Option Addr) (ni ci : Nat) (inp : List Int) (fuel : Int) (h1 : code.length = nc) (h2 : inp.length = ni) (hf : InI fuel) (hc : Reads m 5 Ac nc (insCells code)) (hi : Reads m 1 Ai ni (intCells .i64 inp)) (hin : ni ≤ 1000000) :
    CallsA Try.prog w0 24 #[.slice Ac nc cc, .int .i64 mem, .slice Ai ni ci, .int .i64 fuel] m (fun r m' => m.le m' ∧ RRes m' w0.heap.size r (runP code mem inp fuel)) := by
  generalize hR : (fun (r : Value) (m' : AM) => m.le m' ∧ RRes m' w0.heap.size r (runP code mem inp fuel)) = R
  refine cf24 w0 m Ac nc cc mem Ai ni ci fuel R ?_
  intro b1 hb1 hm1 M
  have l1 : m.le M := le_new hm1 _
  have p1 : M b1 = some (.cells #[.int .i64 0, .int .i64 0, .slice none 0 0, .slice none 0 0] 28) := upd_get_same
  clear_value M
  have le1 : ∀ {m3 : AM} (o : Obj), m.le m3 → m.le (m3.upd b1 o) := fun o h x o' hx => by
    have : x ≠ b1 := fun e => by subst e; rw [hm1] at hx; cases hx
    rw [upd_get_ne this]; exact h x o' hx
  have nilret : runP code mem inp fuel = ⟨0, 0, [], []⟩ →
      StC w0.heap.size M ⟨b1, 0, none⟩ (.int .i64 0) fun m75 => StC w0.heap.size m75 ⟨b1, 1, none⟩ (.int .i64 0) fun m76 => StC w0.heap.size m76 ⟨b1, 2, none⟩ (.slice none 0 0) fun m77 => StC w0.heap.size m77 ⟨b1, 3, none⟩ (.slice none 0 0) fun m78 =>
        ∃ i79 : Int, m78.cell ⟨b1, 0, none⟩ = some (.int .i64 i79) ∧ ∃ i80 : Int, m78.cell ⟨b1, 1, none⟩ = some (.int .i64 i80) ∧ ∃ (A81 : Option Addr) (n82 c83 : Nat), m78.cell ⟨b1, 2, none⟩ = some (.slice A81 n82 c83) ∧ ∃ (A84 : Option Addr) (n85 c86 : Nat), m78.cell ⟨b1, 3, none⟩ = some (.slice A84 n85 c86) ∧ RetP R (.agg #[.int .i64 i79, .int .i64 i80, .slice A81 n82 c83, .slice A84 n85 c86]) m78 := by
    intro hrun
    refine StC_own p1 hb1 (by simp) ?_
    simp only [cell_upd_same, cell_upd_ne, ne_eq, not_false_eq_true, List.getElem?_toArray, List.getElem?_cons_zero, List.getElem?_cons_succ, Option.some.injEq, Value.int.injEq, Value.slice.injEq, Value.bool.injEq, Value.pointer.injEq, Value.tuple.injEq, Array.mk.injEq, List.cons.injEq, true_and, and_true, exists_eq_left', exists_eq', exists_eq, exists_and_left, exists_and_right, and_assoc, bcase_t, bcase_f, cond_true, cond_false, StC_upd, nilO_some, List.setIfInBounds_toArray, List.set_cons_zero, List.set_cons_succ, List.size_toArray, List.length_cons, List.length_nil, Nat.reduceAdd, Nat.reduceLT, hb1]
    refine retP_of ?_
    rw [← hR, hrun]
    exact ⟨le1 _ l1, none, 0, none, 0, rfl, Own.nil _ _ _ _, Own.nil _ _ _ _⟩
  refine ⟨rfl, bcI (fun hl => ⟨hl, rfl, rfl, nilret ?_⟩) fun hl => ⟨rfl, bcI (fun hneg => ⟨hneg, rfl, nilret ?_⟩) fun hneg => ⟨rfl, bcI (fun hbig => ⟨rfl, nilret ?_⟩) fun hbig => ?_⟩⟩⟩
  · have := of_decide_eq_true hl
    exact runP_bad _ _ _ _ (.inl (by omega))
  · rw [hl] at hneg
    exact runP_bad _ _ _ _ (.inr (.inl (of_decide_eq_true hneg)))
  · rw [hneg] at hbig
    exact runP_bad _ _ _ _ (.inr (.inr (of_decide_eq_true hbig)))
  have g1 : ¬ code.length > 4096 := by have := of_decide_eq_false hl; omega
  rw [hl] at hneg
  have g2 : ¬ mem < 0 := of_decide_eq_false hneg
  rw [show (bif decide (((nc : Nat) : Int) > 4096) then true else decide (mem < 0)) = false by rw [hl]; exact hneg] at hbig
  have g3 : ¬ mem > 32000 := of_decide_eq_false hbig
  refine CallsA.mono (begin_spec w0 M mem inp (by omega)) ?_
  rintro r m2 ⟨g, q0, rfl, hq0⟩
  refine ⟨_, rfl, ?_⟩
  have hcM := hc.le l1
  have hiM := hi.le l1
  have hP : runP code mem inp fuel = (let x := runG code fuel.toNat (beginS mem inp, 0, 0); ⟨x.2.1, x.2.2, x.1.out, usedP x.1.mem⟩) := by
    unfold runP; rw [if_neg (by omega)]
  generalize hF : runG code fuel.toNat (beginS mem inp, 0, 0) = F at hP
  have hFm : F.1.mem.length ≤ 1000000 := by
    have := runG_mem code fuel.toNat (beginS mem inp, 0, 0)
    rw [hF] at this
    rw [this]; simp [beginS]; omega
  refine vl24_111100 w0 m2 _ R Ac nc cc Ai ni ci fuel b1 (some ⟨g, 0, none⟩) 0
    (fun n k m' => (∃ s sS rd t q, RRunI w0 M g code inp n F k s sS rd t q m' ∧ (t = 0 → n = (fuel - k).toNat)))
    (fun k m' => ∃ s sS rd t q, RRunI w0 M g code inp 0 F k s sS rd t q m') fuel.toNat rfl rfl rfl rfl rfl rfl
    ⟨beginS mem inp, beginS mem inp, 0, 0, q0, ⟨hq0, hF, by omega, rfl, rfl, fun _ => rfl, ⟨by omega, by omega, rfl⟩, by intro v hv; simp [beginS] at hv; rw [hv]; rfl, by simp [beginS]⟩, fun _ => by simp⟩ ?_ ?_
  · rintro n σ k m6 ⟨s, sS, rd, t, q, hC, hn⟩
    rw [nilO_some]
    refine ⟨_, hC.h.cells.2.2.2.2.2, rfl, bcI (fun ht => ⟨rfl, bcI (fun hk => ?_) fun hk => ?_⟩) fun ht => ⟨ht, rfl, rfl, rfl, rfl, rfl, rfl, ?_⟩⟩
    · have t0 : t = 0 := by simpa using ht
      subst t0
      have hkf : k < fuel := by simpa using hk
      have es := hC.es rfl
      refine CallsA.mono (rstep_spec w0 M m6 g s rd q Ac nc cc code h1 hcM Ai ni ci inp h2.symm hiM hin (by rw [← h2]; exact hC.hrd) (by rw [hC.eo]; have := hC.hlen; omega) (by rw [es]; exact hC.hw) hC.h) ?_
      rintro r m7 ⟨rfl, s', rd', ⟨hf7, q7, hq7, hk7⟩, e1, e2, e3, e4⟩
      rw [es] at e1 e2 e3 hq7
      have h00 := hC.h0
      have wk : IntKind.wrap .i64 (k + 1) = k + 1 := w64_id (by unfold InI at hf; omega)
      have hn1 := hn rfl
      obtain ⟨n', rfl⟩ : ∃ n', n = n' + 1 := ⟨n - 1, by have := hC.h0; omega⟩
      refine ⟨rfl, rfl, rfl, rfl, rfl, rfl, rfl, rfl, n', by omega, ?_⟩
      rw [wk]
      refine ⟨s', (stepP code sS).1, rd', (stepP code sS).2, q7, ⟨hq7, ?_, by omega, e1, e2, e3, by rw [h2]; exact e4, stepP_wd code hC.hw, stepP_outlen code sS hC.hlen⟩, fun _ => by omega⟩
      rw [← hC.hG]
      simp [runG]
    · have t0 : t = 0 := by simpa using ht
      subst t0
      have hkf : ¬ k < fuel := by simpa using hk
      refine ⟨rfl, rfl, rfl, rfl, rfl, rfl, s, sS, rd, 0, q, ?_⟩
      have hn1 := hn rfl
      have : n = 0 := by omega
      subst this
      exact hC
    · have t0 : t ≠ 0 := by simpa using ht
      refine ⟨s, sS, rd, t, q, hC.h, ?_, hC.h0, hC.em, hC.eo, hC.es, hC.hrd, hC.hw, hC.hlen⟩
      rw [← hC.hG]
      cases n with
      | zero => rfl
      | succ n => simp [runG, t0]
  · rintro σ k m6 ⟨s, sS, rd, t, q, hC⟩
    have hFe : (sS, t, k) = F := hC.hG
    subst hFe
    simp only at hFm hP
    have h6 := hC.h
    have hl6 : s.mem.length ≤ 1000000 := by rw [hC.em]; exact hFm
    have p6 := h6.L _ _ p1
    have L6 := AM.le_trans l1 h6.L
    have used := usedR_spec w0 m6 w0.heap.size q.Am s.mem q.cm h6.hm hl6
    -- the four stores
    have last : ∀ (K : AM → Prop), (∀ m8, m.le m8 → m8 b1 = some (.cells #[.int .i64 t, .int .i64 k, .slice q.Ao s.out.length q.co, .slice q.Am (usedP s.mem).length q.cm] 28) → Own m8 w0.heap.size 3 1 q.Ao s.out.length q.co (intCells .i64 s.out) → Own m8 w0.heap.size 3 1 q.Am (usedP s.mem).length q.cm (intCells .i64 (usedP s.mem)) → K m8) →
        Own m6 w0.heap.size 3 1 q.Am (usedP s.mem).length q.cm (intCells .i64 (usedP s.mem)) →
        StC w0.heap.size m6 ⟨b1, 0, none⟩ (.int .i64 t) fun m73 => StC w0.heap.size m73 ⟨b1, 1, none⟩ (.int .i64 k) fun m74 => StC w0.heap.size m74 ⟨b1, 2, none⟩ (.slice q.Ao s.out.length q.co) fun m75 => StC w0.heap.size m75 ⟨b1, 3, none⟩ (.slice q.Am (usedP s.mem).length q.cm) K := by
      intro K hK ho2
      refine StC_own p6 hb1 (by simp) ?_
      simp only [cell_upd_same, cell_upd_ne, ne_eq, not_false_eq_true, List.getElem?_toArray, List.getElem?_cons_zero, List.getElem?_cons_succ, Option.some.injEq, Value.int.injEq, Value.slice.injEq, Value.bool.injEq, Value.pointer.injEq, Value.tuple.injEq, Array.mk.injEq, List.cons.injEq, true_and, and_true, exists_eq_left', exists_eq', exists_eq, exists_and_left, exists_and_right, and_assoc, bcase_t, bcase_f, cond_true, cond_false, StC_upd, nilO_some, List.setIfInBounds_toArray, List.set_cons_zero, List.set_cons_succ, List.size_toArray, List.length_cons, List.length_nil, Nat.reduceAdd, Nat.reduceLT, hb1]
      exact hK _ (le1 _ L6) upd_get_same (h6.ho.upd (h6.ho.ne_type p6 (by decide))) (ho2.upd (ho2.ne_type p6 (by decide)))
    refine vr24_111110 w0 m6 _ R b1 (some ⟨g, 0, none⟩) k (fun m8 => m.le m8 ∧ m8 b1 = some (.cells #[.int .i64 t, .int .i64 k, .slice q.Ao s.out.length q.co, .slice q.Am (usedP s.mem).length q.cm] 28) ∧ Own m8 w0.heap.size 3 1 q.Ao s.out.length q.co (intCells .i64 s.out) ∧ Own m8 w0.heap.size 3 1 q.Am (usedP s.mem).length q.cm (intCells .i64 (usedP s.mem))) rfl rfl rfl ?_ ?_
    · rw [nilO_some, nilO_some, nilO_some]
      have cA := h6.cells.2.1
      have cO := h6.cells.2.2.2.2.1
      have cT := h6.cells.2.2.2.2.2
      refine ⟨_, _, _, cA, ⟨_, cT, ⟨_, _, _, cO, ?_⟩, ?_⟩, ⟨_, _, _, cO, ⟨_, cT, ?_⟩, ?_⟩, ?_⟩
      all_goals
        refine CallsA.mono used ?_
        rintro r m7 ⟨hm7, rfl, ho7⟩
        replace hm7 := hm7.symm; subst hm7
      · exact ⟨_, _, _, rfl, rfl, last _ (fun m8 a1 a2 a3 a4 => ⟨rfl, rfl, a1, a2, a3, a4⟩) ho7⟩
      · exact ⟨_, _, _, rfl, _, _, _, cO, rfl, last _ (fun m8 a1 a2 a3 a4 => ⟨rfl, rfl, a1, a2, a3, a4⟩) ho7⟩
      · exact ⟨_, _, _, rfl, rfl, last _ (fun m8 a1 a2 a3 a4 => ⟨rfl, rfl, a1, a2, a3, a4⟩) ho7⟩
      · exact ⟨_, _, _, rfl, _, cT, rfl, last _ (fun m8 a1 a2 a3 a4 => ⟨rfl, rfl, a1, a2, a3, a4⟩) ho7⟩
      · exact ⟨_, _, _, rfl, _, cT, _, _, _, cO, rfl, last _ (fun m8 a1 a2 a3 a4 => ⟨rfl, rfl, a1, a2, a3, a4⟩) ho7⟩
    · rintro σ m8 ⟨a1, a2, a3, a4⟩
      refine ⟨_, cel a2 rfl, _, cel a2 rfl, _, _, _, cel a2 rfl, _, _, _, cel a2 rfl, retP_of ?_⟩
      rw [← hR, hP]
      rw [hC.em] at a4 ⊢
      rw [hC.eo] at a3 ⊢
      exact ⟨a1, q.Ao, q.co, q.Am, q.cm, rfl, a3, a4⟩

theorem law_SeqRuns (W : World) (A0 : Option Addr) (n0 c0 : Nat) (l0 : List Ins) (z0 : l0.length = n0) (hlc0 : n0 ≤ c0) (rd0 : Reads (mOf W) 5 A0 n0 (insCells l0)) (y0 : n0 * 40 ≤ 140737488351232) (hw0 : ∀ i ∈ l0, i.wf) (a1 : Int) (w1 : (Lit.int .i64 a1).wf = true)
    (A2 : Option Addr) (n2 c2 : Nat) (l2 : List Int) (z2 : l2.length = n2) (hlc2 : n2 ≤ c2) (rd2 : Reads (mOf W) 1 A2 n2 (intCells .i64 l2)) (y2 : n2 * 8 ≤ 140737488351232) (hw2 : ∀ i ∈ l2, (Lit.int .i64 i).wf = true) (a3 : Int) (w3 : (Lit.int .i64 a3).wf = true) :
    CallsA Try.prog W 3 #[.slice A0 n0 c0, .int .i64 a1, .slice A2 n2 c2, .int .i64 a3] (mOf W) (fun r _ => r = .bool true) := by
  refine cf3 W _ A0 n0 c0 a1 A2 n2 c2 a3 _ ?_
  refine CallsA.mono (small7 W _ A0 n0 c0 a1 A2 n2 c2 a3) ?_
  rintro r m3 ⟨rfl, rfl⟩
  refine ⟨_, rfl, ?_⟩
  cases hs : smallB n0 a1 n2 a3 with
  | false => exact aw7 W _
  | true =>
  obtain ⟨s1, s2, s3, s4⟩ := smallB_spec hs
  refine bcF ?_
  refine CallsA.mono (run_of W _ A0 n0 c0 l0 a1 A2 n2 c2 l2 a3 z0 z2 (wf_i64 w3) rd0 rd2 (by omega)) ?_
  rintro r m16 ⟨l16, Ao, co, Am, cm, rfl, hao, ham⟩
  refine ⟨_, _, _, _, _, _, _, _, rfl, ?_⟩
  refine CallsA.mono (runRef_spec W m16 A0 n0 c0 l0 a1 A2 n2 c2 l2 a3 z0 z2 (wf_i64 w3) (rd0.le l16) (rd2.le l16) (by omega)) ?_
  rintro r m26 ⟨l26, Bo, cbo, Bm, cbm, rfl, hbo, hbm⟩
  refine ⟨_, _, _, _, _, _, _, _, rfl, ?_⟩
  have hln := runP_len l0 a1 l2 a3
  generalize runP l0 a1 l2 a3 = ra at *
  refine CallsA.mono (equal_spec W m26 ra ra Ao Am Bo Bm co cm cbo cbm (hao.le l26).reads (ham.le l26).reads hbo.reads hbm.reads hln) ?_
  rintro r m' ⟨rfl, _⟩
  have heq : decide (ra = ra) = true := by simp
  exact ⟨_, rfl, bcET heq (awB W _ heq)⟩
end Go.Proofs.Ytadcbnldahcelaa.S
