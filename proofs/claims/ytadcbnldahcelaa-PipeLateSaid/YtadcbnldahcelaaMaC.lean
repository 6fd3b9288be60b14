/- Ytadcbnldahcelaa: a text of our own, by an AI agent: MaC -/
import Derived.Test.YtadcbnldahcelaaRkC
import Derived.Test.YtadcbnldahcelaaVCellsC
set_option linter.unusedSimpArgs false
set_option linter.unusedVariables false
set_option maxRecDepth 100000
namespace Go.Proofs.Ytadcbnldahcelaa.S
open Go Go.RowKit Go.Alog Go.Proofs.Ytadcbnldahcelaa.T Go.Proofs.Ytadcbnldahcelaa.V

/-- What a row reads stays, if its block is not touched. -/
theorem Reads_fr {m m' : AM} {sz : Nat} {A : Option Addr} {n : Nat} {xs : List Value} {fp : List Nat} (h : Reads m sz A n xs) (hf : Fr m m' fp) (hd : 0 < n → ∀ k ∈ obl A, k ∉ fp) : Reads m' sz A n xs := by
  obtain ⟨h1, h2 | ⟨ad, h2, h3⟩⟩ := h
  · exact ⟨h1, .inl h2⟩
  · refine ⟨h1, .inr ⟨ad, h2, fun j u hu => ?_⟩⟩
    have hc := h3 j u hu
    have hn : 0 < n := by
      have h4 := (List.getElem?_eq_some_iff.1 hu).1
      rw [h1] at h4
      rcases Nat.eq_zero_or_pos n with h5 | h5
      · rw [h5] at h4; simp at h4
      · exact h5
    unfold AM.cell at hc ⊢
    have hb : (ad.add j).block = ad.block := add_block ad j
    rw [hb] at hc ⊢
    cases hm : m ad.block with
    | none => rw [hm] at hc; cases hc
    | some o =>
      rw [hm] at hc
      rw [hf _ _ hm (hd hn _ (by rw [h2]; simp [obl]))]
      exact hc

theorem Reads_known {m : AM} {sz : Nat} {A : Option Addr} {n : Nat} {xs : List Value} (h : Reads m sz A n xs) (hn : 0 < n) (hs : 0 < sz) : ∀ k ∈ obl A, m k ≠ none := by
  obtain ⟨h1, h2 | ⟨ad, h2, h3⟩⟩ := h
  · omega
  · intro k hk hm
    subst h2
    simp [obl] at hk; subst hk
    have hl : 0 < xs.length := by rw [h1]; exact Nat.mul_pos hn hs
    have hc := h3 0 xs[0] (List.getElem?_eq_getElem hl)
    unfold AM.cell at hc
    have hb : (ad.add 0).block = ad.block := add_block ad 0
    rw [hb, hm] at hc; cases hc

structure MS where
  regs : List Int
  mem : List Int
  at_ : Int
  inp : List Int
  out : List Int
 deriving Inhabited

/-- The cells of a machine. -/
def machL (Ac : Option Addr) (nc cc gm : Nat) (regs : List Int) (at_ : Int) (Ai : Option Addr) (ni ci : Nat) (Ao : Option Addr) (no co : Nat) : List Value :=
  .slice Ac nc cc :: .pointer (some ⟨gm, 0, none⟩) :: (intCells .i64 regs ++ [.int .i64 at_, .slice Ai ni ci, .slice Ao no co])

section
variable {Ac : Option Addr} {nc cc gm : Nat} {regs : List Int} {at_ : Int} {Ai : Option Addr} {ni ci : Nat} {Ao : Option Addr} {no co : Nat}
theorem machL_len (h : regs.length = 32) : (machL Ac nc cc gm regs at_ Ai ni ci Ao no co).length = 37 := by simp [machL, intCells, h]
theorem machL_reg {k : Nat} {v : Int} (hk : regs[k]? = some v) : (machL Ac nc cc gm regs at_ Ai ni ci Ao no co)[2 + k]? = some (.int .i64 v) := by
  have hl : k < regs.length := (List.getElem?_eq_some_iff.1 hk).1
  rw [show 2 + k = k + 1 + 1 by omega]
  unfold machL
  rw [List.getElem?_cons_succ, List.getElem?_cons_succ, List.getElem?_append_left (by simp [intCells]; exact hl)]
  simp [intCells, hk]
theorem machL_0 : (machL Ac nc cc gm regs at_ Ai ni ci Ao no co)[0]? = some (.slice Ac nc cc) := rfl
theorem machL_1 : (machL Ac nc cc gm regs at_ Ai ni ci Ao no co)[1]? = some (.pointer (some ⟨gm, 0, none⟩)) := rfl
theorem machL_hi (h : regs.length = 32) (j : Nat) : (machL Ac nc cc gm regs at_ Ai ni ci Ao no co)[34 + j]? = ([.int .i64 at_, .slice Ai ni ci, .slice Ao no co] : List Value)[j]? := by
  rw [show 34 + j = 32 + j + 1 + 1 by omega]
  unfold machL
  rw [List.getElem?_cons_succ, List.getElem?_cons_succ, List.getElem?_append_right (by simp [intCells, h])]
  congr 1
  simp [intCells, h]
theorem machL_34 (h : regs.length = 32) : (machL Ac nc cc gm regs at_ Ai ni ci Ao no co)[34]? = some (.int .i64 at_) := machL_hi h 0
theorem machL_35 (h : regs.length = 32) : (machL Ac nc cc gm regs at_ Ai ni ci Ao no co)[35]? = some (.slice Ai ni ci) := machL_hi h 1
theorem machL_36 (h : regs.length = 32) : (machL Ac nc cc gm regs at_ Ai ni ci Ao no co)[36]? = some (.slice Ao no co) := machL_hi h 2
theorem machL_setreg {k : Nat} {v : Int} (h : regs.length = 32) (hk : k < 32) : (machL Ac nc cc gm regs at_ Ai ni ci Ao no co).set (2 + k) (.int .i64 v) = machL Ac nc cc gm (regs.set k v) at_ Ai ni ci Ao no co := by
  rw [show 2 + k = k + 1 + 1 by omega]
  unfold machL
  rw [List.set_cons_succ, List.set_cons_succ, List.set_append_left _ _ (by simp [intCells, h]; exact hk)]
  simp [intCells, List.map_set]
theorem machL_setat {v : Int} (h : regs.length = 32) : (machL Ac nc cc gm regs at_ Ai ni ci Ao no co).set 34 (.int .i64 v) = machL Ac nc cc gm regs v Ai ni ci Ao no co := by
  unfold machL
  rw [show 34 = 32 + 1 + 1 by omega, List.set_cons_succ, List.set_cons_succ, List.set_append_right _ _ (by simp [intCells, h])]
  simp [intCells, h]
theorem machL_setin {A : Option Addr} {n c : Nat} (h : regs.length = 32) : (machL Ac nc cc gm regs at_ Ai ni ci Ao no co).set 35 (.slice A n c) = machL Ac nc cc gm regs at_ A n c Ao no co := by
  unfold machL
  rw [show 35 = 33 + 1 + 1 by omega, List.set_cons_succ, List.set_cons_succ, List.set_append_right _ _ (by simp [intCells, h])]
  simp [intCells, h]
theorem machL_setout {A : Option Addr} {n c : Nat} (h : regs.length = 32) : (machL Ac nc cc gm regs at_ Ai ni ci Ao no co).set 36 (.slice A n c) = machL Ac nc cc gm regs at_ Ai ni ci A n c := by
  unfold machL
  rw [show 36 = 34 + 1 + 1 by omega, List.set_cons_succ, List.set_cons_succ, List.set_append_right _ _ (by simp [intCells, h])]
  simp [intCells, h]
end

/-- A machine at block g; fp: the blocks that it writes. -/
structure SeqR (m : AM) (B g : Nat) (code : List Ins) (s : MS) (fp : List Nat) (Ac : Option Addr) (cc gm : Nat) (Ai : Option Addr) (ci : Nat) (Ao : Option Addr) (co : Nat) (Aw : Option Addr) (cw : Nat) : Prop where
  hg : m g = some (.cells (machL Ac code.length cc gm s.regs s.at_ Ai s.inp.length ci Ao s.out.length co).toArray 62)
  hB : B ≤ g
  hr : s.regs.length = 32
  hc : Reads m 5 Ac code.length (insCells code)
  hm : m gm = some (.cells #[.slice Aw s.mem.length cw] 81)
  hw : Own m B 3 1 Aw s.mem.length cw (intCells .i64 s.mem)
  hi : Reads m 1 Ai s.inp.length (intCells .i64 s.inp)
  hic : s.inp.length ≤ ci
  ho : Own m B 3 1 Ao s.out.length co (intCells .i64 s.out)
  hfp : fp = g :: (obl Aw ++ obl Ao)
  dwo : ∀ k ∈ obl Aw, k ∉ obl Ao
  dc : 0 < code.length → ∀ k ∈ obl Ac, k ∉ fp
  di : 0 < s.inp.length → ∀ k ∈ obl Ai, k ∉ fp
  dm : gm ∉ fp
  ti : 0 < s.inp.length → ∀ k ∈ obl Ai, ∃ c, m k = some (.cells c 3)
def SeqM (m : AM) (B g gm : Nat) (code : List Ins) (s : MS) (fp : List Nat) : Prop := ∃ Ac cc Ai ci Ao co Aw cw, SeqR m B g code s fp Ac cc gm Ai ci Ao co Aw cw
/-- What a step leaves. -/
def SPost (w0 : World) (m : AM) (g gm : Nat) (fp : List Nat) (code : List Ins) (s : MS) (m' : AM) : Prop :=
  ∃ fp', SeqM m' w0.heap.size g gm code s fp' ∧ Fr m m' fp ∧ ∀ k ∈ fp', k ∈ fp ∨ m k = none

theorem SeqM.le {m m' : AM} {B g gm : Nat} {code : List Ins} {s : MS} {fp : List Nat} (h : SeqM m B g gm code s fp) (hl : m.le m') : SeqM m' B g gm code s fp := by
  obtain ⟨Ac, cc, Ai, ci, Ao, co, Aw, cw, h⟩ := h
  exact ⟨Ac, cc, Ai, ci, Ao, co, Aw, cw, hl _ _ h.hg, h.hB, h.hr, h.hc.le hl, hl _ _ h.hm, h.hw.le hl, h.hi.le hl, h.hic, h.ho.le hl, h.hfp, h.dwo, h.dc, h.di, h.dm, fun h0 k hk => (h.ti h0 k hk).imp fun _ e => hl _ _ e⟩

theorem SPost.of {w0 : World} {m M m' : AM} {g gm : Nat} {fp fpM : List Nat} {code : List Ins} {s : MS} (h : SPost w0 M g gm fpM code s m') (hf : Fr m M fp) (hs : ∀ k ∈ fpM, k ∈ fp ∨ m k = none) : SPost w0 m g gm fp code s m' := by
  obtain ⟨fp', hb, hr, hk⟩ := h
  refine ⟨fp', hb, hf.trans hr hs, fun k hk' => ?_⟩
  rcases hk k hk' with h | h
  · exact hs k h
  · by_cases hin : k ∈ fp
    · exact .inl hin
    · cases hm : m k with
      | none => exact .inr rfl
      | some o => rw [hf k o hm hin] at h; cases h
theorem SPost.pre {w0 : World} {m M m' : AM} {g gm : Nat} {fp : List Nat} {code : List Ins} {s : MS} (h : SPost w0 M g gm fp code s m') (hl : m.le M) : SPost w0 m g gm fp code s m' :=
  h.of (Fr.of_le hl fp) fun _ hk => .inl hk
theorem SPost.self {w0 : World} {m m' : AM} {g gm : Nat} {fp : List Nat} {code : List Ins} {s : MS} (h : SeqM m w0.heap.size g gm code s fp) (hl : m.le m') : SPost w0 m g gm fp code s m' := ⟨fp, h.le hl, Fr.of_le hl fp, fun _ h => .inl h⟩

/-- The machine's own record is written. -/
theorem SeqR.put {m : AM} {B g : Nat} {code : List Ins} {s s' : MS} {fp : List Nat} {Ac Ai Ao Aw : Option Addr} {cc gm ci co cw : Nat} (h : SeqR m B g code s fp Ac cc gm Ai ci Ao co Aw cw) (hr : s'.regs.length = 32) (hm : s'.mem = s.mem) (hi : s'.inp = s.inp) (ho : s'.out = s.out) :
    SeqR (m.upd g (.cells (machL Ac code.length cc gm s'.regs s'.at_ Ai s.inp.length ci Ao s.out.length co).toArray 62)) B g code s' fp Ac cc gm Ai ci Ao co Aw cw := by
  have hfr : Fr m (m.upd g (.cells (machL Ac code.length cc gm s'.regs s'.at_ Ai s.inp.length ci Ao s.out.length co).toArray 62)) [g] := Fr.upd (Fr.refl _ _) (.inl (by simp)) _
  have hgf : g ∈ fp := by rw [h.hfp]; simp
  refine ⟨by rw [upd_get_same, hi, ho], h.hB, hr, Reads_fr h.hc hfr fun h0 k hk hin => h.dc h0 k hk (by simp at hin; rw [hin]; exact hgf), ?_, ?_, ?_, by rw [hi]; exact h.hic, ?_, h.hfp, h.dwo, h.dc, by rw [hi]; exact h.di, h.dm, ?_⟩
  · rw [hm]; exact hfr _ _ h.hm (by intro hin; simp at hin; exact h.dm (by rw [hin]; exact hgf))
  · rw [hm]; exact h.hw.upd (h.hw.ne_type h.hg (by decide))
  · rw [hi]; exact Reads_fr h.hi hfr fun h0 k hk hin => h.di h0 k hk (by simp at hin; rw [hin]; exact hgf)
  · rw [ho]; exact h.ho.upd (h.ho.ne_type h.hg (by decide))
  · rw [hi]; exact fun h0 k hk => (h.ti h0 k hk).imp fun _ e => hfr _ _ e fun hin => h.di h0 k hk (by simp at hin; rw [hin]; exact hgf)

def setR (regs : List Int) (n v : Int) : List Int := if n = 0 then regs else regs.set n.toNat (w32 v)
def regOf (regs : List Int) (n : Int) : Int := regs.getD n.toNat 0

theorem set_spec (w0 : World) (m : AM) (g gm : Nat) (code : List Ins) (s : MS) (fp : List Nat) (n v : Int) (hn : 0 ≤ n ∧ n < 32) (h : SeqM m w0.heap.size g gm code s fp) :
    CallsA Try.prog w0 50 #[.pointer (some ⟨g, 0, none⟩), .int .i64 n, .int .i64 v] m (fun r m' => r = .tuple #[] ∧ SPost w0 m g gm fp code { s with regs := setR s.regs n v } m') := by
  refine cf50 w0 m g n v _ ?_
  unfold setR
  by_cases h0 : n = 0
  · subst h0
    simp only [bne_self_eq_false, bcase_f, if_true, true_and]
    exact retP_of ⟨rfl, SPost.self h (AM.le_refl m)⟩
  · have hb : (n != 0) = true := by simpa using h0
    simp only [hb, bcase_t, true_and, if_neg h0]
    refine CallsA.mono (wrapW w0 m v) ?_
    rintro r m1 ⟨rfl, rfl⟩
    refine ⟨_, rfl, ⟨hn.1, hn.2⟩, ?_⟩
    obtain ⟨Ac, cc, Ai, ci, Ao, co, Aw, cw, h⟩ := h
    rw [addn, Nat.mul_one]
    have hk : n.toNat < 32 := by omega
    refine StC_own h.hg h.hB (by rw [List.size_toArray, machL_len h.hr]; omega) ?_
    rw [List.setIfInBounds_toArray, machL_setreg h.hr hk]
    have hp := h.put (s' := { s with regs := s.regs.set n.toNat (w32 v) }) (by simp [h.hr]) rfl rfl rfl
    refine retP_of ⟨rfl, fp, ⟨Ac, cc, Ai, ci, Ao, co, Aw, cw, hp⟩, Fr.upd (Fr.refl _ _) (.inl (by rw [h.hfp]; simp)) _, fun _ h => .inl h⟩
end Go.Proofs.Ytadcbnldahcelaa.S
