/- Ytadcbnldahcelaa: a text of our own, by an AI agent: P8bC -/
import Derived.Test.YtadcbnldahcelaaP8aC
import Derived.Test.YtadcbnldahcelaaMcC
import Derived.Test.YtadcbnldahcelaaVPipeC
set_option linter.unusedSimpArgs false
set_option linter.unusedVariables false
set_option maxRecDepth 100000
namespace Go.Proofs.Ytadcbnldahcelaa.S
open Go Go.RowKit Go.Alog Go.Proofs.Ytadcbnldahcelaa.T Go.Proofs.Ytadcbnldahcelaa.V

/-- What stands between two stages. -/
structure La where
  full : Bool
  i : Ins
  at_ : Int
  reg : Int
  value : Int
  stored : Int
  where_ : Int
  trap : Int
def La0 : La := ⟨false, ⟨0, 0, 0, 0, 0⟩, 0, 0, 0, 0, 0, 0⟩
abbrev La.vals (l : La) : List Value := [.bool l.full, .int .i64 l.i.op, .int .i64 l.i.a, .int .i64 l.i.b, .int .i64 l.i.c, .int .i64 l.i.imm, .int .i64 l.at_, .int .i64 l.reg, .int .i64 l.value, .int .i64 l.stored, .int .i64 l.where_, .int .i64 l.trap]
abbrev La.val (l : La) : Value := .agg #[.bool l.full, .int .i64 l.i.op, .int .i64 l.i.a, .int .i64 l.i.b, .int .i64 l.i.c, .int .i64 l.i.imm, .int .i64 l.at_, .int .i64 l.reg, .int .i64 l.value, .int .i64 l.stored, .int .i64 l.where_, .int .i64 l.trap]

theorem st12 {B g k : Nat} {m : AM} {c : Array Value} {t : TypeId} {K : AM → Prop} {v0 v1 v2 v3 v4 v5 v6 v7 v8 v9 v10 v11 : Value} (hg : m g = some (.cells c t)) (hB : B ≤ g) (hs : k + 12 ≤ c.size) (hK : K (m.upd g (.cells (splice c k [v0, v1, v2, v3, v4, v5, v6, v7, v8, v9, v10, v11]) t))) :
    StC B m ⟨g, k, none⟩ (v0) fun y0 => StC B y0 ⟨g, k + 1, none⟩ (v1) fun y1 => StC B y1 ⟨g, k + 2, none⟩ (v2) fun y2 => StC B y2 ⟨g, k + 3, none⟩ (v3) fun y3 => StC B y3 ⟨g, k + 4, none⟩ (v4) fun y4 => StC B y4 ⟨g, k + 5, none⟩ (v5) fun y5 => StC B y5 ⟨g, k + 6, none⟩ (v6) fun y6 => StC B y6 ⟨g, k + 7, none⟩ (v7) fun y7 => StC B y7 ⟨g, k + 8, none⟩ (v8) fun y8 => StC B y8 ⟨g, k + 9, none⟩ (v9) fun y9 => StC B y9 ⟨g, k + 10, none⟩ (v10) fun y10 => StC B y10 ⟨g, k + 11, none⟩ (v11) fun y11 => K y11 := by
  have h := StL_cells (B := B) (g := g) (e := t) (K := K) [v0, v1, v2, v3, v4, v5, v6, v7, v8, v9, v10, v11] 0 k m c hg hB (by simp; omega) (by simpa using hK)
  simpa [StL, Addr.add] using h

theorem st12a {B g : Nat} {m : AM} {c : Array Value} {t : TypeId} {K : AM → Prop} {v0 v1 v2 v3 v4 v5 v6 v7 v8 v9 v10 v11 : Value} (hg : m g = some (.cells c t)) (hB : B ≤ g) (hs : c.size = 12) (hK : K (m.upd g (.cells (#[v0, v1, v2, v3, v4, v5, v6, v7, v8, v9, v10, v11]) t))) :
    StC B m ⟨g, 0, none⟩ (v0) fun y0 => StC B y0 ⟨g, 1, none⟩ (v1) fun y1 => StC B y1 ⟨g, 2, none⟩ (v2) fun y2 => StC B y2 ⟨g, 3, none⟩ (v3) fun y3 => StC B y3 ⟨g, 4, none⟩ (v4) fun y4 => StC B y4 ⟨g, 5, none⟩ (v5) fun y5 => StC B y5 ⟨g, 6, none⟩ (v6) fun y6 => StC B y6 ⟨g, 7, none⟩ (v7) fun y7 => StC B y7 ⟨g, 8, none⟩ (v8) fun y8 => StC B y8 ⟨g, 9, none⟩ (v9) fun y9 => StC B y9 ⟨g, 10, none⟩ (v10) fun y10 => StC B y10 ⟨g, 11, none⟩ (v11) fun y11 => K y11 := by
  refine st12 (k := 0) hg hB (by omega) ?_
  rw [show splice c 0 [v0, v1, v2, v3, v4, v5, v6, v7, v8, v9, v10, v11] = #[v0, v1, v2, v3, v4, v5, v6, v7, v8, v9, v10, v11] by unfold splice; rw [List.take_zero, List.nil_append, List.drop_of_length_le (by rw [Array.length_toList, hs]; exact Nat.le_refl _), List.append_nil]]
  exact hK

theorem st32 {B g k : Nat} {m : AM} {c : Array Value} {t : TypeId} {K : AM → Prop} {v0 v1 v2 v3 v4 v5 v6 v7 v8 v9 v10 v11 v12 v13 v14 v15 v16 v17 v18 v19 v20 v21 v22 v23 v24 v25 v26 v27 v28 v29 v30 v31 : Value} (hg : m g = some (.cells c t)) (hB : B ≤ g) (hs : k + 32 ≤ c.size) (hK : K (m.upd g (.cells (splice c k [v0, v1, v2, v3, v4, v5, v6, v7, v8, v9, v10, v11, v12, v13, v14, v15, v16, v17, v18, v19, v20, v21, v22, v23, v24, v25, v26, v27, v28, v29, v30, v31]) t))) :
    StC B m ⟨g, k, none⟩ (v0) fun y0 => StC B y0 ⟨g, k + 1, none⟩ (v1) fun y1 => StC B y1 ⟨g, k + 2, none⟩ (v2) fun y2 => StC B y2 ⟨g, k + 3, none⟩ (v3) fun y3 => StC B y3 ⟨g, k + 4, none⟩ (v4) fun y4 => StC B y4 ⟨g, k + 5, none⟩ (v5) fun y5 => StC B y5 ⟨g, k + 6, none⟩ (v6) fun y6 => StC B y6 ⟨g, k + 7, none⟩ (v7) fun y7 => StC B y7 ⟨g, k + 8, none⟩ (v8) fun y8 => StC B y8 ⟨g, k + 9, none⟩ (v9) fun y9 => StC B y9 ⟨g, k + 10, none⟩ (v10) fun y10 => StC B y10 ⟨g, k + 11, none⟩ (v11) fun y11 => StC B y11 ⟨g, k + 12, none⟩ (v12) fun y12 => StC B y12 ⟨g, k + 13, none⟩ (v13) fun y13 => StC B y13 ⟨g, k + 14, none⟩ (v14) fun y14 => StC B y14 ⟨g, k + 15, none⟩ (v15) fun y15 => StC B y15 ⟨g, k + 16, none⟩ (v16) fun y16 => StC B y16 ⟨g, k + 17, none⟩ (v17) fun y17 => StC B y17 ⟨g, k + 18, none⟩ (v18) fun y18 => StC B y18 ⟨g, k + 19, none⟩ (v19) fun y19 => StC B y19 ⟨g, k + 20, none⟩ (v20) fun y20 => StC B y20 ⟨g, k + 21, none⟩ (v21) fun y21 => StC B y21 ⟨g, k + 22, none⟩ (v22) fun y22 => StC B y22 ⟨g, k + 23, none⟩ (v23) fun y23 => StC B y23 ⟨g, k + 24, none⟩ (v24) fun y24 => StC B y24 ⟨g, k + 25, none⟩ (v25) fun y25 => StC B y25 ⟨g, k + 26, none⟩ (v26) fun y26 => StC B y26 ⟨g, k + 27, none⟩ (v27) fun y27 => StC B y27 ⟨g, k + 28, none⟩ (v28) fun y28 => StC B y28 ⟨g, k + 29, none⟩ (v29) fun y29 => StC B y29 ⟨g, k + 30, none⟩ (v30) fun y30 => StC B y30 ⟨g, k + 31, none⟩ (v31) fun y31 => K y31 := by
  have h := StL_cells (B := B) (g := g) (e := t) (K := K) [v0, v1, v2, v3, v4, v5, v6, v7, v8, v9, v10, v11, v12, v13, v14, v15, v16, v17, v18, v19, v20, v21, v22, v23, v24, v25, v26, v27, v28, v29, v30, v31] 0 k m c hg hB (by simp; omega) (by simpa using hK)
  simpa [StL, Addr.add] using h

theorem st32a {B g : Nat} {m : AM} {c : Array Value} {t : TypeId} {K : AM → Prop} {v0 v1 v2 v3 v4 v5 v6 v7 v8 v9 v10 v11 v12 v13 v14 v15 v16 v17 v18 v19 v20 v21 v22 v23 v24 v25 v26 v27 v28 v29 v30 v31 : Value} (hg : m g = some (.cells c t)) (hB : B ≤ g) (hs : c.size = 32) (hK : K (m.upd g (.cells (#[v0, v1, v2, v3, v4, v5, v6, v7, v8, v9, v10, v11, v12, v13, v14, v15, v16, v17, v18, v19, v20, v21, v22, v23, v24, v25, v26, v27, v28, v29, v30, v31]) t))) :
    StC B m ⟨g, 0, none⟩ (v0) fun y0 => StC B y0 ⟨g, 1, none⟩ (v1) fun y1 => StC B y1 ⟨g, 2, none⟩ (v2) fun y2 => StC B y2 ⟨g, 3, none⟩ (v3) fun y3 => StC B y3 ⟨g, 4, none⟩ (v4) fun y4 => StC B y4 ⟨g, 5, none⟩ (v5) fun y5 => StC B y5 ⟨g, 6, none⟩ (v6) fun y6 => StC B y6 ⟨g, 7, none⟩ (v7) fun y7 => StC B y7 ⟨g, 8, none⟩ (v8) fun y8 => StC B y8 ⟨g, 9, none⟩ (v9) fun y9 => StC B y9 ⟨g, 10, none⟩ (v10) fun y10 => StC B y10 ⟨g, 11, none⟩ (v11) fun y11 => StC B y11 ⟨g, 12, none⟩ (v12) fun y12 => StC B y12 ⟨g, 13, none⟩ (v13) fun y13 => StC B y13 ⟨g, 14, none⟩ (v14) fun y14 => StC B y14 ⟨g, 15, none⟩ (v15) fun y15 => StC B y15 ⟨g, 16, none⟩ (v16) fun y16 => StC B y16 ⟨g, 17, none⟩ (v17) fun y17 => StC B y17 ⟨g, 18, none⟩ (v18) fun y18 => StC B y18 ⟨g, 19, none⟩ (v19) fun y19 => StC B y19 ⟨g, 20, none⟩ (v20) fun y20 => StC B y20 ⟨g, 21, none⟩ (v21) fun y21 => StC B y21 ⟨g, 22, none⟩ (v22) fun y22 => StC B y22 ⟨g, 23, none⟩ (v23) fun y23 => StC B y23 ⟨g, 24, none⟩ (v24) fun y24 => StC B y24 ⟨g, 25, none⟩ (v25) fun y25 => StC B y25 ⟨g, 26, none⟩ (v26) fun y26 => StC B y26 ⟨g, 27, none⟩ (v27) fun y27 => StC B y27 ⟨g, 28, none⟩ (v28) fun y28 => StC B y28 ⟨g, 29, none⟩ (v29) fun y29 => StC B y29 ⟨g, 30, none⟩ (v30) fun y30 => StC B y30 ⟨g, 31, none⟩ (v31) fun y31 => K y31 := by
  refine st32 (k := 0) hg hB (by omega) ?_
  rw [show splice c 0 [v0, v1, v2, v3, v4, v5, v6, v7, v8, v9, v10, v11, v12, v13, v14, v15, v16, v17, v18, v19, v20, v21, v22, v23, v24, v25, v26, v27, v28, v29, v30, v31] = #[v0, v1, v2, v3, v4, v5, v6, v7, v8, v9, v10, v11, v12, v13, v14, v15, v16, v17, v18, v19, v20, v21, v22, v23, v24, v25, v26, v27, v28, v29, v30, v31] by unfold splice; rw [List.take_zero, List.nil_append, List.drop_of_length_le (by rw [Array.length_toList, hs]; exact Nat.le_refl _), List.append_nil]]
  exact hK

/-- A new latch. -/
theorem new12 {B : Nat} {m : AM} {T : TypeId} {K : Nat → AM → Prop} {v0 v1 v2 v3 v4 v5 v6 v7 v8 v9 v10 v11 : Value} (h : ∀ b m', B ≤ b → m b = none → m.le m' → m' b = some (.cells #[v0, v1, v2, v3, v4, v5, v6, v7, v8, v9, v10, v11] T) → K b m') :
    ∀ b : Nat, B ≤ b → m b = none → let m1 := AM.upd m b (.cells #[.bool false, .int .i64 0, .int .i64 0, .int .i64 0, .int .i64 0, .int .i64 0, .int .i64 0, .int .i64 0, .int .i64 0, .int .i64 0, .int .i64 0, .int .i64 0] T); StC B m1 ⟨b, 0, none⟩ (v0) fun y0 => StC B y0 ⟨b, 1, none⟩ (v1) fun y1 => StC B y1 ⟨b, 2, none⟩ (v2) fun y2 => StC B y2 ⟨b, 3, none⟩ (v3) fun y3 => StC B y3 ⟨b, 4, none⟩ (v4) fun y4 => StC B y4 ⟨b, 5, none⟩ (v5) fun y5 => StC B y5 ⟨b, 6, none⟩ (v6) fun y6 => StC B y6 ⟨b, 7, none⟩ (v7) fun y7 => StC B y7 ⟨b, 8, none⟩ (v8) fun y8 => StC B y8 ⟨b, 9, none⟩ (v9) fun y9 => StC B y9 ⟨b, 10, none⟩ (v10) fun y10 => StC B y10 ⟨b, 11, none⟩ (v11) fun y11 => K b y11 := by
  intro b hb hm m1
  refine st12 (c := #[.bool false, .int .i64 0, .int .i64 0, .int .i64 0, .int .i64 0, .int .i64 0, .int .i64 0, .int .i64 0, .int .i64 0, .int .i64 0, .int .i64 0, .int .i64 0]) (t := T) (k := 0) upd_get_same hb (by simp) ?_
  exact h b _ hb hm (fun x o' hx => by
    have : x ≠ b := fun e => by subst e; rw [hm] at hx; cases hx
    rw [upd_get_ne this]; exact le_new hm _ x o' hx) upd_get_same

abbrev arr32 (l : List Int) : Array Value := #[.int .i64 (l.getD 0 0), .int .i64 (l.getD 1 0), .int .i64 (l.getD 2 0), .int .i64 (l.getD 3 0), .int .i64 (l.getD 4 0), .int .i64 (l.getD 5 0), .int .i64 (l.getD 6 0), .int .i64 (l.getD 7 0), .int .i64 (l.getD 8 0), .int .i64 (l.getD 9 0), .int .i64 (l.getD 10 0), .int .i64 (l.getD 11 0), .int .i64 (l.getD 12 0), .int .i64 (l.getD 13 0), .int .i64 (l.getD 14 0), .int .i64 (l.getD 15 0), .int .i64 (l.getD 16 0), .int .i64 (l.getD 17 0), .int .i64 (l.getD 18 0), .int .i64 (l.getD 19 0), .int .i64 (l.getD 20 0), .int .i64 (l.getD 21 0), .int .i64 (l.getD 22 0), .int .i64 (l.getD 23 0), .int .i64 (l.getD 24 0), .int .i64 (l.getD 25 0), .int .i64 (l.getD 26 0), .int .i64 (l.getD 27 0), .int .i64 (l.getD 28 0), .int .i64 (l.getD 29 0), .int .i64 (l.getD 30 0), .int .i64 (l.getD 31 0)]
theorem arr32_eq (l : List Int) : arr32 l = ((List.range 32).map fun k => Value.int .i64 (l.getD k 0)).toArray := rfl
theorem arr32_get (l : List Int) {n : Int} (hn : 0 ≤ n ∧ n < 32) : (arr32 l)[n.toNat]? = some (.int .i64 (regOf l n)) := by
  have : n.toNat < 32 := by omega
  rw [arr32_eq]; simp [this, regOf]
theorem arr32_set (l : List Int) (hl : l.length = 32) {n : Nat} (hn : n < 32) (v : Int) : (arr32 l).setIfInBounds n (.int .i64 v) = arr32 (l.set n v) := by
  rw [arr32_eq, arr32_eq, List.setIfInBounds_toArray]
  congr 1
  refine List.ext_getElem? fun k => ?_
  rw [List.getElem?_set]
  by_cases hk : k < 32
  · by_cases e : n = k
    · subst e; simp [hn, hl, List.getD]
    · simp [e, hk, List.getD, List.getElem?_set_ne e]
  · by_cases e : n = k
    · omega
    · simp [e, hk]

structure PS where
  regs : List Int
  mem : List Int
  at_ : Int
  inp : List Int
  out : List Int
  f : La
  r : La
  k : La
  a : La
/-- Where its parts lie. -/
structure PA where
  Ac : Option Addr
  cc : Nat
  gm : Nat
  Ai : Option Addr
  ci : Nat
  Ao : Option Addr
  co : Nat
  Aw : Option Addr
  cw : Nat
def PA.fp (q : PA) (g : Nat) : List Nat := g :: (obl q.Aw ++ obl q.Ao)
def pL (q : PA) (nc : Nat) (s : PS) : List Value := machL q.Ac nc q.cc q.gm s.regs s.at_ q.Ai s.inp.length q.ci q.Ao s.out.length q.co ++ (s.f.vals ++ (s.r.vals ++ (s.k.vals ++ s.a.vals)))

structure PipR (m : AM) (B g : Nat) (code : List Ins) (s : PS) (q : PA) : Prop where
  hg : m g = some (.cells (pL q code.length s).toArray 79)
  hB : B ≤ g
  hr : s.regs.length = 32
  hc : Reads m 5 q.Ac code.length (insCells code)
  hm : m q.gm = some (.cells #[.slice q.Aw s.mem.length q.cw] 81)
  hw : Own m B 3 1 q.Aw s.mem.length q.cw (intCells .i64 s.mem)
  hi : Reads m 1 q.Ai s.inp.length (intCells .i64 s.inp)
  hic : s.inp.length ≤ q.ci
  ho : Own m B 3 1 q.Ao s.out.length q.co (intCells .i64 s.out)
  dwo : ∀ k ∈ obl q.Aw, k ∉ obl q.Ao
  dc : 0 < code.length → ∀ k ∈ obl q.Ac, k ∉ q.fp g
  di : 0 < s.inp.length → ∀ k ∈ obl q.Ai, k ∉ q.fp g
  dm : q.gm ∉ q.fp g
  ti : 0 < s.inp.length → ∀ k ∈ obl q.Ai, ∃ c, m k = some (.cells c 3)

theorem PipR.le {m m' : AM} {B g : Nat} {code : List Ins} {s : PS} {q : PA} (h : PipR m B g code s q) (hl : m.le m') : PipR m' B g code s q :=
  ⟨hl _ _ h.hg, h.hB, h.hr, h.hc.le hl, hl _ _ h.hm, h.hw.le hl, h.hi.le hl, h.hic, h.ho.le hl, h.dwo, h.dc, h.di, h.dm, fun h0 k hk => (h.ti h0 k hk).imp fun _ e => hl _ _ e⟩
theorem PipR.gfp {m : AM} {B g : Nat} {code : List Ins} {s : PS} {q : PA} (h : PipR m B g code s q) : g ∈ q.fp g := by simp [PA.fp]

/-- The record is written. -/
theorem PipR.put {m : AM} {B g : Nat} {code : List Ins} {s : PS} {q : PA} (h : PipR m B g code s q) (s' : PS) (hr : s'.regs.length = 32) (hm : s'.mem = s.mem) (hi : s'.inp = s.inp) (ho : s'.out = s.out) :
    PipR (m.upd g (.cells (pL q code.length s').toArray 79)) B g code s' q ∧ Fr m (m.upd g (.cells (pL q code.length s').toArray 79)) [g] := by
  have hfr : Fr m (m.upd g (.cells (pL q code.length s').toArray 79)) [g] := Fr.upd (Fr.refl _ _) (.inl (by simp)) _
  have hgf := h.gfp
  refine ⟨⟨upd_get_same, h.hB, hr, Reads_fr h.hc hfr fun h0 k hk hin => h.dc h0 k hk (by simp at hin; rw [hin]; exact hgf), ?_, ?_, ?_, by rw [hi]; exact h.hic, ?_, h.dwo, h.dc, by rw [hi]; exact h.di, h.dm, ?_⟩, hfr⟩
  · rw [hm]; exact hfr _ _ h.hm (by intro hin; simp at hin; exact h.dm (by rw [hin]; exact hgf))
  · rw [hm]; exact h.hw.upd (h.hw.ne_type h.hg (by decide))
  · rw [hi]; exact Reads_fr h.hi hfr fun h0 k hk hin => h.di h0 k hk (by simp at hin; rw [hin]; exact hgf)
  · rw [ho]; exact h.ho.upd (h.ho.ne_type h.hg (by decide))
  · rw [hi]; exact fun h0 k hk => (h.ti h0 k hk).imp fun _ e => hfr _ _ e fun hin => h.di h0 k hk (by simp at hin; rw [hin]; exact hgf)

/-! Its cells. -/
theorem pL_lo {q : PA} {nc : Nat} {s : PS} (hr : s.regs.length = 32) {j : Nat} (hj : j < 37) : (pL q nc s)[j]? = (machL q.Ac nc q.cc q.gm s.regs s.at_ q.Ai s.inp.length q.ci q.Ao s.out.length q.co)[j]? := by
  unfold pL; rw [List.getElem?_append_left (by rw [machL_len hr]; exact hj)]
theorem pL_hi {q : PA} {nc : Nat} {s : PS} (hr : s.regs.length = 32) (j : Nat) : (pL q nc s)[37 + j]? = (s.f.vals ++ (s.r.vals ++ (s.k.vals ++ s.a.vals)))[j]? := by
  unfold pL; rw [List.getElem?_append_right (by rw [machL_len hr]; omega), machL_len hr, Nat.add_sub_cancel_left]
theorem PipR.hi' {m : AM} {B g : Nat} {code : List Ins} {s : PS} {q : PA} (h : PipR m B g code s q) (j : Nat) : m.cell ⟨g, 37 + j, none⟩ = (s.f.vals ++ (s.r.vals ++ (s.k.vals ++ s.a.vals)))[j]? := by
  rw [cell_of h.hg, List.getElem?_toArray, pL_hi h.hr]
theorem PipR.reg' {m : AM} {B g : Nat} {code : List Ins} {s : PS} {q : PA} (h : PipR m B g code s q) (k : Nat) (hk : k < 32) : m.cell ⟨g, 2 + k, none⟩ = some (.int .i64 (s.regs.getD k 0)) := by
  rw [cell_of h.hg, List.getElem?_toArray, pL_lo h.hr (by omega)]
  refine machL_reg ?_
  have : k < s.regs.length := by rw [h.hr]; exact hk
  simp [List.getD, this]
theorem PipR.cells {m : AM} {B g : Nat} {code : List Ins} {s : PS} {q : PA} (h : PipR m B g code s q) :
    m.cell ⟨g, 0, none⟩ = some (.slice q.Ac code.length q.cc) ∧ m.cell ⟨g, 1, none⟩ = some (.pointer (some ⟨q.gm, 0, none⟩)) ∧ m.cell ⟨g, 34, none⟩ = some (.int .i64 s.at_) ∧ m.cell ⟨g, 35, none⟩ = some (.slice q.Ai s.inp.length q.ci) ∧ m.cell ⟨g, 36, none⟩ = some (.slice q.Ao s.out.length q.co) := by
  refine ⟨?_, ?_, ?_, ?_, ?_⟩ <;> rw [cell_of h.hg, List.getElem?_toArray, pL_lo h.hr (by omega)]
  · rfl
  · rfl
  · exact machL_34 h.hr
  · exact machL_35 h.hr
  · exact machL_36 h.hr
theorem pL_size {q : PA} {nc : Nat} {s : PS} (hr : s.regs.length = 32) : (pL q nc s).toArray.size = 85 := by
  unfold pL; rw [List.size_toArray, List.length_append, machL_len hr]; rfl
theorem pL_set {q : PA} {nc : Nat} {s s' : PS} (hr : s.regs.length = 32) {j : Nat} (hj : j < 37) {v : Value} (hf : s'.f = s.f) (h2 : s'.r = s.r) (hk : s'.k = s.k) (ha : s'.a = s.a)
    (h : (machL q.Ac nc q.cc q.gm s.regs s.at_ q.Ai s.inp.length q.ci q.Ao s.out.length q.co).set j v = machL q.Ac nc q.cc q.gm s'.regs s'.at_ q.Ai s'.inp.length q.ci q.Ao s'.out.length q.co) : (pL q nc s).toArray.setIfInBounds j v = (pL q nc s').toArray := by
  rw [List.setIfInBounds_toArray]; unfold pL
  rw [List.set_append_left _ _ (by rw [machL_len hr]; exact hj), h, hf, h2, hk, ha]
theorem splice_mid {P old new Q : List Value} (h : old.length = new.length) : splice (P ++ (old ++ Q)).toArray P.length new = (P ++ (new ++ Q)).toArray := by
  unfold splice
  congr 1
  rw [List.take_left, ← h, show P.length + old.length = (P ++ old).length by simp, ← List.append_assoc P old Q, List.drop_left, List.append_assoc]

/-- A step of the walk: what is left of m0. -/
structure PQ (m0 : AM) (B g : Nat) (code : List Ins) (q0 q : PA) (m : AM) (s : PS) : Prop where
  R : PipR m B g code s q
  fr : Fr m0 m (q0.fp g)
  kn : ∀ k ∈ q.fp g, k ∈ q0.fp g ∨ m0 k = none
  gme : q.gm = q0.gm
  kc : 0 < code.length → ∀ k ∈ obl q.Ac, m0 k ≠ none
theorem gfp {q : PA} {g : Nat} : g ∈ q.fp g := by simp [PA.fp]
theorem PQ.of {m0 : AM} {B g : Nat} {code : List Ins} {q : PA} {s : PS} (h : PipR m0 B g code s q) : PQ m0 B g code q q m0 s := ⟨h, Fr.refl _ _, fun _ h => .inl h, rfl, fun h0 k hk => Reads_known h.hc h0 (by decide) k hk⟩
theorem PQ.le {m0 m m' : AM} {B g : Nat} {code : List Ins} {s : PS} {q0 q : PA} (h : PQ m0 B g code q0 q m s) (hl : m.le m') : PQ m0 B g code q0 q m' s := ⟨h.R.le hl, h.fr.trans (Fr.of_le hl _) fun _ h => .inl h, h.kn, h.gme, h.kc⟩
theorem PQ.trans {m0 m m' : AM} {B g : Nat} {code : List Ins} {s s' : PS} {q0 q q' : PA} (h : PQ m0 B g code q0 q m s) (h' : PQ m B g code q q' m' s') (hc : q'.Ac = q.Ac) : PQ m0 B g code q0 q' m' s' := by
  refine ⟨h'.R, h.fr.trans h'.fr h.kn, fun k hk => ?_, h'.gme.trans h.gme, by rw [hc]; exact h.kc⟩
  rcases h'.kn k hk with h1 | h1
  · exact h.kn k h1
  · by_cases hin : k ∈ q0.fp g
    · exact .inl hin
    · cases hm : m0 k with
      | none => exact .inr rfl
      | some o => rw [h.fr k o hm hin] at h1; cases h1
def PPost (B : Nat) (m : AM) (g : Nat) (q : PA) (code : List Ins) (s : PS) (m' : AM) : Prop := ∃ q', q'.Ac = q.Ac ∧ PQ m B g code q q' m' s
theorem PQ.post {m0 m : AM} {B g : Nat} {code : List Ins} {s : PS} {q0 q : PA} (h : PQ m0 B g code q0 q m s) (hc : q.Ac = q0.Ac) : PPost B m0 g q0 code s m := ⟨q, hc, h⟩
theorem PQ.up {m0 m m' : AM} {B g : Nat} {code : List Ins} {s s' : PS} {q : PA} (h : PQ m0 B g code q q m s) (hR : PipR m' B g code s' q) (hf : Fr m m' [g]) : PQ m0 B g code q q m' s' :=
  ⟨hR, h.fr.trans (hf.mono (fun k hk => by simp at hk; rw [hk]; exact gfp)) fun _ h => .inl h, h.kn, h.gme, h.kc⟩
theorem PQ.upd {m0 m m' : AM} {B g : Nat} {code : List Ins} {s s' : PS} {q0 q : PA} (h : PQ m0 B g code q0 q m s) (hR : PipR m' B g code s' q) (hf : Fr m m' [g]) : PQ m0 B g code q0 q m' s' :=
  ⟨hR, h.fr.trans hf fun k hk => .inl (by simp at hk; rw [hk]; exact gfp), h.kn, h.gme, h.kc⟩
/-- A local block is written. -/
theorem PQ.foreign {m0 m : AM} {B g : Nat} {code : List Ins} {s : PS} {q0 q : PA} (h : PQ m0 B g code q0 q m s) {b : Nat} {c : Array Value} {t : TypeId} (hb : m b = some (.cells c t)) (h0 : m0 b = none) (t1 : t ≠ 79) (t2 : t ≠ 81) (t3 : t ≠ 3) (o : Obj) :
    PQ m0 B g code q0 q (m.upd b o) s ∧ Fr m (m.upd b o) [b] := by
  have hfr : Fr m (m.upd b o) [b] := Fr.upd (Fr.refl _ _) (.inl (by simp)) _
  have hne : ∀ {k : Nat} {c' : Array Value} {t' : TypeId}, m k = some (.cells c' t') → t ≠ t' → k ∉ [b] := fun {k c' t'} hk ht hin => by
    simp at hin; subst hin; rw [hb] at hk; injection hk with hk; injection hk with _ h2; exact ht h2
  have hAc : 0 < code.length → ∀ k ∈ obl q.Ac, k ∉ [b] := fun h1 k hk hin => by simp at hin; subst hin; exact h.kc h1 _ hk h0
  have hAi : 0 < s.inp.length → ∀ k ∈ obl q.Ai, k ∉ [b] := fun h1 k hk => by
    obtain ⟨c', h'⟩ := h.R.ti h1 k hk
    exact hne h' t3
  have hOb : ∀ {A : Option Addr} {n cp : Nat} {xs : List Value}, Own m B 3 1 A n cp xs → ∀ k ∈ obl A, k ∉ [b] := fun ho k hk => by
    obtain ⟨_, c', h'⟩ := ho.obl_some hk
    exact hne h' t3
  refine ⟨⟨⟨hfr _ _ h.R.hg (hne h.R.hg t1), h.R.hB, h.R.hr, Reads_fr h.R.hc hfr hAc, hfr _ _ h.R.hm (hne h.R.hm t2), h.R.hw.fr hfr (hOb h.R.hw), Reads_fr h.R.hi hfr hAi, h.R.hic, h.R.ho.fr hfr (hOb h.R.ho), h.R.dwo, h.R.dc, h.R.di, h.R.dm, fun h1 k hk => (h.R.ti h1 k hk).imp fun _ e => hfr _ _ e (hAi h1 k hk)⟩, ?_, h.kn, h.gme, h.kc⟩, hfr⟩
  exact h.fr.trans hfr fun k hk => .inr (by simp at hk; rw [hk]; exact h0)
/-- A field of a local latch. -/
theorem PQ.loc {m0 m : AM} {B g : Nat} {code : List Ins} {s : PS} {q0 q : PA} (h : PQ m0 B g code q0 q m s) {b k : Nat} {l : La} (l' : La) (hp : m b = some (.cells l.vals.toArray 77)) (hB : B ≤ b) (h0 : m0 b = none) {v : Value} (he : l.vals.set k v = l'.vals) (hk : k < 12) {K : AM → Prop}
    (hK : ∀ m', PQ m0 B g code q0 q m' s → m' b = some (.cells l'.vals.toArray 77) → Fr m m' [b] → K m') : StC B m ⟨b, k, none⟩ v K := by
  refine StC_own hp hB (by simpa using hk) ?_
  rw [List.setIfInBounds_toArray, he]
  obtain ⟨h1, h2⟩ := h.foreign hp h0 (by decide) (by decide) (by decide) (.cells l'.vals.toArray 77)
  exact hK _ h1 upd_get_same h2
theorem PQ.putAt {m0 m : AM} {B g : Nat} {code : List Ins} {s : PS} {q0 q : PA} (h : PQ m0 B g code q0 q m s) (v : Int) {K : AM → Prop} (hK : ∀ m', PQ m0 B g code q0 q m' { s with at_ := v } → Fr m m' [g] → K m') : StC B m ⟨g, 34, none⟩ (.int .i64 v) K := by
  refine StC_own h.R.hg h.R.hB (by rw [pL_size h.R.hr]; omega) ?_
  rw [pL_set (s' := { s with at_ := v }) h.R.hr (by omega) rfl rfl rfl rfl (machL_setat h.R.hr)]
  obtain ⟨h1, h2⟩ := h.R.put { s with at_ := v } h.R.hr rfl rfl rfl
  exact hK _ (h.upd h1 h2) h2
theorem PQ.putReg {m0 m : AM} {B g : Nat} {code : List Ins} {s : PS} {q0 q : PA} (h : PQ m0 B g code q0 q m s) {n : Int} (hn : 0 ≤ n ∧ n < 32) (v : Int) {K : AM → Prop} (hK : ∀ m', PQ m0 B g code q0 q m' { s with regs := s.regs.set n.toNat v } → Fr m m' [g] → K m') : StC B m ((⟨g, 2, none⟩ : Addr).add (n.toNat * 1)) (.int .i64 v) K := by
  rw [addn, Nat.mul_one]
  refine StC_own h.R.hg h.R.hB (by rw [pL_size h.R.hr]; omega) ?_
  rw [pL_set (s' := { s with regs := s.regs.set n.toNat v }) h.R.hr (by omega) rfl rfl rfl rfl (machL_setreg h.R.hr (by omega))]
  obtain ⟨h1, h2⟩ := h.R.put { s with regs := s.regs.set n.toNat v } (by simp [h.R.hr]) rfl rfl rfl
  exact hK _ (h.upd h1 h2) h2

theorem PQ.put_f {m0 m : AM} {B g : Nat} {code : List Ins} {s : PS} {q0 q : PA} (h : PQ m0 B g code q0 q m s) (l : La) {K : AM → Prop} (hK : ∀ m', PQ m0 B g code q0 q m' { s with f := l } → Fr m m' [g] → K m') :
    StC B m ⟨g, 37, none⟩ (.bool l.full) fun y0 => StC B y0 ⟨g, 38, none⟩ (.int .i64 l.i.op) fun y1 => StC B y1 ⟨g, 39, none⟩ (.int .i64 l.i.a) fun y2 => StC B y2 ⟨g, 40, none⟩ (.int .i64 l.i.b) fun y3 => StC B y3 ⟨g, 41, none⟩ (.int .i64 l.i.c) fun y4 => StC B y4 ⟨g, 42, none⟩ (.int .i64 l.i.imm) fun y5 => StC B y5 ⟨g, 43, none⟩ (.int .i64 l.at_) fun y6 => StC B y6 ⟨g, 44, none⟩ (.int .i64 l.reg) fun y7 => StC B y7 ⟨g, 45, none⟩ (.int .i64 l.value) fun y8 => StC B y8 ⟨g, 46, none⟩ (.int .i64 l.stored) fun y9 => StC B y9 ⟨g, 47, none⟩ (.int .i64 l.where_) fun y10 => StC B y10 ⟨g, 48, none⟩ (.int .i64 l.trap) fun y11 => K y11 := by
  refine st12 (k := 37) h.R.hg h.R.hB (by rw [pL_size h.R.hr]; omega) ?_
  have e : splice (pL q code.length s).toArray 37 l.vals = (pL q code.length { s with f := l }).toArray := by
    have hP : (machL q.Ac code.length q.cc q.gm s.regs s.at_ q.Ai s.inp.length q.ci q.Ao s.out.length q.co ++ ([])).length = 37 := by rw [List.length_append, machL_len h.R.hr]; rfl
    have := splice_mid (P := machL q.Ac code.length q.cc q.gm s.regs s.at_ q.Ai s.inp.length q.ci q.Ao s.out.length q.co ++ ([])) (old := s.f.vals) (new := l.vals) (Q := s.r.vals ++ (s.k.vals ++ s.a.vals)) rfl
    rw [hP] at this
    unfold pL
    simpa only [List.append_assoc, List.append_nil, List.nil_append] using this
  rw [show splice (pL q code.length s).toArray 37 [.bool l.full, .int .i64 l.i.op, .int .i64 l.i.a, .int .i64 l.i.b, .int .i64 l.i.c, .int .i64 l.i.imm, .int .i64 l.at_, .int .i64 l.reg, .int .i64 l.value, .int .i64 l.stored, .int .i64 l.where_, .int .i64 l.trap] = (pL q code.length { s with f := l }).toArray from e]
  obtain ⟨h1, h2⟩ := h.R.put { s with f := l } h.R.hr rfl rfl rfl
  exact hK _ (h.upd h1 h2) h2

theorem PQ.put_r {m0 m : AM} {B g : Nat} {code : List Ins} {s : PS} {q0 q : PA} (h : PQ m0 B g code q0 q m s) (l : La) {K : AM → Prop} (hK : ∀ m', PQ m0 B g code q0 q m' { s with r := l } → Fr m m' [g] → K m') :
    StC B m ⟨g, 49, none⟩ (.bool l.full) fun y0 => StC B y0 ⟨g, 50, none⟩ (.int .i64 l.i.op) fun y1 => StC B y1 ⟨g, 51, none⟩ (.int .i64 l.i.a) fun y2 => StC B y2 ⟨g, 52, none⟩ (.int .i64 l.i.b) fun y3 => StC B y3 ⟨g, 53, none⟩ (.int .i64 l.i.c) fun y4 => StC B y4 ⟨g, 54, none⟩ (.int .i64 l.i.imm) fun y5 => StC B y5 ⟨g, 55, none⟩ (.int .i64 l.at_) fun y6 => StC B y6 ⟨g, 56, none⟩ (.int .i64 l.reg) fun y7 => StC B y7 ⟨g, 57, none⟩ (.int .i64 l.value) fun y8 => StC B y8 ⟨g, 58, none⟩ (.int .i64 l.stored) fun y9 => StC B y9 ⟨g, 59, none⟩ (.int .i64 l.where_) fun y10 => StC B y10 ⟨g, 60, none⟩ (.int .i64 l.trap) fun y11 => K y11 := by
  refine st12 (k := 49) h.R.hg h.R.hB (by rw [pL_size h.R.hr]; omega) ?_
  have e : splice (pL q code.length s).toArray 49 l.vals = (pL q code.length { s with r := l }).toArray := by
    have hP : (machL q.Ac code.length q.cc q.gm s.regs s.at_ q.Ai s.inp.length q.ci q.Ao s.out.length q.co ++ (s.f.vals)).length = 49 := by rw [List.length_append, machL_len h.R.hr]; rfl
    have := splice_mid (P := machL q.Ac code.length q.cc q.gm s.regs s.at_ q.Ai s.inp.length q.ci q.Ao s.out.length q.co ++ (s.f.vals)) (old := s.r.vals) (new := l.vals) (Q := s.k.vals ++ s.a.vals) rfl
    rw [hP] at this
    unfold pL
    simpa only [List.append_assoc, List.append_nil, List.nil_append] using this
  rw [show splice (pL q code.length s).toArray 49 [.bool l.full, .int .i64 l.i.op, .int .i64 l.i.a, .int .i64 l.i.b, .int .i64 l.i.c, .int .i64 l.i.imm, .int .i64 l.at_, .int .i64 l.reg, .int .i64 l.value, .int .i64 l.stored, .int .i64 l.where_, .int .i64 l.trap] = (pL q code.length { s with r := l }).toArray from e]
  obtain ⟨h1, h2⟩ := h.R.put { s with r := l } h.R.hr rfl rfl rfl
  exact hK _ (h.upd h1 h2) h2

theorem PQ.put_k {m0 m : AM} {B g : Nat} {code : List Ins} {s : PS} {q0 q : PA} (h : PQ m0 B g code q0 q m s) (l : La) {K : AM → Prop} (hK : ∀ m', PQ m0 B g code q0 q m' { s with k := l } → Fr m m' [g] → K m') :
    StC B m ⟨g, 61, none⟩ (.bool l.full) fun y0 => StC B y0 ⟨g, 62, none⟩ (.int .i64 l.i.op) fun y1 => StC B y1 ⟨g, 63, none⟩ (.int .i64 l.i.a) fun y2 => StC B y2 ⟨g, 64, none⟩ (.int .i64 l.i.b) fun y3 => StC B y3 ⟨g, 65, none⟩ (.int .i64 l.i.c) fun y4 => StC B y4 ⟨g, 66, none⟩ (.int .i64 l.i.imm) fun y5 => StC B y5 ⟨g, 67, none⟩ (.int .i64 l.at_) fun y6 => StC B y6 ⟨g, 68, none⟩ (.int .i64 l.reg) fun y7 => StC B y7 ⟨g, 69, none⟩ (.int .i64 l.value) fun y8 => StC B y8 ⟨g, 70, none⟩ (.int .i64 l.stored) fun y9 => StC B y9 ⟨g, 71, none⟩ (.int .i64 l.where_) fun y10 => StC B y10 ⟨g, 72, none⟩ (.int .i64 l.trap) fun y11 => K y11 := by
  refine st12 (k := 61) h.R.hg h.R.hB (by rw [pL_size h.R.hr]; omega) ?_
  have e : splice (pL q code.length s).toArray 61 l.vals = (pL q code.length { s with k := l }).toArray := by
    have hP : (machL q.Ac code.length q.cc q.gm s.regs s.at_ q.Ai s.inp.length q.ci q.Ao s.out.length q.co ++ (s.f.vals ++ s.r.vals)).length = 61 := by rw [List.length_append, machL_len h.R.hr]; rfl
    have := splice_mid (P := machL q.Ac code.length q.cc q.gm s.regs s.at_ q.Ai s.inp.length q.ci q.Ao s.out.length q.co ++ (s.f.vals ++ s.r.vals)) (old := s.k.vals) (new := l.vals) (Q := s.a.vals) rfl
    rw [hP] at this
    unfold pL
    simpa only [List.append_assoc, List.append_nil, List.nil_append] using this
  rw [show splice (pL q code.length s).toArray 61 [.bool l.full, .int .i64 l.i.op, .int .i64 l.i.a, .int .i64 l.i.b, .int .i64 l.i.c, .int .i64 l.i.imm, .int .i64 l.at_, .int .i64 l.reg, .int .i64 l.value, .int .i64 l.stored, .int .i64 l.where_, .int .i64 l.trap] = (pL q code.length { s with k := l }).toArray from e]
  obtain ⟨h1, h2⟩ := h.R.put { s with k := l } h.R.hr rfl rfl rfl
  exact hK _ (h.upd h1 h2) h2

theorem PQ.put_a {m0 m : AM} {B g : Nat} {code : List Ins} {s : PS} {q0 q : PA} (h : PQ m0 B g code q0 q m s) (l : La) {K : AM → Prop} (hK : ∀ m', PQ m0 B g code q0 q m' { s with a := l } → Fr m m' [g] → K m') :
    StC B m ⟨g, 73, none⟩ (.bool l.full) fun y0 => StC B y0 ⟨g, 74, none⟩ (.int .i64 l.i.op) fun y1 => StC B y1 ⟨g, 75, none⟩ (.int .i64 l.i.a) fun y2 => StC B y2 ⟨g, 76, none⟩ (.int .i64 l.i.b) fun y3 => StC B y3 ⟨g, 77, none⟩ (.int .i64 l.i.c) fun y4 => StC B y4 ⟨g, 78, none⟩ (.int .i64 l.i.imm) fun y5 => StC B y5 ⟨g, 79, none⟩ (.int .i64 l.at_) fun y6 => StC B y6 ⟨g, 80, none⟩ (.int .i64 l.reg) fun y7 => StC B y7 ⟨g, 81, none⟩ (.int .i64 l.value) fun y8 => StC B y8 ⟨g, 82, none⟩ (.int .i64 l.stored) fun y9 => StC B y9 ⟨g, 83, none⟩ (.int .i64 l.where_) fun y10 => StC B y10 ⟨g, 84, none⟩ (.int .i64 l.trap) fun y11 => K y11 := by
  refine st12 (k := 73) h.R.hg h.R.hB (by rw [pL_size h.R.hr]; omega) ?_
  have e : splice (pL q code.length s).toArray 73 l.vals = (pL q code.length { s with a := l }).toArray := by
    have hP : (machL q.Ac code.length q.cc q.gm s.regs s.at_ q.Ai s.inp.length q.ci q.Ao s.out.length q.co ++ (s.f.vals ++ s.r.vals ++ s.k.vals)).length = 73 := by rw [List.length_append, machL_len h.R.hr]; rfl
    have := splice_mid (P := machL q.Ac code.length q.cc q.gm s.regs s.at_ q.Ai s.inp.length q.ci q.Ao s.out.length q.co ++ (s.f.vals ++ s.r.vals ++ s.k.vals)) (old := s.a.vals) (new := l.vals) (Q := []) rfl
    rw [hP] at this
    unfold pL
    simpa only [List.append_assoc, List.append_nil, List.nil_append] using this
  rw [show splice (pL q code.length s).toArray 73 [.bool l.full, .int .i64 l.i.op, .int .i64 l.i.a, .int .i64 l.i.b, .int .i64 l.i.c, .int .i64 l.i.imm, .int .i64 l.at_, .int .i64 l.reg, .int .i64 l.value, .int .i64 l.stored, .int .i64 l.where_, .int .i64 l.trap] = (pL q code.length { s with a := l }).toArray from e]
  obtain ⟨h1, h2⟩ := h.R.put { s with a := l } h.R.hr rfl rfl rfl
  exact hK _ (h.upd h1 h2) h2

theorem PQ.locAll {m0 m : AM} {B g : Nat} {code : List Ins} {s : PS} {q0 q : PA} (h : PQ m0 B g code q0 q m s) {b : Nat} {l : La} (l' : La) (hp : m b = some (.cells l.vals.toArray 77)) (hB : B ≤ b) (h0 : m0 b = none) {K : AM → Prop}
    (hK : ∀ m', PQ m0 B g code q0 q m' s → m' b = some (.cells l'.vals.toArray 77) → Fr m m' [b] → K m') :
    StC B m ⟨b, 0, none⟩ (.bool l'.full) fun y0 => StC B y0 ⟨b, 1, none⟩ (.int .i64 l'.i.op) fun y1 => StC B y1 ⟨b, 2, none⟩ (.int .i64 l'.i.a) fun y2 => StC B y2 ⟨b, 3, none⟩ (.int .i64 l'.i.b) fun y3 => StC B y3 ⟨b, 4, none⟩ (.int .i64 l'.i.c) fun y4 => StC B y4 ⟨b, 5, none⟩ (.int .i64 l'.i.imm) fun y5 => StC B y5 ⟨b, 6, none⟩ (.int .i64 l'.at_) fun y6 => StC B y6 ⟨b, 7, none⟩ (.int .i64 l'.reg) fun y7 => StC B y7 ⟨b, 8, none⟩ (.int .i64 l'.value) fun y8 => StC B y8 ⟨b, 9, none⟩ (.int .i64 l'.stored) fun y9 => StC B y9 ⟨b, 10, none⟩ (.int .i64 l'.where_) fun y10 => StC B y10 ⟨b, 11, none⟩ (.int .i64 l'.trap) fun y11 => K y11 := by
  refine st12a hp hB (by simp) ?_
  obtain ⟨h1, h2⟩ := h.foreign hp h0 (by decide) (by decide) (by decide) (.cells l'.vals.toArray 77)
  exact hK _ h1 upd_get_same h2
theorem keepB {m m' : AM} {b c : Nat} {o : Obj} (hf : Fr m m' [c]) (hp : m b = some o) (hne : b ≠ c) : m' b = some o := hf _ _ hp (by simpa using hne)
/-- A latch's block is none of the machine's. -/
theorem PQ.notin {m0 m : AM} {B g : Nat} {code : List Ins} {s : PS} {q0 q : PA} (h : PQ m0 B g code q0 q m s) {b : Nat} {c : Array Value} (hb : m b = some (.cells c 77)) : b ∉ q.fp g := by
  intro hin
  simp only [PA.fp, List.mem_cons, List.mem_append] at hin
  rcases hin with rfl | hin | hin
  · rw [h.R.hg] at hb; injection hb with hb; injection hb with _ h2; exact absurd h2 (by decide)
  · exact h.R.hw.obl_ne hb (by decide) hin
  · exact h.R.ho.obl_ne hb (by decide) hin
theorem PQ.neg {m0 m : AM} {B g : Nat} {code : List Ins} {s : PS} {q0 q : PA} (h : PQ m0 B g code q0 q m s) {b : Nat} {c : Array Value} (hb : m b = some (.cells c 77)) : b ≠ g := fun e => h.notin hb (by rw [e]; exact gfp)
end Go.Proofs.Ytadcbnldahcelaa.S
