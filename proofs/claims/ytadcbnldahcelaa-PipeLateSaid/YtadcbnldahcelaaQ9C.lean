/- Ytadcbnldahcelaa: a text of our own, by an AI agent: Q9C -/
import Derived.Test.YtadcbnldahcelaaQ8bC
import Derived.Test.YtadcbnldahcelaaP8oC
import Derived.Test.YtadcbnldahcelaaP9C
set_option linter.unusedSimpArgs false
set_option linter.unusedVariables false
set_option maxRecDepth 100000
namespace Go.Proofs.Ytadcbnldahcelaa.S
open Go Go.RowKit Go.Alog Go.Proofs.Ytadcbnldahcelaa.T Go.Proofs.Ytadcbnldahcelaa.V

theorem st5 {B g : Nat} {m : AM} {t : TypeId} {z0 z1 z2 z3 z4 v0 v1 v2 v3 v4 : Value} {K : AM → Prop} (hg : m g = some (.cells #[z0, z1, z2, z3, z4] t)) (hB : B ≤ g) (hK : K (m.upd g (.cells #[v0, v1, v2, v3, v4] t))) :
    StC B m ⟨g, 0, none⟩ v0 fun m1 => StC B m1 ⟨g, 1, none⟩ v1 fun m2 => StC B m2 ⟨g, 2, none⟩ v2 fun m3 => StC B m3 ⟨g, 3, none⟩ v3 fun m4 => StC B m4 ⟨g, 4, none⟩ v4 fun m5 => K m5 := by
  refine StC_own hg hB (by simp) (StC_upd.2 ⟨hB, by simp, StC_upd.2 ⟨hB, by simp, StC_upd.2 ⟨hB, by simp, StC_upd.2 ⟨hB, by simp, ?_⟩⟩⟩⟩)
  simpa using hK
theorem wf_i32' {n : Int} (h : (Lit.int .i32 n).wf = true) : -2147483648 ≤ n ∧ n ≤ 2147483647 := by
  unfold Lit.wf at h
  simp only [Bool.and_eq_true, decide_eq_true_eq] at h
  exact h

theorem law_PipeLate (W : World) (a0 : Int) (w0 : (Lit.int .i32 a0).wf = true) (a1 : Int) (w1 : (Lit.int .i32 a1).wf = true) (a2 : Bool) :
    CallsA Try.prog W 17 #[.int .i32 a0, .int .i32 a1, .bool a2] (mOf W) (fun r _ => r = .bool true) := by
  have r0 := wf_i32' w0
  have r1 := wf_i32' w1
  have e0 : IntKind.wrap .i64 a0 = a0 := w64_id (by omega)
  have e1 : IntKind.wrap .i64 a1 = a1 := w64_id (by omega)
  have f0 : w32 a0 = a0 := w32_id r0
  have f1 : w32 a1 = a1 := w32_id r1
  generalize hR : (fun (r : Value) (_ : AM) => r = .bool true) = R
  refine cf17 W _ a0 a1 a2 R ⟨rfl, rfl, rfl, rfl, rfl, rfl, ?_⟩
  intro b1 hb1 hm1 m2
  have l2 : (mOf W).le m2 := le_new hm1 _
  have o2 : Own m2 W.heap.size 34 5 (some ⟨b1, 0, none⟩) 5 5 (insCells [⟨20, 0, 0, 0, 1⟩, ⟨0, 0, 0, 0, 0⟩, ⟨13, 4, 0, 0, 0⟩, ⟨20, 0, 0, 0, 1⟩, ⟨0, 0, 0, 0, 0⟩]) := Own.new (mOf W) hb1 34 5 5 (insCells [⟨20, 0, 0, 0, 1⟩, ⟨0, 0, 0, 0, 0⟩, ⟨13, 4, 0, 0, 0⟩, ⟨20, 0, 0, 0, 1⟩, ⟨0, 0, 0, 0, 0⟩]) rfl
  have n2 : ∀ k ∈ obl (some (⟨b1, 0, none⟩ : Addr)), mOf W k = none := fun k hk => by simp [obl] at hk; subst hk; exact hm1
  clear_value m2
  refine vk17_11 W m2 _ R a0 a1 a2 (some ⟨b1, 0, none⟩) 5 5 rfl rfl rfl rfl ⟨rfl, ?_⟩
  refine blk5 fun b3 m9 l9 n3 hb3 p3 => ?_
  have ne13 : b1 ≠ b3 := fun e => by
    obtain ⟨_, cur, hc⟩ := o2.obl_some (k := b1) (by simp [obl])
    rw [e, n3] at hc; cases hc
  refine vk17_111 W m9 _ R a0 a1 a2 (some ⟨b1, 0, none⟩) 5 5 b3 rfl rfl rfl rfl rfl ⟨rfl, ?_⟩
  intro b10 hb10 hm10 m11
  have l11 : m9.le m11 := le_new hm10 _
  have o11 : Own m11 W.heap.size 3 1 (some ⟨b10, 0, none⟩) 2 2 (intCells .i64 [a1, a0]) := by
    have := Own.new m9 hb10 3 1 2 (intCells .i64 [IntKind.wrap .i64 a1, IntKind.wrap .i64 a0]) rfl
    rw [e1, e0] at this
    simp only [m11, e1, e0]
    exact this
  have L9 := AM.le_trans l2 l9
  have n10 : ∀ k ∈ obl (some (⟨b10, 0, none⟩ : Addr)), mOf W k = none := fun k hk => by simp [obl] at hk; subst hk; exact AM.le_none L9 hm10
  clear_value m11
  have L11 := AM.le_trans L9 l11
  have p11 := l11 _ _ p3
  have o2' := (o2.le l9).le l11
  -- the last part
  have K : ∀ (m5 : AM) (σ : Sg) (l : Ins) (A9 : Option Addr) (n9 c9 : Nat) (inp : List Int), (mOf W).le m5 → m5 b3 = some (.cells l.cells.toArray 34) → Own m5 W.heap.size 34 5 (some ⟨b1, 0, none⟩) 5 5 (insCells [⟨20, 0, 0, 0, 1⟩, ⟨0, 0, 0, 0, 0⟩, ⟨13, 4, 0, 0, 0⟩, ⟨20, 0, 0, 0, 1⟩, ⟨0, 0, 0, 0, 0⟩]) → Own m5 W.heap.size 3 1 A9 n9 c9 (intCells .i64 inp) → inp.length = n9 → n9 ≤ 100 →
      (runPP (lateC l) 1 inp 50).trap = 1 ∧ (runPP (lateC l) 1 inp 50).steps = 12 ∧ (runPP (lateC l) 1 inp 50).out = [a0, a1] →
      σ 0 = .int .i32 a0 → σ 1 = .int .i32 a1 → σ 7 = .slice (some ⟨b1, 0, none⟩) 5 5 → σ 8 = .pointer (some ⟨b3, 0, none⟩) → σ 9 = .slice A9 n9 c9 → ∀ m, m = m5 → (vcS Try.prog W qs17 (sub c17 [1, 1, 1, 1, 1]) σ m (retQ Try.prog Try.f17 R)) := by
    intro m5 σ l A9 n9 c9 inp L5 p5 o5 o9 hlen h100 hrun s0 s1 s7 s8 s9 m hm
    subst hm
    refine vk17_11111 W m σ R a0 a1 (some ⟨b1, 0, none⟩) 5 5 b3 A9 n9 c9 s0 s1 s7 s8 s9 ?_
    refine ⟨_, cel p5 rfl, _, cel p5 rfl, _, cel p5 rfl, _, cel p5 rfl, _, cel p5 rfl, rfl, rfl, rfl, rfl, ?_⟩
    intro b29 hb29 hm29 m30
    have l30 : m.le m30 := le_new hm29 _
    have rd : Reads m30 5 (some ⟨b29, 0, none⟩) 4 (insCells [l, ⟨20, 0, 0, 0, 2⟩, ⟨20, 0, 0, 0, 2⟩, ⟨20, 0, 0, 0, 0⟩]) := Reads.lit rfl
    clear_value m30
    refine awp_append_loc (m0 := mOf W) el22 (AM.le_trans L5 l30) (o5.le l30) n2 rd (insCells_one _) (by decide) (by decide) (fun A' c' m32 l32 f32 o32 n32 _ => ?_)
    have f9 : Reads m32 1 A9 n9 (intCells .i64 inp) := by
      refine ((o9.le l30).fr f32 (fun k hk hin => ?_)).reads
      obtain ⟨_, cur, hc1⟩ := o9.obl_some hk
      obtain ⟨_, cur2, hc2⟩ := o5.obl_some hin
      rw [hc1] at hc2
      injection hc2 with hc2; injection hc2 with _ h2; exact absurd h2 (by decide)
    refine ⟨A', 9, c', rfl, ?_⟩
    rw [← insCells_app] at o32
    refine CallsA.mono (run_ofP W m32 A' 9 c' (lateC l) 1 A9 n9 c9 inp 50 rfl hlen (by constructor <;> decide) o32.reads f9 (by omega)) ?_
    rintro r m45 ⟨l45, Ao, co, Am, cm, rfl, hao, ham⟩
    refine ⟨_, _, _, _, _, _, _, _, rfl, ?_⟩
    refine blk4 fun b46 M lM n46 hb46 p46 => ?_
    obtain ⟨t1, t2, t3⟩ := hrun
    have hao' := hao.le lM
    clear hao ham
    generalize runPP (lateC l) 1 inp 50 = ra at *
    rw [t3] at hao'
    obtain ⟨ad, hA, hc⟩ := hao'.ex (by simp)
    have x0 : M.cell (ad.add 0) = some (.int .i64 a0) := hc 0 _ rfl
    have x1 : M.cell (ad.add 1) = some (.int .i64 a1) := hc 1 _ rfl
    have hl2 : ra.out.length = 2 := by rw [t3]; rfl
    have u1 : (ra.trap == 1) = true := by rw [t1]; rfl
    have u2 : (ra.steps == 12) = true := by rw [t2]; rfl
    have u3 : (((ra.out.length : Nat) : Int) == 2) = true := by rw [hl2]; rfl
    refine ⟨_, cel p46 rfl, rfl, bcET u1 ⟨_, cel p46 rfl, rfl, bcET (by rw [u1, u2]; rfl) ⟨_, _, _, cel p46 rfl, rfl, bcET (by rw [u1, u2, u3]; rfl) ⟨_, _, _, cel p46 rfl, ⟨by decide, by omega⟩, ?_⟩⟩⟩⟩
    rw [hA, nilO_some, e0, e1]
    have e8 : (bif bif bif ra.trap == 1 then ra.steps == 12 else false then ((ra.out.length : Nat) : Int) == 2 else false then a0 == a0 else false) = true := by rw [u1, u2, u3]; simp
    refine ⟨_, x0, rfl, bcET e8 ⟨_, _, _, cel p46 rfl, ⟨by decide, by omega⟩, ?_⟩⟩
    rw [hA, nilO_some]
    have e9 : (bif (bif bif bif ra.trap == 1 then ra.steps == 12 else false then ((ra.out.length : Nat) : Int) == 2 else false then a0 == a0 else false) then a1 == a1 else false) = true := by rw [e8]; simp
    refine ⟨_, x1, rfl, bcET e9 ?_⟩
    have := aw8B W M e9
    rw [hR] at this
    exact this
  refine vk17_1111 W m11 _ R a0 a1 a2 (some ⟨b1, 0, none⟩) 5 5 b3 (some ⟨b10, 0, none⟩) 2 2 rfl rfl rfl rfl rfl rfl ?_
  cases a2 with
  | false =>
    refine bcF ?_
    refine K m11 _ ⟨12, 4, 0, 0, 0⟩ (some ⟨b10, 0, none⟩) 2 2 [a1, a0] L11 p11 o2' o11 rfl (by decide) ?_ rfl rfl rfl rfl rfl _ rfl
    have := runPP_late0 a1 a0
    rw [f0, f1] at this
    exact this
  | true =>
    refine bcT ⟨rfl, ?_⟩
    refine st5 p11 hb3 ?_
    have o11' := o11.upd (o11.ne_type p11 (by decide)) (o := .cells #[.int .i64 20, .int .i64 0, .int .i64 0, .int .i64 0, .int .i64 1] 34)
    have o2'' := o2'.upd (b := b3) (o := .cells #[.int .i64 20, .int .i64 0, .int .i64 0, .int .i64 0, .int .i64 1] 34) (fun off e => ne13 (by injection e with e; injection e))
    have p12 : (m11.upd b3 (.cells #[.int .i64 20, .int .i64 0, .int .i64 0, .int .i64 0, .int .i64 1] 34)) b3 = some (.cells (⟨20, 0, 0, 0, 1⟩ : Ins).cells.toArray 34) := upd_get_same
    have n3W : mOf W b3 = none := AM.le_none l2 n3
    have L12 : (mOf W).le (m11.upd b3 (.cells #[.int .i64 20, .int .i64 0, .int .i64 0, .int .i64 0, .int .i64 1] 34)) := fun x o hx => by
      have : x ≠ b3 := fun e => by subst e; rw [n3W] at hx; cases hx
      rw [upd_get_ne this]; exact L11 _ _ hx
    generalize m11.upd b3 (.cells #[.int .i64 20, .int .i64 0, .int .i64 0, .int .i64 0, .int .i64 1] 34) = m12 at *
    refine vkLate W m12 _ _ a1 (some ⟨b10, 0, none⟩) 2 2 ?_ ?_ ?_
    · rfl
    · rfl
    intro b17 hb17 hm17
    rw [e1]
    have l17 := le_new hm17 (.cells (intCells .i64 [a1]).toArray 3)
    have rd17 : Reads (m12.upd b17 (.cells (intCells .i64 [a1]).toArray 3)) 1 (some ⟨b17, 0, none⟩) 1 (intCells .i64 [a1]) := Reads.lit rfl
    refine (show awp Try.prog W.heap.size (Builtin.append_ #[23, 23] 23 #[.slice (some ⟨b10, 0, none⟩) 2 2, .slice (some ⟨b17, 0, none⟩) 1 1]) (m12.upd b17 (.cells (intCells .i64 [a1]).toArray 3)) _ from ?_)
    refine awp_append_loc (m0 := mOf W) el23 (AM.le_trans L12 l17) (o11'.le l17) n10 rd17 (int_one _) (by decide) (by decide) (fun A' c' m20 l20 f20 o20 n20 _ => ?_)
    refine ⟨A', 3, c', rfl, ?_⟩
    have nb : ∀ {k : Nat}, k ∈ obl (some (⟨b10, 0, none⟩ : Addr)) → k = b10 := fun h => by simpa [obl] using h
    have p20 := f20 _ _ (l17 _ _ p12) (fun hin => by
      have := nb hin
      obtain ⟨_, cur, hc⟩ := o11'.obl_some (k := b10) (by simp [obl])
      rw [← this, p12] at hc
      injection hc with hc; injection hc with _ h2; exact absurd h2 (by decide))
    have o20b := (o2''.le l17).fr f20 (fun k hk hin => by
      have e := nb hin
      obtain ⟨_, cur, hc⟩ := o11'.obl_some (k := b10) (by simp [obl])
      obtain ⟨_, cur2, hc2⟩ := o2''.obl_some hk
      rw [e, hc] at hc2
      injection hc2 with hc2; injection hc2 with _ h2; exact absurd h2 (by decide))
    have e20 : intCells .i64 [a1, a0] ++ intCells .i64 [a1] = intCells .i64 [a1, a0, a1] := rfl
    rw [e20] at o20
    simp only [thenS_normal]
    refine K m20 _ ⟨20, 0, 0, 0, 1⟩ A' 3 c' [a1, a0, a1] l20 p20 o20b o20 rfl (by decide) ?_ rfl rfl rfl rfl rfl _ rfl
    have := runPP_late1 a1 a0
    rw [f0, f1] at this
    exact this
end Go.Proofs.Ytadcbnldahcelaa.S
