/- Ytkfemiloehkmhaa: a text of our own, by an AI agent: SgBH -/
import Derived.Test.YtkfemiloehkmhaaProg
import Derived.Shelf.Sort.Plain
import Derived.Shelf.Slices.In.SortNone
import Derived.Sort.OwnSortedInts
import Derived.Test.YtkfemiloehkmhaaSgCH
import Derived.Test.YtkfemiloehkmhaaBgBH
namespace Go.Proofs
open Go Go.RowKit Go.Shelf
def Try.lSort_ren : Go.Shelf.Ren := ⟨fun | 189 => 57 | 125 => 88 | 257 => 87 | 128 => 108 | 129 => 109 | 294 => 99 | 295 => 100 | 296 => 101 | 297 => 102 | 298 => 103 | 299 => 104 | 216 => 105 | 300 => 106 | 301 => 107 | 328 => 113 | 329 => 114 | 330 => 115 | 331 => 116 | 332 => 117 | 215 => 118 | 343 => 119 | n => n, fun | 28 => 30 | 3 => 3 | 46 => 93 | 0 => 0 | 51 => 107 | 53 => 109 | 4 => 4 | 183 => 101 | 182 => 100 | 131 => 26 | 5 => 5 | 9 => 9 | 218 => 115 | 222 => 119 | 228 => 121 | 229 => 122 | n => n, fun | n => n⟩
theorem Try.lSort : Go.Proofs.Lays.n189 Try.prog Try.lSort_ren where
  mixed := by kernel_rfl
  f125 := Try.func88.trans (congrArg some (by kernel_rfl))
  f128 := Try.func108.trans (congrArg some (by kernel_rfl))
  f129 := Try.func109.trans (congrArg some (by kernel_rfl))
  f189 := Try.func57.trans (congrArg some (by kernel_rfl))
  f215 := Try.func118.trans (congrArg some (by kernel_rfl))
  f216 := Try.func105.trans (congrArg some (by kernel_rfl))
  f257 := Try.func87.trans (congrArg some (by kernel_rfl))
  f294 := Try.func99.trans (congrArg some (by kernel_rfl))
  f295 := Try.func100.trans (congrArg some (by kernel_rfl))
  f296 := Try.func101.trans (congrArg some (by kernel_rfl))
  f297 := Try.func102.trans (congrArg some (by kernel_rfl))
  f298 := Try.func103.trans (congrArg some (by kernel_rfl))
  f299 := Try.func104.trans (congrArg some (by kernel_rfl))
  f300 := Try.func106.trans (congrArg some (by kernel_rfl))
  f301 := Try.func107.trans (congrArg some (by kernel_rfl))
  f328 := Try.func113.trans (congrArg some (by kernel_rfl))
  f329 := Try.func114.trans (congrArg some (by kernel_rfl))
  f330 := Try.func115.trans (congrArg some (by kernel_rfl))
  f331 := Try.func116.trans (congrArg some (by kernel_rfl))
  f332 := Try.func117.trans (congrArg some (by kernel_rfl))
  f343 := Try.func119.trans (congrArg some (by kernel_rfl))
  t0 := Try.underlying0
  a0 := Try.isAgg0
  z0 := Try.sizeOf0
  v0 := Try.zeroValue0
  t3 := Try.underlying3
  a3 := Try.isAgg3
  z3 := Try.sizeOf3
  v3 := Try.zeroValue3
  t4 := Try.underlying4
  a4 := Try.isAgg4
  z4 := Try.sizeOf4
  v4 := Try.zeroValue4
  t5 := Try.underlying5
  a5 := Try.isAgg5
  z5 := Try.sizeOf5
  v5 := Try.zeroValue5
  t9 := Try.underlying9
  a9 := Try.isAgg9
  z9 := Try.sizeOf9
  v9 := Try.zeroValue9
  t28 := Try.underlying30
  a28 := Try.isAgg30
  z28 := Try.sizeOf30
  v28 := Try.zeroValue30
  t46 := Try.underlying93
  a46 := Try.isAgg93
  z46 := Try.sizeOf93
  v46 := Try.zeroValue93
  t51 := Try.underlying107
  a51 := Try.isAgg107
  z51 := Try.sizeOf107
  v51 := Try.zeroValue107
  t53 := Try.underlying109
  a53 := Try.isAgg109
  z53 := Try.sizeOf109
  v53 := Try.zeroValue109
  t131 := Try.underlying26
  a131 := Try.isAgg26
  z131 := Try.sizeOf26
  v131 := Try.zeroValue26
  t182 := Try.underlying100
  a182 := Try.isAgg100
  z182 := Try.sizeOf100
  v182 := Try.zeroValue100
  t183 := Try.underlying101
  a183 := Try.isAgg101
  z183 := Try.sizeOf101
  v183 := Try.zeroValue101
  t218 := Try.underlying115
  a218 := Try.isAgg115
  z218 := Try.sizeOf115
  v218 := Try.zeroValue115
  t222 := Try.underlying119
  a222 := Try.isAgg119
  z222 := Try.sizeOf119
  v222 := Try.zeroValue119
  t228 := Try.underlying121
  a228 := Try.isAgg121
  z228 := Try.sizeOf121
  v228 := Try.zeroValue121
  t229 := Try.underlying122
  a229 := Try.isAgg122
  z229 := Try.sizeOf122
  v229 := Try.zeroValue122
end Go.Proofs

set_option linter.unusedSimpArgs false
set_option linter.unusedVariables false
set_option maxRecDepth 100000
namespace Go.Proofs.Ytkfemiloehkmhaa.S
open Go Go.RowKit Go.Alog Go.Proofs.Ytkfemiloehkmhaa.T Go.Proofs.Ytkfemiloehkmhaa.V

theorem setAt_of {w0 W : World} {m : AM} (hW : Holds w0 W m) {B s Bs : Nat} {zs : List Int} {fp : List Nat} (h : SetA m B s zs fp) {T : TypeId} (hb : m Bs = some (.cells #[.pointer (some ⟨s, 0, none⟩)] T (0, 0))) :
    ∃ sl, SetAt W Bs s sl zs := by
  obtain ⟨mp, A, c, hs, hB, hO, hm, hfp⟩ := h
  refine ⟨.slice A zs.length c, hW.cell (cel hb rfl), hW.cell (cel hs rfl), ?_⟩
  cases hA : A with
  | none =>
    obtain ⟨h1, h2, h3 | ⟨g, cur, h3, _⟩⟩ := hO
    · have : zs = [] := by have := h3.2; cases zs with
        | nil => rfl
        | cons => simp at h2; omega
      subst this
      exact .inl ⟨by rw [h3.2]; rfl, rfl⟩
    · rw [hA] at h3; cases h3
  | some ad =>
    have hc := hO.cells hA
    obtain ⟨h1, h2, h3 | ⟨g, cur, h3, _⟩⟩ := hO
    · rw [hA] at h3; cases h3.1
    · rw [hA] at h3; injection h3 with h3; subst h3
      refine .inr ⟨g, 0, c, rfl, fun j hj => by
        have := hc j (.int .i64 (zs[j]?.getD 0)) ?_
        · rw [addn] at this; exact hW.cell this
        unfold intCells
        rw [List.getElem?_map]
        simp [hj]⟩

theorem holds_below {w0 W W' : World} {m : AM} (h : Holds w0 W m) (hb : Below W.heap.size W W') : Holds w0 W' m :=
  ⟨h.below.trans (hb.mono h.below.size), fun b o hm => (hb.block b (Array.getElem?_eq_some_iff.1 (h.has b o hm)).1).trans (h.has b o hm)⟩

theorem seq_of {W : World} {Bs s : Nat} {sl : Value} {zs : List Int} (hS : SetAt W Bs s sl zs) (hlen : zs.length ≤ 17592186044415) :
    SeqStopsK Fence.wide 9 Try.prog 86 #[.pointer (some ⟨Bs, 0, none⟩)] (fun x : Int => #[Value.int .i64 x]) (Below W.heap.size) (fun xs => xs = zs) (fun _ => True) zs.length W :=
  all1_stops (fun x : Int => x) 9 Bs s sl zs W (by rw [List.map_id']; exact hS) hlen

theorem enters86 : ∀ args w, (callFunc 86 args).run Try.prog w = .ok (.enter 86 args) w := enters_of Try.func86 (by kernel_rfl) rfl

theorem collect_spec (w0 : World) (m : AM) {s Bs : Nat} {zs : List Int} {fp : List Nat} (h : SetA m w0.heap.size s zs fp) {T : TypeId} (hb : m Bs = some (.cells #[.pointer (some ⟨s, 0, none⟩)] T (0, 0))) (hlen : zs.length ≤ 10000) {R : Value → AM → Prop}
    (hK : ∀ A c m', m.le m' → (∀ k ∈ obl A, m k = none) → Alog.Own m' w0.heap.size 3 1 A zs.length c (intCells .i64 zs) → R (.slice A zs.length c) m') :
    CallsA Try.prog w0 54 #[.func (.func 86) #[] #[.pointer (some ⟨Bs, 0, none⟩)]] m R := by
  intro W hW
  obtain ⟨sl, hS⟩ := setAt_of hW h hb
  refine (callsIn_wide (n := 11)).1 ?_
  refine (collect_in _ _ enters86 zs (by unfold maxLen; omega) (by omega) W (seq_of hS (by omega))).mono ?_
  rintro e W' ⟨v, rfl, hrow, hnil, hb'⟩
  have hH := holds_below hW hb'
  rcases hrow.2 with ⟨h1, h2⟩ | ⟨g, cap, cur, h1, h2, h3, h4, h5, h6, h7⟩
  · have : zs = [] := List.eq_nil_of_length_eq_zero h2
    subst this
    subst h1
    exact ⟨_, m, rfl, hH, hK none 0 m (AM.le_refl m) (by simp [obl]) (Alog.Own.nil _ _ _ _)⟩
  · have hg : m g = none := by
      cases hm : m g with
      | none => rfl
      | some o => exact absurd (Array.getElem?_eq_some_iff.1 (hW.has g o hm)).1 (by omega)
    subst h1
    refine ⟨_, m.upd g (.cells cur 3 (0, 0)), rfl, ⟨hH.below, fun b o hbo => ?_⟩, hK (some ⟨g, 0, none⟩) cap _ (fun b o hbo => ?_) (by simp [obl, hg]) ⟨?_, h4, .inr ⟨g, cur, rfl, ?_, upd_get_same, h6, h7⟩⟩⟩
    · by_cases e : b = g
      · subst e; rw [upd_get_same] at hbo; injection hbo with hbo; subst hbo; exact h3
      · rw [upd_get_ne e] at hbo; exact hH.has b o hbo
    · have e : b ≠ g := fun e => by rw [e, hg] at hbo; cases hbo
      rw [upd_get_ne e]; exact hbo
    · simp [intCells]
    · have := hW.below.size; omega

theorem all_spec (w0 : World) (m : AM) (s : Nat) {R : Value → AM → Prop} (hK : ∀ b m', m.le m' → m b = none → w0.heap.size ≤ b → m' b = some (.cells #[.pointer (some ⟨s, 0, none⟩)] 88 (0, 0)) → R (.func (.func 86) #[] #[.pointer (some ⟨b, 0, none⟩)]) m') :
    CallsA Try.prog w0 55 #[.pointer (some ⟨s, 0, none⟩)] m R := by
  refine cf55 w0 m s R ?_
  intro b hb hn
  exact retP_of (hK b _ (fun k o hk => by rw [upd_get_ne (fun e => by rw [e, hn] at hk; cases hk)]; exact hk) hn hb upd_get_same)
end Go.Proofs.Ytkfemiloehkmhaa.S

set_option linter.unusedSimpArgs false
set_option linter.unusedVariables false
set_option maxRecDepth 100000
namespace Go.Proofs.Ytkfemiloehkmhaa.S
open Go Go.RowKit Go.Alog Go.Proofs.Ytkfemiloehkmhaa.T Go.Proofs.Ytkfemiloehkmhaa.V

def sortL (zs : List Int) : List Int := zs.mergeSort fun x y => decide (x ≤ y)

theorem sortRen : Go.Proofs.Try.lSort_ren.f 189 = 57 := by kernel_rfl

theorem sortAny_spec (w0 : World) (m : AM) {A : Option Addr} {c : Nat} {zs : List Int} (hO : Alog.Own m w0.heap.size 3 1 A zs.length c (intCells .i64 zs)) (hlen : zs.length ≤ 100000) {R : Value → AM → Prop}
    (hK : ∀ m', Fr m m' (obl A) → Alog.Own m' w0.heap.size 3 1 A zs.length c (intCells .i64 (sortL zs)) → R (.tuple #[]) m') :
    CallsA Try.prog w0 57 #[.slice A zs.length c] m R := by
  intro W hW
  obtain ⟨h1, h2, h3 | ⟨g, cur, h3, h4, h5, h6, h7⟩⟩ := hO
  · have hz : zs = [] := by
      cases zs with
      | nil => rfl
      | cons => simp at h2; omega
    subst hz
    rw [h3.1] at hK ⊢
    have := Go.Proofs.Any.slices_Sort_int_none Go.Proofs.Try.lSort none c W
    rw [sortRen] at this
    refine this.mono ?_
    rintro e W' ⟨rfl, rfl⟩
    exact ⟨_, m, rfl, hW, hK m (Fr.refl _ _) ⟨by simp [intCells, sortL], h2, .inl ⟨rfl, h3.2⟩⟩⟩
  · have hb := hW.has g _ h5
    have ht : cur.toList.take zs.length = zs.map (Value.int .i64) := by simpa [intCells] using h7
    have := Go.Proofs.Any.slices_Sort_int Go.Proofs.Try.lSort g 0 c zs W (holds_of_blockI hb ht) (Array.getElem?_eq_some_iff.1 hb).1 (by omega)
    rw [sortRen] at this
    rw [h3] at hK ⊢
    refine this.mono ?_
    rintro e W' ⟨rfl, n, os, rfl⟩
    have hg := grownBy_sortedI (w := W) (g := g) (n := n) (os := os) (zs.mergeSort fun x y => decide (x ≤ y)).toArray
    have hbb : Below w0.heap.size w0 _ := hW.below.grown hg hW.below.size (fun k e => by cases e; exact h4)
    refine ⟨_, m.upd g (.cells (Sort.putCells (Value.int .i64) 0 (zs.mergeSort fun x y => decide (x ≤ y)).toArray cur) 3 (0, 0)), rfl, ⟨hbb, fun b o hbo => ?_⟩, hK _ ?_ ⟨?_, h2, .inr ⟨g, _, rfl, h4, upd_get_same, ?_, ?_⟩⟩⟩
    · by_cases e : b = g
      · subst e
        rw [upd_get_same] at hbo
        injection hbo with hbo
        subst hbo
        exact heap_sortedI _ hb
      · rw [upd_get_ne e] at hbo
        have := hW.has b o hbo
        exact (hg.block b (Array.getElem?_eq_some_iff.1 this).1 (fun e' => e (by injection e' with e'))).trans this
    · exact (Fr.refl m _).upd (.inl (by simp [obl])) _
    · simp [intCells, sortL]
    · simp [Sort.putCells, h6]
    · have hl : (zs.mergeSort fun x y => decide (x ≤ y)).length = zs.length := by simp
      have := take_putCellsI cur (zs.mergeSort fun x y => decide (x ≤ y)) (by omega)
      rw [hl] at this
      rw [Nat.mul_one, this]
      rfl
end Go.Proofs.Ytkfemiloehkmhaa.S

