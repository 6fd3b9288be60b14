/- Ytkfemiloehkmhaa: a text of our own, by an AI agent: Core6 -/
import Derived.Test.YtkfemiloehkmhaaCore5
set_option linter.unusedSimpArgs false
set_option linter.unusedVariables false
namespace Go.Alog
open Go Go.RowKit

section
variable {P : Program} {B : Nat}

/-- The cells from an address on are those of a list. -/
def Cells (m : AM) (a : Addr) (l : List Value) : Prop := ∀ j u, l[j]? = some u → m.cell (a.add j) = some u

theorem Cells.load {m : AM} {a : Addr} {l : List Value} (h : Cells m a l) : rval P m (loadCells a l.length) = some l.toArray := by
  have key : ∀ (r : List Value) (i : Nat) (acc : Array Value), (∀ j u, r[j]? = some u → m.cell (a.add (i + j)) = some u) → rval P m (loadCellsFrom a i r.length acc) = some (acc ++ r.toArray) := by
    intro r
    induction r with
    | nil => intro i acc _; simp [loadCellsFrom, rval_pure]
    | cons v r ih =>
      intro i acc hr
      show rval P m (Go.load (a.add i) >>= fun v => loadCellsFrom a (i + 1) r.length (acc.push v)) = _
      rw [rval_bind']
      have h0 : rval P m (Go.load (a.add i)) = some v := by
        unfold Go.load
        have := hr 0 v (by simp)
        simp only [Nat.add_zero] at this
        simp only [rval, this]
      rw [h0]
      simp only [Option.bind_some]
      rw [ih (i + 1) _ (fun j u hu => by have := hr (j + 1) u (by simpa using hu); rwa [show i + (j + 1) = i + 1 + j by omega] at this)]
      simp
  have := key l 0 #[] (fun j u hu => by simpa using h j u hu)
  unfold loadCells
  simpa using this

/-- Cells of a known block with a list in their place, from a place on. -/
def splice (cur : Array Value) (o : Nat) (l : List Value) : Array Value := (cur.toList.take o ++ l ++ cur.toList.drop (o + l.length)).toArray

theorem splice_nil (cur : Array Value) (o : Nat) : splice cur o [] = cur := by simp [splice]
theorem splice_size (cur : Array Value) (o : Nat) (l : List Value) (h : o + l.length ≤ cur.size) : (splice cur o l).size = cur.size := by
  simp [splice]; omega
theorem splice_cons (cur : Array Value) (o : Nat) (v : Value) (l : List Value) (h : o + (l.length + 1) ≤ cur.size) : splice (cur.setIfInBounds o v) (o + 1) l = splice cur o (v :: l) := by
  unfold splice
  congr 1
  simp only [Array.toList_setIfInBounds, List.length_cons]
  apply List.ext_getElem?
  intro i
  simp only [List.getElem?_append, List.getElem?_take, List.getElem?_drop, List.getElem?_set, List.length_append, List.length_take, List.length_set, List.length_cons, List.getElem?_cons, Array.length_toList]
  have e1 : min (o + 1) cur.size = o + 1 := by omega
  have e2 : min o cur.size = o := by omega
  rw [e1, e2]
  by_cases h1 : i < o
  · simp [h1, show i < o + 1 by omega, show ¬ o = i by omega, show i < o + 1 + l.length by omega, show i < o + (l.length + 1) by omega]
  · by_cases h2 : i = o
    · subst h2
      simp [show i < cur.size by omega, show i < i + 1 + l.length by omega]
    · by_cases h3 : i < o + 1 + l.length
      · simp [h1, h3, show ¬ i < o + 1 by omega, show i < o + (l.length + 1) by omega, show ¬ i - o = 0 by omega]
        congr 1
      · simp [h1, h3, show ¬ i < o + 1 by omega, show ¬ i < o + (l.length + 1) by omega]
        rw [show o + 1 + l.length + (i - (o + 1 + l.length)) = i by omega, show o + (l.length + 1) + (i - (o + (l.length + 1))) = i by omega]
        rw [if_neg (by omega)]

theorem store_list {g : Nat} {e : TypeId} : ∀ (l : List Value) (i o : Nat) (m : AM) (cur : Array Value) (K : Unit → AM → Prop), m g = some (.cells cur e (0, 0)) → B ≤ g → (∀ v ∈ l, v.oneCell' = true) → o + i + l.length ≤ cur.size →
    K () (m.upd g (.cells (splice cur (o + i) l) e)) → awp P B (storeCells ⟨g, o, none⟩ l i) m K
  | [], i, o, m, cur, K, hg, hB, h1, hl, hk => by
    rw [splice_nil, upd_self hg] at hk
    exact hk
  | v :: l, i, o, m, cur, K, hg, hB, h1, hl, hk => by
    show awp P B (store ((⟨g, o, none⟩ : Addr).add i) v >>= fun _ => storeCells ⟨g, o, none⟩ l (i + 1)) m K
    rw [awp_bind', addn]
    simp only [List.length_cons] at hl
    refine ⟨h1 v (by simp), hB, ?_, frozen_of hg, ?_⟩
    · rw [cell_of hg]; exact ⟨cur[o + i]'(by omega), by simp [show o + i < cur.size by omega]⟩
    · rw [set_of hg]
      show awp P B (storeCells ⟨g, o, none⟩ l (i + 1)) _ K
      refine store_list l (i + 1) o _ (cur.setIfInBounds (o + i) v) K (by rw [upd_get_same]) hB (fun u hu => h1 u (by simp [hu])) (by simp; omega) ?_
      rw [upd_upd, ← Nat.add_assoc, splice_cons cur (o + i) v l (by omega)]
      exact hk

/-- A row that the call owns: n elements of sz cells each, room for cp. -/
def Own (m : AM) (B : Nat) (e : TypeId) (sz : Nat) (A : Option Addr) (n cp : Nat) (xs : List Value) : Prop :=
  xs.length = n * sz ∧ n ≤ cp ∧ ((A = none ∧ cp = 0) ∨ ∃ g cur, A = some ⟨g, 0, none⟩ ∧ B ≤ g ∧ m g = some (.cells cur e (0, 0)) ∧ cur.size = cp * sz ∧ cur.toList.take (n * sz) = xs)

theorem Own.nil (m : AM) (B : Nat) (e : TypeId) (sz : Nat) : Own m B e sz none 0 0 [] := ⟨by simp, Nat.le_refl _, .inl ⟨rfl, rfl⟩⟩

theorem Own.new (m : AM) {B g : Nat} (hB : B ≤ g) (e : TypeId) (sz n : Nat) (xs : List Value) (hl : xs.length = n * sz) : Own (m.upd g (.cells xs.toArray e)) B e sz (some ⟨g, 0, none⟩) n n xs :=
  ⟨hl, Nat.le_refl _, .inr ⟨g, xs.toArray, rfl, hB, upd_get_same, by simp [hl], by simp [← hl]⟩⟩

theorem Own.cells {m : AM} {e : TypeId} {sz : Nat} {A : Option Addr} {n cp : Nat} {xs : List Value} (h : Own m B e sz A n cp xs) {ad : Addr} (hA : A = some ad) : Cells m ad xs := by
  obtain ⟨hl, hn, h | ⟨g, cur, h1, h2, h3, h4, h5⟩⟩ := h
  · rw [h.1] at hA; cases hA
  · rw [h1] at hA
    injection hA with hA
    subst hA
    intro j u hu
    rw [addn, cell_of h3, Nat.zero_add]
    rw [← h5, List.getElem?_take] at hu
    split at hu
    · simpa using hu
    · cases hu

theorem Own.keep {m m' : AM} {e : TypeId} {sz : Nat} {A : Option Addr} {n cp : Nat} {xs : List Value} (h : Own m B e sz A n cp xs) (hk : ∀ g, A = some ⟨g, 0, none⟩ → m' g = m g) : Own m' B e sz A n cp xs := by
  obtain ⟨hl, hn, h | ⟨g, cur, h1, h2, h3, h4, h5⟩⟩ := h
  · exact ⟨hl, hn, .inl h⟩
  · exact ⟨hl, hn, .inr ⟨g, cur, h1, h2, by rw [hk g h1]; exact h3, h4, h5⟩⟩

theorem Own.upd {m : AM} {e : TypeId} {sz : Nat} {A : Option Addr} {n cp : Nat} {xs : List Value} (h : Own m B e sz A n cp xs) {b : Nat} {o : Obj} (hb : ∀ off, A ≠ some ⟨b, off, none⟩) : Own (m.upd b o) B e sz A n cp xs :=
  h.keep fun g hg => upd_get_ne (fun e => hb 0 (by rw [hg, e]))

theorem Own.ne_none {m : AM} {e : TypeId} {sz : Nat} {A : Option Addr} {n cp : Nat} {xs : List Value} (h : Own m B e sz A n cp xs) {b : Nat} (hb : m b = none) : ∀ off, A ≠ some ⟨b, off, none⟩ := by
  intro off hA
  obtain ⟨_, _, h | ⟨g, cur, h1, h2, h3, _⟩⟩ := h
  · rw [h.1] at hA; cases hA
  · rw [h1] at hA
    injection hA with hA
    injection hA with hg
    subst hg
    rw [hb] at h3; cases h3

theorem Own.ne_type {m : AM} {e : TypeId} {sz : Nat} {A : Option Addr} {n cp : Nat} {xs : List Value} (h : Own m B e sz A n cp xs) {b : Nat} {c : Array Value} {t : TypeId} (hb : m b = some (.cells c t (0, 0))) (ht : t ≠ e) : ∀ off, A ≠ some ⟨b, off, none⟩ := by
  intro off hA
  obtain ⟨_, _, h | ⟨g, cur, h1, h2, h3, _⟩⟩ := h
  · rw [h.1] at hA; cases hA
  · rw [h1] at hA
    injection hA with hA
    injection hA with hg
    subst hg
    rw [hb] at h3
    injection h3 with h3
    injection h3 with _ h4
    exact ht h4

/-- What a slice value reads, nil let in. -/
def Reads (m : AM) (sz : Nat) (A : Option Addr) (n : Nat) (xs : List Value) : Prop := xs.length = n * sz ∧ ((A = none ∧ n = 0) ∨ ∃ ad, A = some ad ∧ Cells m ad xs)

theorem Own.reads {m : AM} {e : TypeId} {sz : Nat} {A : Option Addr} {n cp : Nat} {xs : List Value} (h : Own m B e sz A n cp xs) : Reads m sz A n xs := by
  refine ⟨h.1, ?_⟩
  cases hA : A with
  | none =>
    obtain ⟨_, hn, h1 | ⟨g, cur, h1, _⟩⟩ := h
    · exact .inl ⟨rfl, by omega⟩
    · rw [hA] at h1; cases h1
  | some ad => exact .inr ⟨ad, rfl, h.cells hA⟩

theorem Reads.first {m : AM} {sz : Nat} {A : Option Addr} {n c : Nat} {xs : List Value} (h : Reads m sz A n xs) : rval P m (Builtin.firstCells sz n (.slice A n c)) = some xs.toArray := by
  obtain ⟨hl, ⟨rfl, rfl⟩ | ⟨ad, rfl, hc⟩⟩ := h
  · have : xs = [] := List.eq_nil_of_length_eq_zero (by simpa using hl)
    subst this
    rfl
  · show rval P m (loadCells ad (n * sz)) = _
    rw [← hl]
    exact hc.load

/-- Above this many bytes a row is refused. -/
def fits (n bytes : Nat) : Prop := n ≤ 1073741824 ∧ n * bytes ≤ 140737488355328

theorem awp_ask {m : AM} {b : Nat} {K : Unit → AM → Prop} (h : K () m) : awp P B (askRoom b) m K := by
  unfold askRoom
  by_cases hb : b > roomBytes
  · rw [if_pos hb]; exact h
  · rw [if_neg hb]; exact h

theorem awp_append {t ty e : TypeId} {sz bs : Nat} {z : List Value} (hel : elOf P t = some (e, sz, bs, z)) {m : AM} {A : Option Addr} {n cp : Nat} {xs : List Value} (hown : Own m B e sz A n cp xs)
    {A2 : Option Addr} {k c2 : Nat} {news : List Value} (hr : Reads m sz A2 k news) (h1 : ∀ u ∈ news, u.oneCell' = true) (hfit : (n + k) * bs ≤ 140737488355328) (hfit2 : n + k ≤ 140737488355328) {K : Value → AM → Prop}
    (hroom : n + k ≤ cp → ∀ g cur, A = some ⟨g, 0, none⟩ → m g = some (.cells cur e (0, 0)) → K (.slice A (n + k) cp) (m.upd g (.cells (splice cur (n * sz) news) e)))
    (hnil : n + k ≤ cp → A = none → K (.slice A (n + k) cp) m)
    (hgrow : cp < n + k → ∀ b cp', B ≤ b → m b = none → n + k ≤ cp' → ∀ rest : List Value, rest.length = (cp' - (n + k)) * sz → K (.slice (some ⟨b, 0, none⟩) (n + k) cp') (m.upd b (.cells (xs ++ news ++ rest).toArray e))) :
    awp P B (Builtin.append_ #[t, t] ty #[.slice A n cp, .slice A2 k c2]) m K := by
  obtain ⟨i, zv, hu, hi, hz, hzs, hsz, hbs, hzl⟩ := elOf_spec hel
  subst hsz
  subst hbs
  show awp P B (underlying t >>= _) m K
  rw [awp_bind']
  refine awp_p (pv_underlying hu) ?_
  simp only [List.getElem_toArray, List.getElem_cons_zero, List.getElem_cons_succ]
  rw [awp_bind']
  refine awp_p (pv_sizeOf hi) ?_
  simp only [List.getElem?_toArray, List.getElem?_cons_succ, List.getElem?_cons_zero]
  rw [awp_bind']
  refine awp_p (pv_underlying hu) ?_
  rw [awp_bind']
  refine awp_p (x := false) rfl ?_
  simp only [Bool.false_eq_true, if_false, Bool.not_false, if_true]
  rw [awp_bind']
  refine awp_p (x := k) rfl ?_
  by_cases hc : n + k ≤ cp
  · rw [if_pos hc, awp_bind']
    refine awp_of_rval _ hr.first ?_
    cases A with
    | none =>
      simp only
      exact hnil hc rfl
    | some a =>
      simp only
      rw [awp_bind']
      have hown' := hown
      obtain ⟨hl, hn, h | ⟨g, cur, h1', h2, h3, h4, h5⟩⟩ := hown
      · cases h.1
      · injection h1' with h1'
        subst h1'
        have hmul : (n + k) * i.size ≤ cp * i.size := Nat.mul_le_mul_right _ hc
        rw [Nat.add_mul] at hmul
        rw [addn]
        refine store_list news 0 _ m cur _ h3 h2 h1 (by rw [hr.1]; omega) ?_
        have := hroom hc g cur rfl h3
        simp only [Nat.zero_add, Nat.add_zero]
        exact this
  · rw [if_neg hc, awp_bind']
    refine awp_p (pv_typeInfo hi) ?_
    have emax : IntKind.i64.max = 9223372036854775807 := rfl
    rw [if_neg (fun h => by have := h.1; rw [emax] at this; omega), awp_bind']
    refine awp_p (pv_typeInfo hi) ?_
    have hgf := growslice_fits (old := cp) (show cp < n + k by omega) hfit
    rw [if_neg (by have : (2 : Nat) ^ 48 = 281474976710656 := by decide
                   omega), awp_bind']
    refine ⟨fun hf => (by cases hf), fun _ t => ?_⟩
    show awp P B _ m K
    have hge : n + k ≤ (Question.appendCap (n + k) cp e).cut t := by simp [Question.cut]
    generalize (Question.appendCap (n + k) cp e).cut t = cp' at hge
    rw [awp_bind']
    refine awp_p (pv_typeInfo hi) ?_
    rw [awp_bind']
    refine awp_ask ?_
    rw [awp_bind']
    refine awp_of_rval _ hown.reads.first ?_
    rw [awp_bind']
    refine awp_of_rval _ hr.first ?_
    rw [awp_bind']
    refine awp_p (pv_zeroValue hi hz) ?_
    rw [awp_bind']
    intro b hb hm
    have hk := hgrow (by omega) b cp' hb hm hge (Builtin.zeroCells zv.cells (cp' - (n + k))).toList (by simp [Builtin.zeroCells, hzs])
    have e2 : (xs ++ news ++ (Builtin.zeroCells zv.cells (cp' - (n + k))).toList).toArray = xs.toArray ++ news.toArray ++ Builtin.zeroCells zv.cells (cp' - (n + k)) := by
      apply Array.ext'; simp
    rw [e2] at hk
    exact hk

/-- append onto a row that the call owns: the row behind it, and what has turned of the view: one block, the row's own or a new one. -/
theorem awp_append_own {t ty e : TypeId} {sz bs : Nat} {z : List Value} (hel : elOf P t = some (e, sz, bs, z)) {m : AM} {A : Option Addr} {n cp : Nat} {xs : List Value} (hown : Own m B e sz A n cp xs)
    {A2 : Option Addr} {k c2 : Nat} {news : List Value} (hr : Reads m sz A2 k news) (h1 : ∀ u ∈ news, u.oneCell' = true) (hfit : (n + k) * bs ≤ 140737488355328) (hfit2 : n + k ≤ 140737488355328) {K : Value → AM → Prop}
    (h : ∀ g cp' cur, (A = some ⟨g, 0, none⟩ ∨ m g = none) → B ≤ g → Own (m.upd g (.cells cur e)) B e sz (some ⟨g, 0, none⟩) (n + k) cp' (xs ++ news) → K (.slice (some ⟨g, 0, none⟩) (n + k) cp') (m.upd g (.cells cur e)))
    (hn : n + k = 0 → A = none → K (.slice none 0 0) m) :
    awp P B (Builtin.append_ #[t, t] ty #[.slice A n cp, .slice A2 k c2]) m K := by
  have hlen : (xs ++ news).length = (n + k) * sz := by rw [List.length_append, hown.1, hr.1, Nat.add_mul]
  refine awp_append hel hown hr h1 hfit hfit2 (fun hc g cur hA hg => ?_) (fun hc hA => ?_) (fun hc b cp' hb hm hge rest hrest => ?_)
  · have hown' := hown
    obtain ⟨hl, hn', h' | ⟨g', cur', h1', h2, h3, h4, h5⟩⟩ := hown'
    · rw [h'.1] at hA; cases hA
    · rw [hA] at h1'
      injection h1' with h1'
      injection h1' with h1'
      subst h1'
      rw [hg] at h3
      injection h3 with h3
      injection h3 with h3
      subst h3
      have hmul : (n + k) * sz ≤ cp * sz := Nat.mul_le_mul_right _ hc
      have hb1 : n * sz + news.length ≤ cur.size := by rw [hr.1, h4]; rw [Nat.add_mul] at hmul; exact hmul
      rw [hA]
      refine h g cp _ (.inl hA) h2 ⟨hlen, hc, .inr ⟨g, _, rfl, h2, upd_get_same, ?_, ?_⟩⟩
      · rw [splice_size _ _ _ hb1, h4]
      · unfold splice
        rw [h5, ← hlen, List.toList_toArray]
        exact List.take_left
  · obtain ⟨hl, hn', h' | ⟨g', cur', h1', _⟩⟩ := hown
    · have h0 : n + k = 0 := by omega
      rw [h0, hA, h'.2]
      exact hn h0 hA
    · rw [hA] at h1'; cases h1'
  · refine h b cp' _ (.inr hm) hb ⟨hlen, hge, .inr ⟨b, _, rfl, hb, upd_get_same, ?_, ?_⟩⟩
    · simp only [List.size_toArray, List.length_append, hown.1, hr.1, hrest]
      rw [← Nat.add_mul, ← Nat.add_mul]
      congr 1
      omega
    · rw [← hlen]
      simp only [List.take_left]
end
end Go.Alog
namespace Go.Alog
open Go Go.RowKit

/-- Outside of some blocks all that was known is as it was. -/
def Fr (m m' : AM) (fp : List Nat) : Prop := ∀ k o, m k = some o → k ∉ fp → m' k = some o

theorem Fr.refl (m : AM) (fp : List Nat) : Fr m m fp := fun _ _ h _ => h
theorem Fr.trans {a b c : AM} {fp fp' : List Nat} (h : Fr a b fp) (h' : Fr b c fp') (hs : ∀ k, k ∈ fp' → k ∈ fp ∨ a k = none) : Fr a c fp := fun k o hk hn =>
  h' k o (h k o hk hn) fun hk' => by
    rcases hs k hk' with h1 | h1
    · exact hn h1
    · rw [hk] at h1; cases h1
theorem Fr.upd {a b : AM} {fp : List Nat} (h : Fr a b fp) {g : Nat} (hg : g ∈ fp ∨ a g = none) (o : Obj) : Fr a (b.upd g o) fp := fun k o' hk hn => by
  have : k ≠ g := fun e => by
    subst e
    rcases hg with h1 | h1
    · exact hn h1
    · rw [hk] at h1; cases h1
  rw [upd_get_ne this]; exact h k o' hk hn
theorem Fr.of_le {a b : AM} (h : a.le b) (fp : List Nat) : Fr a b fp := fun k o hk _ => h k o hk
theorem Fr.mono {a b : AM} {fp fp' : List Nat} (h : Fr a b fp) (hs : ∀ k ∈ fp, k ∈ fp') : Fr a b fp' := fun k o hk hn => h k o hk fun h1 => hn (hs k h1)
theorem Fr.le {a b : AM} (h : Fr a b []) : a.le b := fun k o hk => h k o hk (by simp)

/-- The block in which a row lies. -/
def obl : Option Addr → List Nat
  | some a => [a.block]
  | none => []

theorem StC_own {B : Nat} {m : AM} {g k : Nat} {c : Array Value} {t : TypeId} {v : Value} {K : AM → Prop} (hg : m g = some (.cells c t (0, 0))) (hB : B ≤ g) (hk : k < c.size) (h : K (m.upd g (.cells (c.setIfInBounds k v) t))) : StC B m ⟨g, k, none⟩ v K :=
  ⟨hB, ⟨c[k], by rw [cell_of hg]; simp [hk]⟩, frozen_of hg, by rw [set_of hg]; exact h⟩

theorem nilO_some {a : Addr} {K : Addr → Prop} : nilO (some a) K = K a := rfl
theorem thenS_normal {next : Sg → AM → Prop} {Q : Exit → Sg → AM → Prop} {σ : Sg} {m : AM} : thenS next Q .normal σ m = next σ m := rfl
theorem thenS_ret {next : Sg → AM → Prop} {Q : Exit → Sg → AM → Prop} {σ : Sg} {m : AM} : thenS next Q .ret σ m = Q .ret σ m := rfl
theorem thenS_exit {next : Sg → AM → Prop} {Q : Exit → Sg → AM → Prop} {σ : Sg} {m : AM} {i : Nat} : thenS next Q (.exit i) σ m = Q (.exit i) σ m := rfl
end Go.Alog
namespace Go.Alog
open Go Go.RowKit
theorem Own.le {m m' : AM} {B : Nat} {e : TypeId} {sz : Nat} {A : Option Addr} {n cp : Nat} {xs : List Value} (h : Own m B e sz A n cp xs) (hl : m.le m') : Own m' B e sz A n cp xs := by
  obtain ⟨hl1, hn, h | ⟨g, cur, h1, h2, h3, h4, h5⟩⟩ := h
  · exact ⟨hl1, hn, .inl h⟩
  · exact ⟨hl1, hn, .inr ⟨g, cur, h1, h2, hl _ _ h3, h4, h5⟩⟩
theorem Cells.le {m m' : AM} {a : Addr} {l : List Value} (h : Cells m a l) (hl : m.le m') : Cells m' a l := fun j u hu => AM.le_cell hl (h j u hu)
theorem Reads.le {m m' : AM} {sz : Nat} {A : Option Addr} {n : Nat} {xs : List Value} (h : Reads m sz A n xs) (hl : m.le m') : Reads m' sz A n xs := by
  obtain ⟨h1, h2 | ⟨ad, h2, h3⟩⟩ := h
  · exact ⟨h1, .inl h2⟩
  · exact ⟨h1, .inr ⟨ad, h2, h3.le hl⟩⟩
theorem Reads.lit {m : AM} {b : Nat} {e : TypeId} {sz n : Nat} {cs : List Value} (h : cs.length = n * sz) : Reads (m.upd b (.cells cs.toArray e (0, 0))) sz (some ⟨b, 0, none⟩) n cs :=
  ⟨h, .inr ⟨_, rfl, fun j u hu => by rw [addn, Nat.zero_add, cell_upd_same]; simpa using hu⟩⟩
theorem Reads.nil (m : AM) (sz : Nat) : Reads m sz none 0 [] := ⟨by simp, .inl ⟨rfl, rfl⟩⟩
theorem retP_of {R : Value → AM → Prop} {v : Value} {m : AM} (h : R v m) : RetP R v m := ⟨m, AM.le_refl m, h⟩
theorem Own.obl_ne {m : AM} {B : Nat} {e : TypeId} {sz : Nat} {A : Option Addr} {n cp : Nat} {xs : List Value} (h : Own m B e sz A n cp xs) {g : Nat} {c : Array Value} {t : TypeId} (hg : m g = some (.cells c t (0, 0))) (ht : t ≠ e) : g ∉ obl A := by
  intro hm
  obtain ⟨_, _, h | ⟨g', cur, h1, h2, h3, _⟩⟩ := h
  · rw [h.1] at hm; simp [obl] at hm
  · rw [h1] at hm
    simp [obl] at hm
    subst hm
    rw [hg] at h3
    injection h3 with h3
    injection h3 with _ h4
    exact ht h4
theorem Own.obl_some {m : AM} {B : Nat} {e : TypeId} {sz : Nat} {A : Option Addr} {n cp : Nat} {xs : List Value} (h : Own m B e sz A n cp xs) {k : Nat} (hk : k ∈ obl A) : B ≤ k ∧ ∃ cur, m k = some (.cells cur e (0, 0)) := by
  obtain ⟨_, _, h | ⟨g', cur, h1, h2, h3, _⟩⟩ := h
  · rw [h.1] at hk; simp [obl] at hk
  · rw [h1] at hk
    simp [obl] at hk
    subst hk
    exact ⟨h2, cur, h3⟩
theorem Own.fr {m m' : AM} {B : Nat} {e : TypeId} {sz : Nat} {A : Option Addr} {n cp : Nat} {xs : List Value} (h : Own m B e sz A n cp xs) {fp : List Nat} (hf : Fr m m' fp) (hd : ∀ k ∈ obl A, k ∉ fp) : Own m' B e sz A n cp xs := by
  obtain ⟨hl1, hn, h | ⟨g, cur, h1, h2, h3, h4, h5⟩⟩ := h
  · exact ⟨hl1, hn, .inl h⟩
  · exact ⟨hl1, hn, .inr ⟨g, cur, h1, h2, hf _ _ h3 (hd g (by rw [h1]; simp [obl])), h4, h5⟩⟩
end Go.Alog
namespace Go.Alog
open Go Go.RowKit
/-- 'x.f = append(x.f, ..)': a field of a struct of the call's own, a row of the call's own. -/
theorem awp_append_field {P : Program} {B : Nat} {t ty e : TypeId} {sz bs : Nat} {z : List Value} (hel : elOf P t = some (e, sz, bs, z)) {m : AM} {A : Option Addr} {n cp : Nat} {xs : List Value} (hown : Own m B e sz A n cp xs)
    {A2 : Option Addr} {k c2 : Nat} {news : List Value} (hr : Reads m sz A2 k news) (h1 : ∀ u ∈ news, u.oneCell' = true) (hfit : (n + k) * bs ≤ 140737488355328) (hfit2 : n + k ≤ 140737488355328) (hpos : 0 < n + k)
    {g : Nat} {C : Array Value} {T : TypeId} (hg : m g = some (.cells C T (0, 0))) (hB : B ≤ g) (hne : T ≠ e) {j : Nat} (hj : j < C.size) {K : AM → Prop}
    (h : ∀ g2 cp' cur, (A = some ⟨g2, 0, none⟩ ∨ m g2 = none) → B ≤ g2 → g ≠ g2 →
      Own ((m.upd g2 (.cells cur e)).upd g (.cells (C.setIfInBounds j (.slice (some ⟨g2, 0, none⟩) (n + k) cp')) T)) B e sz (some ⟨g2, 0, none⟩) (n + k) cp' (xs ++ news) →
      K ((m.upd g2 (.cells cur e)).upd g (.cells (C.setIfInBounds j (.slice (some ⟨g2, 0, none⟩) (n + k) cp')) T))) :
    awp P B (Builtin.append_ #[t, t] ty #[.slice A n cp, .slice A2 k c2]) m fun v m1 => ∃ A' n' c', v = .slice A' n' c' ∧ StC B m1 ⟨g, j, none⟩ (.slice A' n' c') K := by
  refine awp_append_own hel hown hr h1 hfit hfit2 (fun g2 cp' cur hor hB2 hown2 => ?_) (fun h0 => by omega)
  have hgg : g ≠ g2 := fun e => by
    subst e
    rcases hor with h' | h'
    · exact hown.ne_type hg hne 0 h'
    · rw [hg] at h'; cases h'
  refine ⟨_, _, _, rfl, StC_own (by rw [upd_get_ne hgg]; exact hg) hB hj ?_⟩
  refine h g2 cp' cur hor hB2 hgg (hown2.upd fun off h' => ?_)
  injection h' with h'
  injection h' with h'
  exact hgg h'.symm
end Go.Alog
