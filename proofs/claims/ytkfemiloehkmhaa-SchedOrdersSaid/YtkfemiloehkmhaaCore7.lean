/- Ytkfemiloehkmhaa: a text of our own, by an AI agent: Core7 -/
import Derived.Test.YtkfemiloehkmhaaCore6
import Derived.ProofKit
import Derived.OpenShut
import Derived.ChangeOld
import Derived.Below
import Derived.SizedLaws
import Derived.Deep.Slices
import Derived.ChangeSame
import Derived.Lib.SmallJoins
import Derived.ChangeSlices
set_option linter.unusedSimpArgs false
set_option linter.unusedVariables false
/-! What an argument of a law reads, as cells of known kinds. -/
namespace Go.Alog
open Go Go.RowKit Go.ChangeShapes Go.WideShapes Go.Deep

/-- A cell of a kind. -/
def FitK : CK → Value → Prop
  | .int k, v => ∃ n : Int, v = .int k n ∧ (Lit.int k n).wf = true
  | .bool, v => ∃ b : Bool, v = .bool b
  | .str, v => ∃ s : ByteArray, v = .string s ∧ s.size ≤ maxLen
  | _, _ => False

def AllFit (cks : List CK) (cs : List Value) : Prop := cs.length = cks.length ∧ ∀ (i : Nat) (c : CK) (v : Value), cks[i]? = some c → cs[i]? = some v → FitK c v

def plainCK : CK → Bool
  | .int _ | .bool | .str => true
  | _ => false

/-- The fields lie one behind the other. -/
def fieldsAt (P : Program) (d : Nat) : List Field → Nat → Bool
  | [], _ => true
  | f :: r, off => Nat.beq f.offset off && Nat.beq (P.cellsOf f.type) (flat P d f.type).length && fieldsAt P d r (off + (flat P d f.type).length)

def layOk (P : Program) : Nat → TypeId → Bool
  | 0, _ => false
  | d + 1, t => match P.underlying t with
    | some (.struct fs) => fieldsAt P d fs.toList 0 && (fs.toList.all fun f => layOk P d f.type) && Nat.beq (P.cellsOf t) (fs.toList.flatMap fun f => flat P d f.type).length
    | some (.int _) | some .bool | some .string => true
    | _ => false

theorem AllFit.app {a b : List CK} {x y : List Value} (h : AllFit a x) (h' : AllFit b y) : AllFit (a ++ b) (x ++ y) := by
  refine ⟨by simp [h.1, h'.1], fun i c v hc hv => ?_⟩
  by_cases hi : i < a.length
  · rw [List.getElem?_append_left hi] at hc
    rw [List.getElem?_append_left (by rw [h.1]; exact hi)] at hv
    exact h.2 i c v hc hv
  · rw [List.getElem?_append_right (by omega)] at hc
    rw [List.getElem?_append_right (by rw [h.1]; omega), h.1] at hv
    exact h'.2 _ c v hc hv

section
variable {H : Type} {enc : TypeId × Value → H} {P : Program} {w : World} {base : Nat} {spare : Nat → Bool} {held : Bool}

theorem trod_fit : ∀ (d : Nat) {t : TypeId} {fuel : Nat} {cs : List Value} {x : DataW H × List MemPlace}, layOk P d t = true → DataW.trod enc P w base spare held fuel t cs = some x → AllFit (flat P d t) cs
  | 0, _, _, _, _, h, _ => by cases h
  | d + 1, t, fuel, cs, x, hl, h => by
    unfold layOk at hl
    unfold flat
    cases hu : P.underlying t with
    | none => rw [hu] at hl; cases hl
    | some ds =>
      rw [hu] at hl
      cases ds with
      | bool =>
        cases fuel with
        | zero => cases h
        | succ fuel =>
          unfold DataW.trod at h
          rw [hu] at h
          match cs, h with
          | [.bool b], h => exact ⟨rfl, fun i c v hc hv => by
              cases i with
              | zero => simp at hc hv; subst hc; subst hv; exact ⟨b, rfl⟩
              | succ i => simp at hc⟩
          | [], h => simp at h
          | [.int ..], h => simp at h
          | [.float ..], h => simp at h
          | [.complex ..], h => simp at h
          | [.string ..], h => simp at h
          | [.pointer ..], h => simp at h
          | [.slice ..], h => simp at h
          | [.map ..], h => simp at h
          | [.chan ..], h => simp at h
          | [.func ..], h => simp at h
          | [.nilFunc], h => simp at h
          | [.iface ..], h => simp at h
          | [.nilIface], h => simp at h
          | [.agg ..], h => simp at h
          | [.tuple ..], h => simp at h
          | _ :: _ :: _, h => simp at h
      | int k =>
        cases fuel with
        | zero => cases h
        | succ fuel =>
          unfold DataW.trod at h
          rw [hu] at h
          match cs, h with
          | [.int k' n], h =>
            simp only at h
            split at h
            · rename_i hk
              obtain ⟨rfl, hw⟩ := hk
              exact ⟨rfl, fun i c v hc hv => by
                cases i with
                | zero => simp [ckOf] at hc hv; subst hc; subst hv; exact ⟨n, rfl, hw⟩
                | succ i => simp at hc⟩
            · cases h
          | [], h => simp at h
          | [.bool ..], h => simp at h
          | [.float ..], h => simp at h
          | [.complex ..], h => simp at h
          | [.string ..], h => simp at h
          | [.pointer ..], h => simp at h
          | [.slice ..], h => simp at h
          | [.map ..], h => simp at h
          | [.chan ..], h => simp at h
          | [.func ..], h => simp at h
          | [.nilFunc], h => simp at h
          | [.iface ..], h => simp at h
          | [.nilIface], h => simp at h
          | [.agg ..], h => simp at h
          | [.tuple ..], h => simp at h
          | _ :: _ :: _, h => simp at h
      | string =>
        cases fuel with
        | zero => cases h
        | succ fuel =>
          unfold DataW.trod at h
          rw [hu] at h
          match cs, h with
          | [.string s], h =>
            simp only at h
            split at h
            · rename_i hk
              exact ⟨rfl, fun i c v hc hv => by
                cases i with
                | zero => simp [ckOf] at hc hv; subst hc; subst hv; exact ⟨s, rfl, hk⟩
                | succ i => simp at hc⟩
            · cases h
          | [], h => simp at h
          | [.bool ..], h => simp at h
          | [.float ..], h => simp at h
          | [.complex ..], h => simp at h
          | [.int ..], h => simp at h
          | [.pointer ..], h => simp at h
          | [.slice ..], h => simp at h
          | [.map ..], h => simp at h
          | [.chan ..], h => simp at h
          | [.func ..], h => simp at h
          | [.nilFunc], h => simp at h
          | [.iface ..], h => simp at h
          | [.nilIface], h => simp at h
          | [.agg ..], h => simp at h
          | [.tuple ..], h => simp at h
          | _ :: _ :: _, h => simp at h
      | struct fs =>
        simp only [Bool.and_eq_true] at hl
        obtain ⟨xs, n, _, _, hlen, _, hf⟩ := DataW.trod_struct hu h
        have key : ∀ (l : List Field) (off : Nat), fieldsAt P d l off = true → (∀ f ∈ l, layOk P d f.type = true) → (∀ f ∈ l, ∃ y, DataW.trod enc P w base spare held n f.type ((cs.drop f.offset).take (P.cellsOf f.type)) = some y) →
            off + (l.flatMap fun f => flat P d f.type).length ≤ cs.length ∧ AllFit (l.flatMap fun f => flat P d f.type) ((cs.drop off).take (l.flatMap fun f => flat P d f.type).length) ∨ cs.length < off := by
          intro l
          induction l with
          | nil =>
            intro off _ _ _
            rcases Nat.lt_or_ge cs.length off with h1 | h1
            · exact .inr h1
            · exact .inl ⟨by simpa using h1, ⟨by simp, fun i c v hc => by simp at hc⟩⟩
          | cons f l ih =>
            intro off hat hlay htr
            unfold fieldsAt at hat
            simp only [Bool.and_eq_true] at hat
            obtain ⟨⟨h1, h2⟩, h3⟩ := hat
            have h1 := Nat.eq_of_beq_eq_true h1
            have h2 := Nat.eq_of_beq_eq_true h2
            obtain ⟨y, hy⟩ := htr f (by simp)
            have hfit := trod_fit d (hlay f (by simp)) hy
            rw [h1, h2] at hfit
            rcases Nat.lt_or_ge cs.length off with hlt | hge
            · exact .inr hlt
            · left
              have hl1 : ((cs.drop off).take (flat P d f.type).length).length = (flat P d f.type).length := hfit.1
              simp only [List.length_take, List.length_drop] at hl1
              have ho : off + (flat P d f.type).length ≤ cs.length := by omega
              rcases ih (off + (flat P d f.type).length) h3 (fun g hg => hlay g (by simp [hg])) (fun g hg => htr g (by simp [hg])) with ⟨h4, h5⟩ | h4
              · simp only [List.flatMap_cons, List.length_append]
                refine ⟨by omega, ?_⟩
                have e : (cs.drop off).take ((flat P d f.type).length + (l.flatMap fun f => flat P d f.type).length) = (cs.drop off).take (flat P d f.type).length ++ ((cs.drop (off + (flat P d f.type).length)).take (l.flatMap fun f => flat P d f.type).length) := by
                  rw [List.take_add, List.drop_drop]
                rw [e]
                exact hfit.app h5
              · omega
        have htr : ∀ f ∈ fs.toList, ∃ y, DataW.trod enc P w base spare held n f.type ((cs.drop f.offset).take (P.cellsOf f.type)) = some y := by
          intro f hfm
          obtain ⟨i, hi, hfi⟩ := List.mem_iff_getElem.1 hfm
          have hi' : i < fs.size := by simpa using hi
          have hfs : fs[i]? = some f := by
            rw [Array.getElem?_eq_getElem hi']
            have : fs.toList[i] = fs[i] := by simp
            rw [← this, hfi]
          have := hf i f hfs
          rename_i hxl _
          have hxi : i < xs.length := by omega
          exact ⟨xs[i], by rw [this]; simp [hxi]⟩
        rcases key fs.toList 0 hl.1.1 (fun f hfm => List.all_eq_true.1 hl.1.2 f hfm) htr with ⟨h1, h2⟩ | h1
        · simp only [List.drop_zero, Nat.zero_add] at h1 h2
          refine ⟨?_, fun i c v hc hv => ?_⟩
          · rw [hlen]; exact Nat.eq_of_beq_eq_true hl.2
          · have hi : i < (fs.toList.flatMap fun f => flat P d f.type).length := (List.getElem?_eq_some_iff.1 hc).1
            exact h2.2 i c v hc (by rw [List.getElem?_take, if_pos hi]; exact hv)
        · omega
      | _ => cases hl

theorem Trod_fit {d : Nat} {t : TypeId} {cs : Array Value} {dd : DataW H} {ps : List MemPlace} (hl : layOk P d t = true) (h : DataW.Trod enc P w base spare held t (.agg cs) dd ps) : AllFit (flat P d t) cs.toList := by
  obtain ⟨fuel, hf⟩ := h
  exact trod_fit d hl hf

theorem open_rows {d : Nat} {t e : TypeId} {a : Option Addr} {len cap : Nat} {dd : DataW H} {ps : List MemPlace} (hu : P.underlying t = some (.slice e)) (hl : layOk P d e = true) (hc : P.cellsOf e = (flat P d e).length)
    (h : DataW.Trod enc P w base spare held t (.slice a len cap) dd ps) :
    ∃ rows : List (List Value), rows.length = len ∧ (∀ r ∈ rows, AllFit (flat P d e) r) ∧ len ≤ cap ∧ cap ≤ maxLen ∧
      ((a = none ∧ len = 0 ∧ cap = 0 ∧ dd = .nil) ∨ ∃ ad elems rest, a = some ad ∧ dd = .slice elems rest ∧ elems.length = len ∧ base ≤ ad.block ∧ (∀ j u, rows.flatten[j]? = some u → w.cell? (ad.add j) = some u)) := by
  obtain ⟨fuel, hf⟩ := h
  rcases open_slice hu hf with ⟨h1, h2⟩ | ⟨x, l, c, m, n, D, Pl, hcs, hb, hlc, hcm, hm, hx, hel⟩
  · simp [Value.cells] at h1
    obtain ⟨rfl, rfl, rfl⟩ := h1
    have := (Prod.mk.inj h2).1
    exact ⟨[], rfl, by simp, Nat.le_refl _, by simp [maxLen], .inl ⟨rfl, rfl, rfl, this⟩⟩
  · simp [Value.cells] at hcs
    obtain ⟨rfl, rfl, rfl⟩ := hcs
    have hml : len ≤ m := by rw [hm]; split <;> omega
    have hrow : ∀ i, i < len → ∃ cs', AllFit (flat P d e) cs' ∧ ∀ j, j < (flat P d e).length → w.cell? (x.add (i * (flat P d e).length + j)) = cs'[j]? := by
      intro i hi
      obtain ⟨cs', h1, h2⟩ := hel i (by omega)
      obtain ⟨_, h3, h4⟩ := World.cells?_some h1
      refine ⟨cs', trod_fit d hl h2, fun j hj => ?_⟩
      have := h4 j (by omega)
      rw [hc, Alog.add_add] at this
      exact this
    have hrows : ∀ k, k ≤ len → ∃ rows : List (List Value), rows.length = k ∧ (∀ r ∈ rows, AllFit (flat P d e) r) ∧ rows.flatten.length = k * (flat P d e).length ∧ ∀ j u, rows.flatten[j]? = some u → w.cell? (x.add j) = some u := by
      intro k
      induction k with
      | zero => intro _; exact ⟨[], rfl, by simp, by simp, fun j u hj => by simp at hj⟩
      | succ k ih =>
        intro hk
        obtain ⟨rows, h1, h2, h3, h4⟩ := ih (by omega)
        obtain ⟨cs', h5, h6⟩ := hrow k (by omega)
        refine ⟨rows ++ [cs'], by simp [h1], ?_, ?_, ?_⟩
        · intro r hr
          rcases List.mem_append.1 hr with hr | hr
          · exact h2 r hr
          · have : r = cs' := by simpa using hr
            subst this; exact h5
        · rw [List.flatten_append, List.length_append, h3]; simp [h5.1, Nat.succ_mul]
        · intro j u hj
          rw [List.flatten_append] at hj
          by_cases hlt : j < rows.flatten.length
          · rw [List.getElem?_append_left hlt] at hj; exact h4 j u hj
          · rw [List.getElem?_append_right (by omega)] at hj
            simp only [List.flatten_cons, List.flatten_nil, List.append_nil] at hj
            have hj2 : j - rows.flatten.length < (flat P d e).length := by
              have := (List.getElem?_eq_some_iff.1 hj).1
              rw [h5.1] at this; exact this
            have := h6 _ hj2
            rw [hj, h3, show k * (flat P d e).length + (j - k * (flat P d e).length) = j by omega] at this
            exact this
    obtain ⟨rows, h1, h2, _, h4⟩ := hrows len (Nat.le_refl _)
    exact ⟨rows, h1, h2, hlc, hcm, .inr ⟨x, _, _, rfl, (Prod.mk.inj hx).1, by simp, hb, h4⟩⟩

/-- A law's call, over the view in which all that was there is known: it returns true, and nothing that was there has turned. -/
theorem law_walk {P : Program} {n : FuncId} {args : Array Value} {W : World} (h : CallsA P W n args (fun b => W.heap[b]?) (fun r _ => r = .bool true)) : Calls P n args W fun e W' => e = .returned (.bool true) ∧ Below W.heap.size W W' := by
  refine (h W ⟨Below.refl _ _, fun b o hb => hb⟩).mono fun e W' ⟨r, m', he, hh, hr⟩ => ⟨by rw [he, hr], hh.below⟩

theorem cell_heap {W : World} {a : Addr} {v : Value} (h : W.cell? a = some v) : AM.cell (fun b => W.heap[b]?) a = some v := h
end
end Go.Alog
