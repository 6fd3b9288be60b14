/- Ytadcbnldahcelaa: a text of our own, by an AI agent: L7bC -/
import Derived.Test.YtadcbnldahcelaaL7C
set_option linter.unusedSimpArgs false
set_option linter.unusedVariables false
set_option maxRecDepth 100000
namespace Go.Proofs.Ytadcbnldahcelaa.S
open Go Go.RowKit Go.Alog Go.Proofs.Ytadcbnldahcelaa.T Go.Proofs.Ytadcbnldahcelaa.V

/-- A result is kept in a block of its own. -/
theorem save_res {w0 : World} {m : AM} {v : Value} {r : Res} (h : RRes m w0.heap.size v r) (T : TypeId) (K : Nat → AM → Prop)
    (hK : ∀ b m' Ao co Am cm, m.le m' → m b = none → m' b = some (.cells #[.int .i64 r.trap, .int .i64 r.steps, .slice Ao r.out.length co, .slice Am r.mem.length cm] T) → Own m' w0.heap.size 3 1 Ao r.out.length co (intCells .i64 r.out) → Own m' w0.heap.size 3 1 Am r.mem.length cm (intCells .i64 r.mem) → K b m') :
    ∃ i10 : Int, ∃ i11 : Int, ∃ (A12 : Option Addr) (n13 c14 : Nat), ∃ (A15 : Option Addr) (n16 c17 : Nat), v = .agg #[.int .i64 i10, .int .i64 i11, .slice A12 n13 c14, .slice A15 n16 c17] ∧ ∀ b20 : Nat, w0.heap.size ≤ b20 → m b20 = none → let m21 := AM.upd m b20 (.cells #[.int .i64 0, .int .i64 0, .slice none 0 0, .slice none 0 0] T);
      StC w0.heap.size m21 ⟨b20, 0, none⟩ (.int .i64 i10) fun m22 => StC w0.heap.size m22 ⟨b20, 1, none⟩ (.int .i64 i11) fun m23 => StC w0.heap.size m23 ⟨b20, 2, none⟩ (.slice A12 n13 c14) fun m24 => StC w0.heap.size m24 ⟨b20, 3, none⟩ (.slice A15 n16 c17) fun m25 => K b20 m25 := by
  obtain ⟨Ao, co, Am, cm, rfl, ho, hm⟩ := h
  refine ⟨_, _, _, _, _, _, _, _, rfl, ?_⟩
  intro b hb hmb
  have l := le_new hmb (.cells #[.int .i64 r.trap, .int .i64 r.steps, .slice Ao r.out.length co, .slice Am r.mem.length cm] T)
  simp only [cell_upd_same, cell_upd_ne, ne_eq, not_false_eq_true, List.getElem?_toArray, List.getElem?_cons_zero, List.getElem?_cons_succ, Option.some.injEq, Value.int.injEq, Value.slice.injEq, Value.bool.injEq, Value.pointer.injEq, Value.tuple.injEq, Array.mk.injEq, List.cons.injEq, true_and, and_true, exists_eq_left', exists_eq', exists_eq, exists_and_left, exists_and_right, and_assoc, bcase_t, bcase_f, cond_true, cond_false, StC_upd, nilO_some, List.setIfInBounds_toArray, List.set_cons_zero, List.set_cons_succ, List.size_toArray, List.length_cons, List.length_nil, Nat.reduceAdd, Nat.reduceLT, hb]
  exact hK b _ Ao co Am cm l hmb upd_get_same (ho.le l) (hm.le l)

/-- A run of code that lies in a row. -/
theorem run_of (w0 : World) (m : AM) (Ac : Option Addr) (nc cc : Nat) (code : List Ins) (mem : Int) (Ai : Option Addr) (ni ci : Nat) (inp : List Int) (fuel : Int) (h1 : code.length = nc) (h2 : inp.length = ni) (hf : InI fuel) (hc : Reads m 5 Ac nc (insCells code)) (hi : Reads m 1 Ai ni (intCells .i64 inp)) (hin : ni ≤ 1000000) :
    CallsA Try.prog w0 23 #[.slice Ac nc cc, .int .i64 mem, .slice Ai ni ci, .int .i64 fuel] m (fun r m' => m.le m' ∧ RRes m' w0.heap.size r (runP code mem inp fuel)) := by
  subst h1; subst h2
  exact run_spec w0 m Ac cc code mem Ai ci inp fuel hf hc hi hin

theorem runP_fuel0 (code : List Ins) (inp : List Int) (fuel : Int) (h : fuel ≤ 0) (hl : code.length ≤ 4096) : runP code 5 inp fuel = ⟨0, 0, [], []⟩ := by
  unfold runP
  rw [if_neg (by omega)]
  have : fuel.toNat = 0 := by omega
  rw [this]
  rfl
theorem runP_bad (code : List Ins) (mem : Int) (inp : List Int) (fuel : Int) (h : code.length > 4096 ∨ mem < 0 ∨ mem > 32000) : runP code mem inp fuel = ⟨0, 0, [], []⟩ := if_pos h

theorem zeros_ins (n : Nat) : zeros [Value.int .i64 0, .int .i64 0, .int .i64 0, .int .i64 0, .int .i64 0] n = insCells (List.replicate n ⟨0, 0, 0, 0, 0⟩) := by
  unfold zeros insCells
  induction n with
  | zero => rfl
  | succ n ih => simp only [List.replicate_succ, List.flatten_cons, List.flatMap_cons] at ih ⊢; rw [ih]; rfl
end Go.Proofs.Ytadcbnldahcelaa.S
