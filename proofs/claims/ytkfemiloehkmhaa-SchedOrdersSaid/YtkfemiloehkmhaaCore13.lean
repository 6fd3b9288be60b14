/- Ytkfemiloehkmhaa: a text of our own, by an AI agent: Core13 -/
import Derived.Test.YtkfemiloehkmhaaCore12
set_option linter.unusedVariables false
namespace Go.Alog
open Go Go.RowKit

/-- What a call makes beyond the view that was there may be left out. -/
theorem CallsA.down {P : Program} {w0 : World} {f : FuncId} {a : Array Value} {m : AM} {R : Value → AM → Prop} {Q : Value → Prop} (h : CallsA P w0 f a m R) (hq : ∀ r m', R r m' → Q r ∧ m.le m') : CallsA P w0 f a m (fun r m' => Q r ∧ m' = m) :=
  fun w hw => (h w hw).mono fun _ _ ⟨r, m', he, hh, hR⟩ => ⟨r, m, he, hh.mono (hq r m' hR).2, (hq r m' hR).1, rfl⟩
theorem callB {P : Program} {w0 : World} {f : FuncId} {a : Array Value} {m : AM} {v : Bool} {K : Bool → AM → Prop} (h : CallsA P w0 f a m (fun r m' => r = .bool v ∧ m' = m)) (k : K v m) : CallsA P w0 f a m (fun r m' => ∃ t : Bool, r = .bool t ∧ K t m') :=
  CallsA.mono h (by rintro r m' ⟨rfl, rfl⟩; exact ⟨v, rfl, k⟩)
theorem callI {P : Program} {w0 : World} {f : FuncId} {a : Array Value} {m : AM} {v : Int} {K : Int → AM → Prop} (h : CallsA P w0 f a m (fun r m' => r = .int .i64 v ∧ m' = m)) (k : K v m) : CallsA P w0 f a m (fun r m' => ∃ t : Int, r = .int .i64 t ∧ K t m') :=
  CallsA.mono h (by rintro r m' ⟨rfl, rfl⟩; exact ⟨v, rfl, k⟩)
/-- The five loads of an instruction. -/
theorem ldIns {m : AM} {b : Nat} {i : Ins} {T : TypeId} (p : m b = some (.cells i.cells.toArray T)) {K : Int → Int → Int → Int → Int → Prop} (h : K i.op i.a i.b i.c i.imm) :
    ∃ a : Int, m.cell ⟨b, 0, none⟩ = some (.int .i64 a) ∧ ∃ a1 : Int, m.cell ⟨b, 1, none⟩ = some (.int .i64 a1) ∧ ∃ a2 : Int, m.cell ⟨b, 2, none⟩ = some (.int .i64 a2) ∧ ∃ a3 : Int, m.cell ⟨b, 3, none⟩ = some (.int .i64 a3) ∧ ∃ a4 : Int, m.cell ⟨b, 4, none⟩ = some (.int .i64 a4) ∧ K a a1 a2 a3 a4 :=
  ⟨_, cel p rfl, _, cel p rfl, _, cel p rfl, _, cel p rfl, _, cel p rfl, h⟩
end Go.Alog
