/- Ytijilloaggeepaa: a text of our own, by an AI agent: VR1E -/
import Derived.Test.YtijilloaggeepaaCore5
import Derived.Test.YtijilloaggeepaaTabE
namespace Go.Proofs.Ytijilloaggeepaa.V
open Go Go.Alog Go.Proofs.Ytijilloaggeepaa.T
set_option linter.unusedVariables false
set_option maxRecDepth 100000

/-! 26 delayslot/delayslotref01.Wrap -/
def qs26 : Nat → List (Nat × Nat) := fun i => match i with | _ => []
noncomputable def c26 : Code := bodyOf Try.f26
theorem cf26 (w0 : World) (m : AM) (x0 : Int) (R : Value → AM → Prop) (h :
 IntKind.i64 = IntKind.i64 ∧ (4294967296 : Int) ≠ 0 ∧ IntKind.i64 = IntKind.i64 ∧ (bcase (decide (((Int.tmod x0 4294967296) : Int) < 0)) (
 IntKind.i64 = IntKind.i64 ∧ IntKind.i64 = IntKind.i64 ∧ (bcase (decide (((IntKind.wrap .i64 ((Int.tmod x0 4294967296) + 4294967296)) : Int) > 2147483647)) (
 IntKind.i64 = IntKind.i64 ∧ RetP R (.int .i64 (IntKind.wrap .i64 ((IntKind.wrap .i64 ((Int.tmod x0 4294967296) + 4294967296)) - 4294967296))) m) (
 RetP R (.int .i64 (IntKind.wrap .i64 ((Int.tmod x0 4294967296) + 4294967296))) m))) (
 IntKind.i64 = IntKind.i64 ∧ (bcase (decide (((Int.tmod x0 4294967296) : Int) > 2147483647)) (
 IntKind.i64 = IntKind.i64 ∧ RetP R (.int .i64 (IntKind.wrap .i64 ((Int.tmod x0 4294967296) - 4294967296))) m) (
 RetP R (.int .i64 (Int.tmod x0 4294967296)) m))))) : CallsA Try.prog w0 26 #[.int .i64 x0] m R :=
  callsA_of (c := c26) (args := [.int .i64 x0]) (by kernel_rfl) Try.func26 (by kernel_rfl) qs26 (by kernel_rfl) (by kernel_rfl) (cast (by kernel_rfl) h)

/-! 44 delayslot/delayslotref01.Extend -/
def qs44 : Nat → List (Nat × Nat) := fun i => match i with | _ => []
noncomputable def c44 : Code := bodyOf Try.f44
theorem cf44 (w0 : World) (m : AM) (x0 : Int) (x1 : Int) (R : Value → AM → Prop) (h :
 IntKind.i64 = IntKind.i64 ∧ (bcase (decide ((x1 : Int) < 1)) (
 (decide ((x1 : Int) < 1)) = true ∧ RetP R (.int .i64 0) m) (
 IntKind.i64 = IntKind.i64 ∧ (bcase (bif decide ((x1 : Int) < 1) then true else decide ((x1 : Int) > 32)) (
 RetP R (.int .i64 0) m) (
 vcS Try.prog w0 qs44 (sub c44 [1, 1, 1, 0, 1, 0]) (upd (upd (upd (upd (upd (upd (upd (upd (upd (argS [.int .i64 x0, .int .i64 x1]) 4 (.int .i64 0)) 7 (.int .i64 x1)) 8 (.bool (decide ((x1 : Int) < 1)))) 9 (.bool (decide ((x1 : Int) < 1)))) 10 (.int .i64 x1)) 11 (.bool (decide ((x1 : Int) > 32)))) 12 (.bool (bif decide ((x1 : Int) < 1) then true else decide ((x1 : Int) > 32)))) 5 (.int .i64 1)) 6 (.int .i64 0)) m (blockS 0 (thenS (fun σ m => vcS Try.prog w0 qs44 (sub c44 [1, 1, 1, 1]) σ m (retQ Try.prog Try.f44 R)) (retQ Try.prog Try.f44 R)))))))) : CallsA Try.prog w0 44 #[.int .i64 x0, .int .i64 x1] m R :=
  callsA_of (c := c44) (args := [.int .i64 x0, .int .i64 x1]) (by kernel_rfl) Try.func44 (by kernel_rfl) qs44 (by kernel_rfl) (by kernel_rfl) (cast (by kernel_rfl) h)
def lq44_111010 (R : Value → AM → Prop) (x0 : Int) (x1 : Int) (I0 : Nat → Int → Int → AM → Prop) (E0_0 : Int → AM → Prop) (n0 : Nat) : Exit → Sg → AM → Prop
  | .normal, σ, m => σ 0 = .int .i64 x0 ∧ σ 1 = .int .i64 x1 ∧ okI .i64 (σ 5) = true ∧ okI .i64 (σ 6) = true ∧ ∃ n' : Nat, n' < n0 ∧ I0 n' (vI (σ 5)) (vI (σ 6)) m
  | .exit id, σ, m => if id = 0 then σ 0 = .int .i64 x0 ∧ σ 1 = .int .i64 x1 ∧ okI .i64 (σ 5) = true ∧ E0_0 (vI (σ 5)) m else False
  | .ret, σ, m => retQ Try.prog Try.f44 R .ret σ m
  | _, _, _ => False
theorem vl44_111010 (w0 : World) (m : AM) (σ : Sg) (R : Value → AM → Prop)  (x0 : Int) (x1 : Int) (x5 : Int) (x6 : Int) (I0 : Nat → Int → Int → AM → Prop) (E0_0 : Int → AM → Prop) (N : Nat) (h0 : σ 0 = .int .i64 x0) (h1 : σ 1 = .int .i64 x1) (h5 : σ 5 = .int .i64 x5) (h6 : σ 6 = .int .i64 x6)
 (h_0 : I0 N x5 x6 m)
 (h_s : ∀ (n0 : Nat) (σ : Sg) (x5 : Int) (x6 : Int) (m : AM), I0 n0 x5 x6 m → (
 IntKind.i64 = IntKind.i64 ∧ (bcase (decide ((x6 : Int) < x1)) (
 IntKind.i64 = IntKind.i64 ∧ IntKind.i64 = IntKind.i64 ∧ (.int .i64 x0 : Value) = .int .i64 x0 ∧ (.int .i64 x1 : Value) = .int .i64 x1 ∧ true = true ∧ true = true ∧ ∃ n' : Nat, n' < n0 ∧ I0 n' (IntKind.wrap .i64 (x5 * 2)) (IntKind.wrap .i64 (x6 + 1)) m) (
 (.int .i64 x0 : Value) = .int .i64 x0 ∧ (.int .i64 x1 : Value) = .int .i64 x1 ∧ true = true ∧ E0_0 x5 m))))
 (h_e0 : ∀ (σ : Sg) (x5 : Int) (m : AM), E0_0 x5 m → (
 IntKind.i64 = IntKind.i64 ∧ (x5 : Int) ≠ 0 ∧ IntKind.i64 = IntKind.i64 ∧ (bcase (decide (((Int.tmod x0 x5) : Int) < 0)) (
 IntKind.i64 = IntKind.i64 ∧ IntKind.i64 = IntKind.i64 ∧ (2 : Int) ≠ 0 ∧ IntKind.i64 = IntKind.i64 ∧ (bcase (decide (((IntKind.wrap .i64 ((Int.tmod x0 x5) + x5)) : Int) ≥ (IntKind.wrap .i64 (Int.tdiv x5 2)))) (
 IntKind.i64 = IntKind.i64 ∧ RetP R (.int .i64 (IntKind.wrap .i64 ((IntKind.wrap .i64 ((Int.tmod x0 x5) + x5)) - x5))) m) (
 RetP R (.int .i64 (IntKind.wrap .i64 ((Int.tmod x0 x5) + x5))) m))) (
 IntKind.i64 = IntKind.i64 ∧ (2 : Int) ≠ 0 ∧ IntKind.i64 = IntKind.i64 ∧ (bcase (decide (((Int.tmod x0 x5) : Int) ≥ (IntKind.wrap .i64 (Int.tdiv x5 2)))) (
 IntKind.i64 = IntKind.i64 ∧ RetP R (.int .i64 (IntKind.wrap .i64 ((Int.tmod x0 x5) - x5))) m) (
 RetP R (.int .i64 (Int.tmod x0 x5)) m)))))) :
 vcS Try.prog w0 qs44 (sub c44 [1, 1, 1, 0, 1, 0]) σ m (blockS 0 (thenS (fun σ m => vcS Try.prog w0 qs44 (sub c44 [1, 1, 1, 1]) σ m (retQ Try.prog Try.f44 R)) (retQ Try.prog Try.f44 R))) := by
  rw [show sub c44 [1, 1, 1, 0, 1, 0] = .loop (sub c44 [1, 1, 1, 0, 1, 0, 0]) from by kernel_rfl]
  refine loopQ (fun n0 σ m => σ 0 = .int .i64 x0 ∧ σ 1 = .int .i64 x1 ∧ okI .i64 (σ 5) = true ∧ okI .i64 (σ 6) = true ∧ I0 n0 (vI (σ 5)) (vI (σ 6)) m) N (fun n0 => (lq44_111010 R x0 x1 I0 E0_0 n0)) ⟨h0, h1, (by rw [h5]; rfl), (by rw [h6]; rfl), (by rw [h5, h6]; exact h_0)⟩ ?_ ?_ ?_
  · rintro n0 σ m ⟨kk0, kk1, kk2, kk3, n', hlt, hI⟩; exact ⟨n', hlt, kk0, kk1, kk2, kk3, hI⟩
  · intro n0 e σ m hne h
    cases e with
    | normal => exact absurd rfl hne
    | ret => exact h
    | exit id =>
      by_cases e0 : id = 0
      · subst e0
        obtain ⟨kk0, kk1, kk2, hE⟩ := h
        have es : (upd (upd (upd σ 0 (.int .i64 x0)) 1 (.int .i64 x1)) 5 (.int .i64 (vI (σ 5)))) = σ := by rw [upd_id kk0, upd_id kk1, upd_id (ok_int kk2)]
        exact cast (congrArg (fun s => (blockS 0 (thenS (fun σ m => vcS Try.prog w0 qs44 (sub c44 [1, 1, 1, 1]) σ m (retQ Try.prog Try.f44 R)) (retQ Try.prog Try.f44 R))) (.exit 0) s m) es) (cast (by kernel_rfl) (h_e0 σ (vI (σ 5)) m hE))
      · replace h := (if_neg e0 : (if id = 0 then _ else _) = _).mp h
        exact False.elim h
    | _ => exact False.elim h
  · rintro n0 σ m ⟨kk0, kk1, kk2, kk3, hI⟩
    have es : (upd (upd (upd (upd σ 0 (.int .i64 x0)) 1 (.int .i64 x1)) 5 (.int .i64 (vI (σ 5)))) 6 (.int .i64 (vI (σ 6)))) = σ := by rw [upd_id kk0, upd_id kk1, upd_id (ok_int kk2), upd_id (ok_int kk3)]
    exact cast (congrArg (fun s => vcS Try.prog w0 qs44 (sub c44 [1, 1, 1, 0, 1, 0, 0]) s m (lq44_111010 R x0 x1 I0 E0_0 n0)) es) (cast (by kernel_rfl) (h_s n0 σ (vI (σ 5)) (vI (σ 6)) m hI))
end Go.Proofs.Ytijilloaggeepaa.V
