/- Ytkfemiloehkmhaa: a text of our own, by an AI agent: VLaw13bH -/
import Derived.Test.YtkfemiloehkmhaaCoreA
import Derived.Test.YtkfemiloehkmhaaTabH
namespace Go.Proofs.Ytkfemiloehkmhaa.V
open Go Go.Alog Go.Proofs.Ytkfemiloehkmhaa.T
set_option linter.unusedVariables false
set_option maxRecDepth 100000

/-! 18 delayslot/delayslotlaw13.ReorgStraight -/
def qs18 : Nat → List (Nat × Nat) := fun i => match i with | _ => []
noncomputable def c18 : Code := bodyOf Try.f18
theorem cf18 (w0 : World) (m : AM) (x0 : Option Addr) (x0n x0c : Nat) (R : Value → AM → Prop) (h :
 IntKind.i64 = IntKind.i64 ∧ (bcase (decide ((((x0n : Nat) : Int) : Int) > 60)) (
 (decide ((((x0n : Nat) : Int) : Int) > 60)) = true ∧ true = true ∧ CallsA Try.prog w0 42 #[] m fun r2 m3 =>
 ∃ t1 : Bool, r2 = .bool t1 ∧ RetP R (.bool t1) m3) (
 IntKind.i64 = IntKind.i64 ∧ (bcase (bif decide ((((x0n : Nat) : Int) : Int) > 60) then true else (((x0n : Nat) : Int) : Int) == 0) (
 (bif decide ((((x0n : Nat) : Int) : Int) > 60) then true else (((x0n : Nat) : Int) : Int) == 0) = true ∧ CallsA Try.prog w0 42 #[] m fun r5 m6 =>
 ∃ t4 : Bool, r5 = .bool t4 ∧ RetP R (.bool t4) m6) (
 CallsA Try.prog w0 24 #[.slice x0 x0n x0c] m fun r8 m9 =>
 ∃ t7 : Bool, r8 = .bool t7 ∧ (bcase (bif bif decide ((((x0n : Nat) : Int) : Int) > 60) then true else (((x0n : Nat) : Int) : Int) == 0 then true else !t7) (
 CallsA Try.prog w0 42 #[] m9 fun r11 m12 =>
 ∃ t10 : Bool, r11 = .bool t10 ∧ RetP R (.bool t10) m12) (
 vcS Try.prog w0 qs18 (sub c18 [1, 1, 0, 1, 0]) (upd (upd (upd (upd (upd (upd (upd (upd (upd (upd (upd (upd (upd (upd (upd (upd (upd (argS [.slice x0 x0n x0c]) 2 (.bool false)) 10 (.slice x0 x0n x0c)) 11 (.int .i64 ((x0n : Nat) : Int))) 12 (.bool (decide ((((x0n : Nat) : Int) : Int) > 60)))) 13 (.bool (decide ((((x0n : Nat) : Int) : Int) > 60)))) 14 (.slice x0 x0n x0c)) 15 (.int .i64 ((x0n : Nat) : Int))) 16 (.bool ((((x0n : Nat) : Int) : Int) == 0))) 17 (.bool (bif decide ((((x0n : Nat) : Int) : Int) > 60) then true else (((x0n : Nat) : Int) : Int) == 0))) 18 (.bool (bif decide ((((x0n : Nat) : Int) : Int) > 60) then true else (((x0n : Nat) : Int) : Int) == 0))) 19 (.slice x0 x0n x0c)) 20 (.bool t7)) 21 (.bool (!t7))) 22 (.bool (bif bif decide ((((x0n : Nat) : Int) : Int) > 60) then true else (((x0n : Nat) : Int) : Int) == 0 then true else !t7))) 24 (.slice x0 x0n x0c)) 25 (.int .i64 ((x0n : Nat) : Int))) 26 (.int .i64 0)) m9 (blockS 0 (thenS (fun σ m => vcS Try.prog w0 qs18 (sub c18 [1, 1, 1]) σ m (retQ Try.prog Try.f18 R)) (retQ Try.prog Try.f18 R)))))))))) : CallsA Try.prog w0 18 #[.slice x0 x0n x0c] m R :=
  callsA_of (c := c18) (args := [.slice x0 x0n x0c]) (by kernel_rfl) Try.func18 (by kernel_rfl) qs18 (by kernel_rfl) (by kernel_rfl) (cast (by kernel_rfl) h)
def lq18_11010 (R : Value → AM → Prop) (x0 : Option Addr) (x0n x0c : Nat) (x24 : Option Addr) (x24n x24c : Nat) (x25 : Int) (I0 : Nat → Int → AM → Prop) (E0_0 : AM → Prop) (n0 : Nat) : Exit → Sg → AM → Prop
  | .normal, σ, m => σ 0 = .slice x0 x0n x0c ∧ σ 24 = .slice x24 x24n x24c ∧ σ 25 = .int .i64 x25 ∧ okI .i64 (σ 26) = true ∧ ∃ n' : Nat, n' < n0 ∧ I0 n' (vI (σ 26)) m
  | .exit id, σ, m => if id = 0 then σ 0 = .slice x0 x0n x0c ∧ σ 24 = .slice x24 x24n x24c ∧ σ 25 = .int .i64 x25 ∧ E0_0  m else False
  | .ret, σ, m => retQ Try.prog Try.f18 R .ret σ m
  | _, _, _ => False
theorem vl18_11010 (w0 : World) (m : AM) (σ : Sg) (R : Value → AM → Prop)  (x0 : Option Addr) (x0n x0c : Nat) (x24 : Option Addr) (x24n x24c : Nat) (x25 : Int) (x26 : Int) (I0 : Nat → Int → AM → Prop) (E0_0 : AM → Prop) (N : Nat) (h0 : σ 0 = .slice x0 x0n x0c) (h24 : σ 24 = .slice x24 x24n x24c) (h25 : σ 25 = .int .i64 x25) (h26 : σ 26 = .int .i64 x26)
 (h_0 : I0 N x26 m)
 (h_s : ∀ (n0 : Nat) (σ : Sg) (x26 : Int) (m : AM), I0 n0 x26 m → (
 IntKind.i64 = IntKind.i64 ∧ (bcase (decide ((x26 : Int) < x25)) (
 ((0 : Int) ≤ x26 ∧ x26 < ((x24n : Nat) : Int)) ∧ nilO x24 fun a13 =>
 ∃ i14 : Int, m.cell (a13.add ((x26 : Int).toNat * 5)) = some (.int .i64 i14) ∧ ∃ i15 : Int, m.cell ((a13.add ((x26 : Int).toNat * 5)).add 1) = some (.int .i64 i15) ∧ ∃ i16 : Int, m.cell ((a13.add ((x26 : Int).toNat * 5)).add 2) = some (.int .i64 i16) ∧ ∃ i17 : Int, m.cell ((a13.add ((x26 : Int).toNat * 5)).add 3) = some (.int .i64 i17) ∧ ∃ i18 : Int, m.cell ((a13.add ((x26 : Int).toNat * 5)).add 4) = some (.int .i64 i18) ∧ 
 ∀ b19 : Nat, w0.heap.size ≤ b19 → m b19 = none → let m20 := AM.upd m b19 (.cells #[.int .i64 0, .int .i64 0, .int .i64 0, .int .i64 0, .int .i64 0] 24);
 StC w0.heap.size m20 ⟨b19, 0, none⟩ (.int .i64 i14) fun m21 =>
 StC w0.heap.size m21 ⟨b19, 1, none⟩ (.int .i64 i15) fun m22 =>
 StC w0.heap.size m22 ⟨b19, 2, none⟩ (.int .i64 i16) fun m23 =>
 StC w0.heap.size m23 ⟨b19, 3, none⟩ (.int .i64 i17) fun m24 =>
 StC w0.heap.size m24 ⟨b19, 4, none⟩ (.int .i64 i18) fun m25 =>
 ∃ i26 : Int, m25.cell ⟨b19, 0, none⟩ = some (.int .i64 i26) ∧ ∃ i27 : Int, m25.cell ⟨b19, 1, none⟩ = some (.int .i64 i27) ∧ ∃ i28 : Int, m25.cell ⟨b19, 2, none⟩ = some (.int .i64 i28) ∧ ∃ i29 : Int, m25.cell ⟨b19, 3, none⟩ = some (.int .i64 i29) ∧ ∃ i30 : Int, m25.cell ⟨b19, 4, none⟩ = some (.int .i64 i30) ∧ 
 CallsA Try.prog w0 30 #[.agg #[.int .i64 i26, .int .i64 i27, .int .i64 i28, .int .i64 i29, .int .i64 i30]] m25 fun r32 m33 =>
 ∃ t31 : Bool, r32 = .bool t31 ∧ (bcase t31 (
 CallsA Try.prog w0 42 #[] m33 fun r35 m36 =>
 ∃ t34 : Bool, r35 = .bool t34 ∧ RetP R (.bool t34) m36) (
 IntKind.i64 = IntKind.i64 ∧ (.slice x0 x0n x0c : Value) = .slice x0 x0n x0c ∧ (.slice x24 x24n x24c : Value) = .slice x24 x24n x24c ∧ (.int .i64 x25 : Value) = .int .i64 x25 ∧ true = true ∧ ∃ n' : Nat, n' < n0 ∧ I0 n' (IntKind.wrap .i64 (x26 + 1)) m33))) (
 (.slice x0 x0n x0c : Value) = .slice x0 x0n x0c ∧ (.slice x24 x24n x24c : Value) = .slice x24 x24n x24c ∧ (.int .i64 x25 : Value) = .int .i64 x25 ∧ E0_0  m))))
 (h_e0 : ∀ (σ : Sg)  (m : AM), E0_0  m → (
 CallsA Try.prog w0 43 #[.slice x0 x0n x0c] m fun r44 m45 =>
 ∃ (A37 : Option Addr) (n38 c39 : Nat), ∃ (A40 : Option Addr) (n41 c42 : Nat), ∃ i43 : Int, r44 = .tuple #[.slice A37 n38 c39, .slice A40 n41 c42, .int .i64 i43] ∧ CallsA Try.prog w0 38 #[.slice x0 x0n x0c] m45 fun r52 m53 =>
 ∃ (A49 : Option Addr) (n50 c51 : Nat), r52 = .slice A49 n50 c51 ∧ CallsA Try.prog w0 36 #[.slice x0 x0n x0c, .slice A49 n50 c51] m53 fun r57 m58 =>
 ∃ (A54 : Option Addr) (n55 c56 : Nat), r57 = .slice A54 n55 c56 ∧ IntKind.i64 = IntKind.i64 ∧ (bcase ((i43 : Int) != 0) (
 ((i43 : Int) != 0) = true ∧ true = true ∧ RetP R (.bool false) m58) (
 IntKind.i64 = IntKind.i64 ∧ (bcase (bif (i43 : Int) != 0 then true else (((n38 : Nat) : Int) : Int) != ((n55 : Nat) : Int)) (
 (bif (i43 : Int) != 0 then true else (((n38 : Nat) : Int) : Int) != ((n55 : Nat) : Int)) = true ∧ RetP R (.bool false) m58) (
 true = true ∧ ∀ b59 : Nat, w0.heap.size ≤ b59 → m58 b59 = none → let m60 := AM.upd m58 b59 (.cells #[.int .i64 0, .int .i64 ((n55 : Nat) : Int)] 3);
 CallsA Try.prog w0 33 #[.slice A40 n41 c42, .slice (some ⟨b59, 0, none⟩) 2 2] m60 fun r62 m63 =>
 ∃ t61 : Bool, r62 = .bool t61 ∧ (bcase (bif bif (i43 : Int) != 0 then true else (((n38 : Nat) : Int) : Int) != ((n55 : Nat) : Int) then true else !t61) (
 RetP R (.bool false) m63) (
 vcS Try.prog w0 qs18 (sub c18 [1, 1, 1, 1, 1, 1, 0, 1, 0]) (upd (upd (upd (upd (upd (upd (upd (upd (upd (upd (upd (upd (upd (upd (upd (upd (upd (upd (upd (upd (upd (upd (upd (upd (upd (upd (upd (upd (upd (upd (upd (upd (upd (upd (upd (upd (upd σ 0 (.slice x0 x0n x0c)) 24 (.slice x24 x24n x24c)) 25 (.int .i64 x25)) 35 (.slice x0 x0n x0c)) 36 (.tuple #[.slice A37 n38 c39, .slice A40 n41 c42, .int .i64 i43])) 34 (.tuple #[.slice A37 n38 c39, .slice A40 n41 c42, .int .i64 i43])) 37 (.slice A37 n38 c39)) 38 (.slice A40 n41 c42)) 39 (.int .i64 i43)) 5 (.slice A37 n38 c39)) 6 (.slice A40 n41 c42)) 7 (.int .i64 i43)) 40 (.slice x0 x0n x0c)) 41 (.slice x0 x0n x0c)) 42 (.slice A49 n50 c51)) 43 (.slice A54 n55 c56)) 8 (.slice A54 n55 c56)) 44 (.int .i64 i43)) 45 (.bool ((i43 : Int) != 0))) 46 (.bool ((i43 : Int) != 0))) 47 (.slice A37 n38 c39)) 48 (.int .i64 ((n38 : Nat) : Int))) 49 (.slice A54 n55 c56)) 50 (.int .i64 ((n55 : Nat) : Int))) 51 (.bool ((((n38 : Nat) : Int) : Int) != ((n55 : Nat) : Int)))) 52 (.bool (bif (i43 : Int) != 0 then true else (((n38 : Nat) : Int) : Int) != ((n55 : Nat) : Int)))) 53 (.bool (bif (i43 : Int) != 0 then true else (((n38 : Nat) : Int) : Int) != ((n55 : Nat) : Int)))) 54 (.slice A40 n41 c42)) 55 (.slice A54 n55 c56)) 56 (.int .i64 ((n55 : Nat) : Int))) 57 (.slice (some ⟨b59, 0, none⟩) 2 2)) 58 (.bool t61)) 59 (.bool (!t61))) 60 (.bool (bif bif (i43 : Int) != 0 then true else (((n38 : Nat) : Int) : Int) != ((n55 : Nat) : Int) then true else !t61))) 61 (.slice A37 n38 c39)) 62 (.int .i64 ((n38 : Nat) : Int))) 63 (.int .i64 0)) m63 (blockS 2 (thenS (fun σ m => vcS Try.prog w0 qs18 (sub c18 [1, 1, 1, 1, 1, 1, 1]) σ m (retQ Try.prog Try.f18 R)) (retQ Try.prog Try.f18 R))))))))))) :
 vcS Try.prog w0 qs18 (sub c18 [1, 1, 0, 1, 0]) σ m (blockS 0 (thenS (fun σ m => vcS Try.prog w0 qs18 (sub c18 [1, 1, 1]) σ m (retQ Try.prog Try.f18 R)) (retQ Try.prog Try.f18 R))) := by
  rw [show sub c18 [1, 1, 0, 1, 0] = .loop (sub c18 [1, 1, 0, 1, 0, 0]) from by kernel_rfl]
  refine loopQ (fun n0 σ m => σ 0 = .slice x0 x0n x0c ∧ σ 24 = .slice x24 x24n x24c ∧ σ 25 = .int .i64 x25 ∧ okI .i64 (σ 26) = true ∧ I0 n0 (vI (σ 26)) m) N (fun n0 => (lq18_11010 R x0 x0n x0c x24 x24n x24c x25 I0 E0_0 n0)) ⟨h0, h24, h25, (by rw [h26]; rfl), (by rw [h26]; exact h_0)⟩ ?_ ?_ ?_
  · rintro n0 σ m ⟨kk0, kk1, kk2, kk3, n', hlt, hI⟩; exact ⟨n', hlt, kk0, kk1, kk2, kk3, hI⟩
  · intro n0 e σ m hne h
    cases e with
    | normal => exact absurd rfl hne
    | ret => exact h
    | exit id =>
      by_cases e0 : id = 0
      · subst e0
        obtain ⟨kk0, kk1, kk2, hE⟩ := h
        have es : (upd (upd (upd σ 0 (.slice x0 x0n x0c)) 24 (.slice x24 x24n x24c)) 25 (.int .i64 x25)) = σ := by rw [upd_id kk0, upd_id kk1, upd_id kk2]
        exact cast (congrArg (fun s => (blockS 0 (thenS (fun σ m => vcS Try.prog w0 qs18 (sub c18 [1, 1, 1]) σ m (retQ Try.prog Try.f18 R)) (retQ Try.prog Try.f18 R))) (.exit 0) s m) es) (cast (by kernel_rfl) (h_e0 σ  m hE))
      · replace h := (if_neg e0 : (if id = 0 then _ else _) = _).mp h
        exact False.elim h
    | _ => exact False.elim h
  · rintro n0 σ m ⟨kk0, kk1, kk2, kk3, hI⟩
    have es : (upd (upd (upd (upd σ 0 (.slice x0 x0n x0c)) 24 (.slice x24 x24n x24c)) 25 (.int .i64 x25)) 26 (.int .i64 (vI (σ 26)))) = σ := by rw [upd_id kk0, upd_id kk1, upd_id kk2, upd_id (ok_int kk3)]
    exact cast (congrArg (fun s => vcS Try.prog w0 qs18 (sub c18 [1, 1, 0, 1, 0, 0]) s m (lq18_11010 R x0 x0n x0c x24 x24n x24c x25 I0 E0_0 n0)) es) (cast (by kernel_rfl) (h_s n0 σ (vI (σ 26)) m hI))
def lq18_111111010 (R : Value → AM → Prop) (x5 : Option Addr) (x5n x5c : Nat) (x8 : Option Addr) (x8n x8c : Nat) (x62 : Int) (I0 : Nat → Int → AM → Prop) (E0_2 : AM → Prop) (n0 : Nat) : Exit → Sg → AM → Prop
  | .normal, σ, m => σ 5 = .slice x5 x5n x5c ∧ σ 8 = .slice x8 x8n x8c ∧ σ 62 = .int .i64 x62 ∧ okI .i64 (σ 63) = true ∧ ∃ n' : Nat, n' < n0 ∧ I0 n' (vI (σ 63)) m
  | .exit id, σ, m => if id = 2 then σ 5 = .slice x5 x5n x5c ∧ σ 8 = .slice x8 x8n x8c ∧ σ 62 = .int .i64 x62 ∧ E0_2  m else False
  | .ret, σ, m => retQ Try.prog Try.f18 R .ret σ m
  | _, _, _ => False
theorem vl18_111111010 (w0 : World) (m : AM) (σ : Sg) (R : Value → AM → Prop)  (x5 : Option Addr) (x5n x5c : Nat) (x8 : Option Addr) (x8n x8c : Nat) (x62 : Int) (x63 : Int) (I0 : Nat → Int → AM → Prop) (E0_2 : AM → Prop) (N : Nat) (h5 : σ 5 = .slice x5 x5n x5c) (h8 : σ 8 = .slice x8 x8n x8c) (h62 : σ 62 = .int .i64 x62) (h63 : σ 63 = .int .i64 x63)
 (h_0 : I0 N x63 m)
 (h_s : ∀ (n0 : Nat) (σ : Sg) (x63 : Int) (m : AM), I0 n0 x63 m → (
 IntKind.i64 = IntKind.i64 ∧ (bcase (decide ((x63 : Int) < x62)) (
 ((0 : Int) ≤ x63 ∧ x63 < ((x5n : Nat) : Int)) ∧ nilO x5 fun a64 =>
 ∃ i65 : Int, m.cell (a64.add ((x63 : Int).toNat * 5)) = some (.int .i64 i65) ∧ ∃ i66 : Int, m.cell ((a64.add ((x63 : Int).toNat * 5)).add 1) = some (.int .i64 i66) ∧ ∃ i67 : Int, m.cell ((a64.add ((x63 : Int).toNat * 5)).add 2) = some (.int .i64 i67) ∧ ∃ i68 : Int, m.cell ((a64.add ((x63 : Int).toNat * 5)).add 3) = some (.int .i64 i68) ∧ ∃ i69 : Int, m.cell ((a64.add ((x63 : Int).toNat * 5)).add 4) = some (.int .i64 i69) ∧ 
 ((0 : Int) ≤ x63 ∧ x63 < ((x8n : Nat) : Int)) ∧ nilO x8 fun a70 =>
 ∃ i71 : Int, m.cell (a70.add ((x63 : Int).toNat * 5)) = some (.int .i64 i71) ∧ ∃ i72 : Int, m.cell ((a70.add ((x63 : Int).toNat * 5)).add 1) = some (.int .i64 i72) ∧ ∃ i73 : Int, m.cell ((a70.add ((x63 : Int).toNat * 5)).add 2) = some (.int .i64 i73) ∧ ∃ i74 : Int, m.cell ((a70.add ((x63 : Int).toNat * 5)).add 3) = some (.int .i64 i74) ∧ ∃ i75 : Int, m.cell ((a70.add ((x63 : Int).toNat * 5)).add 4) = some (.int .i64 i75) ∧ 
 ∃ t76 : Bool, EqP Try.prog .neq 24 (.agg #[.int .i64 i65, .int .i64 i66, .int .i64 i67, .int .i64 i68, .int .i64 i69]) (.agg #[.int .i64 i71, .int .i64 i72, .int .i64 i73, .int .i64 i74, .int .i64 i75]) t76 ∧ (bcase t76 (
 RetP R (.bool false) m) (
 IntKind.i64 = IntKind.i64 ∧ (.slice x5 x5n x5c : Value) = .slice x5 x5n x5c ∧ (.slice x8 x8n x8c : Value) = .slice x8 x8n x8c ∧ (.int .i64 x62 : Value) = .int .i64 x62 ∧ true = true ∧ ∃ n' : Nat, n' < n0 ∧ I0 n' (IntKind.wrap .i64 (x63 + 1)) m))) (
 (.slice x5 x5n x5c : Value) = .slice x5 x5n x5c ∧ (.slice x8 x8n x8c : Value) = .slice x8 x8n x8c ∧ (.int .i64 x62 : Value) = .int .i64 x62 ∧ E0_2  m))))
 (h_e2 : ∀ (σ : Sg)  (m : AM), E0_2  m → (
 CallsA Try.prog w0 42 #[] m fun r78 m79 =>
 ∃ t77 : Bool, r78 = .bool t77 ∧ RetP R (.bool t77) m79)) :
 vcS Try.prog w0 qs18 (sub c18 [1, 1, 1, 1, 1, 1, 0, 1, 0]) σ m (blockS 2 (thenS (fun σ m => vcS Try.prog w0 qs18 (sub c18 [1, 1, 1, 1, 1, 1, 1]) σ m (retQ Try.prog Try.f18 R)) (retQ Try.prog Try.f18 R))) := by
  rw [show sub c18 [1, 1, 1, 1, 1, 1, 0, 1, 0] = .loop (sub c18 [1, 1, 1, 1, 1, 1, 0, 1, 0, 0]) from by kernel_rfl]
  refine loopQ (fun n0 σ m => σ 5 = .slice x5 x5n x5c ∧ σ 8 = .slice x8 x8n x8c ∧ σ 62 = .int .i64 x62 ∧ okI .i64 (σ 63) = true ∧ I0 n0 (vI (σ 63)) m) N (fun n0 => (lq18_111111010 R x5 x5n x5c x8 x8n x8c x62 I0 E0_2 n0)) ⟨h5, h8, h62, (by rw [h63]; rfl), (by rw [h63]; exact h_0)⟩ ?_ ?_ ?_
  · rintro n0 σ m ⟨kk0, kk1, kk2, kk3, n', hlt, hI⟩; exact ⟨n', hlt, kk0, kk1, kk2, kk3, hI⟩
  · intro n0 e σ m hne h
    cases e with
    | normal => exact absurd rfl hne
    | ret => exact h
    | exit id =>
      by_cases e2 : id = 2
      · subst e2
        obtain ⟨kk0, kk1, kk2, hE⟩ := h
        have es : (upd (upd (upd σ 5 (.slice x5 x5n x5c)) 8 (.slice x8 x8n x8c)) 62 (.int .i64 x62)) = σ := by rw [upd_id kk0, upd_id kk1, upd_id kk2]
        exact cast (congrArg (fun s => (blockS 2 (thenS (fun σ m => vcS Try.prog w0 qs18 (sub c18 [1, 1, 1, 1, 1, 1, 1]) σ m (retQ Try.prog Try.f18 R)) (retQ Try.prog Try.f18 R))) (.exit 2) s m) es) (cast (by kernel_rfl) (h_e2 σ  m hE))
      · replace h := (if_neg e2 : (if id = 2 then _ else _) = _).mp h
        exact False.elim h
    | _ => exact False.elim h
  · rintro n0 σ m ⟨kk0, kk1, kk2, kk3, hI⟩
    have es : (upd (upd (upd (upd σ 5 (.slice x5 x5n x5c)) 8 (.slice x8 x8n x8c)) 62 (.int .i64 x62)) 63 (.int .i64 (vI (σ 63)))) = σ := by rw [upd_id kk0, upd_id kk1, upd_id kk2, upd_id (ok_int kk3)]
    exact cast (congrArg (fun s => vcS Try.prog w0 qs18 (sub c18 [1, 1, 1, 1, 1, 1, 0, 1, 0, 0]) s m (lq18_111111010 R x5 x5n x5c x8 x8n x8c x62 I0 E0_2 n0)) es) (cast (by kernel_rfl) (h_s n0 σ (vI (σ 63)) m hI))
end Go.Proofs.Ytkfemiloehkmhaa.V

