/- Ytkfemiloehkmhaa: a text of our own, by an AI agent: VReoH -/
import Derived.Test.YtkfemiloehkmhaaCoreA
import Derived.Test.YtkfemiloehkmhaaTabH
namespace Go.Proofs.Ytkfemiloehkmhaa.V
open Go Go.Alog Go.Proofs.Ytkfemiloehkmhaa.T
set_option linter.unusedVariables false
set_option maxRecDepth 100000

/-! 73 delayslot/reorg.lay -/
def qs73 : Nat → List (Nat × Nat) := fun i => match i with | 1000009 => [(0, 0)] | _ => []
noncomputable def c73 : Code := bodyOf Try.f73
theorem cf73 (w0 : World) (m : AM) (x0 : Option Addr) (x0n x0c : Nat) (R : Value → AM → Prop) (h :
 ∀ b1 : Nat, w0.heap.size ≤ b1 → m b1 = none → let m2 := AM.upd m b1 (.cells #[.slice none 0 0, .slice none 0 0, .map none, .slice none 0 0] 77);
 ∀ b3 : Nat, w0.heap.size ≤ b3 → m2 b3 = none → let m4 := AM.upd m2 b3 (.map #[] 0);
 true = true ∧ ∀ b5 : Nat, w0.heap.size ≤ b5 → m4 b5 = none → let m6 := AM.upd m4 b5 (.cells #[.slice none 0 0, .slice none 0 0, .map none, .slice none 0 0] 77);
 StC w0.heap.size m6 ⟨b5, 0, none⟩ (.slice none 0 0) fun m7 =>
 StC w0.heap.size m7 ⟨b5, 1, none⟩ (.slice none 0 0) fun m8 =>
 StC w0.heap.size m8 ⟨b5, 2, none⟩ (.map (some b3)) fun m9 =>
 StC w0.heap.size m9 ⟨b5, 3, none⟩ (.slice none 0 0) fun m10 =>
 CallsA Try.prog w0 28 #[.slice x0 x0n x0c] m10 fun r14 m15 =>
 ∃ (A11 : Option Addr) (n12 c13 : Nat), r14 = .slice A11 n12 c13 ∧ vcS Try.prog w0 qs73 (sub c73 [1, 1, 1, 0, 1, 0]) (upd (upd (upd (upd (upd (upd (upd (upd (upd (upd (argS [.slice x0 x0n x0c]) 2 (.pointer (some ⟨b1, 0, none⟩))) 12 (.map (some b3))) 13 (.agg #[.slice none 0 0, .slice none 0 0, .map (some b3), .slice none 0 0])) 3 (.pointer (some ⟨b5, 0, none⟩))) 14 (.func (.func 93) #[] #[.pointer (some ⟨b5, 0, none⟩)])) 4 (.func (.func 93) #[] #[.pointer (some ⟨b5, 0, none⟩)])) 15 (.slice x0 x0n x0c)) 16 (.slice A11 n12 c13)) 17 (.int .i64 ((n12 : Nat) : Int))) 18 (.int .i64 0)) m15 (blockS 0 (thenS (fun σ m => vcS Try.prog w0 qs73 (sub c73 [1, 1, 1, 1]) σ m (retQ Try.prog Try.f73 R)) (retQ Try.prog Try.f73 R)))) : CallsA Try.prog w0 73 #[.slice x0 x0n x0c] m R :=
  callsA_of (c := c73) (args := [.slice x0 x0n x0c]) (by kernel_rfl) Try.func73 (by kernel_rfl) qs73 (by kernel_rfl) (by kernel_rfl) (cast (by kernel_rfl) h)
def lq73_111010 (R : Value → AM → Prop) (x0 : Option Addr) (x0n x0c : Nat) (x2 : Nat) (x3 : Nat) (x4_0 : Nat) (x16 : Option Addr) (x16n x16c : Nat) (x17 : Int) (I0 : Nat → Int → AM → Prop) (E0_0 : AM → Prop) (n0 : Nat) : Exit → Sg → AM → Prop
  | .normal, σ, m => σ 0 = .slice x0 x0n x0c ∧ σ 2 = .pointer (some ⟨x2, 0, none⟩) ∧ σ 3 = .pointer (some ⟨x3, 0, none⟩) ∧ σ 4 = .func (.func 93) #[] #[.pointer (some ⟨x4_0, 0, none⟩)] ∧ σ 16 = .slice x16 x16n x16c ∧ σ 17 = .int .i64 x17 ∧ okI .i64 (σ 18) = true ∧ ∃ n' : Nat, n' < n0 ∧ I0 n' (vI (σ 18)) m
  | .exit id, σ, m => if id = 0 then σ 0 = .slice x0 x0n x0c ∧ σ 2 = .pointer (some ⟨x2, 0, none⟩) ∧ σ 3 = .pointer (some ⟨x3, 0, none⟩) ∧ σ 4 = .func (.func 93) #[] #[.pointer (some ⟨x4_0, 0, none⟩)] ∧ σ 16 = .slice x16 x16n x16c ∧ σ 17 = .int .i64 x17 ∧ E0_0  m else False
  | .ret, σ, m => retQ Try.prog Try.f73 R .ret σ m
  | _, _, _ => False
theorem vl73_111010 (w0 : World) (m : AM) (σ : Sg) (R : Value → AM → Prop)  (x0 : Option Addr) (x0n x0c : Nat) (x2 : Nat) (x3 : Nat) (x4_0 : Nat) (x16 : Option Addr) (x16n x16c : Nat) (x17 : Int) (x18 : Int) (I0 : Nat → Int → AM → Prop) (E0_0 : AM → Prop) (N : Nat) (h0 : σ 0 = .slice x0 x0n x0c) (h2 : σ 2 = .pointer (some ⟨x2, 0, none⟩)) (h3 : σ 3 = .pointer (some ⟨x3, 0, none⟩)) (h4 : σ 4 = .func (.func 93) #[] #[.pointer (some ⟨x4_0, 0, none⟩)]) (h16 : σ 16 = .slice x16 x16n x16c) (h17 : σ 17 = .int .i64 x17) (h18 : σ 18 = .int .i64 x18)
 (h_0 : I0 N x18 m)
 (h_s : ∀ (n0 : Nat) (σ : Sg) (x18 : Int) (m : AM), I0 n0 x18 m → (
 IntKind.i64 = IntKind.i64 ∧ (bcase (decide ((x18 : Int) < x17)) (
 ((0 : Int) ≤ x18 ∧ x18 < ((x16n : Nat) : Int)) ∧ nilO x16 fun a16 =>
 ∃ i17 : Int, m.cell (a16.add ((x18 : Int).toNat * 2)) = some (.int .i64 i17) ∧ ∃ i18 : Int, m.cell ((a16.add ((x18 : Int).toNat * 2)).add 1) = some (.int .i64 i18) ∧ 
 ∀ b19 : Nat, w0.heap.size ≤ b19 → m b19 = none → let m20 := AM.upd m b19 (.cells #[.int .i64 0, .int .i64 0] 36);
 StC w0.heap.size m20 ⟨b19, 0, none⟩ (.int .i64 i17) fun m21 =>
 StC w0.heap.size m21 ⟨b19, 1, none⟩ (.int .i64 i18) fun m22 =>
 ∃ i23 : Int, m22.cell ⟨b19, 0, none⟩ = some (.int .i64 i23) ∧ 
 CallsA Try.prog w0 93 #[.int .i64 i23, .pointer (some ⟨x4_0, 0, none⟩)] m22 fun r24 m25 =>
 r24 = .tuple #[] ∧ ∃ i26 : Int, m25.cell ⟨b19, 0, none⟩ = some (.int .i64 i26) ∧ 
 ∃ i27 : Int, m25.cell ⟨b19, 1, none⟩ = some (.int .i64 i27) ∧ 
 (0 : Int) ≤ i27 ∧ (0 : Int) ≤ i26 ∧ ((i27 : Int).toNat) ≤ x0c ∧ ((i26 : Int).toNat) ≤ ((i27 : Int).toNat) ∧
 CallsA Try.prog w0 37 #[.slice (if x0c = ((i26 : Int).toNat) then x0 else Option.map (fun x => Addr.add x ((i26 : Int).toNat * 5)) x0) (((i27 : Int).toNat) - ((i26 : Int).toNat)) (x0c - ((i26 : Int).toNat))] m25 fun r31 m32 =>
 ∃ (A28 : Option Addr) (n29 c30 : Nat), r31 = .slice A28 n29 c30 ∧ vcS Try.prog w0 qs73 (sub c73 [1, 1, 1, 0, 1, 0, 0, 1, 1, 0, 0, 1, 1, 1, 1, 0]) (upd (upd (upd (upd (upd (upd (upd (upd (upd (upd (upd (upd (upd (upd (upd (upd (upd (upd (upd (upd (upd (upd (upd (upd (upd σ 0 (.slice x0 x0n x0c)) 2 (.pointer (some ⟨x2, 0, none⟩))) 3 (.pointer (some ⟨x3, 0, none⟩))) 4 (.func (.func 93) #[] #[.pointer (some ⟨x4_0, 0, none⟩)])) 16 (.slice x16 x16n x16c)) 17 (.int .i64 x17)) 18 (.int .i64 x18)) 19 (.bool (decide ((x18 : Int) < x17)))) 20 (.pointer (some (a16.add ((x18 : Int).toNat * 2))))) 21 (.agg #[.int .i64 i17, .int .i64 i18])) 6 (.pointer (some ⟨b19, 0, none⟩))) 22 (.func (.func 93) #[] #[.pointer (some ⟨x4_0, 0, none⟩)])) 23 (.pointer (some ⟨b19, 0, none⟩))) 24 (.int .i64 i23)) 25 (.tuple #[])) 26 (.slice x0 x0n x0c)) 27 (.pointer (some ⟨b19, 0, none⟩))) 28 (.int .i64 i26)) 29 (.pointer (some ⟨b19, 1, none⟩))) 30 (.int .i64 i27)) 31 (.slice (if x0c = ((i26 : Int).toNat) then x0 else Option.map (fun x => Addr.add x ((i26 : Int).toNat * 5)) x0) (((i27 : Int).toNat) - ((i26 : Int).toNat)) (x0c - ((i26 : Int).toNat)))) 7 (.slice (if x0c = ((i26 : Int).toNat) then x0 else Option.map (fun x => Addr.add x ((i26 : Int).toNat * 5)) x0) (((i27 : Int).toNat) - ((i26 : Int).toNat)) (x0c - ((i26 : Int).toNat)))) 32 (.slice (if x0c = ((i26 : Int).toNat) then x0 else Option.map (fun x => Addr.add x ((i26 : Int).toNat * 5)) x0) (((i27 : Int).toNat) - ((i26 : Int).toNat)) (x0c - ((i26 : Int).toNat)))) 33 (.slice A28 n29 c30)) 8 (.slice A28 n29 c30)) m32 (thenS (fun σ m => vcS Try.prog w0 qs73 (sub c73 [1, 1, 1, 0, 1, 0, 0, 1, 1, 0, 0, 1, 1, 1, 1, 1]) σ m (blockS 1 (thenS (fun σ m => vcS Try.prog w0 qs73 (sub c73 [1, 1, 1, 0, 1, 0, 0, 1, 1, 1]) σ m (lq73_111010 R x0 x0n x0c x2 x3 x4_0 x16 x16n x16c x17 I0 E0_0 n0)) (lq73_111010 R x0 x0n x0c x2 x3 x4_0 x16 x16n x16c x17 I0 E0_0 n0)))) (blockS 1 (thenS (fun σ m => vcS Try.prog w0 qs73 (sub c73 [1, 1, 1, 0, 1, 0, 0, 1, 1, 1]) σ m (lq73_111010 R x0 x0n x0c x2 x3 x4_0 x16 x16n x16c x17 I0 E0_0 n0)) (lq73_111010 R x0 x0n x0c x2 x3 x4_0 x16 x16n x16c x17 I0 E0_0 n0))))) (
 (.slice x0 x0n x0c : Value) = .slice x0 x0n x0c ∧ (.pointer (some ⟨x2, 0, none⟩) : Value) = .pointer (some ⟨x2, 0, none⟩) ∧ (.pointer (some ⟨x3, 0, none⟩) : Value) = .pointer (some ⟨x3, 0, none⟩) ∧ (.func (.func 93) #[] #[.pointer (some ⟨x4_0, 0, none⟩)] : Value) = .func (.func 93) #[] #[.pointer (some ⟨x4_0, 0, none⟩)] ∧ (.slice x16 x16n x16c : Value) = .slice x16 x16n x16c ∧ (.int .i64 x17 : Value) = .int .i64 x17 ∧ E0_0  m))))
 (h_e0 : ∀ (σ : Sg)  (m : AM), E0_0  m → (
 CallsA Try.prog w0 93 #[.int .i64 ((x0n : Nat) : Int), .pointer (some ⟨x4_0, 0, none⟩)] m fun r33 m34 =>
 r33 = .tuple #[] ∧ ∃ (A35 : Option Addr) (n36 c37 : Nat), m34.cell ⟨x3, 0, none⟩ = some (.slice A35 n36 c37) ∧ ∃ (A38 : Option Addr) (n39 c40 : Nat), m34.cell ⟨x3, 1, none⟩ = some (.slice A38 n39 c40) ∧ ∃ r41 : Option Nat, m34.cell ⟨x3, 2, none⟩ = some (.map r41) ∧ ∃ (A42 : Option Addr) (n43 c44 : Nat), m34.cell ⟨x3, 3, none⟩ = some (.slice A42 n43 c44) ∧ 
 StC w0.heap.size m34 ⟨x2, 0, none⟩ (.slice A35 n36 c37) fun m45 =>
 StC w0.heap.size m45 ⟨x2, 1, none⟩ (.slice A38 n39 c40) fun m46 =>
 StC w0.heap.size m46 ⟨x2, 2, none⟩ (.map r41) fun m47 =>
 StC w0.heap.size m47 ⟨x2, 3, none⟩ (.slice A42 n43 c44) fun m48 =>
 ∃ (A49 : Option Addr) (n50 c51 : Nat), m48.cell ⟨x2, 0, none⟩ = some (.slice A49 n50 c51) ∧ ∃ (A52 : Option Addr) (n53 c54 : Nat), m48.cell ⟨x2, 1, none⟩ = some (.slice A52 n53 c54) ∧ ∃ r55 : Option Nat, m48.cell ⟨x2, 2, none⟩ = some (.map r55) ∧ ∃ (A56 : Option Addr) (n57 c58 : Nat), m48.cell ⟨x2, 3, none⟩ = some (.slice A56 n57 c58) ∧ RetP R (.agg #[.slice A49 n50 c51, .slice A52 n53 c54, .map r55, .slice A56 n57 c58]) m48)) :
 vcS Try.prog w0 qs73 (sub c73 [1, 1, 1, 0, 1, 0]) σ m (blockS 0 (thenS (fun σ m => vcS Try.prog w0 qs73 (sub c73 [1, 1, 1, 1]) σ m (retQ Try.prog Try.f73 R)) (retQ Try.prog Try.f73 R))) := by
  rw [show sub c73 [1, 1, 1, 0, 1, 0] = .loop (sub c73 [1, 1, 1, 0, 1, 0, 0]) from by kernel_rfl]
  refine loopQ (fun n0 σ m => σ 0 = .slice x0 x0n x0c ∧ σ 2 = .pointer (some ⟨x2, 0, none⟩) ∧ σ 3 = .pointer (some ⟨x3, 0, none⟩) ∧ σ 4 = .func (.func 93) #[] #[.pointer (some ⟨x4_0, 0, none⟩)] ∧ σ 16 = .slice x16 x16n x16c ∧ σ 17 = .int .i64 x17 ∧ okI .i64 (σ 18) = true ∧ I0 n0 (vI (σ 18)) m) N (fun n0 => (lq73_111010 R x0 x0n x0c x2 x3 x4_0 x16 x16n x16c x17 I0 E0_0 n0)) ⟨h0, h2, h3, h4, h16, h17, (by rw [h18]; rfl), (by rw [h18]; exact h_0)⟩ ?_ ?_ ?_
  · rintro n0 σ m ⟨kk0, kk1, kk2, kk3, kk4, kk5, kk6, n', hlt, hI⟩; exact ⟨n', hlt, kk0, kk1, kk2, kk3, kk4, kk5, kk6, hI⟩
  · intro n0 e σ m hne h
    cases e with
    | normal => exact absurd rfl hne
    | ret => exact h
    | exit id =>
      by_cases e0 : id = 0
      · subst e0
        obtain ⟨kk0, kk1, kk2, kk3, kk4, kk5, hE⟩ := h
        have es : (upd (upd (upd (upd (upd (upd σ 0 (.slice x0 x0n x0c)) 2 (.pointer (some ⟨x2, 0, none⟩))) 3 (.pointer (some ⟨x3, 0, none⟩))) 4 (.func (.func 93) #[] #[.pointer (some ⟨x4_0, 0, none⟩)])) 16 (.slice x16 x16n x16c)) 17 (.int .i64 x17)) = σ := by rw [upd_id kk0, upd_id kk1, upd_id kk2, upd_id kk3, upd_id kk4, upd_id kk5]
        exact cast (congrArg (fun s => (blockS 0 (thenS (fun σ m => vcS Try.prog w0 qs73 (sub c73 [1, 1, 1, 1]) σ m (retQ Try.prog Try.f73 R)) (retQ Try.prog Try.f73 R))) (.exit 0) s m) es) (cast (by kernel_rfl) (h_e0 σ  m hE))
      · replace h := (if_neg e0 : (if id = 0 then _ else _) = _).mp h
        exact False.elim h
    | _ => exact False.elim h
  · rintro n0 σ m ⟨kk0, kk1, kk2, kk3, kk4, kk5, kk6, hI⟩
    have es : (upd (upd (upd (upd (upd (upd (upd σ 0 (.slice x0 x0n x0c)) 2 (.pointer (some ⟨x2, 0, none⟩))) 3 (.pointer (some ⟨x3, 0, none⟩))) 4 (.func (.func 93) #[] #[.pointer (some ⟨x4_0, 0, none⟩)])) 16 (.slice x16 x16n x16c)) 17 (.int .i64 x17)) 18 (.int .i64 (vI (σ 18)))) = σ := by rw [upd_id kk0, upd_id kk1, upd_id kk2, upd_id kk3, upd_id kk4, upd_id kk5, upd_id (ok_int kk6)]
    exact cast (congrArg (fun s => vcS Try.prog w0 qs73 (sub c73 [1, 1, 1, 0, 1, 0, 0]) s m (lq73_111010 R x0 x0n x0c x2 x3 x4_0 x16 x16n x16c x17 I0 E0_0 n0)) es) (cast (by kernel_rfl) (h_s n0 σ (vI (σ 18)) m hI))
theorem vr73_1110100110011110 (w0 : World) (m : AM) (σ : Sg) (R : Value → AM → Prop) (n0 : Nat) (I0 : Nat → Int → AM → Prop) (E0_0 : AM → Prop) (x0 : Option Addr) (x0n x0c : Nat) (x2 : Nat) (x3 : Nat) (x4_0 : Nat) (x6 : Nat) (x7 : Option Addr) (x7n x7c : Nat) (x8 : Option Addr) (x8n x8c : Nat) (x16 : Option Addr) (x16n x16c : Nat) (x17 : Int) (x18 : Int) (K : AM → Prop) (h0 : σ 0 = .slice x0 x0n x0c) (h2 : σ 2 = .pointer (some ⟨x2, 0, none⟩)) (h3 : σ 3 = .pointer (some ⟨x3, 0, none⟩)) (h4 : σ 4 = .func (.func 93) #[] #[.pointer (some ⟨x4_0, 0, none⟩)]) (h6 : σ 6 = .pointer (some ⟨x6, 0, none⟩)) (h7 : σ 7 = .slice x7 x7n x7c) (h8 : σ 8 = .slice x8 x8n x8c) (h16 : σ 16 = .slice x16 x16n x16c) (h17 : σ 17 = .int .i64 x17) (h18 : σ 18 = .int .i64 x18)
 (h_t : 
 (∃ (A59 : Option Addr) (n60 c61 : Nat), m.cell ⟨x3, 0, none⟩ = some (.slice A59 n60 c61) ∧ 
 CallsA Try.prog w0 36 #[.slice x7 x7n x7c, .slice x8 x8n x8c] m fun r65 m66 =>
 ∃ (A62 : Option Addr) (n63 c64 : Nat), r65 = .slice A62 n63 c64 ∧ awp Try.prog w0.heap.size (Builtin.append_ #[22, 22] 22 #[.slice A59 n60 c61, .slice A62 n63 c64]) m66 fun v67 m68 =>
 ∃ (A69 : Option Addr) (n70 c71 : Nat), v67 = .slice A69 n70 c71 ∧ StC w0.heap.size m68 ⟨x3, 0, none⟩ (.slice A69 n70 c71) fun m72 =>
 true = true ∧ (.slice x0 x0n x0c : Value) = .slice x0 x0n x0c ∧ (.pointer (some ⟨x2, 0, none⟩) : Value) = .pointer (some ⟨x2, 0, none⟩) ∧ (.pointer (some ⟨x3, 0, none⟩) : Value) = .pointer (some ⟨x3, 0, none⟩) ∧ (.func (.func 93) #[] #[.pointer (some ⟨x4_0, 0, none⟩)] : Value) = .func (.func 93) #[] #[.pointer (some ⟨x4_0, 0, none⟩)] ∧ (.pointer (some ⟨x6, 0, none⟩) : Value) = .pointer (some ⟨x6, 0, none⟩) ∧ (.slice x8 x8n x8c : Value) = .slice x8 x8n x8c ∧ (.slice x16 x16n x16c : Value) = .slice x16 x16n x16c ∧ (.int .i64 x17 : Value) = .int .i64 x17 ∧ (.int .i64 x18 : Value) = .int .i64 x18 ∧ K  m72) ∧
 (CallsA Try.prog w0 36 #[.slice x7 x7n x7c, .slice x8 x8n x8c] m fun r76 m77 =>
 ∃ (A73 : Option Addr) (n74 c75 : Nat), r76 = .slice A73 n74 c75 ∧ ∃ (A78 : Option Addr) (n79 c80 : Nat), m77.cell ⟨x3, 0, none⟩ = some (.slice A78 n79 c80) ∧ 
 awp Try.prog w0.heap.size (Builtin.append_ #[22, 22] 22 #[.slice A78 n79 c80, .slice A73 n74 c75]) m77 fun v81 m82 =>
 ∃ (A83 : Option Addr) (n84 c85 : Nat), v81 = .slice A83 n84 c85 ∧ StC w0.heap.size m82 ⟨x3, 0, none⟩ (.slice A83 n84 c85) fun m86 =>
 true = true ∧ (.slice x0 x0n x0c : Value) = .slice x0 x0n x0c ∧ (.pointer (some ⟨x2, 0, none⟩) : Value) = .pointer (some ⟨x2, 0, none⟩) ∧ (.pointer (some ⟨x3, 0, none⟩) : Value) = .pointer (some ⟨x3, 0, none⟩) ∧ (.func (.func 93) #[] #[.pointer (some ⟨x4_0, 0, none⟩)] : Value) = .func (.func 93) #[] #[.pointer (some ⟨x4_0, 0, none⟩)] ∧ (.pointer (some ⟨x6, 0, none⟩) : Value) = .pointer (some ⟨x6, 0, none⟩) ∧ (.slice x8 x8n x8c : Value) = .slice x8 x8n x8c ∧ (.slice x16 x16n x16c : Value) = .slice x16 x16n x16c ∧ (.int .i64 x17 : Value) = .int .i64 x17 ∧ (.int .i64 x18 : Value) = .int .i64 x18 ∧ K  m86))
 (h_k : ∀ (σ : Sg)  (m : AM), K  m → (
 vcS Try.prog w0 qs73 (sub c73 [1, 1, 1, 0, 1, 0, 0, 1, 1, 0, 0, 1, 1, 1, 1, 1, 1, 0]) (upd (upd (upd (upd (upd (upd (upd (upd (upd (upd (upd (upd σ 0 (.slice x0 x0n x0c)) 2 (.pointer (some ⟨x2, 0, none⟩))) 3 (.pointer (some ⟨x3, 0, none⟩))) 4 (.func (.func 93) #[] #[.pointer (some ⟨x4_0, 0, none⟩)])) 6 (.pointer (some ⟨x6, 0, none⟩))) 8 (.slice x8 x8n x8c)) 16 (.slice x16 x16n x16c)) 17 (.int .i64 x17)) 18 (.int .i64 x18)) 41 (.slice x8 x8n x8c)) 42 (.int .i64 ((x8n : Nat) : Int))) 43 (.int .i64 0)) m (blockS 2 (blockS 1 (thenS (fun σ m => vcS Try.prog w0 qs73 (sub c73 [1, 1, 1, 0, 1, 0, 0, 1, 1, 1]) σ m (lq73_111010 R x0 x0n x0c x2 x3 x4_0 x16 x16n x16c x17 I0 E0_0 n0)) (lq73_111010 R x0 x0n x0c x2 x3 x4_0 x16 x16n x16c x17 I0 E0_0 n0)))))) :
 vcS Try.prog w0 qs73 (sub c73 [1, 1, 1, 0, 1, 0, 0, 1, 1, 0, 0, 1, 1, 1, 1, 0]) σ m (thenS (fun σ m => vcS Try.prog w0 qs73 (sub c73 [1, 1, 1, 0, 1, 0, 0, 1, 1, 0, 0, 1, 1, 1, 1, 1]) σ m (blockS 1 (thenS (fun σ m => vcS Try.prog w0 qs73 (sub c73 [1, 1, 1, 0, 1, 0, 0, 1, 1, 1]) σ m (lq73_111010 R x0 x0n x0c x2 x3 x4_0 x16 x16n x16c x17 I0 E0_0 n0)) (lq73_111010 R x0 x0n x0c x2 x3 x4_0 x16 x16n x16c x17 I0 E0_0 n0)))) (blockS 1 (thenS (fun σ m => vcS Try.prog w0 qs73 (sub c73 [1, 1, 1, 0, 1, 0, 0, 1, 1, 1]) σ m (lq73_111010 R x0 x0n x0c x2 x3 x4_0 x16 x16n x16c x17 I0 E0_0 n0)) (lq73_111010 R x0 x0n x0c x2 x3 x4_0 x16 x16n x16c x17 I0 E0_0 n0)))) := by
  have es0 : (upd (upd (upd (upd (upd (upd (upd (upd (upd (upd σ 0 (.slice x0 x0n x0c)) 2 (.pointer (some ⟨x2, 0, none⟩))) 3 (.pointer (some ⟨x3, 0, none⟩))) 4 (.func (.func 93) #[] #[.pointer (some ⟨x4_0, 0, none⟩)])) 6 (.pointer (some ⟨x6, 0, none⟩))) 7 (.slice x7 x7n x7c)) 8 (.slice x8 x8n x8c)) 16 (.slice x16 x16n x16c)) 17 (.int .i64 x17)) 18 (.int .i64 x18)) = σ := by rw [upd_id h0, upd_id h2, upd_id h3, upd_id h4, upd_id h6, upd_id h7, upd_id h8, upd_id h16, upd_id h17, upd_id h18]
  refine vcS_cut (Q0 := (fun σ m => σ 0 = .slice x0 x0n x0c ∧ σ 2 = .pointer (some ⟨x2, 0, none⟩) ∧ σ 3 = .pointer (some ⟨x3, 0, none⟩) ∧ σ 4 = .func (.func 93) #[] #[.pointer (some ⟨x4_0, 0, none⟩)] ∧ σ 6 = .pointer (some ⟨x6, 0, none⟩) ∧ σ 8 = .slice x8 x8n x8c ∧ σ 16 = .slice x16 x16n x16c ∧ σ 17 = .int .i64 x17 ∧ σ 18 = .int .i64 x18 ∧ K  m)) (by kernel_rfl) (cast (congrArg (fun s => trC Try.prog w0 qs73 (sub c73 [1, 1, 1, 0, 1, 0, 0, 1, 1, 0, 0, 1, 1, 1, 1, 0]) s m (fun σ m => σ 0 = .slice x0 x0n x0c ∧ σ 2 = .pointer (some ⟨x2, 0, none⟩) ∧ σ 3 = .pointer (some ⟨x3, 0, none⟩) ∧ σ 4 = .func (.func 93) #[] #[.pointer (some ⟨x4_0, 0, none⟩)] ∧ σ 6 = .pointer (some ⟨x6, 0, none⟩) ∧ σ 8 = .slice x8 x8n x8c ∧ σ 16 = .slice x16 x16n x16c ∧ σ 17 = .int .i64 x17 ∧ σ 18 = .int .i64 x18 ∧ K  m)) es0) (cast (by kernel_rfl) h_t)) ?_
  rintro σ m ⟨kk0, kk1, kk2, kk3, kk4, kk5, kk6, kk7, kk8, hK⟩
  have es : (upd (upd (upd (upd (upd (upd (upd (upd (upd σ 0 (.slice x0 x0n x0c)) 2 (.pointer (some ⟨x2, 0, none⟩))) 3 (.pointer (some ⟨x3, 0, none⟩))) 4 (.func (.func 93) #[] #[.pointer (some ⟨x4_0, 0, none⟩)])) 6 (.pointer (some ⟨x6, 0, none⟩))) 8 (.slice x8 x8n x8c)) 16 (.slice x16 x16n x16c)) 17 (.int .i64 x17)) 18 (.int .i64 x18)) = σ := by rw [upd_id kk0, upd_id kk1, upd_id kk2, upd_id kk3, upd_id kk4, upd_id kk5, upd_id kk6, upd_id kk7, upd_id kk8]
  exact cast (congrArg (fun s => (thenS (fun σ m => vcS Try.prog w0 qs73 (sub c73 [1, 1, 1, 0, 1, 0, 0, 1, 1, 0, 0, 1, 1, 1, 1, 1]) σ m (blockS 1 (thenS (fun σ m => vcS Try.prog w0 qs73 (sub c73 [1, 1, 1, 0, 1, 0, 0, 1, 1, 1]) σ m (lq73_111010 R x0 x0n x0c x2 x3 x4_0 x16 x16n x16c x17 I0 E0_0 n0)) (lq73_111010 R x0 x0n x0c x2 x3 x4_0 x16 x16n x16c x17 I0 E0_0 n0)))) (blockS 1 (thenS (fun σ m => vcS Try.prog w0 qs73 (sub c73 [1, 1, 1, 0, 1, 0, 0, 1, 1, 1]) σ m (lq73_111010 R x0 x0n x0c x2 x3 x4_0 x16 x16n x16c x17 I0 E0_0 n0)) (lq73_111010 R x0 x0n x0c x2 x3 x4_0 x16 x16n x16c x17 I0 E0_0 n0)))) .normal s m) es) (cast (by kernel_rfl) (h_k σ  m hK))
def lq73_111010011001111110 (R : Value → AM → Prop) (x0 : Option Addr) (x0n x0c : Nat) (x2 : Nat) (x3 : Nat) (x4_0 : Nat) (x6 : Nat) (x16 : Option Addr) (x16n x16c : Nat) (x17 : Int) (x18 : Int) (x41 : Option Addr) (x41n x41c : Nat) (x42 : Int) (I1 : Nat → Int → AM → Prop) (E1_2 : AM → Prop) (n1 : Nat) : Exit → Sg → AM → Prop
  | .normal, σ, m => σ 0 = .slice x0 x0n x0c ∧ σ 2 = .pointer (some ⟨x2, 0, none⟩) ∧ σ 3 = .pointer (some ⟨x3, 0, none⟩) ∧ σ 4 = .func (.func 93) #[] #[.pointer (some ⟨x4_0, 0, none⟩)] ∧ σ 6 = .pointer (some ⟨x6, 0, none⟩) ∧ σ 16 = .slice x16 x16n x16c ∧ σ 17 = .int .i64 x17 ∧ σ 18 = .int .i64 x18 ∧ σ 41 = .slice x41 x41n x41c ∧ σ 42 = .int .i64 x42 ∧ okI .i64 (σ 43) = true ∧ ∃ n' : Nat, n' < n1 ∧ I1 n' (vI (σ 43)) m
  | .exit id, σ, m => if id = 2 then σ 0 = .slice x0 x0n x0c ∧ σ 2 = .pointer (some ⟨x2, 0, none⟩) ∧ σ 3 = .pointer (some ⟨x3, 0, none⟩) ∧ σ 4 = .func (.func 93) #[] #[.pointer (some ⟨x4_0, 0, none⟩)] ∧ σ 6 = .pointer (some ⟨x6, 0, none⟩) ∧ σ 16 = .slice x16 x16n x16c ∧ σ 17 = .int .i64 x17 ∧ σ 18 = .int .i64 x18 ∧ σ 41 = .slice x41 x41n x41c ∧ σ 42 = .int .i64 x42 ∧ E1_2  m else False
  | .ret, σ, m => retQ Try.prog Try.f73 R .ret σ m
  | _, _, _ => False
theorem vl73_111010011001111110 (w0 : World) (m : AM) (σ : Sg) (R : Value → AM → Prop) (n0 : Nat) (I0 : Nat → Int → AM → Prop) (E0_0 : AM → Prop) (x0 : Option Addr) (x0n x0c : Nat) (x2 : Nat) (x3 : Nat) (x4_0 : Nat) (x6 : Nat) (x16 : Option Addr) (x16n x16c : Nat) (x17 : Int) (x18 : Int) (x41 : Option Addr) (x41n x41c : Nat) (x42 : Int) (x43 : Int) (I1 : Nat → Int → AM → Prop) (E1_2 : AM → Prop) (N : Nat) (h0 : σ 0 = .slice x0 x0n x0c) (h2 : σ 2 = .pointer (some ⟨x2, 0, none⟩)) (h3 : σ 3 = .pointer (some ⟨x3, 0, none⟩)) (h4 : σ 4 = .func (.func 93) #[] #[.pointer (some ⟨x4_0, 0, none⟩)]) (h6 : σ 6 = .pointer (some ⟨x6, 0, none⟩)) (h16 : σ 16 = .slice x16 x16n x16c) (h17 : σ 17 = .int .i64 x17) (h18 : σ 18 = .int .i64 x18) (h41 : σ 41 = .slice x41 x41n x41c) (h42 : σ 42 = .int .i64 x42) (h43 : σ 43 = .int .i64 x43)
 (h_0 : I1 N x43 m)
 (h_s : ∀ (n1 : Nat) (σ : Sg) (x43 : Int) (m : AM), I1 n1 x43 m → (
 IntKind.i64 = IntKind.i64 ∧ (bcase (decide ((x43 : Int) < x42)) (
 ((0 : Int) ≤ x43 ∧ x43 < ((x41n : Nat) : Int)) ∧ nilO x41 fun a87 =>
 ∃ i88 : Int, m.cell (a87.add ((x43 : Int).toNat * 1)) = some (.int .i64 i88) ∧ 
 IntKind.i64 = IntKind.i64 ∧ (bcase (decide ((i88 : Int) ≥ 0)) (
 ∃ i89 : Int, m.cell ⟨x6, 0, none⟩ = some (.int .i64 i89) ∧ 
 IntKind.i64 = IntKind.i64 ∧ ∃ (A90 : Option Addr) (n91 c92 : Nat), m.cell ⟨x3, 3, none⟩ = some (.slice A90 n91 c92) ∧ 
 true = true ∧ ∀ b93 : Nat, w0.heap.size ≤ b93 → m b93 = none → let m94 := AM.upd m b93 (.cells #[.int .i64 (IntKind.wrap .i64 (i89 + i88))] 3);
 awp Try.prog w0.heap.size (Builtin.append_ #[30, 30] 30 #[.slice A90 n91 c92, .slice (some ⟨b93, 0, none⟩) 1 1]) m94 fun v95 m96 =>
 ∃ (A97 : Option Addr) (n98 c99 : Nat), v95 = .slice A97 n98 c99 ∧ StC w0.heap.size m96 ⟨x3, 3, none⟩ (.slice A97 n98 c99) fun m100 =>
 IntKind.i64 = IntKind.i64 ∧ (.slice x0 x0n x0c : Value) = .slice x0 x0n x0c ∧ (.pointer (some ⟨x2, 0, none⟩) : Value) = .pointer (some ⟨x2, 0, none⟩) ∧ (.pointer (some ⟨x3, 0, none⟩) : Value) = .pointer (some ⟨x3, 0, none⟩) ∧ (.func (.func 93) #[] #[.pointer (some ⟨x4_0, 0, none⟩)] : Value) = .func (.func 93) #[] #[.pointer (some ⟨x4_0, 0, none⟩)] ∧ (.pointer (some ⟨x6, 0, none⟩) : Value) = .pointer (some ⟨x6, 0, none⟩) ∧ (.slice x16 x16n x16c : Value) = .slice x16 x16n x16c ∧ (.int .i64 x17 : Value) = .int .i64 x17 ∧ (.int .i64 x18 : Value) = .int .i64 x18 ∧ (.slice x41 x41n x41c : Value) = .slice x41 x41n x41c ∧ (.int .i64 x42 : Value) = .int .i64 x42 ∧ true = true ∧ ∃ n' : Nat, n' < n1 ∧ I1 n' (IntKind.wrap .i64 (x43 + 1)) m100) (
 ∃ (A101 : Option Addr) (n102 c103 : Nat), m.cell ⟨x3, 3, none⟩ = some (.slice A101 n102 c103) ∧ 
 true = true ∧ ∀ b104 : Nat, w0.heap.size ≤ b104 → m b104 = none → let m105 := AM.upd m b104 (.cells #[.int .i64 (-1)] 3);
 awp Try.prog w0.heap.size (Builtin.append_ #[30, 30] 30 #[.slice A101 n102 c103, .slice (some ⟨b104, 0, none⟩) 1 1]) m105 fun v106 m107 =>
 ∃ (A108 : Option Addr) (n109 c110 : Nat), v106 = .slice A108 n109 c110 ∧ StC w0.heap.size m107 ⟨x3, 3, none⟩ (.slice A108 n109 c110) fun m111 =>
 IntKind.i64 = IntKind.i64 ∧ (.slice x0 x0n x0c : Value) = .slice x0 x0n x0c ∧ (.pointer (some ⟨x2, 0, none⟩) : Value) = .pointer (some ⟨x2, 0, none⟩) ∧ (.pointer (some ⟨x3, 0, none⟩) : Value) = .pointer (some ⟨x3, 0, none⟩) ∧ (.func (.func 93) #[] #[.pointer (some ⟨x4_0, 0, none⟩)] : Value) = .func (.func 93) #[] #[.pointer (some ⟨x4_0, 0, none⟩)] ∧ (.pointer (some ⟨x6, 0, none⟩) : Value) = .pointer (some ⟨x6, 0, none⟩) ∧ (.slice x16 x16n x16c : Value) = .slice x16 x16n x16c ∧ (.int .i64 x17 : Value) = .int .i64 x17 ∧ (.int .i64 x18 : Value) = .int .i64 x18 ∧ (.slice x41 x41n x41c : Value) = .slice x41 x41n x41c ∧ (.int .i64 x42 : Value) = .int .i64 x42 ∧ true = true ∧ ∃ n' : Nat, n' < n1 ∧ I1 n' (IntKind.wrap .i64 (x43 + 1)) m111))) (
 (.slice x0 x0n x0c : Value) = .slice x0 x0n x0c ∧ (.pointer (some ⟨x2, 0, none⟩) : Value) = .pointer (some ⟨x2, 0, none⟩) ∧ (.pointer (some ⟨x3, 0, none⟩) : Value) = .pointer (some ⟨x3, 0, none⟩) ∧ (.func (.func 93) #[] #[.pointer (some ⟨x4_0, 0, none⟩)] : Value) = .func (.func 93) #[] #[.pointer (some ⟨x4_0, 0, none⟩)] ∧ (.pointer (some ⟨x6, 0, none⟩) : Value) = .pointer (some ⟨x6, 0, none⟩) ∧ (.slice x16 x16n x16c : Value) = .slice x16 x16n x16c ∧ (.int .i64 x17 : Value) = .int .i64 x17 ∧ (.int .i64 x18 : Value) = .int .i64 x18 ∧ (.slice x41 x41n x41c : Value) = .slice x41 x41n x41c ∧ (.int .i64 x42 : Value) = .int .i64 x42 ∧ E1_2  m))))
 (h_e2 : ∀ (σ : Sg)  (m : AM), E1_2  m → (
 IntKind.i64 = IntKind.i64 ∧ (.slice x0 x0n x0c : Value) = .slice x0 x0n x0c ∧ (.pointer (some ⟨x2, 0, none⟩) : Value) = .pointer (some ⟨x2, 0, none⟩) ∧ (.pointer (some ⟨x3, 0, none⟩) : Value) = .pointer (some ⟨x3, 0, none⟩) ∧ (.func (.func 93) #[] #[.pointer (some ⟨x4_0, 0, none⟩)] : Value) = .func (.func 93) #[] #[.pointer (some ⟨x4_0, 0, none⟩)] ∧ (.slice x16 x16n x16c : Value) = .slice x16 x16n x16c ∧ (.int .i64 x17 : Value) = .int .i64 x17 ∧ true = true ∧ ∃ n' : Nat, n' < n0 ∧ I0 n' (IntKind.wrap .i64 (x18 + 1)) m)) :
 vcS Try.prog w0 qs73 (sub c73 [1, 1, 1, 0, 1, 0, 0, 1, 1, 0, 0, 1, 1, 1, 1, 1, 1, 0]) σ m (blockS 2 (blockS 1 (thenS (fun σ m => vcS Try.prog w0 qs73 (sub c73 [1, 1, 1, 0, 1, 0, 0, 1, 1, 1]) σ m (lq73_111010 R x0 x0n x0c x2 x3 x4_0 x16 x16n x16c x17 I0 E0_0 n0)) (lq73_111010 R x0 x0n x0c x2 x3 x4_0 x16 x16n x16c x17 I0 E0_0 n0)))) := by
  rw [show sub c73 [1, 1, 1, 0, 1, 0, 0, 1, 1, 0, 0, 1, 1, 1, 1, 1, 1, 0] = .loop (sub c73 [1, 1, 1, 0, 1, 0, 0, 1, 1, 0, 0, 1, 1, 1, 1, 1, 1, 0, 0]) from by kernel_rfl]
  refine loopQ (fun n1 σ m => σ 0 = .slice x0 x0n x0c ∧ σ 2 = .pointer (some ⟨x2, 0, none⟩) ∧ σ 3 = .pointer (some ⟨x3, 0, none⟩) ∧ σ 4 = .func (.func 93) #[] #[.pointer (some ⟨x4_0, 0, none⟩)] ∧ σ 6 = .pointer (some ⟨x6, 0, none⟩) ∧ σ 16 = .slice x16 x16n x16c ∧ σ 17 = .int .i64 x17 ∧ σ 18 = .int .i64 x18 ∧ σ 41 = .slice x41 x41n x41c ∧ σ 42 = .int .i64 x42 ∧ okI .i64 (σ 43) = true ∧ I1 n1 (vI (σ 43)) m) N (fun n1 => (lq73_111010011001111110 R x0 x0n x0c x2 x3 x4_0 x6 x16 x16n x16c x17 x18 x41 x41n x41c x42 I1 E1_2 n1)) ⟨h0, h2, h3, h4, h6, h16, h17, h18, h41, h42, (by rw [h43]; rfl), (by rw [h43]; exact h_0)⟩ ?_ ?_ ?_
  · rintro n1 σ m ⟨kk0, kk1, kk2, kk3, kk4, kk5, kk6, kk7, kk8, kk9, kk10, n', hlt, hI⟩; exact ⟨n', hlt, kk0, kk1, kk2, kk3, kk4, kk5, kk6, kk7, kk8, kk9, kk10, hI⟩
  · intro n1 e σ m hne h
    cases e with
    | normal => exact absurd rfl hne
    | ret => exact h
    | exit id =>
      by_cases e2 : id = 2
      · subst e2
        obtain ⟨kk0, kk1, kk2, kk3, kk4, kk5, kk6, kk7, kk8, kk9, hE⟩ := h
        have es : (upd (upd (upd (upd (upd (upd (upd (upd (upd (upd σ 0 (.slice x0 x0n x0c)) 2 (.pointer (some ⟨x2, 0, none⟩))) 3 (.pointer (some ⟨x3, 0, none⟩))) 4 (.func (.func 93) #[] #[.pointer (some ⟨x4_0, 0, none⟩)])) 6 (.pointer (some ⟨x6, 0, none⟩))) 16 (.slice x16 x16n x16c)) 17 (.int .i64 x17)) 18 (.int .i64 x18)) 41 (.slice x41 x41n x41c)) 42 (.int .i64 x42)) = σ := by rw [upd_id kk0, upd_id kk1, upd_id kk2, upd_id kk3, upd_id kk4, upd_id kk5, upd_id kk6, upd_id kk7, upd_id kk8, upd_id kk9]
        exact cast (congrArg (fun s => (blockS 2 (blockS 1 (thenS (fun σ m => vcS Try.prog w0 qs73 (sub c73 [1, 1, 1, 0, 1, 0, 0, 1, 1, 1]) σ m (lq73_111010 R x0 x0n x0c x2 x3 x4_0 x16 x16n x16c x17 I0 E0_0 n0)) (lq73_111010 R x0 x0n x0c x2 x3 x4_0 x16 x16n x16c x17 I0 E0_0 n0)))) (.exit 2) s m) es) (cast (by kernel_rfl) (h_e2 σ  m hE))
      · replace h := (if_neg e2 : (if id = 2 then _ else _) = _).mp h
        exact False.elim h
    | _ => exact False.elim h
  · rintro n1 σ m ⟨kk0, kk1, kk2, kk3, kk4, kk5, kk6, kk7, kk8, kk9, kk10, hI⟩
    have es : (upd (upd (upd (upd (upd (upd (upd (upd (upd (upd (upd σ 0 (.slice x0 x0n x0c)) 2 (.pointer (some ⟨x2, 0, none⟩))) 3 (.pointer (some ⟨x3, 0, none⟩))) 4 (.func (.func 93) #[] #[.pointer (some ⟨x4_0, 0, none⟩)])) 6 (.pointer (some ⟨x6, 0, none⟩))) 16 (.slice x16 x16n x16c)) 17 (.int .i64 x17)) 18 (.int .i64 x18)) 41 (.slice x41 x41n x41c)) 42 (.int .i64 x42)) 43 (.int .i64 (vI (σ 43)))) = σ := by rw [upd_id kk0, upd_id kk1, upd_id kk2, upd_id kk3, upd_id kk4, upd_id kk5, upd_id kk6, upd_id kk7, upd_id kk8, upd_id kk9, upd_id (ok_int kk10)]
    exact cast (congrArg (fun s => vcS Try.prog w0 qs73 (sub c73 [1, 1, 1, 0, 1, 0, 0, 1, 1, 0, 0, 1, 1, 1, 1, 1, 1, 0, 0]) s m (lq73_111010011001111110 R x0 x0n x0c x2 x3 x4_0 x6 x16 x16n x16c x17 x18 x41 x41n x41c x42 I1 E1_2 n1)) es) (cast (by kernel_rfl) (h_s n1 σ (vI (σ 43)) m hI))

/-! 93 delayslot/reorg.lay$1 -/
def qs93 : Nat → List (Nat × Nat) := fun i => match i with | _ => []
noncomputable def c93 : Code := bodyOf Try.f93
theorem cf93 (w0 : World) (m : AM) (x0 : Int) (pc : Nat) (R : Value → AM → Prop) (h :
 ∃ r1 : Option Nat, m.cell ⟨pc, 2, none⟩ = some (.map r1) ∧ 
 ∃ (A2 : Option Addr) (n3 c4 : Nat), m.cell ⟨pc, 0, none⟩ = some (.slice A2 n3 c4) ∧ 
 awp Try.prog w0.heap.size (Instr.mapUpdate 75 (.map r1) (.int .i64 x0) (.int .i64 ((n3 : Nat) : Int))) m fun _ m5 =>
 ∃ (A6 : Option Addr) (n7 c8 : Nat), m5.cell ⟨pc, 1, none⟩ = some (.slice A6 n7 c8) ∧ 
 ∃ (A9 : Option Addr) (n10 c11 : Nat), m5.cell ⟨pc, 0, none⟩ = some (.slice A9 n10 c11) ∧ 
 true = true ∧ ∀ b12 : Nat, w0.heap.size ≤ b12 → m5 b12 = none → let m13 := AM.upd m5 b12 (.cells #[.int .i64 ((n10 : Nat) : Int)] 3);
 awp Try.prog w0.heap.size (Builtin.append_ #[30, 30] 30 #[.slice A6 n7 c8, .slice (some ⟨b12, 0, none⟩) 1 1]) m13 fun v14 m15 =>
 ∃ (A16 : Option Addr) (n17 c18 : Nat), v14 = .slice A16 n17 c18 ∧ StC w0.heap.size m15 ⟨pc, 1, none⟩ (.slice A16 n17 c18) fun m19 =>
 RetP R (.tuple #[]) m19) : CallsA Try.prog w0 93 #[.int .i64 x0, .pointer (some ⟨pc, 0, none⟩)] m R :=
  callsA_of (c := c93) (args := [.int .i64 x0, .pointer (some ⟨pc, 0, none⟩)]) (by kernel_rfl) Try.func93 (by kernel_rfl) qs93 (by kernel_rfl) (by kernel_rfl) (cast (by kernel_rfl) h)

/-! 43 delayslot/reorg.Reorg -/
def qs43 : Nat → List (Nat × Nat) := fun i => match i with | _ => []
noncomputable def c43 : Code := bodyOf Try.f43
theorem cf43 (w0 : World) (m : AM) (x0 : Option Addr) (x0n x0c : Nat) (R : Value → AM → Prop) (h :
 CallsA Try.prog w0 23 #[.slice x0 x0n x0c] m fun r2 m3 =>
 ∃ t1 : Bool, r2 = .bool t1 ∧ (bcase (!t1) (
 RetP R (.tuple #[.slice none 0 0, .slice none 0 0, .int .i64 1]) m3) (
 CallsA Try.prog w0 73 #[.slice x0 x0n x0c] m3 fun r14 m15 =>
 ∃ (A4 : Option Addr) (n5 c6 : Nat), ∃ (A7 : Option Addr) (n8 c9 : Nat), ∃ r10 : Option Nat, ∃ (A11 : Option Addr) (n12 c13 : Nat), r14 = .agg #[.slice A4 n5 c6, .slice A7 n8 c9, .map r10, .slice A11 n12 c13] ∧ ∀ b16 : Nat, w0.heap.size ≤ b16 → m15 b16 = none → let m17 := AM.upd m15 b16 (.cells #[.slice none 0 0, .slice none 0 0, .map none, .slice none 0 0] 77);
 StC w0.heap.size m17 ⟨b16, 0, none⟩ (.slice A4 n5 c6) fun m18 =>
 StC w0.heap.size m18 ⟨b16, 1, none⟩ (.slice A7 n8 c9) fun m19 =>
 StC w0.heap.size m19 ⟨b16, 2, none⟩ (.map r10) fun m20 =>
 StC w0.heap.size m20 ⟨b16, 3, none⟩ (.slice A11 n12 c13) fun m21 =>
 ∃ (A22 : Option Addr) (n23 c24 : Nat), m21.cell ⟨b16, 0, none⟩ = some (.slice A22 n23 c24) ∧ 
 IntKind.i64 = IntKind.i64 ∧ (bcase (decide ((((n23 : Nat) : Int) : Int) > 4096)) (
 RetP R (.tuple #[.slice none 0 0, .slice none 0 0, .int .i64 4]) m21) (
 ∃ (A25 : Option Addr) (n26 c27 : Nat), m21.cell ⟨b16, 3, none⟩ = some (.slice A25 n26 c27) ∧ 
 vcS Try.prog w0 qs43 (sub c43 [1, 1, 1, 1, 0, 1, 0]) (upd (upd (upd (upd (upd (upd (upd (upd (upd (upd (upd (upd (upd (upd (upd (upd (upd (argS [.slice x0 x0n x0c]) 2 (.slice none 0 0)) 3 (.slice none 0 0)) 4 (.int .i64 0)) 11 (.slice x0 x0n x0c)) 12 (.bool t1)) 13 (.bool (!t1))) 14 (.slice x0 x0n x0c)) 15 (.agg #[.slice A4 n5 c6, .slice A7 n8 c9, .map r10, .slice A11 n12 c13])) 5 (.pointer (some ⟨b16, 0, none⟩))) 16 (.pointer (some ⟨b16, 0, none⟩))) 17 (.slice A22 n23 c24)) 18 (.int .i64 ((n23 : Nat) : Int))) 19 (.bool (decide ((((n23 : Nat) : Int) : Int) > 4096)))) 20 (.pointer (some ⟨b16, 3, none⟩))) 21 (.slice A25 n26 c27)) 22 (.int .i64 ((n26 : Nat) : Int))) 23 (.int .i64 0)) m21 (blockS 0 (thenS (fun σ m => vcS Try.prog w0 qs43 (sub c43 [1, 1, 1, 1, 1]) σ m (retQ Try.prog Try.f43 R)) (retQ Try.prog Try.f43 R)))))))) : CallsA Try.prog w0 43 #[.slice x0 x0n x0c] m R :=
  callsA_of (c := c43) (args := [.slice x0 x0n x0c]) (by kernel_rfl) Try.func43 (by kernel_rfl) qs43 (by kernel_rfl) (by kernel_rfl) (cast (by kernel_rfl) h)
def lq43_1111010 (R : Value → AM → Prop) (x0 : Option Addr) (x0n x0c : Nat) (x5 : Nat) (x21 : Option Addr) (x21n x21c : Nat) (x22 : Int) (I0 : Nat → Int → AM → Prop) (E0_0 : AM → Prop) (n0 : Nat) : Exit → Sg → AM → Prop
  | .normal, σ, m => σ 0 = .slice x0 x0n x0c ∧ σ 5 = .pointer (some ⟨x5, 0, none⟩) ∧ σ 21 = .slice x21 x21n x21c ∧ σ 22 = .int .i64 x22 ∧ okI .i64 (σ 23) = true ∧ ∃ n' : Nat, n' < n0 ∧ I0 n' (vI (σ 23)) m
  | .exit id, σ, m => if id = 0 then σ 0 = .slice x0 x0n x0c ∧ σ 5 = .pointer (some ⟨x5, 0, none⟩) ∧ σ 21 = .slice x21 x21n x21c ∧ σ 22 = .int .i64 x22 ∧ E0_0  m else False
  | .ret, σ, m => retQ Try.prog Try.f43 R .ret σ m
  | _, _, _ => False
theorem vl43_1111010 (w0 : World) (m : AM) (σ : Sg) (R : Value → AM → Prop)  (x0 : Option Addr) (x0n x0c : Nat) (x5 : Nat) (x21 : Option Addr) (x21n x21c : Nat) (x22 : Int) (x23 : Int) (I0 : Nat → Int → AM → Prop) (E0_0 : AM → Prop) (N : Nat) (h0 : σ 0 = .slice x0 x0n x0c) (h5 : σ 5 = .pointer (some ⟨x5, 0, none⟩)) (h21 : σ 21 = .slice x21 x21n x21c) (h22 : σ 22 = .int .i64 x22) (h23 : σ 23 = .int .i64 x23)
 (h_0 : I0 N x23 m)
 (h_s : ∀ (n0 : Nat) (σ : Sg) (x23 : Int) (m : AM), I0 n0 x23 m → (
 IntKind.i64 = IntKind.i64 ∧ (bcase (decide ((x23 : Int) < x22)) (
 ((0 : Int) ≤ x23 ∧ x23 < ((x21n : Nat) : Int)) ∧ nilO x21 fun a28 =>
 ∃ i29 : Int, m.cell (a28.add ((x23 : Int).toNat * 1)) = some (.int .i64 i29) ∧ 
 IntKind.i64 = IntKind.i64 ∧ (bcase (decide ((i29 : Int) < 0)) (
 IntKind.i64 = IntKind.i64 ∧ (.slice x0 x0n x0c : Value) = .slice x0 x0n x0c ∧ (.pointer (some ⟨x5, 0, none⟩) : Value) = .pointer (some ⟨x5, 0, none⟩) ∧ (.slice x21 x21n x21c : Value) = .slice x21 x21n x21c ∧ (.int .i64 x22 : Value) = .int .i64 x22 ∧ true = true ∧ ∃ n' : Nat, n' < n0 ∧ I0 n' (IntKind.wrap .i64 (x23 + 1)) m) (
 ((0 : Int) ≤ i29 ∧ i29 < ((x0n : Nat) : Int)) ∧ nilO x0 fun a30 =>
 ∃ i31 : Int, m.cell (a30.add ((i29 : Int).toNat * 5)) = some (.int .i64 i31) ∧ ∃ i32 : Int, m.cell ((a30.add ((i29 : Int).toNat * 5)).add 1) = some (.int .i64 i32) ∧ ∃ i33 : Int, m.cell ((a30.add ((i29 : Int).toNat * 5)).add 2) = some (.int .i64 i33) ∧ ∃ i34 : Int, m.cell ((a30.add ((i29 : Int).toNat * 5)).add 3) = some (.int .i64 i34) ∧ ∃ i35 : Int, m.cell ((a30.add ((i29 : Int).toNat * 5)).add 4) = some (.int .i64 i35) ∧ 
 CallsA Try.prog w0 21 #[.agg #[.int .i64 i31, .int .i64 i32, .int .i64 i33, .int .i64 i34, .int .i64 i35], .int .i64 i29] m fun r38 m39 =>
 ∃ i36 : Int, ∃ t37 : Bool, r38 = .tuple #[.int .i64 i36, .bool t37] ∧ (bcase (!t37) (
 IntKind.i64 = IntKind.i64 ∧ (.slice x0 x0n x0c : Value) = .slice x0 x0n x0c ∧ (.pointer (some ⟨x5, 0, none⟩) : Value) = .pointer (some ⟨x5, 0, none⟩) ∧ (.slice x21 x21n x21c : Value) = .slice x21 x21n x21c ∧ (.int .i64 x22 : Value) = .int .i64 x22 ∧ true = true ∧ ∃ n' : Nat, n' < n0 ∧ I0 n' (IntKind.wrap .i64 (x23 + 1)) m39) (
 ∃ (A42 : Option Addr) (n43 c44 : Nat), m39.cell ⟨x5, 0, none⟩ = some (.slice A42 n43 c44) ∧ 
 ((0 : Int) ≤ x23 ∧ x23 < ((n43 : Nat) : Int)) ∧ nilO A42 fun a45 =>
 ∃ i46 : Int, m39.cell (a45.add ((x23 : Int).toNat * 5)) = some (.int .i64 i46) ∧ ∃ i47 : Int, m39.cell ((a45.add ((x23 : Int).toNat * 5)).add 1) = some (.int .i64 i47) ∧ ∃ i48 : Int, m39.cell ((a45.add ((x23 : Int).toNat * 5)).add 2) = some (.int .i64 i48) ∧ ∃ i49 : Int, m39.cell ((a45.add ((x23 : Int).toNat * 5)).add 3) = some (.int .i64 i49) ∧ ∃ i50 : Int, m39.cell ((a45.add ((x23 : Int).toNat * 5)).add 4) = some (.int .i64 i50) ∧ 
 ∀ b51 : Nat, w0.heap.size ≤ b51 → m39 b51 = none → let m52 := AM.upd m39 b51 (.cells #[.int .i64 0, .int .i64 0, .int .i64 0, .int .i64 0, .int .i64 0] 24);
 StC w0.heap.size m52 ⟨b51, 0, none⟩ (.int .i64 i46) fun m53 =>
 StC w0.heap.size m53 ⟨b51, 1, none⟩ (.int .i64 i47) fun m54 =>
 StC w0.heap.size m54 ⟨b51, 2, none⟩ (.int .i64 i48) fun m55 =>
 StC w0.heap.size m55 ⟨b51, 3, none⟩ (.int .i64 i49) fun m56 =>
 StC w0.heap.size m56 ⟨b51, 4, none⟩ (.int .i64 i50) fun m57 =>
 ∃ r58 : Option Nat, m57.cell ⟨x5, 2, none⟩ = some (.map r58) ∧ 
 ∃ i59 : Int, rval Try.prog m57 (Instr.lookup 75 (.map r58) (.int .i64 i36) false) = some (.int .i64 i59) ∧
 StC w0.heap.size m57 ⟨b51, 4, none⟩ (.int .i64 i59) fun m60 =>
 ∃ i61 : Int, m60.cell ⟨b51, 0, none⟩ = some (.int .i64 i61) ∧ 
 IntKind.i64 = IntKind.i64 ∧ (bcase ((i61 : Int) == 15) (
 ((i61 : Int) == 15) = true ∧ ∃ i62 : Int, m60.cell ⟨b51, 4, none⟩ = some (.int .i64 i62) ∧ 
 IntKind.i64 = IntKind.i64 ∧ IntKind.i64 = IntKind.i64 ∧ StC w0.heap.size m60 ⟨b51, 4, none⟩ (.int .i64 (IntKind.wrap .i64 (i62 - (IntKind.wrap .i64 (x23 + 1))))) fun m63 =>
 vcS Try.prog w0 qs43 (sub c43 [1, 1, 1, 1, 0, 1, 0, 0, 1, 1, 0, 0, 1, 1, 1, 1, 1, 1, 1]) (upd (upd (upd (upd (upd (upd (upd (upd (upd (upd (upd (upd (upd (upd (upd (upd (upd (upd (upd (upd (upd (upd (upd (upd (upd (upd (upd (upd (upd (upd (upd (upd (upd (upd (upd (upd (upd (upd (upd (upd (upd (upd (upd (upd (upd (upd (upd (upd (upd (upd (upd σ 0 (.slice x0 x0n x0c)) 5 (.pointer (some ⟨x5, 0, none⟩))) 21 (.slice x21 x21n x21c)) 22 (.int .i64 x22)) 23 (.int .i64 x23)) 24 (.bool (decide ((x23 : Int) < x22)))) 25 (.int .i64 x23)) 26 (.pointer (some (a28.add ((x23 : Int).toNat * 1))))) 27 (.int .i64 i29)) 6 (.int .i64 x23)) 7 (.int .i64 i29)) 28 (.int .i64 i29)) 29 (.bool (decide ((i29 : Int) < 0)))) 31 (.slice x0 x0n x0c)) 32 (.int .i64 i29)) 33 (.pointer (some (a30.add ((i29 : Int).toNat * 5))))) 34 (.agg #[.int .i64 i31, .int .i64 i32, .int .i64 i33, .int .i64 i34, .int .i64 i35])) 35 (.int .i64 i29)) 36 (.tuple #[.int .i64 i36, .bool t37])) 30 (.tuple #[.int .i64 i36, .bool t37])) 37 (.int .i64 i36)) 38 (.bool t37)) 8 (.int .i64 i36)) 9 (.bool t37)) 39 (.bool t37)) 40 (.bool (!t37))) 41 (.pointer (some ⟨x5, 0, none⟩))) 42 (.slice A42 n43 c44)) 43 (.int .i64 x23)) 44 (.pointer (some (a45.add ((x23 : Int).toNat * 5))))) 45 (.agg #[.int .i64 i46, .int .i64 i47, .int .i64 i48, .int .i64 i49, .int .i64 i50])) 10 (.pointer (some ⟨b51, 0, none⟩))) 46 (.pointer (some ⟨x5, 2, none⟩))) 47 (.map r58)) 48 (.int .i64 i36)) 49 (.int .i64 i59)) 50 (.pointer (some ⟨b51, 4, none⟩))) 51 (.pointer (some ⟨b51, 0, none⟩))) 52 (.int .i64 i61)) 53 (.bool ((i61 : Int) == 15))) 54 (.bool ((i61 : Int) == 15))) 55 (undef)) 56 (undef)) 57 (undef)) 58 (.bool true)) 59 (.pointer (some ⟨b51, 4, none⟩))) 60 (.int .i64 i62)) 61 (.int .i64 x23)) 62 (.int .i64 (IntKind.wrap .i64 (x23 + 1)))) 63 (.int .i64 (IntKind.wrap .i64 (i62 - (IntKind.wrap .i64 (x23 + 1)))))) 64 (.pointer (some ⟨b51, 4, none⟩))) m63 (blockS 1 (thenS (fun σ m => vcS Try.prog w0 qs43 (sub c43 [1, 1, 1, 1, 0, 1, 0, 0, 1, 1, 1]) σ m (lq43_1111010 R x0 x0n x0c x5 x21 x21n x21c x22 I0 E0_0 n0)) (lq43_1111010 R x0 x0n x0c x5 x21 x21n x21c x22 I0 E0_0 n0)))) (
 ∃ i64 : Int, m60.cell ⟨b51, 0, none⟩ = some (.int .i64 i64) ∧ 
 IntKind.i64 = IntKind.i64 ∧ (bcase (bif (i61 : Int) == 15 then true else (i64 : Int) == 16) (
 ∃ i65 : Int, m60.cell ⟨b51, 4, none⟩ = some (.int .i64 i65) ∧ 
 IntKind.i64 = IntKind.i64 ∧ IntKind.i64 = IntKind.i64 ∧ StC w0.heap.size m60 ⟨b51, 4, none⟩ (.int .i64 (IntKind.wrap .i64 (i65 - (IntKind.wrap .i64 (x23 + 1))))) fun m66 =>
 vcS Try.prog w0 qs43 (sub c43 [1, 1, 1, 1, 0, 1, 0, 0, 1, 1, 0, 0, 1, 1, 1, 1, 1, 1, 1]) (upd (upd (upd (upd (upd (upd (upd (upd (upd (upd (upd (upd (upd (upd (upd (upd (upd (upd (upd (upd (upd (upd (upd (upd (upd (upd (upd (upd (upd (upd (upd (upd (upd (upd (upd (upd (upd (upd (upd (upd (upd (upd (upd (upd (upd (upd (upd (upd (upd (upd (upd σ 0 (.slice x0 x0n x0c)) 5 (.pointer (some ⟨x5, 0, none⟩))) 21 (.slice x21 x21n x21c)) 22 (.int .i64 x22)) 23 (.int .i64 x23)) 24 (.bool (decide ((x23 : Int) < x22)))) 25 (.int .i64 x23)) 26 (.pointer (some (a28.add ((x23 : Int).toNat * 1))))) 27 (.int .i64 i29)) 6 (.int .i64 x23)) 7 (.int .i64 i29)) 28 (.int .i64 i29)) 29 (.bool (decide ((i29 : Int) < 0)))) 31 (.slice x0 x0n x0c)) 32 (.int .i64 i29)) 33 (.pointer (some (a30.add ((i29 : Int).toNat * 5))))) 34 (.agg #[.int .i64 i31, .int .i64 i32, .int .i64 i33, .int .i64 i34, .int .i64 i35])) 35 (.int .i64 i29)) 36 (.tuple #[.int .i64 i36, .bool t37])) 30 (.tuple #[.int .i64 i36, .bool t37])) 37 (.int .i64 i36)) 38 (.bool t37)) 8 (.int .i64 i36)) 9 (.bool t37)) 39 (.bool t37)) 40 (.bool (!t37))) 41 (.pointer (some ⟨x5, 0, none⟩))) 42 (.slice A42 n43 c44)) 43 (.int .i64 x23)) 44 (.pointer (some (a45.add ((x23 : Int).toNat * 5))))) 45 (.agg #[.int .i64 i46, .int .i64 i47, .int .i64 i48, .int .i64 i49, .int .i64 i50])) 10 (.pointer (some ⟨b51, 0, none⟩))) 46 (.pointer (some ⟨x5, 2, none⟩))) 47 (.map r58)) 48 (.int .i64 i36)) 49 (.int .i64 i59)) 50 (.pointer (some ⟨b51, 4, none⟩))) 51 (.pointer (some ⟨b51, 0, none⟩))) 52 (.int .i64 i61)) 53 (.bool ((i61 : Int) == 15))) 54 (.bool ((i61 : Int) == 15))) 55 (.pointer (some ⟨b51, 0, none⟩))) 56 (.int .i64 i64)) 57 (.bool ((i64 : Int) == 16))) 58 (.bool (bif (i61 : Int) == 15 then true else (i64 : Int) == 16))) 59 (.pointer (some ⟨b51, 4, none⟩))) 60 (.int .i64 i65)) 61 (.int .i64 x23)) 62 (.int .i64 (IntKind.wrap .i64 (x23 + 1)))) 63 (.int .i64 (IntKind.wrap .i64 (i65 - (IntKind.wrap .i64 (x23 + 1)))))) 64 (.pointer (some ⟨b51, 4, none⟩))) m66 (blockS 1 (thenS (fun σ m => vcS Try.prog w0 qs43 (sub c43 [1, 1, 1, 1, 0, 1, 0, 0, 1, 1, 1]) σ m (lq43_1111010 R x0 x0n x0c x5 x21 x21n x21c x22 I0 E0_0 n0)) (lq43_1111010 R x0 x0n x0c x5 x21 x21n x21c x22 I0 E0_0 n0)))) (
 vcS Try.prog w0 qs43 (sub c43 [1, 1, 1, 1, 0, 1, 0, 0, 1, 1, 0, 0, 1, 1, 1, 1, 1, 1, 1]) (upd (upd (upd (upd (upd (upd (upd (upd (upd (upd (upd (upd (upd (upd (upd (upd (upd (upd (upd (upd (upd (upd (upd (upd (upd (upd (upd (upd (upd (upd (upd (upd (upd (upd (upd (upd (upd (upd (upd (upd (upd (upd (upd (upd (upd σ 0 (.slice x0 x0n x0c)) 5 (.pointer (some ⟨x5, 0, none⟩))) 21 (.slice x21 x21n x21c)) 22 (.int .i64 x22)) 23 (.int .i64 x23)) 24 (.bool (decide ((x23 : Int) < x22)))) 25 (.int .i64 x23)) 26 (.pointer (some (a28.add ((x23 : Int).toNat * 1))))) 27 (.int .i64 i29)) 6 (.int .i64 x23)) 7 (.int .i64 i29)) 28 (.int .i64 i29)) 29 (.bool (decide ((i29 : Int) < 0)))) 31 (.slice x0 x0n x0c)) 32 (.int .i64 i29)) 33 (.pointer (some (a30.add ((i29 : Int).toNat * 5))))) 34 (.agg #[.int .i64 i31, .int .i64 i32, .int .i64 i33, .int .i64 i34, .int .i64 i35])) 35 (.int .i64 i29)) 36 (.tuple #[.int .i64 i36, .bool t37])) 30 (.tuple #[.int .i64 i36, .bool t37])) 37 (.int .i64 i36)) 38 (.bool t37)) 8 (.int .i64 i36)) 9 (.bool t37)) 39 (.bool t37)) 40 (.bool (!t37))) 41 (.pointer (some ⟨x5, 0, none⟩))) 42 (.slice A42 n43 c44)) 43 (.int .i64 x23)) 44 (.pointer (some (a45.add ((x23 : Int).toNat * 5))))) 45 (.agg #[.int .i64 i46, .int .i64 i47, .int .i64 i48, .int .i64 i49, .int .i64 i50])) 10 (.pointer (some ⟨b51, 0, none⟩))) 46 (.pointer (some ⟨x5, 2, none⟩))) 47 (.map r58)) 48 (.int .i64 i36)) 49 (.int .i64 i59)) 50 (.pointer (some ⟨b51, 4, none⟩))) 51 (.pointer (some ⟨b51, 0, none⟩))) 52 (.int .i64 i61)) 53 (.bool ((i61 : Int) == 15))) 54 (.bool ((i61 : Int) == 15))) 55 (.pointer (some ⟨b51, 0, none⟩))) 56 (.int .i64 i64)) 57 (.bool ((i64 : Int) == 16))) 58 (.bool (bif (i61 : Int) == 15 then true else (i64 : Int) == 16))) m60 (blockS 1 (thenS (fun σ m => vcS Try.prog w0 qs43 (sub c43 [1, 1, 1, 1, 0, 1, 0, 0, 1, 1, 1]) σ m (lq43_1111010 R x0 x0n x0c x5 x21 x21n x21c x22 I0 E0_0 n0)) (lq43_1111010 R x0 x0n x0c x5 x21 x21n x21c x22 I0 E0_0 n0)))))))))))) (
 (.slice x0 x0n x0c : Value) = .slice x0 x0n x0c ∧ (.pointer (some ⟨x5, 0, none⟩) : Value) = .pointer (some ⟨x5, 0, none⟩) ∧ (.slice x21 x21n x21c : Value) = .slice x21 x21n x21c ∧ (.int .i64 x22 : Value) = .int .i64 x22 ∧ E0_0  m))))
 (h_e0 : ∀ (σ : Sg)  (m : AM), E0_0  m → (
 ∃ (A67 : Option Addr) (n68 c69 : Nat), m.cell ⟨x5, 0, none⟩ = some (.slice A67 n68 c69) ∧ 
 ∃ (A70 : Option Addr) (n71 c72 : Nat), m.cell ⟨x5, 1, none⟩ = some (.slice A70 n71 c72) ∧ 
 RetP R (.tuple #[.slice A67 n68 c69, .slice A70 n71 c72, .int .i64 0]) m)) :
 vcS Try.prog w0 qs43 (sub c43 [1, 1, 1, 1, 0, 1, 0]) σ m (blockS 0 (thenS (fun σ m => vcS Try.prog w0 qs43 (sub c43 [1, 1, 1, 1, 1]) σ m (retQ Try.prog Try.f43 R)) (retQ Try.prog Try.f43 R))) := by
  rw [show sub c43 [1, 1, 1, 1, 0, 1, 0] = .loop (sub c43 [1, 1, 1, 1, 0, 1, 0, 0]) from by kernel_rfl]
  refine loopQ (fun n0 σ m => σ 0 = .slice x0 x0n x0c ∧ σ 5 = .pointer (some ⟨x5, 0, none⟩) ∧ σ 21 = .slice x21 x21n x21c ∧ σ 22 = .int .i64 x22 ∧ okI .i64 (σ 23) = true ∧ I0 n0 (vI (σ 23)) m) N (fun n0 => (lq43_1111010 R x0 x0n x0c x5 x21 x21n x21c x22 I0 E0_0 n0)) ⟨h0, h5, h21, h22, (by rw [h23]; rfl), (by rw [h23]; exact h_0)⟩ ?_ ?_ ?_
  · rintro n0 σ m ⟨kk0, kk1, kk2, kk3, kk4, n', hlt, hI⟩; exact ⟨n', hlt, kk0, kk1, kk2, kk3, kk4, hI⟩
  · intro n0 e σ m hne h
    cases e with
    | normal => exact absurd rfl hne
    | ret => exact h
    | exit id =>
      by_cases e0 : id = 0
      · subst e0
        obtain ⟨kk0, kk1, kk2, kk3, hE⟩ := h
        have es : (upd (upd (upd (upd σ 0 (.slice x0 x0n x0c)) 5 (.pointer (some ⟨x5, 0, none⟩))) 21 (.slice x21 x21n x21c)) 22 (.int .i64 x22)) = σ := by rw [upd_id kk0, upd_id kk1, upd_id kk2, upd_id kk3]
        exact cast (congrArg (fun s => (blockS 0 (thenS (fun σ m => vcS Try.prog w0 qs43 (sub c43 [1, 1, 1, 1, 1]) σ m (retQ Try.prog Try.f43 R)) (retQ Try.prog Try.f43 R))) (.exit 0) s m) es) (cast (by kernel_rfl) (h_e0 σ  m hE))
      · replace h := (if_neg e0 : (if id = 0 then _ else _) = _).mp h
        exact False.elim h
    | _ => exact False.elim h
  · rintro n0 σ m ⟨kk0, kk1, kk2, kk3, kk4, hI⟩
    have es : (upd (upd (upd (upd (upd σ 0 (.slice x0 x0n x0c)) 5 (.pointer (some ⟨x5, 0, none⟩))) 21 (.slice x21 x21n x21c)) 22 (.int .i64 x22)) 23 (.int .i64 (vI (σ 23)))) = σ := by rw [upd_id kk0, upd_id kk1, upd_id kk2, upd_id kk3, upd_id (ok_int kk4)]
    exact cast (congrArg (fun s => vcS Try.prog w0 qs43 (sub c43 [1, 1, 1, 1, 0, 1, 0, 0]) s m (lq43_1111010 R x0 x0n x0c x5 x21 x21n x21c x22 I0 E0_0 n0)) es) (cast (by kernel_rfl) (h_s n0 σ (vI (σ 23)) m hI))
theorem vk43_1111010011001111111 (w0 : World) (m : AM) (σ : Sg) (R : Value → AM → Prop) (n0 : Nat) (I0 : Nat → Int → AM → Prop) (E0_0 : AM → Prop) (x0 : Option Addr) (x0n x0c : Nat) (x5 : Nat) (x6 : Int) (x10 : Nat) (x21 : Option Addr) (x21n x21c : Nat) (x22 : Int) (x23 : Int) (h0 : σ 0 = .slice x0 x0n x0c) (h5 : σ 5 = .pointer (some ⟨x5, 0, none⟩)) (h6 : σ 6 = .int .i64 x6) (h10 : σ 10 = .pointer (some ⟨x10, 0, none⟩)) (h21 : σ 21 = .slice x21 x21n x21c) (h22 : σ 22 = .int .i64 x22) (h23 : σ 23 = .int .i64 x23) (h :
 ∃ i73 : Int, m.cell ⟨x10, 0, none⟩ = some (.int .i64 i73) ∧ ∃ i74 : Int, m.cell ⟨x10, 1, none⟩ = some (.int .i64 i74) ∧ ∃ i75 : Int, m.cell ⟨x10, 2, none⟩ = some (.int .i64 i75) ∧ ∃ i76 : Int, m.cell ⟨x10, 3, none⟩ = some (.int .i64 i76) ∧ ∃ i77 : Int, m.cell ⟨x10, 4, none⟩ = some (.int .i64 i77) ∧ 
 CallsA Try.prog w0 45 #[.agg #[.int .i64 i73, .int .i64 i74, .int .i64 i75, .int .i64 i76, .int .i64 i77]] m fun r79 m80 =>
 ∃ t78 : Bool, r79 = .bool t78 ∧ (bcase (!t78) (
 RetP R (.tuple #[.slice none 0 0, .slice none 0 0, .int .i64 3]) m80) (
 ∃ (A81 : Option Addr) (n82 c83 : Nat), m80.cell ⟨x5, 0, none⟩ = some (.slice A81 n82 c83) ∧ 
 ∃ i84 : Int, m80.cell ⟨x10, 0, none⟩ = some (.int .i64 i84) ∧ ∃ i85 : Int, m80.cell ⟨x10, 1, none⟩ = some (.int .i64 i85) ∧ ∃ i86 : Int, m80.cell ⟨x10, 2, none⟩ = some (.int .i64 i86) ∧ ∃ i87 : Int, m80.cell ⟨x10, 3, none⟩ = some (.int .i64 i87) ∧ ∃ i88 : Int, m80.cell ⟨x10, 4, none⟩ = some (.int .i64 i88) ∧ 
 ((0 : Int) ≤ x6 ∧ x6 < ((n82 : Nat) : Int)) ∧ nilO A81 fun a89 =>
 StC w0.heap.size m80 (a89.add ((x6 : Int).toNat * 5)) (.int .i64 i84) fun m90 =>
 StC w0.heap.size m90 ((a89.add ((x6 : Int).toNat * 5)).add 1) (.int .i64 i85) fun m91 =>
 StC w0.heap.size m91 ((a89.add ((x6 : Int).toNat * 5)).add 2) (.int .i64 i86) fun m92 =>
 StC w0.heap.size m92 ((a89.add ((x6 : Int).toNat * 5)).add 3) (.int .i64 i87) fun m93 =>
 StC w0.heap.size m93 ((a89.add ((x6 : Int).toNat * 5)).add 4) (.int .i64 i88) fun m94 =>
 IntKind.i64 = IntKind.i64 ∧ (.slice x0 x0n x0c : Value) = .slice x0 x0n x0c ∧ (.pointer (some ⟨x5, 0, none⟩) : Value) = .pointer (some ⟨x5, 0, none⟩) ∧ (.slice x21 x21n x21c : Value) = .slice x21 x21n x21c ∧ (.int .i64 x22 : Value) = .int .i64 x22 ∧ true = true ∧ ∃ n' : Nat, n' < n0 ∧ I0 n' (IntKind.wrap .i64 (x23 + 1)) m94))) :
 vcS Try.prog w0 qs43 (sub c43 [1, 1, 1, 1, 0, 1, 0, 0, 1, 1, 0, 0, 1, 1, 1, 1, 1, 1, 1]) σ m (blockS 1 (thenS (fun σ m => vcS Try.prog w0 qs43 (sub c43 [1, 1, 1, 1, 0, 1, 0, 0, 1, 1, 1]) σ m (lq43_1111010 R x0 x0n x0c x5 x21 x21n x21c x22 I0 E0_0 n0)) (lq43_1111010 R x0 x0n x0c x5 x21 x21n x21c x22 I0 E0_0 n0))) := by
  have es0 : (upd (upd (upd (upd (upd (upd (upd σ 0 (.slice x0 x0n x0c)) 5 (.pointer (some ⟨x5, 0, none⟩))) 6 (.int .i64 x6)) 10 (.pointer (some ⟨x10, 0, none⟩))) 21 (.slice x21 x21n x21c)) 22 (.int .i64 x22)) 23 (.int .i64 x23)) = σ := by rw [upd_id h0, upd_id h5, upd_id h6, upd_id h10, upd_id h21, upd_id h22, upd_id h23]
  exact cast (congrArg (fun s => vcS Try.prog w0 qs43 (sub c43 [1, 1, 1, 1, 0, 1, 0, 0, 1, 1, 0, 0, 1, 1, 1, 1, 1, 1, 1]) s m (blockS 1 (thenS (fun σ m => vcS Try.prog w0 qs43 (sub c43 [1, 1, 1, 1, 0, 1, 0, 0, 1, 1, 1]) σ m (lq43_1111010 R x0 x0n x0c x5 x21 x21n x21c x22 I0 E0_0 n0)) (lq43_1111010 R x0 x0n x0c x5 x21 x21n x21c x22 I0 E0_0 n0)))) es0) (cast (by kernel_rfl) h)
end Go.Proofs.Ytkfemiloehkmhaa.V

