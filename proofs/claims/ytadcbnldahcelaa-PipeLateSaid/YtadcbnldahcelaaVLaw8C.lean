/- Ytadcbnldahcelaa: a text of our own, by an AI agent: VLaw8C -/
import Derived.Test.YtadcbnldahcelaaCore5
import Derived.Test.YtadcbnldahcelaaTabC
namespace Go.Proofs.Ytadcbnldahcelaa.V
open Go Go.Alog Go.Proofs.Ytadcbnldahcelaa.T
set_option linter.unusedVariables false
set_option maxRecDepth 100000

/-! 30 delayslot/delayslotlaw08.awake -/
def qs30 : Nat → List (Nat × Nat) := fun i => match i with | _ => []
noncomputable def c30 : Code := bodyOf Try.f30
theorem cf30 (w0 : World) (m : AM)  (R : Value → AM → Prop) (h :
 true = true ∧ true = true ∧ true = true ∧ true = true ∧ ∀ b1 : Nat, w0.heap.size ≤ b1 → m b1 = none → let m2 := AM.upd m b1 (.cells #[.int .i64 10, .int .i64 4, .int .i64 0, .int .i64 0, .int .i64 7, .int .i64 20, .int .i64 0, .int .i64 0, .int .i64 0, .int .i64 2, .int .i64 20, .int .i64 0, .int .i64 0, .int .i64 0, .int .i64 0] 34);
 CallsA Try.prog w0 31 #[.slice (some ⟨b1, 0, none⟩) 3 3, .int .i64 0, .slice none 0 0, .int .i64 20] m2 fun r11 m12 =>
 ∃ i3 : Int, ∃ i4 : Int, ∃ (A5 : Option Addr) (n6 c7 : Nat), ∃ (A8 : Option Addr) (n9 c10 : Nat), r11 = .agg #[.int .i64 i3, .int .i64 i4, .slice A5 n6 c7, .slice A8 n9 c10] ∧ ∀ b13 : Nat, w0.heap.size ≤ b13 → m12 b13 = none → let m14 := AM.upd m12 b13 (.cells #[.int .i64 0, .int .i64 0, .slice none 0 0, .slice none 0 0] 29);
 StC w0.heap.size m14 ⟨b13, 0, none⟩ (.int .i64 i3) fun m15 =>
 StC w0.heap.size m15 ⟨b13, 1, none⟩ (.int .i64 i4) fun m16 =>
 StC w0.heap.size m16 ⟨b13, 2, none⟩ (.slice A5 n6 c7) fun m17 =>
 StC w0.heap.size m17 ⟨b13, 3, none⟩ (.slice A8 n9 c10) fun m18 =>
 ∃ i19 : Int, m18.cell ⟨b13, 0, none⟩ = some (.int .i64 i19) ∧ 
 IntKind.i64 = IntKind.i64 ∧ (bcase ((i19 : Int) == 1) (
 ∃ i20 : Int, m18.cell ⟨b13, 1, none⟩ = some (.int .i64 i20) ∧ 
 IntKind.i64 = IntKind.i64 ∧ (bcase (bif (i19 : Int) == 1 then (i20 : Int) == 6 else false) (
 ∃ (A21 : Option Addr) (n22 c23 : Nat), m18.cell ⟨b13, 2, none⟩ = some (.slice A21 n22 c23) ∧ 
 IntKind.i64 = IntKind.i64 ∧ (bcase (bif bif (i19 : Int) == 1 then (i20 : Int) == 6 else false then (((n22 : Nat) : Int) : Int) == 1 else false) (
 ∃ (A24 : Option Addr) (n25 c26 : Nat), m18.cell ⟨b13, 2, none⟩ = some (.slice A24 n25 c26) ∧ 
 ((0 : Int) ≤ 0 ∧ 0 < ((n25 : Nat) : Int)) ∧ nilO A24 fun a27 =>
 ∃ i28 : Int, m18.cell (a27.add (0)) = some (.int .i64 i28) ∧ 
 IntKind.i64 = IntKind.i64 ∧ RetP R (.bool (bif bif bif (i19 : Int) == 1 then (i20 : Int) == 6 else false then (((n22 : Nat) : Int) : Int) == 1 else false then (i28 : Int) == 7 else false)) m18) (
 (bif bif (i19 : Int) == 1 then (i20 : Int) == 6 else false then (((n22 : Nat) : Int) : Int) == 1 else false) = false ∧ RetP R (.bool false) m18))) (
 (bif (i19 : Int) == 1 then (i20 : Int) == 6 else false) = false ∧ false = false ∧ RetP R (.bool false) m18))) (
 ((i19 : Int) == 1) = false ∧ false = false ∧ false = false ∧ RetP R (.bool false) m18))) : CallsA Try.prog w0 30 #[] m R :=
  callsA_of (c := c30) (args := []) (by kernel_rfl) Try.func30 (by kernel_rfl) qs30 (by kernel_rfl) (by kernel_rfl) (cast (by kernel_rfl) h)

/-! 29 delayslot/delayslotlaw08.small -/
def qs29 : Nat → List (Nat × Nat) := fun i => match i with | _ => []
noncomputable def c29 : Code := bodyOf Try.f29
theorem cf29 (w0 : World) (m : AM) (x0 : Option Addr) (x0n x0c : Nat) (x1 : Int) (x2 : Option Addr) (x2n x2c : Nat) (x3 : Int) (R : Value → AM → Prop) (h :
 IntKind.i64 = IntKind.i64 ∧ (bcase (decide ((((x0n : Nat) : Int) : Int) ≤ 200)) (
 IntKind.i64 = IntKind.i64 ∧ (bcase (decide ((x1 : Int) ≤ 300)) (
 (decide ((x1 : Int) ≤ 300)) = true ∧ (bcase (bif decide ((((x0n : Nat) : Int) : Int) ≤ 200) then true else false) (
 IntKind.i64 = IntKind.i64 ∧ (bcase (bif bif decide ((((x0n : Nat) : Int) : Int) ≤ 200) then true else false then decide ((((x2n : Nat) : Int) : Int) ≤ 100) else false) (
 IntKind.i64 = IntKind.i64 ∧ RetP R (.bool (bif bif bif decide ((((x0n : Nat) : Int) : Int) ≤ 200) then true else false then decide ((((x2n : Nat) : Int) : Int) ≤ 100) else false then decide ((x3 : Int) ≤ 2000) else false)) m) (
 (bif bif decide ((((x0n : Nat) : Int) : Int) ≤ 200) then true else false then decide ((((x2n : Nat) : Int) : Int) ≤ 100) else false) = false ∧ RetP R (.bool false) m))) (
 (bif decide ((((x0n : Nat) : Int) : Int) ≤ 200) then true else false) = false ∧ false = false ∧ RetP R (.bool false) m))) (
 IntKind.i64 = IntKind.i64 ∧ (bcase (bif decide ((((x0n : Nat) : Int) : Int) ≤ 200) then bif decide ((x1 : Int) ≤ 300) then true else decide ((x1 : Int) > 32000) else false) (
 IntKind.i64 = IntKind.i64 ∧ (bcase (bif bif decide ((((x0n : Nat) : Int) : Int) ≤ 200) then bif decide ((x1 : Int) ≤ 300) then true else decide ((x1 : Int) > 32000) else false then decide ((((x2n : Nat) : Int) : Int) ≤ 100) else false) (
 IntKind.i64 = IntKind.i64 ∧ RetP R (.bool (bif bif bif decide ((((x0n : Nat) : Int) : Int) ≤ 200) then bif decide ((x1 : Int) ≤ 300) then true else decide ((x1 : Int) > 32000) else false then decide ((((x2n : Nat) : Int) : Int) ≤ 100) else false then decide ((x3 : Int) ≤ 2000) else false)) m) (
 (bif bif decide ((((x0n : Nat) : Int) : Int) ≤ 200) then bif decide ((x1 : Int) ≤ 300) then true else decide ((x1 : Int) > 32000) else false then decide ((((x2n : Nat) : Int) : Int) ≤ 100) else false) = false ∧ RetP R (.bool false) m))) (
 (bif decide ((((x0n : Nat) : Int) : Int) ≤ 200) then bif decide ((x1 : Int) ≤ 300) then true else decide ((x1 : Int) > 32000) else false) = false ∧ false = false ∧ RetP R (.bool false) m))))) (
 (decide ((((x0n : Nat) : Int) : Int) ≤ 200)) = false ∧ false = false ∧ false = false ∧ RetP R (.bool false) m))) : CallsA Try.prog w0 29 #[.slice x0 x0n x0c, .int .i64 x1, .slice x2 x2n x2c, .int .i64 x3] m R :=
  callsA_of (c := c29) (args := [.slice x0 x0n x0c, .int .i64 x1, .slice x2 x2n x2c, .int .i64 x3]) (by kernel_rfl) Try.func29 (by kernel_rfl) qs29 (by kernel_rfl) (by kernel_rfl) (cast (by kernel_rfl) h)

/-! 13 delayslot/delayslotlaw08.PipeMore -/
def qs13 : Nat → List (Nat × Nat) := fun i => match i with | _ => []
noncomputable def c13 : Code := bodyOf Try.f13
theorem cf13 (w0 : World) (m : AM) (x0 : Option Addr) (x0n x0c : Nat) (x1 : Int) (x2 : Option Addr) (x2n x2c : Nat) (x3 : Int) (x4 : Int) (R : Value → AM → Prop) (h :
 CallsA Try.prog w0 29 #[.slice x0 x0n x0c, .int .i64 x1, .slice x2 x2n x2c, .int .i64 x3] m fun r2 m3 =>
 ∃ t1 : Bool, r2 = .bool t1 ∧ (bcase (!t1) (
 (!t1) = true ∧ true = true ∧ CallsA Try.prog w0 30 #[] m3 fun r5 m6 =>
 ∃ t4 : Bool, r5 = .bool t4 ∧ RetP R (.bool t4) m6) (
 CallsA Try.prog w0 29 #[.slice x0 x0n x0c, .int .i64 x1, .slice x2 x2n x2c, .int .i64 x4] m3 fun r8 m9 =>
 ∃ t7 : Bool, r8 = .bool t7 ∧ (bcase (bif !t1 then true else !t7) (
 (bif !t1 then true else !t7) = true ∧ CallsA Try.prog w0 30 #[] m9 fun r11 m12 =>
 ∃ t10 : Bool, r11 = .bool t10 ∧ RetP R (.bool t10) m12) (
 IntKind.i64 = IntKind.i64 ∧ (bcase (bif bif !t1 then true else !t7 then true else decide ((x3 : Int) > x4)) (
 CallsA Try.prog w0 30 #[] m9 fun r14 m15 =>
 ∃ t13 : Bool, r14 = .bool t13 ∧ RetP R (.bool t13) m15) (
 CallsA Try.prog w0 31 #[.slice x0 x0n x0c, .int .i64 x1, .slice x2 x2n x2c, .int .i64 x3] m9 fun r24 m25 =>
 ∃ i16 : Int, ∃ i17 : Int, ∃ (A18 : Option Addr) (n19 c20 : Nat), ∃ (A21 : Option Addr) (n22 c23 : Nat), r24 = .agg #[.int .i64 i16, .int .i64 i17, .slice A18 n19 c20, .slice A21 n22 c23] ∧ CallsA Try.prog w0 31 #[.slice x0 x0n x0c, .int .i64 x1, .slice x2 x2n x2c, .int .i64 x4] m25 fun r34 m35 =>
 ∃ i26 : Int, ∃ i27 : Int, ∃ (A28 : Option Addr) (n29 c30 : Nat), ∃ (A31 : Option Addr) (n32 c33 : Nat), r34 = .agg #[.int .i64 i26, .int .i64 i27, .slice A28 n29 c30, .slice A31 n32 c33] ∧ ∀ b36 : Nat, w0.heap.size ≤ b36 → m35 b36 = none → let m37 := AM.upd m35 b36 (.cells #[.int .i64 0, .int .i64 0, .slice none 0 0, .slice none 0 0] 29);
 ∀ b38 : Nat, w0.heap.size ≤ b38 → m37 b38 = none → let m39 := AM.upd m37 b38 (.cells #[.int .i64 0, .int .i64 0, .slice none 0 0, .slice none 0 0] 29);
 StC w0.heap.size m39 ⟨b36, 0, none⟩ (.int .i64 i16) fun m40 =>
 StC w0.heap.size m40 ⟨b36, 1, none⟩ (.int .i64 i17) fun m41 =>
 StC w0.heap.size m41 ⟨b36, 2, none⟩ (.slice A18 n19 c20) fun m42 =>
 StC w0.heap.size m42 ⟨b36, 3, none⟩ (.slice A21 n22 c23) fun m43 =>
 StC w0.heap.size m43 ⟨b38, 0, none⟩ (.int .i64 i26) fun m44 =>
 StC w0.heap.size m44 ⟨b38, 1, none⟩ (.int .i64 i27) fun m45 =>
 StC w0.heap.size m45 ⟨b38, 2, none⟩ (.slice A28 n29 c30) fun m46 =>
 StC w0.heap.size m46 ⟨b38, 3, none⟩ (.slice A31 n32 c33) fun m47 =>
 ∃ i48 : Int, m47.cell ⟨b36, 0, none⟩ = some (.int .i64 i48) ∧ 
 IntKind.i64 = IntKind.i64 ∧ (bcase ((i48 : Int) != 0) (
 ∃ i49 : Int, m47.cell ⟨b36, 0, none⟩ = some (.int .i64 i49) ∧ ∃ i50 : Int, m47.cell ⟨b36, 1, none⟩ = some (.int .i64 i50) ∧ ∃ (A51 : Option Addr) (n52 c53 : Nat), m47.cell ⟨b36, 2, none⟩ = some (.slice A51 n52 c53) ∧ ∃ (A54 : Option Addr) (n55 c56 : Nat), m47.cell ⟨b36, 3, none⟩ = some (.slice A54 n55 c56) ∧ 
 ∃ i57 : Int, m47.cell ⟨b38, 0, none⟩ = some (.int .i64 i57) ∧ ∃ i58 : Int, m47.cell ⟨b38, 1, none⟩ = some (.int .i64 i58) ∧ ∃ (A59 : Option Addr) (n60 c61 : Nat), m47.cell ⟨b38, 2, none⟩ = some (.slice A59 n60 c61) ∧ ∃ (A62 : Option Addr) (n63 c64 : Nat), m47.cell ⟨b38, 3, none⟩ = some (.slice A62 n63 c64) ∧ 
 CallsA Try.prog w0 22 #[.agg #[.int .i64 i49, .int .i64 i50, .slice A51 n52 c53, .slice A54 n55 c56], .agg #[.int .i64 i57, .int .i64 i58, .slice A59 n60 c61, .slice A62 n63 c64]] m47 fun r66 m67 =>
 ∃ t65 : Bool, r66 = .bool t65 ∧ (bcase t65 (
 CallsA Try.prog w0 30 #[] m67 fun r69 m70 =>
 ∃ t68 : Bool, r69 = .bool t68 ∧ RetP R (.bool (bif t65 then t68 else false)) m70) (
 t65 = false ∧ RetP R (.bool false) m67))) (
 ∃ (A71 : Option Addr) (n72 c73 : Nat), m47.cell ⟨b36, 2, none⟩ = some (.slice A71 n72 c73) ∧ 
 ∃ (A74 : Option Addr) (n75 c76 : Nat), m47.cell ⟨b38, 2, none⟩ = some (.slice A74 n75 c76) ∧ 
 IntKind.i64 = IntKind.i64 ∧ (bcase (decide ((((n72 : Nat) : Int) : Int) > ((n75 : Nat) : Int))) (
 RetP R (.bool false) m47) (
 ∃ (A77 : Option Addr) (n78 c79 : Nat), m47.cell ⟨b36, 2, none⟩ = some (.slice A77 n78 c79) ∧ 
 vcS Try.prog w0 qs13 (sub c13 [1, 1, 1, 1, 1, 0, 1, 0]) (upd (upd (upd (upd (upd (upd (upd (upd (upd (upd (upd (upd (upd (upd (upd (upd (upd (upd (upd (upd (upd (upd (upd (upd (upd (upd (upd (upd (upd (upd (upd (upd (upd (upd (upd (upd (upd (upd (upd (upd (upd (upd (upd (upd (upd (upd (argS [.slice x0 x0n x0c, .int .i64 x1, .slice x2 x2n x2c, .int .i64 x3, .int .i64 x4]) 10 (.bool false)) 14 (.slice x0 x0n x0c)) 15 (.int .i64 x1)) 16 (.slice x2 x2n x2c)) 17 (.int .i64 x3)) 18 (.bool t1)) 19 (.bool (!t1))) 20 (.bool (!t1))) 21 (.slice x0 x0n x0c)) 22 (.int .i64 x1)) 23 (.slice x2 x2n x2c)) 24 (.int .i64 x4)) 25 (.bool t7)) 26 (.bool (!t7))) 27 (.bool (bif !t1 then true else !t7))) 28 (.bool (bif !t1 then true else !t7))) 29 (.int .i64 x3)) 30 (.int .i64 x4)) 31 (.bool (decide ((x3 : Int) > x4)))) 32 (.bool (bif bif !t1 then true else !t7 then true else decide ((x3 : Int) > x4)))) 34 (.slice x0 x0n x0c)) 35 (.int .i64 x1)) 36 (.slice x2 x2n x2c)) 37 (.int .i64 x3)) 38 (.agg #[.int .i64 i16, .int .i64 i17, .slice A18 n19 c20, .slice A21 n22 c23])) 39 (.slice x0 x0n x0c)) 40 (.int .i64 x1)) 41 (.slice x2 x2n x2c)) 42 (.int .i64 x4)) 43 (.agg #[.int .i64 i26, .int .i64 i27, .slice A28 n29 c30, .slice A31 n32 c33])) 11 (.pointer (some ⟨b36, 0, none⟩))) 12 (.pointer (some ⟨b38, 0, none⟩))) 44 (.pointer (some ⟨b36, 0, none⟩))) 45 (.int .i64 i48)) 46 (.bool ((i48 : Int) != 0))) 53 (.pointer (some ⟨b36, 2, none⟩))) 54 (.slice A71 n72 c73)) 55 (.int .i64 ((n72 : Nat) : Int))) 56 (.pointer (some ⟨b38, 2, none⟩))) 57 (.slice A74 n75 c76)) 58 (.int .i64 ((n75 : Nat) : Int))) 59 (.bool (decide ((((n72 : Nat) : Int) : Int) > ((n75 : Nat) : Int))))) 60 (.pointer (some ⟨b36, 2, none⟩))) 61 (.slice A77 n78 c79)) 62 (.int .i64 ((n78 : Nat) : Int))) 63 (.int .i64 0)) m47 (blockS 0 (thenS (fun σ m => vcS Try.prog w0 qs13 (sub c13 [1, 1, 1, 1, 1, 1]) σ m (retQ Try.prog Try.f13 R)) (retQ Try.prog Try.f13 R)))))))))))))) : CallsA Try.prog w0 13 #[.slice x0 x0n x0c, .int .i64 x1, .slice x2 x2n x2c, .int .i64 x3, .int .i64 x4] m R :=
  callsA_of (c := c13) (args := [.slice x0 x0n x0c, .int .i64 x1, .slice x2 x2n x2c, .int .i64 x3, .int .i64 x4]) (by kernel_rfl) Try.func13 (by kernel_rfl) qs13 (by kernel_rfl) (by kernel_rfl) (cast (by kernel_rfl) h)
def lq13_11111010 (R : Value → AM → Prop) (x11 : Nat) (x12 : Nat) (x62 : Int) (I0 : Nat → Int → AM → Prop) (E0_0 : AM → Prop) (n0 : Nat) : Exit → Sg → AM → Prop
  | .normal, σ, m => σ 11 = .pointer (some ⟨x11, 0, none⟩) ∧ σ 12 = .pointer (some ⟨x12, 0, none⟩) ∧ σ 62 = .int .i64 x62 ∧ okI .i64 (σ 63) = true ∧ ∃ n' : Nat, n' < n0 ∧ I0 n' (vI (σ 63)) m
  | .exit id, σ, m => if id = 0 then σ 11 = .pointer (some ⟨x11, 0, none⟩) ∧ σ 12 = .pointer (some ⟨x12, 0, none⟩) ∧ σ 62 = .int .i64 x62 ∧ E0_0  m else False
  | .ret, σ, m => retQ Try.prog Try.f13 R .ret σ m
  | _, _, _ => False
theorem vl13_11111010 (w0 : World) (m : AM) (σ : Sg) (R : Value → AM → Prop)  (x11 : Nat) (x12 : Nat) (x62 : Int) (x63 : Int) (I0 : Nat → Int → AM → Prop) (E0_0 : AM → Prop) (N : Nat) (h11 : σ 11 = .pointer (some ⟨x11, 0, none⟩)) (h12 : σ 12 = .pointer (some ⟨x12, 0, none⟩)) (h62 : σ 62 = .int .i64 x62) (h63 : σ 63 = .int .i64 x63)
 (h_0 : I0 N x63 m)
 (h_s : ∀ (n0 : Nat) (σ : Sg) (x63 : Int) (m : AM), I0 n0 x63 m → (
 IntKind.i64 = IntKind.i64 ∧ (bcase (decide ((x63 : Int) < x62)) (
 ∃ (A80 : Option Addr) (n81 c82 : Nat), m.cell ⟨x11, 2, none⟩ = some (.slice A80 n81 c82) ∧ 
 ((0 : Int) ≤ x63 ∧ x63 < ((n81 : Nat) : Int)) ∧ nilO A80 fun a83 =>
 ∃ i84 : Int, m.cell (a83.add ((x63 : Int).toNat * 1)) = some (.int .i64 i84) ∧ 
 ∃ (A85 : Option Addr) (n86 c87 : Nat), m.cell ⟨x12, 2, none⟩ = some (.slice A85 n86 c87) ∧ 
 ((0 : Int) ≤ x63 ∧ x63 < ((n86 : Nat) : Int)) ∧ nilO A85 fun a88 =>
 ∃ i89 : Int, m.cell (a88.add ((x63 : Int).toNat * 1)) = some (.int .i64 i89) ∧ 
 IntKind.i64 = IntKind.i64 ∧ (bcase ((i84 : Int) != i89) (
 RetP R (.bool false) m) (
 IntKind.i64 = IntKind.i64 ∧ (.pointer (some ⟨x11, 0, none⟩) : Value) = .pointer (some ⟨x11, 0, none⟩) ∧ (.pointer (some ⟨x12, 0, none⟩) : Value) = .pointer (some ⟨x12, 0, none⟩) ∧ (.int .i64 x62 : Value) = .int .i64 x62 ∧ true = true ∧ ∃ n' : Nat, n' < n0 ∧ I0 n' (IntKind.wrap .i64 (x63 + 1)) m))) (
 (.pointer (some ⟨x11, 0, none⟩) : Value) = .pointer (some ⟨x11, 0, none⟩) ∧ (.pointer (some ⟨x12, 0, none⟩) : Value) = .pointer (some ⟨x12, 0, none⟩) ∧ (.int .i64 x62 : Value) = .int .i64 x62 ∧ E0_0  m))))
 (h_e0 : ∀ (σ : Sg)  (m : AM), E0_0  m → (
 CallsA Try.prog w0 30 #[] m fun r91 m92 =>
 ∃ t90 : Bool, r91 = .bool t90 ∧ RetP R (.bool t90) m92)) :
 vcS Try.prog w0 qs13 (sub c13 [1, 1, 1, 1, 1, 0, 1, 0]) σ m (blockS 0 (thenS (fun σ m => vcS Try.prog w0 qs13 (sub c13 [1, 1, 1, 1, 1, 1]) σ m (retQ Try.prog Try.f13 R)) (retQ Try.prog Try.f13 R))) := by
  rw [show sub c13 [1, 1, 1, 1, 1, 0, 1, 0] = .loop (sub c13 [1, 1, 1, 1, 1, 0, 1, 0, 0]) from by kernel_rfl]
  refine loopQ (fun n0 σ m => σ 11 = .pointer (some ⟨x11, 0, none⟩) ∧ σ 12 = .pointer (some ⟨x12, 0, none⟩) ∧ σ 62 = .int .i64 x62 ∧ okI .i64 (σ 63) = true ∧ I0 n0 (vI (σ 63)) m) N (fun n0 => (lq13_11111010 R x11 x12 x62 I0 E0_0 n0)) ⟨h11, h12, h62, (by rw [h63]; rfl), (by rw [h63]; exact h_0)⟩ ?_ ?_ ?_
  · rintro n0 σ m ⟨kk0, kk1, kk2, kk3, n', hlt, hI⟩; exact ⟨n', hlt, kk0, kk1, kk2, kk3, hI⟩
  · intro n0 e σ m hne h
    cases e with
    | normal => exact absurd rfl hne
    | ret => exact h
    | exit id =>
      by_cases e0 : id = 0
      · subst e0
        obtain ⟨kk0, kk1, kk2, hE⟩ := h
        have es : (upd (upd (upd σ 11 (.pointer (some ⟨x11, 0, none⟩))) 12 (.pointer (some ⟨x12, 0, none⟩))) 62 (.int .i64 x62)) = σ := by rw [upd_id kk0, upd_id kk1, upd_id kk2]
        exact cast (congrArg (fun s => (blockS 0 (thenS (fun σ m => vcS Try.prog w0 qs13 (sub c13 [1, 1, 1, 1, 1, 1]) σ m (retQ Try.prog Try.f13 R)) (retQ Try.prog Try.f13 R))) (.exit 0) s m) es) (cast (by kernel_rfl) (h_e0 σ  m hE))
      · replace h := (if_neg e0 : (if id = 0 then _ else _) = _).mp h
        exact False.elim h
    | _ => exact False.elim h
  · rintro n0 σ m ⟨kk0, kk1, kk2, kk3, hI⟩
    have es : (upd (upd (upd (upd σ 11 (.pointer (some ⟨x11, 0, none⟩))) 12 (.pointer (some ⟨x12, 0, none⟩))) 62 (.int .i64 x62)) 63 (.int .i64 (vI (σ 63)))) = σ := by rw [upd_id kk0, upd_id kk1, upd_id kk2, upd_id (ok_int kk3)]
    exact cast (congrArg (fun s => vcS Try.prog w0 qs13 (sub c13 [1, 1, 1, 1, 1, 0, 1, 0, 0]) s m (lq13_11111010 R x11 x12 x62 I0 E0_0 n0)) es) (cast (by kernel_rfl) (h_s n0 σ (vI (σ 63)) m hI))

/-! 14 delayslot/delayslotlaw08.PipeRoom -/
def qs14 : Nat → List (Nat × Nat) := fun i => match i with | _ => []
noncomputable def c14 : Code := bodyOf Try.f14
theorem cf14 (w0 : World) (m : AM) (x0 : Option Addr) (x0n x0c : Nat) (x1 : Int) (x2 : Option Addr) (x2n x2c : Nat) (x3 : Option Addr) (x3n x3c : Nat) (x4 : Int) (x5 : Int) (R : Value → AM → Prop) (h :
 CallsA Try.prog w0 29 #[.slice x0 x0n x0c, .int .i64 x1, .slice x2 x2n x2c, .int .i64 x4] m fun r2 m3 =>
 ∃ t1 : Bool, r2 = .bool t1 ∧ (bcase (!t1) (
 (!t1) = true ∧ true = true ∧ true = true ∧ CallsA Try.prog w0 30 #[] m3 fun r5 m6 =>
 ∃ t4 : Bool, r5 = .bool t4 ∧ RetP R (.bool t4) m6) (
 IntKind.i64 = IntKind.i64 ∧ (bcase (bif !t1 then true else decide ((x1 : Int) < 0)) (
 (bif !t1 then true else decide ((x1 : Int) < 0)) = true ∧ true = true ∧ CallsA Try.prog w0 30 #[] m3 fun r8 m9 =>
 ∃ t7 : Bool, r8 = .bool t7 ∧ RetP R (.bool t7) m9) (
 IntKind.i64 = IntKind.i64 ∧ (bcase (bif bif !t1 then true else decide ((x1 : Int) < 0) then true else decide ((x1 : Int) > 300)) (
 (bif bif !t1 then true else decide ((x1 : Int) < 0) then true else decide ((x1 : Int) > 300)) = true ∧ CallsA Try.prog w0 30 #[] m3 fun r11 m12 =>
 ∃ t10 : Bool, r11 = .bool t10 ∧ RetP R (.bool t10) m12) (
 IntKind.i64 = IntKind.i64 ∧ (bcase (bif bif bif !t1 then true else decide ((x1 : Int) < 0) then true else decide ((x1 : Int) > 300) then true else decide ((((x3n : Nat) : Int) : Int) > 100)) (
 CallsA Try.prog w0 30 #[] m3 fun r14 m15 =>
 ∃ t13 : Bool, r14 = .bool t13 ∧ RetP R (.bool t13) m15) (
 CallsA Try.prog w0 31 #[.slice x0 x0n x0c, .int .i64 x1, .slice x2 x2n x2c, .int .i64 x4] m3 fun r24 m25 =>
 ∃ i16 : Int, ∃ i17 : Int, ∃ (A18 : Option Addr) (n19 c20 : Nat), ∃ (A21 : Option Addr) (n22 c23 : Nat), r24 = .agg #[.int .i64 i16, .int .i64 i17, .slice A18 n19 c20, .slice A21 n22 c23] ∧ ∀ b26 : Nat, w0.heap.size ≤ b26 → m25 b26 = none → let m27 := AM.upd m25 b26 (.cells #[.int .i64 0, .int .i64 0, .slice none 0 0, .slice none 0 0] 29);
 StC w0.heap.size m27 ⟨b26, 0, none⟩ (.int .i64 i16) fun m28 =>
 StC w0.heap.size m28 ⟨b26, 1, none⟩ (.int .i64 i17) fun m29 =>
 StC w0.heap.size m29 ⟨b26, 2, none⟩ (.slice A18 n19 c20) fun m30 =>
 StC w0.heap.size m30 ⟨b26, 3, none⟩ (.slice A21 n22 c23) fun m31 =>
 IntKind.u16 = IntKind.u16 ∧ (300 : Int) ≠ 0 ∧ IntKind.i64 = IntKind.i64 ∧ CallsA Try.prog w0 31 #[.slice x0 x0n x0c, .int .i64 (IntKind.wrap .i64 (x1 + (IntKind.wrap .i64 (Int.tmod x5 300)))), .slice x2 x2n x2c, .int .i64 x4] m31 fun r40 m41 =>
 ∃ i32 : Int, ∃ i33 : Int, ∃ (A34 : Option Addr) (n35 c36 : Nat), ∃ (A37 : Option Addr) (n38 c39 : Nat), r40 = .agg #[.int .i64 i32, .int .i64 i33, .slice A34 n35 c36, .slice A37 n38 c39] ∧ ∀ b42 : Nat, w0.heap.size ≤ b42 → m41 b42 = none → let m43 := AM.upd m41 b42 (.cells #[.int .i64 0, .int .i64 0, .slice none 0 0, .slice none 0 0] 29);
 StC w0.heap.size m43 ⟨b42, 0, none⟩ (.int .i64 i32) fun m44 =>
 StC w0.heap.size m44 ⟨b42, 1, none⟩ (.int .i64 i33) fun m45 =>
 StC w0.heap.size m45 ⟨b42, 2, none⟩ (.slice A34 n35 c36) fun m46 =>
 StC w0.heap.size m46 ⟨b42, 3, none⟩ (.slice A37 n38 c39) fun m47 =>
 true = true ∧ ∀ b48 : Nat, w0.heap.size ≤ b48 → m47 b48 = none → let m49 := AM.upd m47 b48 (.cells #[] 3);
 awp Try.prog w0.heap.size (Builtin.append_ #[23, 23] 23 #[.slice (some ⟨b48, 0, none⟩) 0 0, .slice x2 x2n x2c]) m49 fun v50 m51 =>
 ∃ (A52 : Option Addr) (n53 c54 : Nat), v50 = .slice A52 n53 c54 ∧ awp Try.prog w0.heap.size (Builtin.append_ #[23, 23] 23 #[.slice A52 n53 c54, .slice x3 x3n x3c]) m51 fun v55 m56 =>
 ∃ (A57 : Option Addr) (n58 c59 : Nat), v55 = .slice A57 n58 c59 ∧ CallsA Try.prog w0 31 #[.slice x0 x0n x0c, .int .i64 x1, .slice A57 n58 c59, .int .i64 x4] m56 fun r68 m69 =>
 ∃ i60 : Int, ∃ i61 : Int, ∃ (A62 : Option Addr) (n63 c64 : Nat), ∃ (A65 : Option Addr) (n66 c67 : Nat), r68 = .agg #[.int .i64 i60, .int .i64 i61, .slice A62 n63 c64, .slice A65 n66 c67] ∧ ∀ b70 : Nat, w0.heap.size ≤ b70 → m69 b70 = none → let m71 := AM.upd m69 b70 (.cells #[.int .i64 0, .int .i64 0, .slice none 0 0, .slice none 0 0] 29);
 StC w0.heap.size m71 ⟨b70, 0, none⟩ (.int .i64 i60) fun m72 =>
 StC w0.heap.size m72 ⟨b70, 1, none⟩ (.int .i64 i61) fun m73 =>
 StC w0.heap.size m73 ⟨b70, 2, none⟩ (.slice A62 n63 c64) fun m74 =>
 StC w0.heap.size m74 ⟨b70, 3, none⟩ (.slice A65 n66 c67) fun m75 =>
 ∃ i76 : Int, m75.cell ⟨b26, 0, none⟩ = some (.int .i64 i76) ∧ ∃ i77 : Int, m75.cell ⟨b26, 1, none⟩ = some (.int .i64 i77) ∧ ∃ (A78 : Option Addr) (n79 c80 : Nat), m75.cell ⟨b26, 2, none⟩ = some (.slice A78 n79 c80) ∧ ∃ (A81 : Option Addr) (n82 c83 : Nat), m75.cell ⟨b26, 3, none⟩ = some (.slice A81 n82 c83) ∧ 
 ∀ b84 : Nat, w0.heap.size ≤ b84 → m75 b84 = none → let m85 := AM.upd m75 b84 (.cells #[.int .i64 0, .int .i64 0, .slice none 0 0, .slice none 0 0] 28);
 StC w0.heap.size m85 ⟨b84, 0, none⟩ (.int .i64 i76) fun m86 =>
 StC w0.heap.size m86 ⟨b84, 1, none⟩ (.int .i64 i77) fun m87 =>
 StC w0.heap.size m87 ⟨b84, 2, none⟩ (.slice A78 n79 c80) fun m88 =>
 StC w0.heap.size m88 ⟨b84, 3, none⟩ (.slice A81 n82 c83) fun m89 =>
 ∃ i90 : Int, m89.cell ⟨b26, 0, none⟩ = some (.int .i64 i90) ∧ 
 IntKind.i64 = IntKind.i64 ∧ (bcase ((i90 : Int) == 3) (
 ((i90 : Int) == 3) = true ∧ ∃ i91 : Int, m89.cell ⟨b26, 0, none⟩ = some (.int .i64 i91) ∧ 
 IntKind.i64 = IntKind.i64 ∧ (bcase ((i91 : Int) == 6) (
 ((i91 : Int) == 6) = true ∧ (bcase (bif true then true else false) (
 CallsA Try.prog w0 30 #[] m89 fun r93 m94 =>
 ∃ t92 : Bool, r93 = .bool t92 ∧ RetP R (.bool (bif bif true then true else false then t92 else false)) m94) (
 (bif true then true else false) = false ∧ RetP R (.bool false) m89))) (
 ∃ i95 : Int, m89.cell ⟨b84, 0, none⟩ = some (.int .i64 i95) ∧ ∃ i96 : Int, m89.cell ⟨b84, 1, none⟩ = some (.int .i64 i96) ∧ ∃ (A97 : Option Addr) (n98 c99 : Nat), m89.cell ⟨b84, 2, none⟩ = some (.slice A97 n98 c99) ∧ ∃ (A100 : Option Addr) (n101 c102 : Nat), m89.cell ⟨b84, 3, none⟩ = some (.slice A100 n101 c102) ∧ 
 ∃ i103 : Int, m89.cell ⟨b70, 0, none⟩ = some (.int .i64 i103) ∧ ∃ i104 : Int, m89.cell ⟨b70, 1, none⟩ = some (.int .i64 i104) ∧ ∃ (A105 : Option Addr) (n106 c107 : Nat), m89.cell ⟨b70, 2, none⟩ = some (.slice A105 n106 c107) ∧ ∃ (A108 : Option Addr) (n109 c110 : Nat), m89.cell ⟨b70, 3, none⟩ = some (.slice A108 n109 c110) ∧ 
 CallsA Try.prog w0 22 #[.agg #[.int .i64 i95, .int .i64 i96, .slice A97 n98 c99, .slice A100 n101 c102], .agg #[.int .i64 i103, .int .i64 i104, .slice A105 n106 c107, .slice A108 n109 c110]] m89 fun r112 m113 =>
 ∃ t111 : Bool, r112 = .bool t111 ∧ (bcase (bif true then bif (i91 : Int) == 6 then true else t111 else false) (
 CallsA Try.prog w0 30 #[] m113 fun r115 m116 =>
 ∃ t114 : Bool, r115 = .bool t114 ∧ RetP R (.bool (bif bif true then bif (i91 : Int) == 6 then true else t111 else false then t114 else false)) m116) (
 (bif true then bif (i91 : Int) == 6 then true else t111 else false) = false ∧ RetP R (.bool false) m113))))) (
 ∃ i117 : Int, m89.cell ⟨b84, 0, none⟩ = some (.int .i64 i117) ∧ ∃ i118 : Int, m89.cell ⟨b84, 1, none⟩ = some (.int .i64 i118) ∧ ∃ (A119 : Option Addr) (n120 c121 : Nat), m89.cell ⟨b84, 2, none⟩ = some (.slice A119 n120 c121) ∧ ∃ (A122 : Option Addr) (n123 c124 : Nat), m89.cell ⟨b84, 3, none⟩ = some (.slice A122 n123 c124) ∧ 
 ∃ i125 : Int, m89.cell ⟨b42, 0, none⟩ = some (.int .i64 i125) ∧ ∃ i126 : Int, m89.cell ⟨b42, 1, none⟩ = some (.int .i64 i126) ∧ ∃ (A127 : Option Addr) (n128 c129 : Nat), m89.cell ⟨b42, 2, none⟩ = some (.slice A127 n128 c129) ∧ ∃ (A130 : Option Addr) (n131 c132 : Nat), m89.cell ⟨b42, 3, none⟩ = some (.slice A130 n131 c132) ∧ 
 CallsA Try.prog w0 22 #[.agg #[.int .i64 i117, .int .i64 i118, .slice A119 n120 c121, .slice A122 n123 c124], .agg #[.int .i64 i125, .int .i64 i126, .slice A127 n128 c129, .slice A130 n131 c132]] m89 fun r134 m135 =>
 ∃ t133 : Bool, r134 = .bool t133 ∧ (bcase (bif (i90 : Int) == 3 then true else t133) (
 ∃ i136 : Int, m135.cell ⟨b26, 0, none⟩ = some (.int .i64 i136) ∧ 
 IntKind.i64 = IntKind.i64 ∧ (bcase ((i136 : Int) == 6) (
 ((i136 : Int) == 6) = true ∧ (bcase (bif bif (i90 : Int) == 3 then true else t133 then true else false) (
 CallsA Try.prog w0 30 #[] m135 fun r138 m139 =>
 ∃ t137 : Bool, r138 = .bool t137 ∧ RetP R (.bool (bif bif bif (i90 : Int) == 3 then true else t133 then true else false then t137 else false)) m139) (
 (bif bif (i90 : Int) == 3 then true else t133 then true else false) = false ∧ RetP R (.bool false) m135))) (
 ∃ i140 : Int, m135.cell ⟨b84, 0, none⟩ = some (.int .i64 i140) ∧ ∃ i141 : Int, m135.cell ⟨b84, 1, none⟩ = some (.int .i64 i141) ∧ ∃ (A142 : Option Addr) (n143 c144 : Nat), m135.cell ⟨b84, 2, none⟩ = some (.slice A142 n143 c144) ∧ ∃ (A145 : Option Addr) (n146 c147 : Nat), m135.cell ⟨b84, 3, none⟩ = some (.slice A145 n146 c147) ∧ 
 ∃ i148 : Int, m135.cell ⟨b70, 0, none⟩ = some (.int .i64 i148) ∧ ∃ i149 : Int, m135.cell ⟨b70, 1, none⟩ = some (.int .i64 i149) ∧ ∃ (A150 : Option Addr) (n151 c152 : Nat), m135.cell ⟨b70, 2, none⟩ = some (.slice A150 n151 c152) ∧ ∃ (A153 : Option Addr) (n154 c155 : Nat), m135.cell ⟨b70, 3, none⟩ = some (.slice A153 n154 c155) ∧ 
 CallsA Try.prog w0 22 #[.agg #[.int .i64 i140, .int .i64 i141, .slice A142 n143 c144, .slice A145 n146 c147], .agg #[.int .i64 i148, .int .i64 i149, .slice A150 n151 c152, .slice A153 n154 c155]] m135 fun r157 m158 =>
 ∃ t156 : Bool, r157 = .bool t156 ∧ (bcase (bif bif (i90 : Int) == 3 then true else t133 then bif (i136 : Int) == 6 then true else t156 else false) (
 CallsA Try.prog w0 30 #[] m158 fun r160 m161 =>
 ∃ t159 : Bool, r160 = .bool t159 ∧ RetP R (.bool (bif bif bif (i90 : Int) == 3 then true else t133 then bif (i136 : Int) == 6 then true else t156 else false then t159 else false)) m161) (
 (bif bif (i90 : Int) == 3 then true else t133 then bif (i136 : Int) == 6 then true else t156 else false) = false ∧ RetP R (.bool false) m158))))) (
 (bif (i90 : Int) == 3 then true else t133) = false ∧ false = false ∧ RetP R (.bool false) m135))))))))))))) : CallsA Try.prog w0 14 #[.slice x0 x0n x0c, .int .i64 x1, .slice x2 x2n x2c, .slice x3 x3n x3c, .int .i64 x4, .int .u16 x5] m R :=
  callsA_of (c := c14) (args := [.slice x0 x0n x0c, .int .i64 x1, .slice x2 x2n x2c, .slice x3 x3n x3c, .int .i64 x4, .int .u16 x5]) (by kernel_rfl) Try.func14 (by kernel_rfl) qs14 (by kernel_rfl) (by kernel_rfl) (cast (by kernel_rfl) h)

/-! 15 delayslot/delayslotlaw08.PipeFour -/
def qs15 : Nat → List (Nat × Nat) := fun i => match i with | _ => []
noncomputable def c15 : Code := bodyOf Try.f15
theorem cf15 (w0 : World) (m : AM) (x0 : Option Addr) (x0n x0c : Nat) (x1 : Int) (x2 : Option Addr) (x2n x2c : Nat) (x3 : Int) (R : Value → AM → Prop) (h :
 CallsA Try.prog w0 29 #[.slice x0 x0n x0c, .int .i64 x1, .slice x2 x2n x2c, .int .i64 x3] m fun r2 m3 =>
 ∃ t1 : Bool, r2 = .bool t1 ∧ (bcase (!t1) (
 (!t1) = true ∧ true = true ∧ CallsA Try.prog w0 30 #[] m3 fun r5 m6 =>
 ∃ t4 : Bool, r5 = .bool t4 ∧ RetP R (.bool t4) m6) (
 IntKind.i64 = IntKind.i64 ∧ (bcase (bif !t1 then true else decide ((x1 : Int) < 0)) (
 (bif !t1 then true else decide ((x1 : Int) < 0)) = true ∧ CallsA Try.prog w0 30 #[] m3 fun r8 m9 =>
 ∃ t7 : Bool, r8 = .bool t7 ∧ RetP R (.bool t7) m9) (
 IntKind.i64 = IntKind.i64 ∧ (bcase (bif bif !t1 then true else decide ((x1 : Int) < 0) then true else decide ((x1 : Int) > 300)) (
 CallsA Try.prog w0 30 #[] m3 fun r11 m12 =>
 ∃ t10 : Bool, r11 = .bool t10 ∧ RetP R (.bool t10) m12) (
 IntKind.i64 = IntKind.i64 ∧ CallsA Try.prog w0 31 #[.slice x0 x0n x0c, .int .i64 x1, .slice x2 x2n x2c, .int .i64 (if (3 : Int) < x3 then 3 else x3)] m3 fun r21 m22 =>
 ∃ i13 : Int, ∃ i14 : Int, ∃ (A15 : Option Addr) (n16 c17 : Nat), ∃ (A18 : Option Addr) (n19 c20 : Nat), r21 = .agg #[.int .i64 i13, .int .i64 i14, .slice A15 n16 c17, .slice A18 n19 c20] ∧ CallsA Try.prog w0 31 #[.slice x0 x0n x0c, .int .i64 x1, .slice x2 x2n x2c, .int .i64 x3] m22 fun r31 m32 =>
 ∃ i23 : Int, ∃ i24 : Int, ∃ (A25 : Option Addr) (n26 c27 : Nat), ∃ (A28 : Option Addr) (n29 c30 : Nat), r31 = .agg #[.int .i64 i23, .int .i64 i24, .slice A25 n26 c27, .slice A28 n29 c30] ∧ ∀ b33 : Nat, w0.heap.size ≤ b33 → m32 b33 = none → let m34 := AM.upd m32 b33 (.cells #[.int .i64 0, .int .i64 0, .slice none 0 0, .slice none 0 0] 29);
 ∀ b35 : Nat, w0.heap.size ≤ b35 → m34 b35 = none → let m36 := AM.upd m34 b35 (.cells #[.int .i64 0, .int .i64 0, .slice none 0 0, .slice none 0 0] 29);
 StC w0.heap.size m36 ⟨b33, 0, none⟩ (.int .i64 i13) fun m37 =>
 StC w0.heap.size m37 ⟨b33, 1, none⟩ (.int .i64 i14) fun m38 =>
 StC w0.heap.size m38 ⟨b33, 2, none⟩ (.slice A15 n16 c17) fun m39 =>
 StC w0.heap.size m39 ⟨b33, 3, none⟩ (.slice A18 n19 c20) fun m40 =>
 StC w0.heap.size m40 ⟨b35, 0, none⟩ (.int .i64 i23) fun m41 =>
 StC w0.heap.size m41 ⟨b35, 1, none⟩ (.int .i64 i24) fun m42 =>
 StC w0.heap.size m42 ⟨b35, 2, none⟩ (.slice A25 n26 c27) fun m43 =>
 StC w0.heap.size m43 ⟨b35, 3, none⟩ (.slice A28 n29 c30) fun m44 =>
 ∃ i45 : Int, m44.cell ⟨b33, 0, none⟩ = some (.int .i64 i45) ∧ 
 IntKind.i64 = IntKind.i64 ∧ (bcase ((i45 : Int) != 0) (
 ((i45 : Int) != 0) = true ∧ true = true ∧ RetP R (.bool false) m44) (
 ∃ (A46 : Option Addr) (n47 c48 : Nat), m44.cell ⟨b33, 2, none⟩ = some (.slice A46 n47 c48) ∧ 
 ∃ (A49 : Option Addr) (n50 c51 : Nat), m44.cell ⟨b33, 3, none⟩ = some (.slice A49 n50 c51) ∧ 
 IntKind.i64 = IntKind.i64 ∧ IntKind.i64 = IntKind.i64 ∧ (bcase (bif (i45 : Int) != 0 then true else decide (((IntKind.wrap .i64 (((n47 : Nat) : Int) + ((n50 : Nat) : Int))) : Int) > 0)) (
 (bif (i45 : Int) != 0 then true else decide (((IntKind.wrap .i64 (((n47 : Nat) : Int) + ((n50 : Nat) : Int))) : Int) > 0)) = true ∧ RetP R (.bool false) m44) (
 ∃ i52 : Int, m44.cell ⟨b33, 1, none⟩ = some (.int .i64 i52) ∧ 
 IntKind.i64 = IntKind.i64 ∧ IntKind.i64 = IntKind.i64 ∧ IntKind.i64 = IntKind.i64 ∧ (bcase (bif bif (i45 : Int) != 0 then true else decide (((IntKind.wrap .i64 (((n47 : Nat) : Int) + ((n50 : Nat) : Int))) : Int) > 0) then true else (i52 : Int) != (if (0 : Int) > (if (3 : Int) < x3 then 3 else x3) then 0 else if (3 : Int) < x3 then 3 else x3)) (
 RetP R (.bool false) m44) (
 ∃ i53 : Int, m44.cell ⟨b35, 0, none⟩ = some (.int .i64 i53) ∧ 
 IntKind.i64 = IntKind.i64 ∧ (bcase ((i53 : Int) == 0) (
 ∃ i54 : Int, m44.cell ⟨b35, 1, none⟩ = some (.int .i64 i54) ∧ 
 IntKind.i64 = IntKind.i64 ∧ IntKind.i64 = IntKind.i64 ∧ (bcase (bif (i53 : Int) == 0 then (i54 : Int) == (if (0 : Int) > x3 then 0 else x3) else false) (
 (bif (i53 : Int) == 0 then (i54 : Int) == (if (0 : Int) > x3 then 0 else x3) else false) = true ∧ CallsA Try.prog w0 30 #[] m44 fun r56 m57 =>
 ∃ t55 : Bool, r56 = .bool t55 ∧ RetP R (.bool (bif true then t55 else false)) m57) (
 ∃ i58 : Int, m44.cell ⟨b35, 0, none⟩ = some (.int .i64 i58) ∧ 
 IntKind.i64 = IntKind.i64 ∧ (bcase ((i58 : Int) != 0) (
 ∃ i59 : Int, m44.cell ⟨b35, 1, none⟩ = some (.int .i64 i59) ∧ 
 IntKind.i64 = IntKind.i64 ∧ (bcase (bif (i58 : Int) != 0 then decide ((i59 : Int) ≥ 4) else false) (
 ∃ i60 : Int, m44.cell ⟨b35, 1, none⟩ = some (.int .i64 i60) ∧ 
 IntKind.i64 = IntKind.i64 ∧ (bcase (bif bif (i53 : Int) == 0 then (i54 : Int) == (if (0 : Int) > x3 then 0 else x3) else false then true else bif bif (i58 : Int) != 0 then decide ((i59 : Int) ≥ 4) else false then decide ((i60 : Int) ≤ x3) else false) (
 CallsA Try.prog w0 30 #[] m44 fun r62 m63 =>
 ∃ t61 : Bool, r62 = .bool t61 ∧ RetP R (.bool (bif bif bif (i53 : Int) == 0 then (i54 : Int) == (if (0 : Int) > x3 then 0 else x3) else false then true else bif bif (i58 : Int) != 0 then decide ((i59 : Int) ≥ 4) else false then decide ((i60 : Int) ≤ x3) else false then t61 else false)) m63) (
 (bif bif (i53 : Int) == 0 then (i54 : Int) == (if (0 : Int) > x3 then 0 else x3) else false then true else bif bif (i58 : Int) != 0 then decide ((i59 : Int) ≥ 4) else false then decide ((i60 : Int) ≤ x3) else false) = false ∧ RetP R (.bool false) m44))) (
 (bif (i58 : Int) != 0 then decide ((i59 : Int) ≥ 4) else false) = false ∧ (bcase (bif bif (i53 : Int) == 0 then (i54 : Int) == (if (0 : Int) > x3 then 0 else x3) else false then true else false) (
 CallsA Try.prog w0 30 #[] m44 fun r65 m66 =>
 ∃ t64 : Bool, r65 = .bool t64 ∧ RetP R (.bool (bif bif bif (i53 : Int) == 0 then (i54 : Int) == (if (0 : Int) > x3 then 0 else x3) else false then true else false then t64 else false)) m66) (
 (bif bif (i53 : Int) == 0 then (i54 : Int) == (if (0 : Int) > x3 then 0 else x3) else false then true else false) = false ∧ RetP R (.bool false) m44))))) (
 ((i58 : Int) != 0) = false ∧ false = false ∧ (bcase (bif bif (i53 : Int) == 0 then (i54 : Int) == (if (0 : Int) > x3 then 0 else x3) else false then true else false) (
 CallsA Try.prog w0 30 #[] m44 fun r68 m69 =>
 ∃ t67 : Bool, r68 = .bool t67 ∧ RetP R (.bool (bif bif bif (i53 : Int) == 0 then (i54 : Int) == (if (0 : Int) > x3 then 0 else x3) else false then true else false then t67 else false)) m69) (
 (bif bif (i53 : Int) == 0 then (i54 : Int) == (if (0 : Int) > x3 then 0 else x3) else false then true else false) = false ∧ RetP R (.bool false) m44))))))) (
 ((i53 : Int) == 0) = false ∧ ∃ i70 : Int, m44.cell ⟨b35, 0, none⟩ = some (.int .i64 i70) ∧ 
 IntKind.i64 = IntKind.i64 ∧ (bcase ((i70 : Int) != 0) (
 ∃ i71 : Int, m44.cell ⟨b35, 1, none⟩ = some (.int .i64 i71) ∧ 
 IntKind.i64 = IntKind.i64 ∧ (bcase (bif (i70 : Int) != 0 then decide ((i71 : Int) ≥ 4) else false) (
 ∃ i72 : Int, m44.cell ⟨b35, 1, none⟩ = some (.int .i64 i72) ∧ 
 IntKind.i64 = IntKind.i64 ∧ (bcase (bif false then true else bif bif (i70 : Int) != 0 then decide ((i71 : Int) ≥ 4) else false then decide ((i72 : Int) ≤ x3) else false) (
 CallsA Try.prog w0 30 #[] m44 fun r74 m75 =>
 ∃ t73 : Bool, r74 = .bool t73 ∧ RetP R (.bool (bif bif false then true else bif bif (i70 : Int) != 0 then decide ((i71 : Int) ≥ 4) else false then decide ((i72 : Int) ≤ x3) else false then t73 else false)) m75) (
 (bif false then true else bif bif (i70 : Int) != 0 then decide ((i71 : Int) ≥ 4) else false then decide ((i72 : Int) ≤ x3) else false) = false ∧ RetP R (.bool false) m44))) (
 (bif (i70 : Int) != 0 then decide ((i71 : Int) ≥ 4) else false) = false ∧ (bcase (bif false then true else false) (
 CallsA Try.prog w0 30 #[] m44 fun r77 m78 =>
 ∃ t76 : Bool, r77 = .bool t76 ∧ RetP R (.bool (bif bif false then true else false then t76 else false)) m78) (
 (bif false then true else false) = false ∧ RetP R (.bool false) m44))))) (
 ((i70 : Int) != 0) = false ∧ false = false ∧ (bcase (bif false then true else false) (
 CallsA Try.prog w0 30 #[] m44 fun r80 m81 =>
 ∃ t79 : Bool, r80 = .bool t79 ∧ RetP R (.bool (bif bif false then true else false then t79 else false)) m81) (
 (bif false then true else false) = false ∧ RetP R (.bool false) m44))))))))))))))))))) : CallsA Try.prog w0 15 #[.slice x0 x0n x0c, .int .i64 x1, .slice x2 x2n x2c, .int .i64 x3] m R :=
  callsA_of (c := c15) (args := [.slice x0 x0n x0c, .int .i64 x1, .slice x2 x2n x2c, .int .i64 x3]) (by kernel_rfl) Try.func15 (by kernel_rfl) qs15 (by kernel_rfl) (by kernel_rfl) (cast (by kernel_rfl) h)

/-! 16 delayslot/delayslotlaw08.PipeSlots -/
def qs16 : Nat → List (Nat × Nat) := fun i => match i with | _ => []
noncomputable def c16 : Code := bodyOf Try.f16
theorem cf16 (w0 : World) (m : AM) (x0 : Int) (x1 : Int) (x2 : Int) (R : Value → AM → Prop) (h :
 IntKind.u8 = IntKind.u8 ∧ (51 : Int) ≠ 0 ∧ IntKind.u16 = IntKind.u16 ∧ (32768 : Int) ≠ 0 ∧ IntKind.u16 = IntKind.u16 ∧ (32768 : Int) ≠ 0 ∧ IntKind.i64 = IntKind.i64 ∧ true = true ∧ true = true ∧ true = true ∧ ∀ b1 : Nat, w0.heap.size ≤ b1 → m b1 = none → let m2 := AM.upd m b1 (.cells #[.int .i64 17, .int .i64 0, .int .i64 0, .int .i64 0, .int .i64 (IntKind.wrap .i64 ((IntKind.wrap .i64 (Int.tmod x2 51)) + 2)), .int .i64 10, .int .i64 4, .int .i64 0, .int .i64 0, .int .i64 (IntKind.wrap .i64 (Int.tmod x0 32768))] 34);
 vcS Try.prog w0 qs16 (sub c16 [1, 1, 1, 1, 0, 1, 0]) (upd (upd (upd (upd (upd (upd (upd (upd (upd (upd (upd (upd (upd (upd (upd (upd (upd (upd (upd (upd (upd (upd (argS [.int .u16 x0, .int .u16 x1, .int .u8 x2]) 6 (.bool false)) 12 (.int .u8 x2)) 13 (.int .u8 (Int.tmod x2 51))) 14 (.int .i64 (IntKind.wrap .i64 (Int.tmod x2 51)))) 7 (.int .i64 (IntKind.wrap .i64 (Int.tmod x2 51)))) 15 (.int .u16 x0)) 16 (.int .u16 (Int.tmod x0 32768))) 17 (.int .i64 (IntKind.wrap .i64 (Int.tmod x0 32768)))) 18 (.int .u16 x1)) 19 (.int .u16 (Int.tmod x1 32768))) 20 (.int .i64 (IntKind.wrap .i64 (Int.tmod x1 32768)))) 8 (.int .i64 (IntKind.wrap .i64 (Int.tmod x0 32768)))) 9 (.int .i64 (IntKind.wrap .i64 (Int.tmod x1 32768)))) 21 (.int .i64 (IntKind.wrap .i64 (Int.tmod x2 51)))) 22 (.int .i64 (IntKind.wrap .i64 ((IntKind.wrap .i64 (Int.tmod x2 51)) + 2)))) 23 (.agg #[.int .i64 17, .int .i64 0, .int .i64 0, .int .i64 0, .int .i64 (IntKind.wrap .i64 ((IntKind.wrap .i64 (Int.tmod x2 51)) + 2))])) 24 (.int .i64 (IntKind.wrap .i64 (Int.tmod x0 32768)))) 25 (.agg #[.int .i64 10, .int .i64 4, .int .i64 0, .int .i64 0, .int .i64 (IntKind.wrap .i64 (Int.tmod x0 32768))])) 26 (.slice (some ⟨b1, 0, none⟩) 2 2)) 10 (.slice (some ⟨b1, 0, none⟩) 2 2)) 27 (.int .i64 (IntKind.wrap .i64 (Int.tmod x2 51)))) 28 (.int .i64 0)) m2 (blockS 0 (thenS (fun σ m => vcS Try.prog w0 qs16 (sub c16 [1, 1, 1, 1, 1]) σ m (retQ Try.prog Try.f16 R)) (retQ Try.prog Try.f16 R)))) : CallsA Try.prog w0 16 #[.int .u16 x0, .int .u16 x1, .int .u8 x2] m R :=
  callsA_of (c := c16) (args := [.int .u16 x0, .int .u16 x1, .int .u8 x2]) (by kernel_rfl) Try.func16 (by kernel_rfl) qs16 (by kernel_rfl) (by kernel_rfl) (cast (by kernel_rfl) h)
def lq16_1111010 (R : Value → AM → Prop) (x8 : Int) (x9 : Int) (x27 : Int) (I0 : Nat → Option Addr → Nat → Nat → Int → AM → Prop) (E0_0 : Option Addr → Nat → Nat → AM → Prop) (n0 : Nat) : Exit → Sg → AM → Prop
  | .normal, σ, m => σ 8 = .int .i64 x8 ∧ σ 9 = .int .i64 x9 ∧ σ 27 = .int .i64 x27 ∧ okS (σ 10) = true ∧ okI .i64 (σ 28) = true ∧ ∃ n' : Nat, n' < n0 ∧ I0 n' (vSA (σ 10)) (vSN (σ 10)) (vSC (σ 10)) (vI (σ 28)) m
  | .exit id, σ, m => if id = 0 then σ 8 = .int .i64 x8 ∧ σ 9 = .int .i64 x9 ∧ σ 27 = .int .i64 x27 ∧ okS (σ 10) = true ∧ E0_0 (vSA (σ 10)) (vSN (σ 10)) (vSC (σ 10)) m else False
  | .ret, σ, m => retQ Try.prog Try.f16 R .ret σ m
  | _, _, _ => False
theorem vl16_1111010 (w0 : World) (m : AM) (σ : Sg) (R : Value → AM → Prop)  (x8 : Int) (x9 : Int) (x27 : Int) (x10 : Option Addr) (x10n x10c : Nat) (x28 : Int) (I0 : Nat → Option Addr → Nat → Nat → Int → AM → Prop) (E0_0 : Option Addr → Nat → Nat → AM → Prop) (N : Nat) (h8 : σ 8 = .int .i64 x8) (h9 : σ 9 = .int .i64 x9) (h10 : σ 10 = .slice x10 x10n x10c) (h27 : σ 27 = .int .i64 x27) (h28 : σ 28 = .int .i64 x28)
 (h_0 : I0 N x10 x10n x10c x28 m)
 (h_s : ∀ (n0 : Nat) (σ : Sg) (x10 : Option Addr) (x10n : Nat) (x10c : Nat) (x28 : Int) (m : AM), I0 n0 x10 x10n x10c x28 m → (
 IntKind.i64 = IntKind.i64 ∧ (bcase (decide ((x28 : Int) < x27)) (
 true = true ∧ true = true ∧ ∀ b3 : Nat, w0.heap.size ≤ b3 → m b3 = none → let m4 := AM.upd m b3 (.cells #[.int .i64 20, .int .i64 0, .int .i64 0, .int .i64 0, .int .i64 2] 34);
 awp Try.prog w0.heap.size (Builtin.append_ #[22, 22] 22 #[.slice x10 x10n x10c, .slice (some ⟨b3, 0, none⟩) 1 1]) m4 fun v5 m6 =>
 ∃ (A7 : Option Addr) (n8 c9 : Nat), v5 = .slice A7 n8 c9 ∧ IntKind.i64 = IntKind.i64 ∧ (.int .i64 x8 : Value) = .int .i64 x8 ∧ (.int .i64 x9 : Value) = .int .i64 x9 ∧ (.int .i64 x27 : Value) = .int .i64 x27 ∧ true = true ∧ true = true ∧ ∃ n' : Nat, n' < n0 ∧ I0 n' A7 n8 c9 (IntKind.wrap .i64 (x28 + 1)) m6) (
 (.int .i64 x8 : Value) = .int .i64 x8 ∧ (.int .i64 x9 : Value) = .int .i64 x9 ∧ (.int .i64 x27 : Value) = .int .i64 x27 ∧ true = true ∧ E0_0 x10 x10n x10c m))))
 (h_e0 : ∀ (σ : Sg) (x10 : Option Addr) (x10n : Nat) (x10c : Nat) (m : AM), E0_0 x10 x10n x10c m → (
 true = true ∧ true = true ∧ true = true ∧ true = true ∧ true = true ∧ ∀ b10 : Nat, w0.heap.size ≤ b10 → m b10 = none → let m11 := AM.upd m b10 (.cells #[.int .i64 20, .int .i64 0, .int .i64 0, .int .i64 0, .int .i64 2, .int .i64 10, .int .i64 4, .int .i64 0, .int .i64 0, .int .i64 x9, .int .i64 20, .int .i64 0, .int .i64 0, .int .i64 0, .int .i64 2, .int .i64 20, .int .i64 0, .int .i64 0, .int .i64 0, .int .i64 0] 34);
 awp Try.prog w0.heap.size (Builtin.append_ #[22, 22] 22 #[.slice x10 x10n x10c, .slice (some ⟨b10, 0, none⟩) 4 4]) m11 fun v12 m13 =>
 ∃ (A14 : Option Addr) (n15 c16 : Nat), v12 = .slice A14 n15 c16 ∧ CallsA Try.prog w0 31 #[.slice A14 n15 c16, .int .i64 0, .slice none 0 0, .int .i64 50] m13 fun r25 m26 =>
 ∃ i17 : Int, ∃ i18 : Int, ∃ (A19 : Option Addr) (n20 c21 : Nat), ∃ (A22 : Option Addr) (n23 c24 : Nat), r25 = .agg #[.int .i64 i17, .int .i64 i18, .slice A19 n20 c21, .slice A22 n23 c24] ∧ ∀ b27 : Nat, w0.heap.size ≤ b27 → m26 b27 = none → let m28 := AM.upd m26 b27 (.cells #[.int .i64 0, .int .i64 0, .slice none 0 0, .slice none 0 0] 29);
 StC w0.heap.size m28 ⟨b27, 0, none⟩ (.int .i64 i17) fun m29 =>
 StC w0.heap.size m29 ⟨b27, 1, none⟩ (.int .i64 i18) fun m30 =>
 StC w0.heap.size m30 ⟨b27, 2, none⟩ (.slice A19 n20 c21) fun m31 =>
 StC w0.heap.size m31 ⟨b27, 3, none⟩ (.slice A22 n23 c24) fun m32 =>
 ∃ i33 : Int, m32.cell ⟨b27, 0, none⟩ = some (.int .i64 i33) ∧ 
 IntKind.i64 = IntKind.i64 ∧ (bcase ((i33 : Int) == 1) (
 ∃ i34 : Int, m32.cell ⟨b27, 1, none⟩ = some (.int .i64 i34) ∧ 
 IntKind.i64 = IntKind.i64 ∧ (bcase (bif (i33 : Int) == 1 then (i34 : Int) == 9 else false) (
 ∃ (A35 : Option Addr) (n36 c37 : Nat), m32.cell ⟨b27, 2, none⟩ = some (.slice A35 n36 c37) ∧ 
 IntKind.i64 = IntKind.i64 ∧ (bcase (bif bif (i33 : Int) == 1 then (i34 : Int) == 9 else false then (((n36 : Nat) : Int) : Int) == 2 else false) (
 ∃ (A38 : Option Addr) (n39 c40 : Nat), m32.cell ⟨b27, 2, none⟩ = some (.slice A38 n39 c40) ∧ 
 ((0 : Int) ≤ 0 ∧ 0 < ((n39 : Nat) : Int)) ∧ nilO A38 fun a41 =>
 ∃ i42 : Int, m32.cell (a41.add (0)) = some (.int .i64 i42) ∧ 
 IntKind.i64 = IntKind.i64 ∧ (bcase (bif bif bif (i33 : Int) == 1 then (i34 : Int) == 9 else false then (((n36 : Nat) : Int) : Int) == 2 else false then (i42 : Int) == x8 else false) (
 ∃ (A43 : Option Addr) (n44 c45 : Nat), m32.cell ⟨b27, 2, none⟩ = some (.slice A43 n44 c45) ∧ 
 ((0 : Int) ≤ 1 ∧ 1 < ((n44 : Nat) : Int)) ∧ nilO A43 fun a46 =>
 ∃ i47 : Int, m32.cell (a46.add (1)) = some (.int .i64 i47) ∧ 
 IntKind.i64 = IntKind.i64 ∧ (bcase (bif bif bif bif (i33 : Int) == 1 then (i34 : Int) == 9 else false then (((n36 : Nat) : Int) : Int) == 2 else false then (i42 : Int) == x8 else false then (i47 : Int) == x9 else false) (
 CallsA Try.prog w0 30 #[] m32 fun r49 m50 =>
 ∃ t48 : Bool, r49 = .bool t48 ∧ RetP R (.bool (bif bif bif bif bif (i33 : Int) == 1 then (i34 : Int) == 9 else false then (((n36 : Nat) : Int) : Int) == 2 else false then (i42 : Int) == x8 else false then (i47 : Int) == x9 else false then t48 else false)) m50) (
 (bif bif bif bif (i33 : Int) == 1 then (i34 : Int) == 9 else false then (((n36 : Nat) : Int) : Int) == 2 else false then (i42 : Int) == x8 else false then (i47 : Int) == x9 else false) = false ∧ RetP R (.bool false) m32))) (
 (bif bif bif (i33 : Int) == 1 then (i34 : Int) == 9 else false then (((n36 : Nat) : Int) : Int) == 2 else false then (i42 : Int) == x8 else false) = false ∧ false = false ∧ RetP R (.bool false) m32))) (
 (bif bif (i33 : Int) == 1 then (i34 : Int) == 9 else false then (((n36 : Nat) : Int) : Int) == 2 else false) = false ∧ false = false ∧ false = false ∧ RetP R (.bool false) m32))) (
 (bif (i33 : Int) == 1 then (i34 : Int) == 9 else false) = false ∧ false = false ∧ false = false ∧ false = false ∧ RetP R (.bool false) m32))) (
 ((i33 : Int) == 1) = false ∧ false = false ∧ false = false ∧ false = false ∧ false = false ∧ RetP R (.bool false) m32)))) :
 vcS Try.prog w0 qs16 (sub c16 [1, 1, 1, 1, 0, 1, 0]) σ m (blockS 0 (thenS (fun σ m => vcS Try.prog w0 qs16 (sub c16 [1, 1, 1, 1, 1]) σ m (retQ Try.prog Try.f16 R)) (retQ Try.prog Try.f16 R))) := by
  rw [show sub c16 [1, 1, 1, 1, 0, 1, 0] = .loop (sub c16 [1, 1, 1, 1, 0, 1, 0, 0]) from by kernel_rfl]
  refine loopQ (fun n0 σ m => σ 8 = .int .i64 x8 ∧ σ 9 = .int .i64 x9 ∧ σ 27 = .int .i64 x27 ∧ okS (σ 10) = true ∧ okI .i64 (σ 28) = true ∧ I0 n0 (vSA (σ 10)) (vSN (σ 10)) (vSC (σ 10)) (vI (σ 28)) m) N (fun n0 => (lq16_1111010 R x8 x9 x27 I0 E0_0 n0)) ⟨h8, h9, h27, (by rw [h10]; rfl), (by rw [h28]; rfl), (by rw [h10, h28]; exact h_0)⟩ ?_ ?_ ?_
  · rintro n0 σ m ⟨kk0, kk1, kk2, kk3, kk4, n', hlt, hI⟩; exact ⟨n', hlt, kk0, kk1, kk2, kk3, kk4, hI⟩
  · intro n0 e σ m hne h
    cases e with
    | normal => exact absurd rfl hne
    | ret => exact h
    | exit id =>
      by_cases e0 : id = 0
      · subst e0
        obtain ⟨kk0, kk1, kk2, kk3, hE⟩ := h
        have es : (upd (upd (upd (upd σ 8 (.int .i64 x8)) 9 (.int .i64 x9)) 27 (.int .i64 x27)) 10 (.slice (vSA (σ 10)) (vSN (σ 10)) (vSC (σ 10)))) = σ := by rw [upd_id kk0, upd_id kk1, upd_id kk2, upd_id (ok_slice kk3)]
        exact cast (congrArg (fun s => (blockS 0 (thenS (fun σ m => vcS Try.prog w0 qs16 (sub c16 [1, 1, 1, 1, 1]) σ m (retQ Try.prog Try.f16 R)) (retQ Try.prog Try.f16 R))) (.exit 0) s m) es) (cast (by kernel_rfl) (h_e0 σ (vSA (σ 10)) (vSN (σ 10)) (vSC (σ 10)) m hE))
      · replace h := (if_neg e0 : (if id = 0 then _ else _) = _).mp h
        exact False.elim h
    | _ => exact False.elim h
  · rintro n0 σ m ⟨kk0, kk1, kk2, kk3, kk4, hI⟩
    have es : (upd (upd (upd (upd (upd σ 8 (.int .i64 x8)) 9 (.int .i64 x9)) 10 (.slice (vSA (σ 10)) (vSN (σ 10)) (vSC (σ 10)))) 27 (.int .i64 x27)) 28 (.int .i64 (vI (σ 28)))) = σ := by rw [upd_id kk0, upd_id kk1, upd_id (ok_slice kk3), upd_id kk2, upd_id (ok_int kk4)]
    exact cast (congrArg (fun s => vcS Try.prog w0 qs16 (sub c16 [1, 1, 1, 1, 0, 1, 0, 0]) s m (lq16_1111010 R x8 x9 x27 I0 E0_0 n0)) es) (cast (by kernel_rfl) (h_s n0 σ (vSA (σ 10)) (vSN (σ 10)) (vSC (σ 10)) (vI (σ 28)) m hI))
end Go.Proofs.Ytadcbnldahcelaa.V
