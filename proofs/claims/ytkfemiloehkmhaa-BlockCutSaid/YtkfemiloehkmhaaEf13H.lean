/- Ytkfemiloehkmhaa: a text of our own, by an AI agent: Ef13H -/
import Derived.Test.YtkfemiloehkmhaaEf12H
import Derived.Test.YtkfemiloehkmhaaCore13
set_option linter.unusedSimpArgs false
set_option linter.unusedVariables false
set_option maxRecDepth 100000
namespace Go.Proofs.Ytkfemiloehkmhaa.S
open Go Go.RowKit Go.Alog Go.Proofs.Ytkfemiloehkmhaa.T Go.Proofs.Ytkfemiloehkmhaa.V

theorem right_e (w0 : World) (m : AM) (i : Ins) : CallsA Try.prog w0 45 #[i.val] m (fun r m' => r = .bool (rightR i) ∧ m' = m) := (isaRight w0 m i).down fun _ _ h => h
theorem refRight_e (w0 : World) (m : AM) (i : Ins) : CallsA Try.prog w0 31 #[i.val] m (fun r m' => r = .bool (rightR i) ∧ m' = m) := (right_spec w0 m i).down fun _ _ h => h
theorem writes_e (w0 : World) (m : AM) (i : Ins) : CallsA Try.prog w0 80 #[i.val] m (fun r m' => r = .int .i64 (writesP i) ∧ m' = m) := (writes_spec w0 m i).down fun _ _ h => h
theorem acts_e (w0 : World) (m : AM) (i : Ins) : CallsA Try.prog w0 92 #[i.val] m (fun r m' => r = .bool (actsP i) ∧ m' = m) := (acts_spec w0 m i).down fun _ _ h => h
theorem goes_e (w0 : World) (m : AM) (i : Ins) : CallsA Try.prog w0 52 #[i.val] m (fun r m' => r = .bool (goesP i) ∧ m' = m) := (goes_spec w0 m i).down fun _ _ h => h
theorem late_e (w0 : World) (m : AM) (i : Ins) : CallsA Try.prog w0 66 #[i.val] m (fun r m' => r = .bool (lateP i) ∧ m' = m) := (late_spec w0 m i).down fun _ _ h => h
theorem refGoes_e (w0 : World) (m : AM) (i : Ins) : CallsA Try.prog w0 30 #[i.val] m (fun r m' => r = .bool (goesP i) ∧ m' = m) := (refGoes_spec w0 m i).down fun _ _ h => h
theorem refLate_e (w0 : World) (m : AM) (i : Ins) : CallsA Try.prog w0 40 #[i.val] m (fun r m' => r = .bool (lateP i) ∧ m' = m) := (refLate_spec w0 m i).down fun _ _ h => h
theorem touches_e (w0 : World) (m : AM) (i : Ins) (n : Int) : CallsA Try.prog w0 48 #[i.val, .int .i64 n] m (fun r m' => r = .bool (touchesP i n) ∧ m' = m) := (touches_spec w0 m i n).down fun _ _ h => h

theorem refActs_e (w0 : World) (m : AM) (i : Ins) : CallsA Try.prog w0 72 #[i.val] m (fun r m' => r = .bool (actsP i) ∧ m' = m) := by
  refine CallsA.down (R := fun r m' => r = .bool (actsP i) ∧ m.le m') ?_ fun _ _ h => h
  generalize hR : (fun (r : Value) (m' : AM) => r = .bool (actsP i) ∧ m.le m') = R
  refine cf72 w0 m _ _ _ _ _ R ?_
  intro b hBb hNb M
  have l : AM.le _ M := le_new hNb _
  have p : M b = some (.cells (Ins.cells i).toArray 24) := upd_get_same
  clear_value M
  refine ⟨_, cel p rfl, ldIns p (callB (refRight_e w0 M i) ?_)⟩
  have ret : ∀ (v : Bool), v = actsP i → RetP R (.bool v) M := fun v e => by rw [← hR]; exact retP_of ⟨by rw [e], l⟩
  unfold actsP at ret
  cases hr : rightR i
  · exact ⟨rfl, ret _ (by rw [hr]; rfl)⟩
  rw [hr] at ret
  have fin : ∀ (x y z u v w : Bool), x = (i.op == 4) → y = (i.op == 5) → z = (i.op == 12) → u = (i.op == 13) → v = (i.op == 14) → w = (i.op == 20) → (x || y || z || u || v || w) = decide (i.op = 4 ∨ i.op = 5 ∨ i.op = 12 ∨ i.op = 13 ∨ i.op = 14 ∨ i.op = 20) := by
    rintro _ _ _ _ _ _ rfl rfl rfl rfl rfl rfl
    rw [Bool.eq_iff_iff]
    simp only [Bool.or_eq_true, beq_iff_eq, decide_eq_true_eq]
    omega
  generalize h1 : (i.op == 4) = x at fin ⊢
  generalize h2 : (i.op == 5) = y at fin ⊢
  generalize h3 : (i.op == 12) = z at fin ⊢
  generalize h4 : (i.op == 13) = u at fin ⊢
  generalize h5 : (i.op == 14) = v at fin ⊢
  generalize h6 : (i.op == 20) = w at fin ⊢
  have fin := fin _ _ _ _ _ _ rfl rfl rfl rfl rfl rfl
  rw [← fin] at ret
  refine bcT ⟨rfl, ?_⟩
  cases x
  · refine bcF ⟨rfl, ?_⟩
    cases y
    · refine bcF ⟨rfl, ?_⟩
      cases z
      · refine bcF ⟨rfl, ?_⟩
        cases u
        · refine bcF ⟨rfl, ?_⟩
          cases v
          · exact bcF ⟨rfl, ret _ rfl⟩
          · exact bcT ⟨rfl, ret _ rfl⟩
        · exact bcT ⟨rfl, rfl, ret _ rfl⟩
      · exact bcT ⟨rfl, rfl, rfl, ret _ rfl⟩
    · exact bcT ⟨rfl, rfl, rfl, rfl, ret _ rfl⟩
  · exact bcT ⟨rfl, rfl, rfl, rfl, rfl, ret _ rfl⟩

theorem refWrites_e (w0 : World) (m : AM) (i : Ins) : CallsA Try.prog w0 50 #[i.val] m (fun r m' => r = .int .i64 (writesP i) ∧ m' = m) := by
  refine CallsA.down (R := fun r m' => r = .int .i64 (writesP i) ∧ m.le m') ?_ fun _ _ h => h
  generalize hR : (fun (r : Value) (m' : AM) => r = .int .i64 (writesP i) ∧ m.le m') = R
  refine cf50 w0 m _ _ _ _ _ R ?_
  intro b hBb hNb M
  have l : AM.le _ M := le_new hNb _
  have p : M b = some (.cells (Ins.cells i).toArray 24) := upd_get_same
  clear_value M
  refine ldIns p (callB (refRight_e w0 M i) ?_)
  have ret : ∀ (v : Int), v = writesP i → RetP R (.int .i64 v) M := fun v e => by rw [← hR]; exact retP_of ⟨by rw [e], l⟩
  unfold writesP at ret
  cases hr : rightR i
  · exact ret _ (by rw [hr]; rfl)
  rw [hr, if_pos rfl] at ret
  unfold fieldW at ret
  have tail : ¬ (1 ≤ i.op ∧ i.op ≤ 12) → ∃ a : Int, M.cell ⟨b, 0, none⟩ = some (.int .i64 a) ∧ IntKind.i64 = IntKind.i64 ∧ bcase (a == 18) (RetP R (.int .i64 31) M) (∃ a : Int, M.cell ⟨b, 0, none⟩ = some (.int .i64 a) ∧ IntKind.i64 = IntKind.i64 ∧ bcase (a == 20) (∃ a1 : Int, M.cell ⟨b, 4, none⟩ = some (.int .i64 a1) ∧ IntKind.i64 = IntKind.i64 ∧ bcase (bif a == 20 then a1 == 1 else false) (RetP R (.int .i64 4) M) (RetP R (.int .i64 0) M)) ((a == 20) = false ∧ RetP R (.int .i64 0) M)) := by
    intro hn
    rw [if_neg hn] at ret
    refine ⟨_, cel p rfl, rfl, bcI (fun h => ret _ (by rw [if_pos (by simpa using h)])) fun h => ?_⟩
    rw [if_neg (by simpa using h)] at ret
    refine ⟨_, cel p rfl, rfl, bcI (fun h2 => ⟨_, cel p rfl, rfl, ?_⟩) fun h2 => ⟨h2, ret _ (by rw [if_neg]; simp at h2; omega)⟩⟩
    rw [h2]
    refine bcI (fun h3 => ret _ (by rw [if_pos]; simp at h2 h3; omega)) fun h3 => ret _ (by rw [if_neg]; simp at h2 h3; omega)
  refine bcF ⟨_, cel p rfl, rfl, bcP (fun h => ?_) fun h => ⟨by rw [decide_eq_false h], ?_⟩⟩
  · refine ⟨_, cel p rfl, rfl, ?_⟩
    rw [decide_eq_true h]
    refine bcP (fun h2 => ⟨_, cel p rfl, ret _ (by rw [if_pos (by omega)])⟩) fun h2 => tail (by omega)
  · exact tail (by omega)

/-- Does an instruction read a register, by its fields? -/
def readsR (i : Ins) (n : Int) : Bool := rightR i && (decide (1 ≤ n ∧ n ≤ 31) && (fieldL i).contains n)
theorem refReads_e (w0 : World) (m : AM) (i : Ins) (n : Int) : CallsA Try.prog w0 49 #[i.val, .int .i64 n] m (fun r m' => r = .bool (readsR i n) ∧ m' = m) := by
  refine CallsA.down (R := fun r m' => r = .bool (readsR i n) ∧ m.le m') ?_ fun _ _ h => h
  generalize hR : (fun (r : Value) (m' : AM) => r = .bool (readsR i n) ∧ m.le m') = R
  refine cf49 w0 m _ _ _ _ _ n R ?_
  intro b hBb hNb M
  have l : AM.le _ M := le_new hNb _
  have p : M b = some (.cells (Ins.cells i).toArray 24) := upd_get_same
  clear_value M
  refine ldIns p (callB (refRight_e w0 M i) ?_)
  have ret : ∀ (v : Bool), v = readsR i n → RetP R (.bool v) M := fun v e => by rw [← hR]; exact retP_of ⟨by rw [e], l⟩
  unfold readsR at ret
  cases hr : rightR i
  · exact ⟨rfl, rfl, ret _ (by rw [hr]; rfl)⟩
  rw [hr] at ret
  refine bcF ⟨rfl, bcP (fun h => ⟨decide_eq_true h, ret _ (by rw [decide_eq_false (by omega)]; rfl)⟩) fun h => ⟨rfl, ?_⟩⟩
  have h' : (bif !true then true else decide (n < 1)) = false := decide_eq_false h
  rw [h']
  refine bcP (fun h2 => ret _ (by rw [decide_eq_false (by omega)]; rfl)) fun h2 => ?_
  rw [decide_eq_true (by omega : 1 ≤ n ∧ n ≤ 31)] at ret
  simp only [Bool.true_and] at ret
  have c2 : ∀ x y : Int, (bif x == n then true else y == n) = [x, y].contains n := by
    intro x y
    rw [Bool.eq_iff_iff]
    simp only [List.contains_cons, List.contains_nil, Bool.or_false]
    rw [BEq.comm (a := n) (b := x), BEq.comm (a := n) (b := y)]
    cases (x == n) <;> simp
  have c1 : ∀ x : Int, (x == n) = [x].contains n := by
    intro x
    simp only [List.contains_cons, List.contains_nil, Bool.or_false]
    exact BEq.comm
  have K2 : ∀ (σ : Sg) (x : Bool), σ 1 = .int .i64 n → σ 2 = .pointer (some ⟨b, 0, none⟩) → σ 5 = .bool (i.a == n) → σ 6 = .bool (i.b == n) → σ 32 = .int .i64 i.op → σ 47 = .bool x → x = decide (i.op = 10 ∨ i.op = 12) → ¬ (1 ≤ i.op ∧ i.op ≤ 9) → (vcS Try.prog w0 qs49 (sub c49 [1, 1, 1, 0, 1, 0, 1, 1, 1]) σ M (blockS 0 (thenS (fun σ M => vcS Try.prog w0 qs49 (sub c49 [1, 1, 1, 1]) σ M (retQ Try.prog Try.f49 R)) (retQ Try.prog Try.f49 R)))) := by
    intro σ x h1 h2 h5 h6 h32 h47 hx hno
    refine vk49_111010111 w0 M σ R n b (i.a == n) (i.b == n) i.op x h1 h2 h5 h6 h32 h47 ?_
    unfold fieldL at ret
    rw [if_neg hno] at ret
    refine bcI (fun h => ret _ ?_) fun h => ?_
    · rw [hx] at h
      rw [if_pos (of_decide_eq_true h), c1]
    rw [hx] at h
    have hn := of_decide_eq_false h
    rw [if_neg hn] at ret
    have ab : (i.op = 13 ∨ i.op = 15 ∨ i.op = 16) → bcase (i.a == n) ((i.a == n) = true ∧ RetP R (.bool true) M) (RetP R (.bool (bif i.a == n then true else i.b == n)) M) := by
      intro e
      rw [if_pos e] at ret
      exact bcI (fun h => ⟨h, ret _ (by rw [← c2, h]; rfl)⟩) fun h => ret _ (by rw [c2])
    have sys : ¬ (i.op = 13 ∨ i.op = 15 ∨ i.op = 16) → ¬ (i.op = 14 ∨ i.op = 19) → IntKind.i64 = IntKind.i64 ∧ bcase (i.op == 20) (∃ a : Int, M.cell ⟨b, 4, none⟩ = some (.int .i64 a) ∧ IntKind.i64 = IntKind.i64 ∧ bcase (a == 2) (IntKind.i64 = IntKind.i64 ∧ RetP R (.bool (bif a == 2 then n == 4 else false)) M) ((a == 2) = false ∧ RetP R (.bool false) M)) (RetP R (.bool false) M) := by
      intro e1 e2
      rw [if_neg e1, if_neg e2] at ret
      refine ⟨rfl, bcI (fun h => ⟨_, cel p rfl, rfl, bcI (fun h2 => ⟨rfl, ret _ ?_⟩) fun h2 => ⟨h2, ret _ ?_⟩⟩) fun h => ret _ ?_⟩
      · rw [h2, if_pos (by simp at h h2; omega)]; simp only [List.contains_cons, List.contains_nil, Bool.or_false, cond_true]
      · rw [if_neg (by simp at h h2; omega)]; rfl
      · rw [if_neg (by simp at h; omega)]; rfl
    have one : ¬ (i.op = 13 ∨ i.op = 15 ∨ i.op = 16) → (i.op = 14 ∨ i.op = 19) → RetP R (.bool (i.a == n)) M := by
      intro e1 e2
      rw [if_neg e1, if_pos e2] at ret
      exact ret _ (by rw [c1])
    refine ⟨rfl, bcI (fun h13 => bcET h13 (ab (by simp at h13; omega))) fun h13 => ⟨rfl, bcI (fun h15 => bcET h15 (ab (by simp at h15; omega))) fun h15 => ⟨rfl, bcI (fun h16 => ab (by simp at h16; omega)) fun h16 => ?_⟩⟩⟩
    have e1 : ¬ (i.op = 13 ∨ i.op = 15 ∨ i.op = 16) := by simp at h13 h15 h16; omega
    exact ⟨rfl, bcI (fun h14 => bcET h14 (one e1 (by simp at h14; omega))) fun h14 => ⟨rfl, bcI (fun h19 => one e1 (by simp at h19; omega)) fun h19 => sys e1 (by simp at h14 h19; omega)⟩⟩
  have K1 : ∀ (σ : Sg) (x : Bool), σ 1 = .int .i64 n → σ 2 = .pointer (some ⟨b, 0, none⟩) → σ 5 = .bool (i.a == n) → σ 6 = .bool (i.b == n) → σ 7 = .bool (i.c == n) → σ 32 = .int .i64 i.op → σ 33 = .bool x → x = decide (1 ≤ i.op ∧ i.op ≤ 9) → (vcS Try.prog w0 qs49 (sub c49 [1, 1, 1, 0, 1, 0, 1]) σ M (blockS 0 (thenS (fun σ M => vcS Try.prog w0 qs49 (sub c49 [1, 1, 1, 1]) σ M (retQ Try.prog Try.f49 R)) (retQ Try.prog Try.f49 R)))) := by
    intro σ x h1 h2 h5 h6 h7 h32 h33 hx
    refine vk49_1110101 w0 M σ R n b (i.a == n) (i.b == n) (i.c == n) i.op x h1 h2 h5 h6 h7 h32 h33 ?_
    refine bcI (fun h => ?_) fun h => ?_
    · rw [hx] at h
      unfold fieldL at ret
      rw [if_pos (of_decide_eq_true h)] at ret
      exact bcI (fun h => ⟨h, ret _ (by rw [← c2, h]; rfl)⟩) fun h => ret _ (by rw [c2])
    rw [hx] at h
    have hn := of_decide_eq_false h
    refine ⟨rfl, bcI (fun h10 => ?_) fun h10 => ⟨rfl, ?_⟩⟩
    · refine K2 _ _ rfl rfl rfl rfl rfl rfl ?_ hn
      simp at h10; rw [h10]; rfl
    · refine K2 _ (i.op == 12) rfl rfl rfl rfl rfl rfl ?_ hn
      rw [Bool.eq_iff_iff]; simp at h10 ⊢; omega
  have go : ∀ (σ : Sg) (k : Int), σ 1 = .int .i64 n → σ 2 = .pointer (some ⟨b, 0, none⟩) → σ 5 = .bool (i.a == n) → σ 6 = .bool (i.b == n) → σ 7 = .bool (i.c == n) → σ 32 = .int .i64 i.op → σ 33 = .bool (i.op == k) → 1 ≤ k → k ≤ 9 → (i.op == k) = true → (vcS Try.prog w0 qs49 (sub c49 [1, 1, 1, 0, 1, 0, 1]) σ M (blockS 0 (thenS (fun σ M => vcS Try.prog w0 qs49 (sub c49 [1, 1, 1, 1]) σ M (retQ Try.prog Try.f49 R)) (retQ Try.prog Try.f49 R)))) := by
    intro σ k h1 h2 h5 h6 h7 h32 h33 hk1 hk2 he
    refine K1 σ _ h1 h2 h5 h6 h7 h32 h33 ?_
    have : i.op = k := by simpa using he
    rw [he]
    exact (decide_eq_true ⟨by omega, by omega⟩).symm
  refine ⟨_, cel p rfl, rfl, _, cel p rfl, rfl, _, cel p rfl, rfl, _, cel p rfl, ?_⟩
  refine ⟨rfl, bcI (fun h => go _ 1 rfl rfl rfl rfl rfl rfl rfl (by omega) (by omega) h) fun h1 => ?_⟩
  refine ⟨rfl, bcI (fun h => go _ 2 rfl rfl rfl rfl rfl rfl rfl (by omega) (by omega) h) fun h2 => ?_⟩
  refine ⟨rfl, bcI (fun h => go _ 3 rfl rfl rfl rfl rfl rfl rfl (by omega) (by omega) h) fun h3 => ?_⟩
  refine ⟨rfl, bcI (fun h => go _ 4 rfl rfl rfl rfl rfl rfl rfl (by omega) (by omega) h) fun h4 => ?_⟩
  refine ⟨rfl, bcI (fun h => go _ 5 rfl rfl rfl rfl rfl rfl rfl (by omega) (by omega) h) fun h5 => ?_⟩
  refine ⟨rfl, bcI (fun h => go _ 6 rfl rfl rfl rfl rfl rfl rfl (by omega) (by omega) h) fun h6 => ?_⟩
  refine ⟨rfl, bcI (fun h => go _ 7 rfl rfl rfl rfl rfl rfl rfl (by omega) (by omega) h) fun h7 => ?_⟩
  refine ⟨rfl, bcI (fun h => go _ 8 rfl rfl rfl rfl rfl rfl rfl (by omega) (by omega) h) fun h8 => ⟨rfl, ?_⟩⟩
  refine K1 _ (i.op == 9) rfl rfl rfl rfl rfl rfl rfl ?_
  simp only [beq_eq_false_iff_ne, ne_eq] at h1 h2 h3 h4 h5 h6 h7 h8
  rw [Bool.eq_iff_iff]; simp; omega
end Go.Proofs.Ytkfemiloehkmhaa.S
