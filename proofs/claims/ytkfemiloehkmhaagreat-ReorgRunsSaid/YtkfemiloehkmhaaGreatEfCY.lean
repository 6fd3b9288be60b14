/- YtkfemiloehkmhaaGreat: a text of our own, by an AI agent: EfCY -/
import Derived.Test.YtkfemiloehkmhaaGreatWiBY
import Derived.Test.YtkfemiloehkmhaaGreatCoreC
import Derived.Test.YtkfemiloehkmhaaGreatVaBY
set_option linter.unusedSimpArgs false
set_option linter.unusedVariables false
set_option maxRecDepth 100000
namespace Go.Proofs.YtkfemiloehkmhaaGreat.S
open Go Go.RowKit Go.Alog Go.Proofs.YtkfemiloehkmhaaGreat.T Go.Proofs.YtkfemiloehkmhaaGreat.V

def fieldW (i:Ins):Int:=if 1≤i.op∧i.op≤12 then i.a else if i.op=18 then 31 else if i.op=20∧i.imm=1 then 4 else 0
def writesP (i:Ins):Int:=if rightR i=true then fieldW i else 0
def lateP (i:Ins):Bool:=rightR i && (i.op == 12 || (i.op == 20 && i.imm == 1))

abbrev wrR (v:Int) (m:AM) (r:Value) (m':AM):Prop:=(∃ (A:Option Addr) (n c:Nat),r=.tuple #[.slice A n c,.int .i64 v])∧m.le m'

theorem sysw_spec (w0:World) (m:AM) (n:Int):CallsA Tryz.prog w0 87 #[.int .i64 n] m (wrR (if n=1 then 4 else 0) m):=by
 refine cf87 w0 m n _ ⟨rfl,?_⟩
 by_cases h1:n=1
 ·refine bcET (by simp [h1]) (retP_of ⟨⟨_,_,_,by rw [if_pos h1]⟩,AM.le_refl _⟩)
 ·refine bcEF (by simp [h1]) ⟨rfl,bcI (fun h=>?_) fun h=>retP_of ⟨⟨_,_,_,by rw [if_neg h1]⟩,AM.le_refl _⟩⟩
  refine ⟨rfl,fun b hb hm=>?_⟩
  have l:=le_new hm (.cells #[.int .i64 4] 3)
  exact retP_of ⟨⟨_,_,_,by rw [if_neg h1]⟩,l⟩

theorem fields_spec (w0 : World) (m0 : AM) (i : Ins) : CallsA Tryz.prog w0 76 #[i.val] m0 (wrR (fieldW i) m0) := by
  generalize hR : wrR (fieldW i) m0 = R
  refine cf76 w0 m0 _ _ _ _ _ _ ?_
  intro b hb hm M
  have l : m0.le M := le_new hm _
  have p : M b = some (.cells i.cells.toArray 36) := upd_get_same
  clear_value M
  refine ⟨_, cel p rfl, ?_⟩
  have ret0 : ∀ (v : Int), fieldW i = v → ∀ m' A n c, m0.le m' → RetP R (.tuple #[.slice A n c, .int .i64 v]) m' := fun v e m' A n c l' => retP_of (by rw [← hR]; exact ⟨⟨_, _, _, by rw [e]⟩, l'⟩)
  have K3 : ∀ (m : AM) (σ : Sg) (x : Bool), m = M → σ 1 = .pointer (some ⟨b, 0, none⟩) → σ 5 = .int .i64 i.op → σ 35 = .bool x → x = decide (i.op = 13 ∨ i.op = 15 ∨ i.op = 16) → ¬ (1 ≤ i.op ∧ i.op ≤ 12) → (vcS Tryz.prog w0 qs76 (sub c76 [1, 0, 1, 0, 1, 1, 1, 1, 1, 1, 1]) σ m (blockS 0 (thenS (fun σ m => vcS Tryz.prog w0 qs76 (sub c76 [1, 1]) σ m (retQ Tryz.prog Tryz.f76 R)) (retQ Tryz.prog Tryz.f76 R)))) := by
    intro m σ x hm' h1 h5 h35 hx hno
    subst hm'
    refine vk76_10101111111 w0 m σ R b i.op x h1 h5 h35 ?_
    have fw : fieldW i = if i.op = 18 then 31 else if i.op = 20 ∧ i.imm = 1 then 4 else 0 := by unfold fieldW; rw [if_neg hno]
    refine bcI (fun h => ?_) fun h => ?_
    · rw [hx] at h
      have h := of_decide_eq_true h
      refine ⟨_, cel p rfl, _, cel p rfl, rfl, fun b' hb' hm' => ret0 0 (by rw [fw, if_neg (by omega), if_neg (by omega)]) _ _ _ _ (AM.le_trans l (le_new hm' _))⟩
    rw [hx] at h
    have h := of_decide_eq_false h
    have one : ∀ v, fieldW i = v → ∃ i18 : Int, m.cell ⟨b, 1, none⟩ = some (.int .i64 i18) ∧ true = true ∧ ∀ b19 : Nat, w0.heap.size ≤ b19 → m b19 = none → let m20 := AM.upd m b19 (.cells #[.int .i64 i18] 3); RetP R (.tuple #[.slice (some ⟨b19, 0, none⟩) 1 1, .int .i64 v]) m20 := fun v e => ⟨_, cel p rfl, rfl, fun b' hb' hm' => ret0 v e _ _ _ _ (AM.le_trans l (le_new hm' _))⟩
    have tail : IntKind.i64 = IntKind.i64 ∧ (bcase (i.op == 18) (RetP R (.tuple #[.slice none 0 0, .int .i64 31]) m) (IntKind.i64 = IntKind.i64 ∧ (bcase (i.op == 20) (∃ i21 : Int, m.cell ⟨b, 4, none⟩ = some (.int .i64 i21) ∧ CallsA Tryz.prog w0 87 #[.int .i64 i21] m fun r26 m27 => ∃ (A22 : Option Addr) (n23 c24 : Nat), ∃ i25 : Int, r26 = .tuple #[.slice A22 n23 c24, .int .i64 i25] ∧ RetP R (.tuple #[.slice A22 n23 c24, .int .i64 i25]) m27) (RetP R (.tuple #[.slice none 0 0, .int .i64 0]) m)))) := by
      refine ⟨rfl, bcI (fun h8 => ret0 _ (by rw [fw, if_pos (by simpa using h8)]) _ _ _ _ l) fun h8 => ⟨rfl, bcI (fun h20 => ?_) fun h20 => ret0 _ (by rw [fw, if_neg (by simpa using h8), if_neg (by simp at h20; omega)]) _ _ _ _ l⟩⟩
      refine ⟨_, cel p rfl, ?_⟩
      refine CallsA.mono (sysw_spec w0 m i.imm) ?_
      rintro r m2 ⟨⟨A, n, c, rfl⟩, l2⟩
      refine ⟨A, n, c, _, rfl, ret0 _ ?_ _ _ _ _ (AM.le_trans l l2)⟩
      rw [fw, if_neg (by simpa using h8)]
      have : i.op = 20 := by simpa using h20
      by_cases e : i.imm = 1
      · rw [if_pos ⟨this, e⟩, if_pos e]
      · rw [if_neg (fun hh => e hh.2), if_neg e]
    refine ⟨rfl, bcI (fun h14 => ?_) fun h14 => ⟨rfl, bcI (fun h19 => ?_) fun h19 => ?_⟩⟩
    · refine bcET h14 (one 0 ?_)
      have : i.op = 14 := by simpa using h14
      rw [fw, if_neg (by omega), if_neg (by omega)]
    · have : i.op = 19 := by simpa using h19
      exact one 0 (by rw [fw, if_neg (by omega), if_neg (by omega)])
    · exact tail
  have K2 : ∀ (m : AM) (σ : Sg) (x : Bool), m = M → σ 1 = .pointer (some ⟨b, 0, none⟩) → σ 5 = .int .i64 i.op → σ 23 = .bool x → x = decide (i.op = 10 ∨ i.op = 12) → ¬ (1 ≤ i.op ∧ i.op ≤ 9) → (vcS Tryz.prog w0 qs76 (sub c76 [1, 0, 1, 0, 1, 1, 1]) σ m (blockS 0 (thenS (fun σ m => vcS Tryz.prog w0 qs76 (sub c76 [1, 1]) σ m (retQ Tryz.prog Tryz.f76 R)) (retQ Tryz.prog Tryz.f76 R)))) := by
    intro m σ x hm' h1 h5 h23 hx hno
    subst hm'
    refine vk76_1010111 w0 m σ R b i.op x h1 h5 h23 ?_
    refine bcI (fun h => ?_) fun h => ?_
    · rw [hx] at h
      have h := of_decide_eq_true h
      refine vr76_101011100 w0 m _ R b (fun A n c v m' => v = i.a ∧ m0.le m') rfl ?_ ?_
      · exact ⟨_, cel p rfl, _, cel p rfl, rfl, fun b' hb' hm' => ⟨rfl, rfl, rfl, rfl, AM.le_trans l (le_new hm' _)⟩⟩
      · rintro σ' A n c v m' ⟨rfl, l'⟩
        exact ret0 _ (by unfold fieldW; rw [if_pos (by omega)]) _ _ _ _ l'
    rw [hx] at h
    have h := of_decide_eq_false h
    refine ⟨rfl, bcI (fun h11 => ?_) fun h11 => ?_⟩
    · have : i.op = 11 := by simpa using h11
      exact ⟨_, cel p rfl, ret0 _ (by unfold fieldW; rw [if_pos (by omega)]) _ _ _ _ l⟩
    have n11 : i.op ≠ 11 := by simpa using h11
    refine ⟨rfl, bcI (fun h13 => ?_) fun h13 => ⟨rfl, bcI (fun h15 => ?_) fun h15 => ⟨rfl, ?_⟩⟩⟩
    · exact K3 m _ (i.op == 13) rfl rfl rfl rfl (by have : i.op = 13 := by simpa using h13
                                                    simp [this]) (by omega)
    · exact K3 m _ (i.op == 15) rfl rfl rfl rfl (by have : i.op = 15 := by simpa using h15
                                                    simp [this]) (by omega)
    · refine K3 m _ (i.op == 16) rfl rfl rfl rfl ?_ (by omega)
      have a1 : i.op ≠ 13 := by simpa using h13
      have a2 : i.op ≠ 15 := by simpa using h15
      by_cases e : i.op = 16 <;> simp [e, a1, a2]
  have K1 : ∀ (m : AM) (σ : Sg) (x : Bool), m = M → σ 1 = .pointer (some ⟨b, 0, none⟩) → σ 5 = .int .i64 i.op → σ 6 = .bool x → x = decide (1 ≤ i.op ∧ i.op ≤ 9) → (vcS Tryz.prog w0 qs76 (sub c76 [1, 0, 1, 0, 1]) σ m (blockS 0 (thenS (fun σ m => vcS Tryz.prog w0 qs76 (sub c76 [1, 1]) σ m (retQ Tryz.prog Tryz.f76 R)) (retQ Tryz.prog Tryz.f76 R)))) := by
    intro m σ x hm' h1 h5 h6 hx
    subst hm'
    refine vk76_10101 w0 m σ R b i.op x h1 h5 h6 ?_
    refine bcI (fun h => ?_) fun h => ?_
    · rw [hx] at h
      have h := of_decide_eq_true h
      refine vr76_1010100 w0 m _ R b (fun A n c v m' => v = i.a ∧ m0.le m') rfl ?_ ?_
      · exact ⟨_, cel p rfl, _, cel p rfl, _, cel p rfl, rfl, fun b' hb' hm' => ⟨rfl, rfl, rfl, rfl, AM.le_trans l (le_new hm' _)⟩⟩
      · rintro σ' A n c v m' ⟨rfl, l'⟩
        exact ret0 _ (by unfold fieldW; rw [if_pos (by omega)]) _ _ _ _ l'
    rw [hx] at h
    have h := of_decide_eq_false h
    refine ⟨rfl, bcI (fun h10 => ?_) fun h10 => ⟨rfl, ?_⟩⟩
    · exact K2 m _ (i.op == 10) rfl rfl rfl rfl (by have : i.op = 10 := by simpa using h10
                                                    simp [this]) h
    · refine K2 m _ (i.op == 12) rfl rfl rfl rfl ?_ h
      have a1 : i.op ≠ 10 := by simpa using h10
      by_cases e : i.op = 12 <;> simp [e, a1]
  have go : ∀ (σ : Sg) (k : Int), σ 1 = .pointer (some ⟨b, 0, none⟩) → σ 5 = .int .i64 i.op → σ 6 = .bool (i.op == k) → 1 ≤ k → k ≤ 9 → (i.op == k) = true → ∀ m, m = M → (vcS Tryz.prog w0 qs76 (sub c76 [1, 0, 1, 0, 1]) σ m (blockS 0 (thenS (fun σ m => vcS Tryz.prog w0 qs76 (sub c76 [1, 1]) σ m (retQ Tryz.prog Tryz.f76 R)) (retQ Tryz.prog Tryz.f76 R)))) := by
    intro σ k h1 h5 h6 hk1 hk2 he m hm'
    refine K1 m σ _ hm' h1 h5 h6 ?_
    have : i.op = k := by simpa using he
    rw [he]
    exact (decide_eq_true ⟨by omega, by omega⟩).symm
  refine ⟨rfl, bcI (fun h => go _ 1 rfl rfl rfl (by omega) (by omega) h _ rfl) fun h1 => ?_⟩
  refine ⟨rfl, bcI (fun h => go _ 2 rfl rfl rfl (by omega) (by omega) h _ rfl) fun h2 => ?_⟩
  refine ⟨rfl, bcI (fun h => go _ 3 rfl rfl rfl (by omega) (by omega) h _ rfl) fun h3 => ?_⟩
  refine ⟨rfl, bcI (fun h => go _ 4 rfl rfl rfl (by omega) (by omega) h _ rfl) fun h4 => ?_⟩
  refine ⟨rfl, bcI (fun h => go _ 5 rfl rfl rfl (by omega) (by omega) h _ rfl) fun h5 => ?_⟩
  refine ⟨rfl, bcI (fun h => go _ 6 rfl rfl rfl (by omega) (by omega) h _ rfl) fun h6 => ?_⟩
  refine ⟨rfl, bcI (fun h => go _ 7 rfl rfl rfl (by omega) (by omega) h _ rfl) fun h7 => ?_⟩
  refine ⟨rfl, bcI (fun h => go _ 8 rfl rfl rfl (by omega) (by omega) h _ rfl) fun h8 => ⟨rfl, ?_⟩⟩
  refine K1 _ _ (i.op == 9) rfl rfl rfl rfl ?_
  simp only [beq_eq_false_iff_ne, ne_eq] at h1 h2 h3 h4 h5 h6 h7 h8
  by_cases e : i.op = 9
  · simp [e]
  · rw [beq_eq_false_iff_ne.2 e]
    exact (decide_eq_false (by omega)).symm

theorem writes_spec (w0:World) (m:AM) (i:Ins):CallsA Tryz.prog w0 59 #[i.val] m (fun r m'=>r=.int .i64 (writesP i)∧m.le m'):=by
 refine cf59 w0 m _ _ _ _ _ _ ?_
 intro b hb hm M
 have l:m.le M:=le_new hm _
 have p:M b=some (.cells i.cells.toArray 36):=upd_get_same
 clear_value M
 refine ⟨_,cel p rfl,_,cel p rfl,_,cel p rfl,_,cel p rfl,_,cel p rfl,?_⟩
 refine CallsA.mono (isaRight w0 M i) ?_
 rintro r m2 ⟨rfl,l2⟩
 refine ⟨_,rfl,?_⟩
 have p2:=l2 _ _ p
 unfold writesP
 cases hr:rightR i
 ·exact bcET (by rfl) (retP_of ⟨rfl,AM.le_trans l l2⟩)
 ·refine bcEF (by rfl) ?_
  refine ⟨_,cel p2 rfl,_,cel p2 rfl,_,cel p2 rfl,_,cel p2 rfl,_,cel p2 rfl,?_⟩
  refine CallsA.mono (fields_spec w0 m2 i) ?_
  rintro r m3 ⟨⟨A,n,c,rfl⟩,l3⟩
  exact ⟨_,_,_,_,rfl,retP_of ⟨rfl,AM.le_trans (AM.le_trans l l2) l3⟩⟩

theorem late_spec (w0:World) (m:AM) (i:Ins):CallsA Tryz.prog w0 46 #[i.val] m (fun r m'=>r=.bool (lateP i)∧m.le m'):=by
 refine cf46 w0 m _ _ _ _ _ _ ?_
 intro b hb hm M
 have l:m.le M:=le_new hm _
 have p:M b=some (.cells i.cells.toArray 36):=upd_get_same
 clear_value M
 refine ⟨_,cel p rfl,_,cel p rfl,_,cel p rfl,_,cel p rfl,_,cel p rfl,?_⟩
 refine CallsA.mono (isaRight w0 M i) ?_
 rintro r m2 ⟨rfl,l2⟩
 refine ⟨_,rfl,?_⟩
 have p2:=l2 _ _ p
 have L:=AM.le_trans l l2
 unfold lateP
 cases hr:rightR i
 ·exact ⟨rfl,retP_of ⟨rfl,L⟩⟩
 ·refine ⟨_,cel p2 rfl,rfl,bcI (fun h=>⟨h,retP_of ⟨by rw [h]; rfl,L⟩⟩) fun h=>⟨_,cel p2 rfl,rfl,bcI (fun h2=>⟨_,cel p2 rfl,rfl,retP_of ⟨?_,L⟩⟩) fun h2=>⟨h2,retP_of ⟨by rw [h,h2]; rfl,L⟩⟩⟩⟩
  rw [h,h2]
  cases (i.imm == 1) <;> rfl
end Go.Proofs.YtkfemiloehkmhaaGreat.S

set_option linter.unusedSimpArgs false
set_option linter.unusedVariables false
set_option maxRecDepth 100000
namespace Go.Proofs.YtkfemiloehkmhaaGreat.S
open Go Go.RowKit Go.Alog Go.Proofs.YtkfemiloehkmhaaGreat.T Go.Proofs.YtkfemiloehkmhaaGreat.V

def actsP (i:Ins):Bool:=rightR i && decide (i.op=4∨i.op=5∨i.op=12∨i.op=13∨i.op=14∨i.op=20)
def goesP (i:Ins):Bool:=rightR i && decide (15≤i.op∧i.op≤19)

theorem acts_spec (w0:World) (m:AM) (i:Ins):CallsA Tryz.prog w0 73 #[i.val] m (fun r m'=>r=.bool (actsP i)∧m.le m'):=by
 generalize hR:(fun (r:Value) (m':AM)=>r=.bool (actsP i)∧m.le m')=R
 refine cf73 w0 m _ _ _ _ _ R ?_
 intro b hb hm M
 have l:m.le M:=le_new hm _
 have p:M b=some (.cells i.cells.toArray 36):=upd_get_same
 clear_value M
 have ret:∀ (v:Bool) (m':AM),m.le m'→v=actsP i→RetP R (.bool v) m':=fun v m' l' e=>retP_of (by rw [← hR,e]; exact ⟨rfl,l'⟩)
 have yes:actsP i=rightR i→∃ i4:Int,M.cell ⟨b,0,none⟩=some (.int .i64 i4)∧∃ i5:Int,M.cell ⟨b,1,none⟩=some (.int .i64 i5)∧∃ i6:Int,M.cell ⟨b,2,none⟩=some (.int .i64 i6)∧∃ i7:Int,M.cell ⟨b,3,none⟩=some (.int .i64 i7)∧∃ i8:Int,M.cell ⟨b,4,none⟩=some (.int .i64 i8)∧CallsA Tryz.prog w0 17 #[.agg #[.int .i64 i4,.int .i64 i5,.int .i64 i6,.int .i64 i7,.int .i64 i8]] M fun r10 m11=>∃ t9:Bool,r10=.bool t9∧RetP R (.bool t9) m11:=by
  intro e
  refine ⟨_,cel p rfl,_,cel p rfl,_,cel p rfl,_,cel p rfl,_,cel p rfl,?_⟩
  refine CallsA.mono (isaRight w0 M i) ?_
  rintro r m2 ⟨rfl,l2⟩
  exact ⟨_,rfl,ret _ _ (AM.le_trans l l2) e.symm⟩
 refine ⟨_,cel p rfl,?_⟩
 refine ⟨rfl,bcI (fun h=>bcET h (yes (by unfold actsP; simp [show i.op=4 by simpa using h]))) fun h4=>?_⟩
 refine ⟨rfl,bcI (fun h=>bcET h (yes (by unfold actsP; simp [show i.op=5 by simpa using h]))) fun h5=>?_⟩
 refine ⟨rfl,bcI (fun h=>bcET h (yes (by unfold actsP; simp [show i.op=12 by simpa using h]))) fun h12=>?_⟩
 refine ⟨rfl,bcI (fun h=>bcET h (yes (by unfold actsP; simp [show i.op=13 by simpa using h]))) fun h13=>?_⟩
 refine ⟨rfl,bcI (fun h=>bcET h (yes (by unfold actsP; simp [show i.op=14 by simpa using h]))) fun h14=>?_⟩
 refine ⟨rfl,bcI (fun h =>  (yes (by unfold actsP; simp [show i.op=20 by simpa using h]))) fun h20=>?_⟩
 refine ret false M l ?_
 simp only [beq_eq_false_iff_ne,ne_eq] at h4 h5 h12 h13 h14 h20
 unfold actsP
 rw [decide_eq_false (by omega),Bool.and_false]

theorem goes_spec (w0:World) (m:AM) (i:Ins):CallsA Tryz.prog w0 44 #[i.val] m (fun r m'=>r=.bool (goesP i)∧m.le m'):=by
 generalize hR:(fun (r:Value) (m':AM)=>r=.bool (goesP i)∧m.le m')=R
 refine cf44 w0 m _ _ _ _ _ R ?_
 intro b hb hm M
 have l:m.le M:=le_new hm _
 have p:M b=some (.cells i.cells.toArray 36):=upd_get_same
 clear_value M
 have ret:∀ (v:Bool) (m':AM),m.le m'→v=goesP i→RetP R (.bool v) m':=fun v m' l' e=>retP_of (by rw [← hR,e]; exact ⟨rfl,l'⟩)
 have yes:goesP i=rightR i→∃ i4:Int,M.cell ⟨b,0,none⟩=some (.int .i64 i4)∧∃ i5:Int,M.cell ⟨b,1,none⟩=some (.int .i64 i5)∧∃ i6:Int,M.cell ⟨b,2,none⟩=some (.int .i64 i6)∧∃ i7:Int,M.cell ⟨b,3,none⟩=some (.int .i64 i7)∧∃ i8:Int,M.cell ⟨b,4,none⟩=some (.int .i64 i8)∧CallsA Tryz.prog w0 17 #[.agg #[.int .i64 i4,.int .i64 i5,.int .i64 i6,.int .i64 i7,.int .i64 i8]] M fun r10 m11=>∃ t9:Bool,r10=.bool t9∧RetP R (.bool t9) m11:=by
  intro e
  refine ⟨_,cel p rfl,_,cel p rfl,_,cel p rfl,_,cel p rfl,_,cel p rfl,?_⟩
  refine CallsA.mono (isaRight w0 M i) ?_
  rintro r m2 ⟨rfl,l2⟩
  exact ⟨_,rfl,ret _ _ (AM.le_trans l l2) e.symm⟩
 refine ⟨_,cel p rfl,?_⟩
 refine ⟨rfl,bcI (fun h=>bcET h (yes (by unfold goesP; simp [show i.op=15 by simpa using h]))) fun h15=>?_⟩
 refine ⟨rfl,bcI (fun h=>bcET h (yes (by unfold goesP; simp [show i.op=16 by simpa using h]))) fun h16=>?_⟩
 refine ⟨rfl,bcI (fun h=>bcET h (yes (by unfold goesP; simp [show i.op=17 by simpa using h]))) fun h17=>?_⟩
 refine ⟨rfl,bcI (fun h=>bcET h (yes (by unfold goesP; simp [show i.op=18 by simpa using h]))) fun h18=>?_⟩
 refine ⟨rfl,bcI (fun h=>(yes (by unfold goesP; simp [show i.op=19 by simpa using h]))) fun h19=>?_⟩
 refine ret false M l ?_
 simp only [beq_eq_false_iff_ne,ne_eq] at h15 h16 h17 h18 h19
 unfold goesP
 rw [decide_eq_false (by omega),Bool.and_false]

end Go.Proofs.YtkfemiloehkmhaaGreat.S

set_option linter.unusedSimpArgs false
set_option linter.unusedVariables false
set_option maxRecDepth 100000
namespace Go.Proofs.YtkfemiloehkmhaaGreat.V
open Go Go.Alog Go.Proofs.YtkfemiloehkmhaaGreat.T

theorem pdq_small (w0 : World) (m : AM) (A : Option Addr) (n c : Nat) (lim : Int) (hn : n ≤ 12) (R : Value → AM → Prop)
    (h : CallsA Tryz.prog w0 88 #[.slice A n c, .int .i64 0, .int .i64 n] m (fun r m' => r = .tuple #[] ∧ RetP R (.tuple #[]) m')) :
    CallsA Tryz.prog w0 82 #[.slice A n c, .int .i64 0, .int .i64 n, .int .i64 lim] m R := by
  refine cf82 w0 m A n c 0 n lim R ?_
  generalize hσ : (upd (upd (argS [.slice A n c, .int .i64 0, .int .i64 (n : Int), .int .i64 lim]) 8 (.bool true)) 9 (.bool true)) = σ
  have s0 : σ 0 = .slice A n c := by rw [← hσ]; rfl
  have s1 : σ 1 = .int .i64 0 := by rw [← hσ]; rfl
  have s2 : σ 2 = .int .i64 (n : Int) := by rw [← hσ]; rfl
  rw [show sub c82 [1, 1, 0] = .loop (sub c82 [1, 1, 0, 0]) from by kernel_rfl]
  simp only [vcS]
  refine ⟨fun _ σ' m' => σ' = σ ∧ m' = m, 0, ⟨rfl, rfl⟩, ?_⟩
  rintro k σ' m' ⟨h1, h2⟩
  subst h1
  subst h2
  refine ⟨_, fun _ _ _ h => h, ?_⟩
  rw [show sub c82 [1, 1, 0, 0] = Go.Code.block 1
              (Go.Code.seq
                (Go.Code.region 2
                  #[Go.Oper.mk (some 19) (Go.Op.move (Go.Operand.tmp 2)) 3 "zsortordered.go:72" #[] none,
                    Go.Oper.mk (some 20) (Go.Op.move (Go.Operand.tmp 1)) 3 "zsortordered.go:72" #[] none,
                    Go.Oper.mk (some 21) (Go.Op.binOp Go.BinOp.sub 3 (Go.Operand.tmp 19) (Go.Operand.tmp 20) 3) 3
                      "zsortordered.go:72" #[Go.Edge.mk 0 Go.Ground.data, Go.Edge.mk 1 Go.Ground.data] none,
                    Go.Oper.mk (some 10) (Go.Op.assign (Go.Operand.tmp 21)) 3 "zsortordered.go:72"
                      #[Go.Edge.mk 2 Go.Ground.data, Go.Edge.mk 0 Go.Ground.phase, Go.Edge.mk 1 Go.Ground.phase,
                        Go.Edge.mk 2 Go.Ground.phase]
                      none]
                  false)
                (Go.Code.seq
                  (Go.Code.seq
                    (Go.Code.region 3
                      #[Go.Oper.mk (some 22) (Go.Op.move (Go.Operand.tmp 10)) 3 "zsortordered.go:74" #[] none,
                        Go.Oper.mk (some 23)
                          (Go.Op.binOp Go.BinOp.leq 3 (Go.Operand.tmp 22)
                            (Go.Operand.const (Go.Value.int Go.IntKind.i64 12)) 3)
                          4 "zsortordered.go:74" #[Go.Edge.mk 0 Go.Ground.data] none]
                      false)
                    (Go.Code.cond (Go.Operand.tmp 23)
                      (Go.Code.seq
                        (Go.Code.region 4
                          #[Go.Oper.mk (some 24) (Go.Op.move (Go.Operand.tmp 0)) 23 "zsortordered.go:75" #[] none,
                            Go.Oper.mk (some 25) (Go.Op.move (Go.Operand.tmp 1)) 3 "zsortordered.go:75" #[] none,
                            Go.Oper.mk (some 26) (Go.Op.move (Go.Operand.tmp 2)) 3 "zsortordered.go:75" #[] none,
                            Go.Oper.mk (some 27)
                              (Go.Op.call
                                (Go.Call.mk (Go.Callee.value (Go.Operand.func 88))
                                  #[Go.Operand.tmp 24, Go.Operand.tmp 25, Go.Operand.tmp 26] #[23, 3, 3]))
                              0 "zsortordered.go:75"
                              #[Go.Edge.mk 0 Go.Ground.data, Go.Edge.mk 1 Go.Ground.data, Go.Edge.mk 2 Go.Ground.data]
                              none]
                          false)
                        Go.Code.ret)
                      Go.Code.skip))
                  (sub c82 [1, 1, 0, 0, 0, 1, 1]))) from by kernel_rfl]
  have u3 : Tryz.prog.underlying 3 = some (.int .i64) := by kernel_rfl
  simp only [vcS, Bool.false_and, alS]
  simp only [Bool.false_eq_true, if_false, opS, evS, putS, upd, s0, s1, s2, Nat.reduceEqDiff, reduceIte, Nat.reduceLeDiff, Nat.succ_ne_self, binX, u3]
  simp only [binS, thenS_normal, upd, Nat.reduceEqDiff, reduceIte, s0, s1, s2, condS, List.map_toArray, List.map_cons, List.map_nil, evS, fnS]
  refine ⟨trivial, ?_⟩
  simp only [thenS, upd, Nat.reduceEqDiff, reduceIte, s0, s1, s2]
  refine ⟨trivial, ?_⟩
  have hd : decide (IntKind.wrap .i64 ((n : Int) - 0) ≤ 12) = true := by
    apply decide_eq_true
    rw [IntKind.wrap_i64]; omega
  rw [hd]
  refine bcT ?_
  have sg : sigOf Tryz.prog 88 = some [] := by kernel_rfl
  simp only [callS, sg, Nat.reduceLeDiff, reduceIte]
  refine CallsA.mono h ?_
  rintro r m2 ⟨rfl, hR⟩
  exact ⟨rfl, hR⟩
end Go.Proofs.YtkfemiloehkmhaaGreat.V

