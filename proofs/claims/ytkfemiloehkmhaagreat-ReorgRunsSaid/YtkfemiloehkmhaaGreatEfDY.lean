/- YtkfemiloehkmhaaGreat: a text of our own, by an AI agent: EfDY -/
import Derived.Test.YtkfemiloehkmhaaGreatEfBY
import Derived.Test.YtkfemiloehkmhaaGreatCoreD
set_option linter.unusedSimpArgs false
set_option linter.unusedVariables false
set_option maxRecDepth 100000
namespace Go.Proofs.YtkfemiloehkmhaaGreat.S
open Go Go.RowKit Go.Alog Go.Proofs.YtkfemiloehkmhaaGreat.T Go.Proofs.YtkfemiloehkmhaaGreat.V

def fieldL (i:Ins):List Int :=
 if 1≤i.op∧i.op≤9 then [i.b,i.c] else if i.op=10∨i.op=12 then [i.b] else if i.op=13∨i.op=15∨i.op=16 then [i.a,i.b] else if i.op=14∨i.op=19 then [i.a] else if i.op=20∧i.imm=2 then [4] else []
abbrev wrLE (w0:World) (v:Int) (L:List Int) (m0:AM) (r:Value) (m':AM):Prop:=(∃ (A:Option Addr) (c:Nat),r=.tuple #[.slice A L.length c,.int .i64 v]∧Own m' w0.heap.size 3 1 A L.length c (intCells .i64 L)∧∀ k∈obl A,m0 k=none)∧m0.le m'

theorem fields2_spec (w0 : World) (m0 : AM) (i : Ins) : CallsA Tryz.prog w0 76 #[i.val] m0 (wrLE w0 (fieldW i) (fieldL i) m0) := by
  generalize hR : wrLE w0 (fieldW i) (fieldL i) m0 = R
  refine cf76 w0 m0 _ _ _ _ _ _ ?_
  intro b hb hm M
  have l : m0.le M := le_new hm _
  have p : M b = some (.cells i.cells.toArray 36) := upd_get_same
  clear_value M
  refine ⟨_, cel p rfl, ?_⟩
  have retN : ∀ (v : Int), fieldW i = v → fieldL i = [] → ∀ m', m0.le m' → RetP R (.tuple #[.slice none 0 0, .int .i64 v]) m' := fun v e e2 m' l' => retP_of (by
    rw [← hR]
    refine ⟨⟨none, 0, by rw [e, e2]; rfl, ?_, fun k hk => by simp [obl] at hk⟩, l'⟩
    rw [e2]; exact Own.nil m' w0.heap.size 3 1)
  have fresh : ∀ {mm : AM} {b' : Nat}, m0.le mm → mm b' = none → m0 b' = none := fun hl hn => by
    cases hx : m0 _ with
    | none => rfl
    | some o => rw [hl _ _ hx] at hn; cases hn
  have retL : ∀ (v : Int) (L : List Int), fieldW i = v → fieldL i = L → ∀ (mm : AM) (b' : Nat), m0.le mm → w0.heap.size ≤ b' → mm b' = none → RetP R (.tuple #[.slice (some ⟨b', 0, none⟩) L.length L.length, .int .i64 v]) (mm.upd b' (.cells (intCells .i64 L).toArray 3)) := fun v L e e2 mm b' l' hb' hm' => retP_of (by
    rw [← hR]
    refine ⟨⟨_, L.length, by rw [e, e2], ?_, fun k hk => ?_⟩, AM.le_trans l' (le_new hm' _)⟩
    · rw [e2]; exact Own.new mm hb' 3 1 L.length (intCells .i64 L) (by simp [intCells])
    · simp [obl] at hk; subst hk; exact fresh l' hm')
  have K3 : ∀ (m : AM) (σ : Sg) (x : Bool), m = M → σ 1 = .pointer (some ⟨b, 0, none⟩) → σ 5 = .int .i64 i.op → σ 35 = .bool x → x = decide (i.op = 13 ∨ i.op = 15 ∨ i.op = 16) → ¬ (1 ≤ i.op ∧ i.op ≤ 12) → (vcS Tryz.prog w0 qs76 (sub c76 [1, 0, 1, 0, 1, 1, 1, 1, 1, 1, 1]) σ m (blockS 0 (thenS (fun σ m => vcS Tryz.prog w0 qs76 (sub c76 [1, 1]) σ m (retQ Tryz.prog Tryz.f76 R)) (retQ Tryz.prog Tryz.f76 R)))) := by
    intro m σ x hm' h1 h5 h35 hx hno
    subst hm'
    refine vk76_10101111111 w0 m σ R b i.op x h1 h5 h35 ?_
    have fw : fieldW i = if i.op = 18 then 31 else if i.op = 20 ∧ i.imm = 1 then 4 else 0 := by unfold fieldW; rw [if_neg hno]
    have fl : fieldL i = if i.op = 13 ∨ i.op = 15 ∨ i.op = 16 then [i.a, i.b] else if i.op = 14 ∨ i.op = 19 then [i.a] else if i.op = 20 ∧ i.imm = 2 then [4] else [] := by unfold fieldL; rw [if_neg (by omega), if_neg (by omega)]
    refine bcI (fun h => ?_) fun h => ?_
    · rw [hx] at h
      have h := of_decide_eq_true h
      refine ⟨_, cel p rfl, _, cel p rfl, rfl, fun b' hb' hm' => retL 0 [i.a, i.b] (by rw [fw, if_neg (by omega), if_neg (by omega)]) (by rw [fl, if_pos h]) _ _ l hb' hm'⟩
    rw [hx] at h
    have h := of_decide_eq_false h
    have one : ∀ v, fieldW i = v → fieldL i = [i.a] → ∃ i18 : Int, m.cell ⟨b, 1, none⟩ = some (.int .i64 i18) ∧ true = true ∧ ∀ b19 : Nat, w0.heap.size ≤ b19 → m b19 = none → let m20 := AM.upd m b19 (.cells #[.int .i64 i18] 3); RetP R (.tuple #[.slice (some ⟨b19, 0, none⟩) 1 1, .int .i64 v]) m20 := fun v e e2 => ⟨_, cel p rfl, rfl, fun b' hb' hm' => retL v [i.a] e e2 _ _ l hb' hm'⟩
    have tail : i.op ≠ 14 → i.op ≠ 19 → IntKind.i64 = IntKind.i64 ∧ (bcase (i.op == 18) (RetP R (.tuple #[.slice none 0 0, .int .i64 31]) m) (IntKind.i64 = IntKind.i64 ∧ (bcase (i.op == 20) (∃ i21 : Int, m.cell ⟨b, 4, none⟩ = some (.int .i64 i21) ∧ CallsA Tryz.prog w0 87 #[.int .i64 i21] m fun r26 m27 => ∃ (A22 : Option Addr) (n23 c24 : Nat), ∃ i25 : Int, r26 = .tuple #[.slice A22 n23 c24, .int .i64 i25] ∧ RetP R (.tuple #[.slice A22 n23 c24, .int .i64 i25]) m27) (RetP R (.tuple #[.slice none 0 0, .int .i64 0]) m)))) := by
      intro n14 n19
      have fl2 : fieldL i = if i.op = 20 ∧ i.imm = 2 then [4] else [] := by rw [fl, if_neg h, if_neg (by omega)]
      refine ⟨rfl, bcI (fun h8 => retN _ (by rw [fw, if_pos (by simpa using h8)]) (by rw [fl2, if_neg (by simp at h8; omega)]) _ l) fun h8 => ⟨rfl, bcI (fun h20 => ?_) fun h20 => retN _ (by rw [fw, if_neg (by simpa using h8), if_neg (by simp at h20; omega)]) (by rw [fl2, if_neg (by simp at h20; omega)]) _ l⟩⟩
      refine ⟨_, cel p rfl, ?_⟩
      have e20 : i.op = 20 := by simpa using h20
      have fw2 : fieldW i = if i.imm = 1 then 4 else 0 := by
        rw [fw, if_neg (by simpa using h8)]
        by_cases e : i.imm = 1
        · rw [if_pos ⟨e20, e⟩, if_pos e]
        · rw [if_neg (fun hh => e hh.2), if_neg e]
      have fl3 : fieldL i = if i.imm = 2 then [4] else [] := by
        rw [fl2]
        by_cases e : i.imm = 2
        · rw [if_pos ⟨e20, e⟩, if_pos e]
        · rw [if_neg (fun hh => e hh.2), if_neg e]
      refine cf87 w0 m i.imm _ ⟨rfl, bcI (fun h1 => ?_) fun h1 => ⟨rfl, bcI (fun h2 => ⟨rfl, fun b' hb' hm' => ?_⟩) fun h2 => ?_⟩⟩
      · have e : i.imm = 1 := by simpa using h1
        exact retP_of ⟨_, _, _, _, rfl, retN _ (by rw [fw2, if_pos e]) (by rw [fl3, if_neg (by omega)]) _ l⟩
      · have e : i.imm = 2 := by simpa using h2
        exact retP_of ⟨_, _, _, _, rfl, retL 0 [4] (by rw [fw2, if_neg (by omega)]) (by rw [fl3, if_pos e]) _ _ l hb' hm'⟩
      · have e : i.imm ≠ 1 := by simpa using h1
        have e2 : i.imm ≠ 2 := by simpa using h2
        exact retP_of ⟨_, _, _, _, rfl, retN _ (by rw [fw2, if_neg e]) (by rw [fl3, if_neg e2]) _ l⟩
    refine ⟨rfl, bcI (fun h14 => ?_) fun h14 => ⟨rfl, bcI (fun h19 => ?_) fun h19 => ?_⟩⟩
    · have : i.op = 14 := by simpa using h14
      exact bcET h14 (one 0 (by rw [fw, if_neg (by omega), if_neg (by omega)]) (by rw [fl, if_neg h, if_pos (.inl this)]))
    · have : i.op = 19 := by simpa using h19
      exact one 0 (by rw [fw, if_neg (by omega), if_neg (by omega)]) (by rw [fl, if_neg h, if_pos (.inr this)])
    · exact tail (by simpa using h14) (by simpa using h19)
  have K2 : ∀ (m : AM) (σ : Sg) (x : Bool), m = M → σ 1 = .pointer (some ⟨b, 0, none⟩) → σ 5 = .int .i64 i.op → σ 23 = .bool x → x = decide (i.op = 10 ∨ i.op = 12) → ¬ (1 ≤ i.op ∧ i.op ≤ 9) → (vcS Tryz.prog w0 qs76 (sub c76 [1, 0, 1, 0, 1, 1, 1]) σ m (blockS 0 (thenS (fun σ m => vcS Tryz.prog w0 qs76 (sub c76 [1, 1]) σ m (retQ Tryz.prog Tryz.f76 R)) (retQ Tryz.prog Tryz.f76 R)))) := by
    intro m σ x hm' h1 h5 h23 hx hno
    subst hm'
    refine vk76_1010111 w0 m σ R b i.op x h1 h5 h23 ?_
    refine bcI (fun h => ?_) fun h => ?_
    · rw [hx] at h
      have h := of_decide_eq_true h
      refine vr76_101011100 w0 m _ R b (fun A n c v m' => v = i.a ∧ m0.le m' ∧ n = 1 ∧ Own m' w0.heap.size 3 1 A n c (intCells .i64 [i.b]) ∧ ∀ k ∈ obl A, m0 k = none) rfl ?_ ?_
      · exact ⟨_, cel p rfl, _, cel p rfl, rfl, fun b' hb' hm' => ⟨rfl, rfl, rfl, rfl, AM.le_trans l (le_new hm' _), rfl, Own.new m hb' 3 1 1 (intCells .i64 [i.b]) rfl, fun k hk => by simp [obl] at hk; subst hk; exact fresh l hm'⟩⟩
      · rintro σ' A n c v m' ⟨rfl, l', rfl, o', f'⟩
        exact retP_of (by
          rw [← hR]
          have e2 : fieldL i = [i.b] := (by unfold fieldL; rw [if_neg (by omega), if_pos h])
          refine ⟨⟨A, c, ?_, ?_, f'⟩, l'⟩
          · rw [e2]; unfold fieldW; rw [if_pos (by omega)]; rfl
          · rw [e2]; exact o')
    rw [hx] at h
    have h := of_decide_eq_false h
    refine ⟨rfl, bcI (fun h11 => ?_) fun h11 => ?_⟩
    · have : i.op = 11 := by simpa using h11
      exact ⟨_, cel p rfl, retN _ (by unfold fieldW; rw [if_pos (by omega)]) (by unfold fieldL; rw [if_neg (by omega), if_neg (by omega), if_neg (by omega), if_neg (by omega), if_neg (by omega)]) _ l⟩
    have n11 : i.op ≠ 11 := by simpa using h11
    refine ⟨rfl, bcI (fun h13 => ?_) fun h13 => ⟨rfl, bcI (fun h15 => ?_) fun h15 => ⟨rfl, ?_⟩⟩⟩
    · exact K3 m _ (i.op == 13) rfl rfl rfl rfl (by have : i.op = 13 := by simpa using h13
                                                    simp [this]) (by omega)
    · exact K3 m _ (i.op == 15) rfl rfl rfl rfl (by have : i.op = 15 := by simpa using h15
                                                    simp [this]) (by omega)
    · refine K3 m _ (i.op == 16) rfl rfl rfl rfl ?_ (by omega)
      have a1 : i.op ≠ 13 := by simpa using h13
      have a2 : i.op ≠ 15 := by simpa using h15
      by_cases e : i.op = 16 <;> simp [e, a1, a2]
  have K1 : ∀ (m : AM) (σ : Sg) (x : Bool), m = M → σ 1 = .pointer (some ⟨b, 0, none⟩) → σ 5 = .int .i64 i.op → σ 6 = .bool x → x = decide (1 ≤ i.op ∧ i.op ≤ 9) → (vcS Tryz.prog w0 qs76 (sub c76 [1, 0, 1, 0, 1]) σ m (blockS 0 (thenS (fun σ m => vcS Tryz.prog w0 qs76 (sub c76 [1, 1]) σ m (retQ Tryz.prog Tryz.f76 R)) (retQ Tryz.prog Tryz.f76 R)))) := by
    intro m σ x hm' h1 h5 h6 hx
    subst hm'
    refine vk76_10101 w0 m σ R b i.op x h1 h5 h6 ?_
    refine bcI (fun h => ?_) fun h => ?_
    · rw [hx] at h
      have h := of_decide_eq_true h
      refine vr76_1010100 w0 m _ R b (fun A n c v m' => v = i.a ∧ m0.le m' ∧ n = 2 ∧ Own m' w0.heap.size 3 1 A n c (intCells .i64 [i.b, i.c]) ∧ ∀ k ∈ obl A, m0 k = none) rfl ?_ ?_
      · exact ⟨_, cel p rfl, _, cel p rfl, _, cel p rfl, rfl, fun b' hb' hm' => ⟨rfl, rfl, rfl, rfl, AM.le_trans l (le_new hm' _), rfl, Own.new m hb' 3 1 2 (intCells .i64 [i.b, i.c]) rfl, fun k hk => by simp [obl] at hk; subst hk; exact fresh l hm'⟩⟩
      · rintro σ' A n c v m' ⟨rfl, l', rfl, o', f'⟩
        exact retP_of (by
          rw [← hR]
          have e2 : fieldL i = [i.b, i.c] := (by unfold fieldL; rw [if_pos h])
          refine ⟨⟨A, c, ?_, ?_, f'⟩, l'⟩
          · rw [e2]; unfold fieldW; rw [if_pos (by omega)]; rfl
          · rw [e2]; exact o')
    rw [hx] at h
    have h := of_decide_eq_false h
    refine ⟨rfl, bcI (fun h10 => ?_) fun h10 => ⟨rfl, ?_⟩⟩
    · exact K2 m _ (i.op == 10) rfl rfl rfl rfl (by have : i.op = 10 := by simpa using h10
                                                    simp [this]) h
    · refine K2 m _ (i.op == 12) rfl rfl rfl rfl ?_ h
      have a1 : i.op ≠ 10 := by simpa using h10
      by_cases e : i.op = 12 <;> simp [e, a1]
  have go : ∀ (σ : Sg) (k : Int), σ 1 = .pointer (some ⟨b, 0, none⟩) → σ 5 = .int .i64 i.op → σ 6 = .bool (i.op == k) → 1 ≤ k → k ≤ 9 → (i.op == k) = true → ∀ m, m = M → (vcS Tryz.prog w0 qs76 (sub c76 [1, 0, 1, 0, 1]) σ m (blockS 0 (thenS (fun σ m => vcS Tryz.prog w0 qs76 (sub c76 [1, 1]) σ m (retQ Tryz.prog Tryz.f76 R)) (retQ Tryz.prog Tryz.f76 R)))) := by
    intro σ k h1 h5 h6 hk1 hk2 he m hm'
    refine K1 m σ _ hm' h1 h5 h6 ?_
    have : i.op = k := by simpa using he
    rw [he]
    exact (decide_eq_true ⟨by omega, by omega⟩).symm
  refine ⟨rfl, bcI (fun h => go _ 1 rfl rfl rfl (by omega) (by omega) h _ rfl) fun h1 => ?_⟩
  refine ⟨rfl, bcI (fun h => go _ 2 rfl rfl rfl (by omega) (by omega) h _ rfl) fun h2 => ?_⟩
  refine ⟨rfl, bcI (fun h => go _ 3 rfl rfl rfl (by omega) (by omega) h _ rfl) fun h3 => ?_⟩
  refine ⟨rfl, bcI (fun h => go _ 4 rfl rfl rfl (by omega) (by omega) h _ rfl) fun h4 => ?_⟩
  refine ⟨rfl, bcI (fun h => go _ 5 rfl rfl rfl (by omega) (by omega) h _ rfl) fun h5 => ?_⟩
  refine ⟨rfl, bcI (fun h => go _ 6 rfl rfl rfl (by omega) (by omega) h _ rfl) fun h6 => ?_⟩
  refine ⟨rfl, bcI (fun h => go _ 7 rfl rfl rfl (by omega) (by omega) h _ rfl) fun h7 => ?_⟩
  refine ⟨rfl, bcI (fun h => go _ 8 rfl rfl rfl (by omega) (by omega) h _ rfl) fun h8 => ⟨rfl, ?_⟩⟩
  refine K1 _ _ (i.op == 9) rfl rfl rfl rfl ?_
  simp only [beq_eq_false_iff_ne, ne_eq] at h1 h2 h3 h4 h5 h6 h7 h8
  by_cases e : i.op = 9
  · simp [e]
  · rw [beq_eq_false_iff_ne.2 e]
    exact (decide_eq_false (by omega)).symm

def readsL (i:Ins):List Int:=if rightR i=true then dd (s2 (nz (fieldL i))) else []
theorem low_fresh {m m1 m2:AM} {A:Option Addr} (h:m.le m1) (hf:Fr m1 m2 (obl A)) (hn:∀ k∈obl A,m k=none):m.le m2:=fun k o hk=>hf k o (h k o hk) fun hin=>by rw [hn k hin] at hk; cases hk
theorem fieldL_len (i:Ins):(fieldL i).length≤2:=by
 unfold fieldL
 repeat' split
 all_goals simp
theorem nz_len (l:List Int):(nz l).length≤l.length:=List.length_filter_le _ _
theorem s2_len (l:List Int):(s2 l).length=l.length:=by
 unfold s2
 split
 ·split <;> rfl
 ·rfl
theorem reads_spec (w0:World) (m:AM) (i:Ins):CallsA Tryz.prog w0 86 #[i.val] m (fun r m'=>(∃ (A:Option Addr) (c:Nat),r=.slice A (readsL i).length c∧Own m' w0.heap.size 3 1 A (readsL i).length c (intCells .i64 (readsL i))∧∀ k∈obl A,m k=none)∧m.le m'):=by
 refine cf86 w0 m _ _ _ _ _ _ ?_
 intro b hb hm M
 have l:m.le M:=le_new hm _
 have p:M b=some (.cells i.cells.toArray 36):=upd_get_same
 clear_value M
 refine ⟨_,cel p rfl,_,cel p rfl,_,cel p rfl,_,cel p rfl,_,cel p rfl,?_⟩
 refine CallsA.mono (isaRight w0 M i) ?_
 rintro r m2 ⟨rfl,l2⟩
 refine ⟨_,rfl,?_⟩
 have p2:=l2 _ _ p
 have L:=AM.le_trans l l2
 cases hr:rightR i
 ·refine bcET (by rfl) (retP_of ?_)
  have:readsL i = []:=by unfold readsL; rw [hr]; rfl
  rw [this]
  exact ⟨⟨none,0,rfl,Own.nil _ _ _ _,fun k hk=>by simp [obl] at hk⟩,L⟩
 ·refine bcEF (by rfl) ?_
  refine ⟨_,cel p2 rfl,_,cel p2 rfl,_,cel p2 rfl,_,cel p2 rfl,_,cel p2 rfl,?_⟩
  refine CallsA.mono (fields2_spec w0 m2 i) ?_
  rintro r m3 ⟨⟨A,c,rfl,o3,f3⟩,l3⟩
  have f3:∀ k∈obl A,m k=none:=fun k hk=>by
   cases hx:m k with
   | none=>rfl
   | some o=>have:=L _ _ hx; rw [f3 k hk] at this; cases this
  have L3:=AM.le_trans L l3
  refine ⟨_,_,_,_,rfl,?_⟩
  refine CallsA.mono (delete_spec w0 m3 A c _ (fieldL_len i) o3) ?_
  rintro r m4 ⟨rfl,o4,h4⟩
  have n2:(nz (fieldL i)).length≤2:=Nat.le_trans (nz_len _) (fieldL_len i)
  refine ⟨_,_,_,rfl,?_⟩
  refine CallsA.mono (sort_spec w0 m4 A c _ n2 o4) ?_
  rintro r m5 ⟨rfl,o5,h5⟩
  refine ⟨rfl,?_⟩
  rw [← s2_len] at o5 ⊢
  refine CallsA.mono (compact_spec w0 m5 A c _ (by rw [s2_len]; exact n2) o5) ?_
  rintro r m6 ⟨rfl,o6,h6⟩
  have:readsL i=dd (s2 (nz (fieldL i))):=by unfold readsL; rw [hr]; rfl
  refine ⟨_,_,_,rfl,retP_of ?_⟩
  rw [this]
  refine ⟨⟨A,c,rfl,o6,f3⟩,?_⟩
  exact low_fresh (low_fresh (low_fresh L3 h4 f3) h5 f3) h6 f3

theorem iloop_lt {l:List Int} {i:Int} (h0:0≤i) (h:i<l.length):i.toNat<l.length:=by omega
theorem ix_spec (w0:World) (m:AM) (A:Option Addr) (c:Nat) (l:List Int) (x:Int) (hl:l.length≤1000000) (h:Reads m 1 A l.length (intCells .i64 l)) :
  CallsA Tryz.prog w0 85 #[.slice A l.length c,.int .i64 x] m (fun r m'=>r=.bool (l.contains x)∧m'=m):=by
 refine cf85 w0 m A l.length c x _ ?_
 refine CallsA.mono (R:=fun r m'=>m'=m∧∃ q:Int,r=.int .i64 q∧decide (q≥0)=l.contains x) ?_ ?_
 ·refine cf101 w0 m A l.length c x _ ?_
  refine vl101_1010 w0 m _ _ A l.length c x l.length 0 (fun k i m'=>m'=m∧0≤i∧i≤l.length∧(k:Int)=l.length-i∧x∉l.take i.toNat) (fun m'=>m'=m∧x∉l) l.length rfl rfl rfl rfl ⟨rfl,by omega,by omega,by omega,by simp⟩ ?_ ?_
  ·rintro k σ i m' ⟨rfl,i0,i1,hk,hp⟩
   refine ⟨rfl,bcP (fun c1=>⟨⟨i0,c1⟩,?_⟩) fun c1=>⟨rfl,?_⟩⟩
   ·obtain ⟨ad,rfl,hc⟩:=h.ex (by omega)
    rw [nilO_some]
    refine ⟨_,cell_k hc i0 c1,rfl,?_⟩
    have hi:i.toNat<l.length:=iloop_lt i0 c1
    have e:l.getD i.toNat 0=l[i.toNat]:=by simp [List.getD,hi]
    rw [e]
    refine bcI (fun hz=>retP_of ⟨rfl,_,rfl,?_⟩) fun hz=>⟨rfl,rfl,rfl,rfl,rfl,k-1,by omega,?_⟩
    ·have hz:x=l[i.toNat]:=by simpa using hz
     rw [decide_eq_true i0]
     have:x∈l:=by rw [hz]; exact List.getElem_mem hi
     exact (List.contains_iff_mem.2 this).symm
    ·have w:IntKind.wrap .i64 (i+1)=i+1:=by rw [IntKind.wrap_i64]; omega
     rw [w]
     refine ⟨rfl,by omega,by omega,by omega,?_⟩
     rw [show (i+1).toNat=i.toNat+1 by omega,← List.take_append_getElem hi]
     have hz:¬ x=l[i.toNat]:=by simpa using hz
     intro hmm
     rcases List.mem_append.1 hmm with h1 | h1
     ·exact hp h1
     ·exact hz (List.mem_singleton.1 h1)
   ·rw [List.take_of_length_le (by omega)] at hp; exact ⟨rfl,rfl,rfl,hp⟩
  ·rintro σ m' ⟨rfl,hp⟩
   refine retP_of ⟨rfl,_,rfl,?_⟩
   have:l.contains x=false:=by
    cases hc:l.contains x with
    | false=>rfl
    | true=>exact absurd (List.contains_iff_mem.1 hc) hp
   rw [this]; rfl
 ·rintro r m2 ⟨h2,q,rfl,hq⟩
  replace h2:=h2.symm; subst h2
  exact ⟨_,rfl,rfl,retP_of ⟨by rw [hq],rfl⟩⟩

def touchesP (i:Ins) (n:Int):Bool:=n != 0 && (writesP i == n || (readsL i).contains n)
end Go.Proofs.YtkfemiloehkmhaaGreat.S

set_option linter.unusedSimpArgs false
set_option linter.unusedVariables false
set_option maxRecDepth 100000
namespace Go.Proofs.YtkfemiloehkmhaaGreat.S
open Go Go.RowKit Go.Alog Go.Proofs.YtkfemiloehkmhaaGreat.T Go.Proofs.YtkfemiloehkmhaaGreat.V

theorem right_e (w0:World) (m:AM) (i:Ins):CallsA Tryz.prog w0 17 #[i.val] m (fun r m'=>r=.bool (rightR i)∧m'=m):=(isaRight w0 m i).down fun _ _ h=>h
theorem refRight_e (w0:World) (m:AM) (i:Ins):CallsA Tryz.prog w0 24 #[i.val] m (fun r m'=>r=.bool (rightR i)∧m'=m):=(right_spec w0 m i).down fun _ _ h=>h
theorem writes_e (w0:World) (m:AM) (i:Ins):CallsA Tryz.prog w0 59 #[i.val] m (fun r m'=>r=.int .i64 (writesP i)∧m'=m):=(writes_spec w0 m i).down fun _ _ h=>h
theorem acts_e (w0:World) (m:AM) (i:Ins):CallsA Tryz.prog w0 73 #[i.val] m (fun r m'=>r=.bool (actsP i)∧m'=m):=(acts_spec w0 m i).down fun _ _ h=>h
theorem goes_e (w0:World) (m:AM) (i:Ins):CallsA Tryz.prog w0 44 #[i.val] m (fun r m'=>r=.bool (goesP i)∧m'=m):=(goes_spec w0 m i).down fun _ _ h=>h
theorem late_e (w0:World) (m:AM) (i:Ins):CallsA Tryz.prog w0 46 #[i.val] m (fun r m'=>r=.bool (lateP i)∧m'=m):=(late_spec w0 m i).down fun _ _ h=>h
theorem refWrites_e (w0:World) (m:AM) (i:Ins):CallsA Tryz.prog w0 12 #[i.val] m (fun r m'=>r=.int .i64 (writesP i)∧m'=m):=by
 refine CallsA.down (R:=fun r m'=>r=.int .i64 (writesP i)∧m.le m') ?_ fun _ _ h=>h
 generalize hR:(fun (r:Value) (m':AM)=>r=.int .i64 (writesP i)∧m.le m')=R
 refine cf12 w0 m _ _ _ _ _ R ?_
 intro b hBb hNb M
 have l:AM.le _ M:=le_new hNb _
 have p:M b=some (.cells (Ins.cells i).toArray 36):=upd_get_same
 clear_value M
 refine ldIns p (callB (refRight_e w0 M i) ?_)
 have ret:∀ (v:Int),v=writesP i→RetP R (.int .i64 v) M:=fun v e=>by rw [← hR]; exact retP_of ⟨by rw [e],l⟩
 unfold writesP at ret
 cases hr:rightR i
 ·exact ret _ (by rw [hr]; rfl)
 rw [hr,if_pos rfl] at ret
 unfold fieldW at ret
 have tail:¬ (1≤i.op∧i.op≤12)→∃ a:Int,M.cell ⟨b,0,none⟩=some (.int .i64 a)∧IntKind.i64=IntKind.i64∧bcase (a == 18) (RetP R (.int .i64 31) M) (∃ a:Int,M.cell ⟨b,0,none⟩=some (.int .i64 a)∧IntKind.i64=IntKind.i64∧bcase (a == 20) (∃ a1:Int,M.cell ⟨b,4,none⟩=some (.int .i64 a1)∧IntKind.i64=IntKind.i64∧bcase (bif a == 20 then a1 == 1 else false) (RetP R (.int .i64 4) M) (RetP R (.int .i64 0) M)) ((a == 20)=false∧RetP R (.int .i64 0) M)):=by
  intro hn
  rw [if_neg hn] at ret
  refine ⟨_,cel p rfl,rfl,bcI (fun h=>ret _ (by rw [if_pos (by simpa using h)])) fun h=>?_⟩
  rw [if_neg (by simpa using h)] at ret
  refine ⟨_,cel p rfl,rfl,bcI (fun h2=>⟨_,cel p rfl,rfl,?_⟩) fun h2=>⟨h2,ret _ (by rw [if_neg]; simp at h2; omega)⟩⟩
  rw [h2]
  refine bcI (fun h3=>ret _ (by rw [if_pos]; simp at h2 h3; omega)) fun h3=>ret _ (by rw [if_neg]; simp at h2 h3; omega)
 refine bcF ⟨_,cel p rfl,rfl,bcP (fun h=>?_) fun h=>⟨by rw [decide_eq_false h],?_⟩⟩
 ·refine ⟨_,cel p rfl,rfl,?_⟩
  rw [decide_eq_true h]
  refine bcP (fun h2=>⟨_,cel p rfl,ret _ (by rw [if_pos (by omega)])⟩) fun h2=>tail (by omega)
 ·exact tail (by omega)

def readsR (i:Ins) (n:Int):Bool:=rightR i && (decide (1≤n∧n≤31) && (fieldL i).contains n)
theorem refReads_e (w0:World) (m:AM) (i:Ins) (n:Int):CallsA Tryz.prog w0 11 #[i.val,.int .i64 n] m (fun r m'=>r=.bool (readsR i n)∧m'=m):=by
 refine CallsA.down (R:=fun r m'=>r=.bool (readsR i n)∧m.le m') ?_ fun _ _ h=>h
 generalize hR:(fun (r:Value) (m':AM)=>r=.bool (readsR i n)∧m.le m')=R
 refine cf11 w0 m _ _ _ _ _ n R ?_
 intro b hBb hNb M
 have l:AM.le _ M:=le_new hNb _
 have p:M b=some (.cells (Ins.cells i).toArray 36):=upd_get_same
 clear_value M
 refine ldIns p (callB (refRight_e w0 M i) ?_)
 have ret:∀ (v:Bool),v=readsR i n→RetP R (.bool v) M:=fun v e=>by rw [← hR]; exact retP_of ⟨by rw [e],l⟩
 unfold readsR at ret
 cases hr:rightR i
 ·exact ⟨rfl,rfl,ret _ (by rw [hr]; rfl)⟩
 rw [hr] at ret
 refine bcF ⟨rfl,bcP (fun h=>⟨decide_eq_true h,ret _ (by rw [decide_eq_false (by omega)]; rfl)⟩) fun h=>⟨rfl,?_⟩⟩
 have h':(bif !true then true else decide (n<1))=false:=decide_eq_false h
 rw [h']
 refine bcP (fun h2=>ret _ (by rw [decide_eq_false (by omega)]; rfl)) fun h2=>?_
 rw [decide_eq_true (by omega:1≤n∧n≤31)] at ret
 simp only [Bool.true_and] at ret
 have c2:∀ x y:Int,(bif x == n then true else y == n) = [x,y].contains n:=by
  intro x y
  rw [Bool.eq_iff_iff]
  simp only [List.contains_cons,List.contains_nil,Bool.or_false]
  rw [BEq.comm (a:=n) (b:=x),BEq.comm (a:=n) (b:=y)]
  cases (x == n) <;> simp
 have c1:∀ x:Int,(x == n) = [x].contains n:=by
  intro x
  simp only [List.contains_cons,List.contains_nil,Bool.or_false]
  exact BEq.comm
 have K2:∀ (σ:Sg) (x:Bool),σ 1=.int .i64 n→σ 2=.pointer (some ⟨b,0,none⟩)→σ 5=.bool (i.a == n)→σ 6=.bool (i.b == n)→σ 32=.int .i64 i.op→σ 47=.bool x→x=decide (i.op=10∨i.op=12)→¬ (1≤i.op∧i.op≤9)→(vcS Tryz.prog w0 qs11 (sub c11 [1,1,1,0,1,0,1,1,1]) σ M (blockS 0 (thenS (fun σ M=>vcS Tryz.prog w0 qs11 (sub c11 [1,1,1,1]) σ M (retQ Tryz.prog Tryz.f11 R)) (retQ Tryz.prog Tryz.f11 R)))):=by
  intro σ x h1 h2 h5 h6 h32 h47 hx hno
  refine vk11_111010111 w0 M σ R n b (i.a == n) (i.b == n) i.op x h1 h2 h5 h6 h32 h47 ?_
  unfold fieldL at ret
  rw [if_neg hno] at ret
  refine bcI (fun h=>ret _ ?_) fun h=>?_
  ·rw [hx] at h
   rw [if_pos (of_decide_eq_true h),c1]
  rw [hx] at h
  have hn:=of_decide_eq_false h
  rw [if_neg hn] at ret
  have ab:(i.op=13∨i.op=15∨i.op=16)→bcase (i.a == n) ((i.a == n)=true∧RetP R (.bool true) M) (RetP R (.bool (bif i.a == n then true else i.b == n)) M):=by
   intro e
   rw [if_pos e] at ret
   exact bcI (fun h=>⟨h,ret _ (by rw [← c2,h]; rfl)⟩) fun h=>ret _ (by rw [c2])
  have sys:¬ (i.op=13∨i.op=15∨i.op=16)→¬ (i.op=14∨i.op=19)→IntKind.i64=IntKind.i64∧bcase (i.op == 20) (∃ a:Int,M.cell ⟨b,4,none⟩=some (.int .i64 a)∧IntKind.i64=IntKind.i64∧bcase (a == 2) (IntKind.i64=IntKind.i64∧RetP R (.bool (bif a == 2 then n == 4 else false)) M) ((a == 2)=false∧RetP R (.bool false) M)) (RetP R (.bool false) M):=by
   intro e1 e2
   rw [if_neg e1,if_neg e2] at ret
   refine ⟨rfl,bcI (fun h=>⟨_,cel p rfl,rfl,bcI (fun h2=>⟨rfl,ret _ ?_⟩) fun h2=>⟨h2,ret _ ?_⟩⟩) fun h=>ret _ ?_⟩
   ·rw [h2,if_pos (by simp at h h2; omega)]; simp only [List.contains_cons,List.contains_nil,Bool.or_false,cond_true]
   ·rw [if_neg (by simp at h h2; omega)]; rfl
   ·rw [if_neg (by simp at h; omega)]; rfl
  have one:¬ (i.op=13∨i.op=15∨i.op=16)→(i.op=14∨i.op=19)→RetP R (.bool (i.a == n)) M:=by
   intro e1 e2
   rw [if_neg e1,if_pos e2] at ret
   exact ret _ (by rw [c1])
  refine ⟨rfl,bcI (fun h13=>bcET h13 (ab (by simp at h13; omega))) fun h13=>⟨rfl,bcI (fun h15=>bcET h15 (ab (by simp at h15; omega))) fun h15=>⟨rfl,bcI (fun h16=>ab (by simp at h16; omega)) fun h16=>?_⟩⟩⟩
  have e1:¬ (i.op=13∨i.op=15∨i.op=16):=by simp at h13 h15 h16; omega
  exact ⟨rfl,bcI (fun h14=>bcET h14 (one e1 (by simp at h14; omega))) fun h14=>⟨rfl,bcI (fun h19=>one e1 (by simp at h19; omega)) fun h19=>sys e1 (by simp at h14 h19; omega)⟩⟩
 have K1:∀ (σ:Sg) (x:Bool),σ 1=.int .i64 n→σ 2=.pointer (some ⟨b,0,none⟩)→σ 5=.bool (i.a == n)→σ 6=.bool (i.b == n)→σ 7=.bool (i.c == n)→σ 32=.int .i64 i.op→σ 33=.bool x→x=decide (1≤i.op∧i.op≤9)→(vcS Tryz.prog w0 qs11 (sub c11 [1,1,1,0,1,0,1]) σ M (blockS 0 (thenS (fun σ M=>vcS Tryz.prog w0 qs11 (sub c11 [1,1,1,1]) σ M (retQ Tryz.prog Tryz.f11 R)) (retQ Tryz.prog Tryz.f11 R)))):=by
  intro σ x h1 h2 h5 h6 h7 h32 h33 hx
  refine vk11_1110101 w0 M σ R n b (i.a == n) (i.b == n) (i.c == n) i.op x h1 h2 h5 h6 h7 h32 h33 ?_
  refine bcI (fun h=>?_) fun h=>?_
  ·rw [hx] at h
   unfold fieldL at ret
   rw [if_pos (of_decide_eq_true h)] at ret
   exact bcI (fun h=>⟨h,ret _ (by rw [← c2,h]; rfl)⟩) fun h=>ret _ (by rw [c2])
  rw [hx] at h
  have hn:=of_decide_eq_false h
  refine ⟨rfl,bcI (fun h10=>?_) fun h10=>⟨rfl,?_⟩⟩
  ·refine K2 _ _ rfl rfl rfl rfl rfl rfl ?_ hn
   simp at h10; rw [h10]; rfl
  ·refine K2 _ (i.op == 12) rfl rfl rfl rfl rfl rfl ?_ hn
   rw [Bool.eq_iff_iff]; simp at h10 ⊢; omega
 have go:∀ (σ:Sg) (k:Int),σ 1=.int .i64 n→σ 2=.pointer (some ⟨b,0,none⟩)→σ 5=.bool (i.a == n)→σ 6=.bool (i.b == n)→σ 7=.bool (i.c == n)→σ 32=.int .i64 i.op→σ 33=.bool (i.op == k)→1≤k→k≤9→(i.op == k)=true→(vcS Tryz.prog w0 qs11 (sub c11 [1,1,1,0,1,0,1]) σ M (blockS 0 (thenS (fun σ M=>vcS Tryz.prog w0 qs11 (sub c11 [1,1,1,1]) σ M (retQ Tryz.prog Tryz.f11 R)) (retQ Tryz.prog Tryz.f11 R)))):=by
  intro σ k h1 h2 h5 h6 h7 h32 h33 hk1 hk2 he
  refine K1 σ _ h1 h2 h5 h6 h7 h32 h33 ?_
  have:i.op=k:=by simpa using he
  rw [he]
  exact (decide_eq_true ⟨by omega,by omega⟩).symm
 refine ⟨_,cel p rfl,rfl,_,cel p rfl,rfl,_,cel p rfl,rfl,_,cel p rfl,?_⟩
 refine ⟨rfl,bcI (fun h=>go _ 1 rfl rfl rfl rfl rfl rfl rfl (by omega) (by omega) h) fun h1=>?_⟩
 refine ⟨rfl,bcI (fun h=>go _ 2 rfl rfl rfl rfl rfl rfl rfl (by omega) (by omega) h) fun h2=>?_⟩
 refine ⟨rfl,bcI (fun h=>go _ 3 rfl rfl rfl rfl rfl rfl rfl (by omega) (by omega) h) fun h3=>?_⟩
 refine ⟨rfl,bcI (fun h=>go _ 4 rfl rfl rfl rfl rfl rfl rfl (by omega) (by omega) h) fun h4=>?_⟩
 refine ⟨rfl,bcI (fun h=>go _ 5 rfl rfl rfl rfl rfl rfl rfl (by omega) (by omega) h) fun h5=>?_⟩
 refine ⟨rfl,bcI (fun h=>go _ 6 rfl rfl rfl rfl rfl rfl rfl (by omega) (by omega) h) fun h6=>?_⟩
 refine ⟨rfl,bcI (fun h=>go _ 7 rfl rfl rfl rfl rfl rfl rfl (by omega) (by omega) h) fun h7=>?_⟩
 refine ⟨rfl,bcI (fun h=>go _ 8 rfl rfl rfl rfl rfl rfl rfl (by omega) (by omega) h) fun h8=>⟨rfl,?_⟩⟩
 refine K1 _ (i.op == 9) rfl rfl rfl rfl rfl rfl rfl ?_
 simp only [beq_eq_false_iff_ne,ne_eq] at h1 h2 h3 h4 h5 h6 h7 h8
 rw [Bool.eq_iff_iff]; simp; omega
end Go.Proofs.YtkfemiloehkmhaaGreat.S

set_option linter.unusedSimpArgs false
set_option linter.unusedVariables false
set_option maxRecDepth 100000
namespace Go.Proofs.YtkfemiloehkmhaaGreat.S
open Go Go.RowKit Go.Alog Go.Proofs.YtkfemiloehkmhaaGreat.T Go.Proofs.YtkfemiloehkmhaaGreat.V

theorem right_in {i:Ins} (h:rightR i=true):(0≤i.op∧i.op≤20)∧(0≤i.a∧i.a≤31)∧(0≤i.b∧i.b≤31)∧(0≤i.c∧i.c≤31):=by
 rw [← rightI_eq] at h
 unfold rightI pOk regI at h
 simp only [Bool.and_eq_true,decide_eq_true_eq] at h
 omega
theorem fieldL_in {i:Ins} (h:rightR i=true):∀ x∈fieldL i,0≤x∧x≤31:=by
 obtain ⟨_,ha,hb,hc⟩:=right_in h
 intro x hx
 unfold fieldL at hx
 repeat' split at hx
 all_goals simp at hx
 all_goals omega
inductive Two:List Int→Prop
 | none:Two []
 | one (x:Int):1≤x→x≤31→Two [x]
 | two (x y:Int):1≤x→x<y→y≤31→Two [x,y]
theorem two_of {l:List Int} (h2:l.length≤2) (h:∀ x∈l,0≤x∧x≤31):Two (dd (s2 (nz l)))∧∀ n,n∈dd (s2 (nz l))↔n∈l∧n≠0:=by
 match l,h2 with
 | [],_=>exact ⟨.none,fun n=>by simp [nz,s2,dd]⟩
 | [x],_ =>
  have hx:=h x (by simp)
  by_cases x0:x=0
  ·have:nz [x] = []:=by simp [nz,x0]
   rw [this]
   refine ⟨.none,fun n=>?_⟩
   simp [s2,dd,x0]
  ·have:nz [x] = [x]:=by simp [nz,x0]
   rw [this]
   refine ⟨.one x (by omega) hx.2,fun n=>?_⟩
   simp only [s2,dd,List.mem_singleton]
   constructor
   ·rintro rfl; exact ⟨rfl,x0⟩
   ·rintro ⟨rfl,_⟩; rfl
 | [x,y],_ =>
  have hx:=h x (by simp)
  have hy:=h y (by simp)
  by_cases x0:x=0
  ·by_cases y0:y=0
   ·have:nz [x,y] = []:=by simp [nz,x0,y0]
    rw [this]
    refine ⟨.none,fun n=>?_⟩
    simp [s2,dd,x0,y0]
   ·have:nz [x,y] = [y]:=by simp [nz,x0,y0]
    rw [this]
    refine ⟨.one y (by omega) hy.2,fun n=>?_⟩
    simp only [s2,dd,List.mem_singleton,List.mem_cons,List.not_mem_nil,or_false]
    constructor
    ·rintro rfl; exact ⟨.inr rfl,y0⟩
    ·rintro ⟨h | h,h'⟩ <;> omega
  ·by_cases y0:y=0
   ·have:nz [x,y] = [x]:=by simp [nz,x0,y0]
    rw [this]
    refine ⟨.one x (by omega) hx.2,fun n=>?_⟩
    simp only [s2,dd,List.mem_singleton,List.mem_cons,List.not_mem_nil,or_false]
    constructor
    ·rintro rfl; exact ⟨.inl rfl,x0⟩
    ·rintro ⟨h | h,h'⟩ <;> omega
   ·have:nz [x,y] = [x,y]:=by simp [nz,x0,y0]
    rw [this]
    rcases Int.lt_trichotomy x y with hl | hl | hl
    ·have e:dd (s2 [x,y]) = [x,y]:=by unfold s2; simp only; rw [if_neg (by omega)]; unfold dd; simp only; rw [if_neg (by omega)]
     rw [e]
     refine ⟨.two x y (by omega) hl hy.2,fun n=>?_⟩
     simp only [List.mem_cons,List.not_mem_nil,or_false]
     constructor
     ·intro h; exact ⟨h,by omega⟩
     ·exact fun h=>h.1
    ·have e:dd (s2 [x,y]) = [x]:=by unfold s2; simp only; rw [if_neg (by omega)]; unfold dd; simp only; rw [if_pos hl.symm]
     rw [e]
     refine ⟨.one x (by omega) hx.2,fun n=>?_⟩
     simp only [List.mem_cons,List.not_mem_nil,or_false]
     constructor
     ·intro h; exact ⟨.inl h,by omega⟩
     ·rintro ⟨h | h,_⟩ <;> omega
    ·have e:dd (s2 [x,y]) = [y,x]:=by unfold s2; simp only; rw [if_pos hl]; unfold dd; simp only; rw [if_neg (by omega)]
     rw [e]
     refine ⟨.two y x (by omega) hl hx.2,fun n=>?_⟩
     simp only [List.mem_cons,List.not_mem_nil,or_false]
     constructor
     ·intro h; exact ⟨by omega,by omega⟩
     ·rintro ⟨h,_⟩; omega
theorem readsL_two (i:Ins):Two (readsL i):=by
 unfold readsL
 split
 ·exact (two_of (fieldL_len i) (fieldL_in ‹_›)).1
 ·exact .none
theorem readsL_c (i:Ins) (n:Int):(readsL i).contains n=readsR i n:=by
 unfold readsL readsR
 by_cases hr:rightR i=true
 ·rw [if_pos hr,hr,Bool.true_and,Bool.eq_iff_iff]
  have h:=(two_of (fieldL_len i) (fieldL_in hr)).2 n
  have h2:=fieldL_in hr n
  simp only [List.contains_iff_mem,Bool.and_eq_true,decide_eq_true_eq]
  rw [h]
  constructor
  ·rintro ⟨a,b⟩; have:=h2 a; exact ⟨by omega,a⟩
  ·rintro ⟨a,b⟩; exact ⟨b,by omega⟩
 ·rw [if_neg hr]
  simp at hr
  rw [hr]; rfl
theorem touchesP_eq (i:Ins) (n:Int):touchesP i n=(n != 0 && (writesP i == n || readsR i n)):=by unfold touchesP; rw [readsL_c]
end Go.Proofs.YtkfemiloehkmhaaGreat.S

set_option linter.unusedSimpArgs false
set_option linter.unusedVariables false
set_option maxRecDepth 100000
namespace Go.Proofs.YtkfemiloehkmhaaGreat.S
open Go Go.RowKit Go.Alog Go.Proofs.YtkfemiloehkmhaaGreat.T Go.Proofs.YtkfemiloehkmhaaGreat.V

theorem callReads {w0:World} {m:AM} {i:Ins} {K:Option Addr→Nat→Nat→AM→Prop} (h:∀ A c m',m.le m'→Reads m' 1 A (readsL i).length (intCells .i64 (readsL i))→K A (readsL i).length c m') :
  CallsA Tryz.prog w0 86 #[i.val] m (fun r m'=>∃ (A:Option Addr) (n c:Nat),r=.slice A n c∧K A n c m'):=by
 refine CallsA.mono (reads_spec w0 m i) ?_
 rintro r m' ⟨⟨A,c,rfl,o,f⟩,l⟩
 exact ⟨_,_,_,rfl,h A c m' l o.reads⟩
theorem two_len {l:List Int} (h:Two l):l.length≤2:=by cases h <;> simp
theorem getD_in {l:List Int} {k:Nat} (h:k<l.length):l.getD k 0∈l:=by simp [List.getD,h]
end Go.Proofs.YtkfemiloehkmhaaGreat.S

