/- Ytijilloaggeepaa: a text of our own, by an AI agent: ELE -/
import Derived.Test.YtijilloaggeepaaSpE
import Derived.Test.YtijilloaggeepaaVLaw18bE
import Derived.Test.YtijilloaggeepaaVR1E
set_option linter.unusedSimpArgs false
set_option linter.unusedVariables false
set_option maxRecDepth 100000
namespace Go.Proofs.Ytijilloaggeepaa.S
open Go Go.RowKit Go.Alog Go.Proofs.Ytijilloaggeepaa.T Go.Proofs.Ytijilloaggeepaa.V

theorem awE (w0 : World) (M : AM) {b : Bool} (hb : b = true) : CallsA Try.prog w0 16 #[] M (fun r m' => ∃ t : Bool, r = .bool t ∧ RetP (fun r _ => r = .bool true) (.bool (bif b then t else false)) m') := by
  subst hb
  refine CallsA.mono (awake_spec w0 M) ?_
  rintro r m' rfl
  exact ⟨_, rfl, retP_of rfl⟩

/-- The document's Wrap. -/
theorem refWrap (w0 : World) (m : AM) (n : Int) : CallsA Try.prog w0 26 #[.int .i64 n] m (fun r m' => r = .int .i64 (w32 n) ∧ m' = m) := by
  refine cf26 w0 m n _ ⟨rfl, by decide, rfl, ?_⟩
  have ht : Int.tmod n 4294967296 = if 0 ≤ n then n % 4294967296 else -((-n) % 4294967296) := by
    split
    · exact Int.tmod_eq_emod_of_nonneg (by assumption)
    · have : Int.tmod (- -n) 4294967296 = -(Int.tmod (-n) 4294967296) := Int.neg_tmod _ _
      rw [Int.neg_neg] at this
      rw [this, Int.tmod_eq_emod_of_nonneg (by omega)]
  generalize Int.tmod n 4294967296 = x at ht ⊢
  have hx : -4294967296 < x ∧ x < 4294967296 := by rw [ht]; split <;> omega
  have hw : x % 4294967296 = n % 4294967296 := by rw [ht]; split <;> omega
  have e32 : w32 n = w32 x := by rw [w32_eq, w32_eq]; omega
  rw [e32, w32_eq]
  refine bcP (fun h => ⟨rfl, rfl, ?_⟩) (fun h => ⟨rfl, ?_⟩)
  · have w1 : IntKind.wrap .i64 (x + 4294967296) = x + 4294967296 := by rw [IntKind.wrap_i64]; omega
    rw [w1]
    refine bcP (fun h2 => ⟨rfl, retP_of ⟨?_, rfl⟩⟩) (fun h2 => retP_of ⟨?_, rfl⟩)
    · rw [IntKind.wrap_i64]; congr 1; omega
    · congr 1; omega
  · refine bcP (fun h2 => ⟨rfl, retP_of ⟨?_, rfl⟩⟩) (fun h2 => retP_of ⟨?_, rfl⟩)
    · rw [IntKind.wrap_i64]; congr 1; omega
    · congr 1; omega

theorem law_EmitConst (W : World) (a0 : Int) (w0 : (Lit.int .u8 a0).wf = true) (a1 : Int) (w1 : (Lit.int .i64 a1).wf = true) : CallsA Try.prog W 9 #[.int .u8 a0, .int .i64 a1] (mOf W) (fun r _ => r = .bool true) := by
  have hn := wf_i64 w1
  have hr := wf_u8 w0
  have er : IntKind.wrap .i64 (1 + IntKind.wrap .i64 (Int.tmod a0 31)) = 1 + a0 % 31 := by
    rw [Int.tmod_eq_emod_of_nonneg hr.1, IntKind.wrap_i64, IntKind.wrap_i64]; omega
  refine cf9 W _ a0 a1 _ ?_
  rw [er]
  have h1 : 1 ≤ 1 + a0 % 31 ∧ 1 + a0 % 31 ≤ 31 := by omega
  generalize 1 + a0 % 31 = r at h1 ⊢
  refine ⟨rfl, by decide, rfl, ?_⟩
  intro b1 hb1 hm1 m2
  have hbuf : Buf m2 W.heap.size b1 [] [] 0 [b1] := buf_new _ hb1
  clear_value m2
  have hcl : (constI r a1).length ≤ 2 := by unfold constI; split <;> simp
  refine CallsA.mono (const_spec W m2 b1 [] [] 0 [b1] r a1 hn hbuf (by simp)) ?_
  rintro r3 m4 ⟨rfl, fp4, hb4, _, _⟩
  refine ⟨rfl, rfl, ?_⟩
  refine CallsA.mono (put_spec W m4 b1 _ [] 0 fp4 ⟨13, r, 0, 0, 1⟩ hb4 (by simp; omega)) ?_
  rintro r6 m7 ⟨rfl, fp7, hb7, _, _⟩
  refine ⟨_, rfl, rfl, ?_⟩
  refine CallsA.mono (put_spec W m7 b1 _ [] 0 fp7 ⟨10, r, 0, 0, 1⟩ hb7 (by simp; omega)) ?_
  rintro r9 m10 ⟨rfl, fp10, hb10, _, _⟩
  refine ⟨_, rfl, rfl, ?_⟩
  refine CallsA.mono (put_spec W m10 b1 _ [] 0 fp10 ⟨13, r, 0, 0, 0⟩ hb10 (by simp; omega)) ?_
  rintro r12 m13 ⟨rfl, fp13, hb13, _, _⟩
  refine ⟨_, rfl, rfl, ?_⟩
  refine CallsA.mono (put_spec W m13 b1 _ [] 0 fp13 ⟨20, 0, 0, 0, 0⟩ hb13 (by simp; omega)) ?_
  rintro r15 m16 ⟨rfl, fp16, hb16, _, _⟩
  refine ⟨_, rfl, ?_⟩
  have ec : ([] ++ constI r a1 ++ [Ins.mk 13 r 0 0 1] ++ [Ins.mk 10 r 0 0 1] ++ [Ins.mk 13 r 0 0 0] ++ [Ins.mk 20 0 0 0 0] : List Ins) = constI r a1 ++ [Ins.mk 13 r 0 0 1, Ins.mk 10 r 0 0 1, Ins.mk 13 r 0 0 0, Ins.mk 20 0 0 0 0] := by simp
  rw [ec] at hb16
  obtain ⟨q1, q2⟩ := const_run r a1 h1
  have hcl2 : (constI r a1 ++ [Ins.mk 13 r 0 0 1, Ins.mk 10 r 0 0 1, Ins.mk 13 r 0 0 0, Ins.mk 20 0 0 0 0]).length ≤ 10 := by simp; omega
  generalize (constI r a1 ++ ([⟨13, r, 0, 0, 1⟩, ⟨10, r, 0, 0, 1⟩, ⟨13, r, 0, 0, 0⟩, ⟨20, 0, 0, 0, 0⟩] : List Ins)) = code at hb16 q1 q2 hcl2
  refine CallsA.mono (code_spec W m16 b1 code [] 0 fp16 hb16 (by omega)) ?_
  rintro r20 m21 ⟨l21, A, c, rfl, oA, _⟩
  refine ⟨_, _, _, rfl, ?_⟩
  refine CallsA.mono (run_of W m21 A code.length c code 2 none 0 0 [] 10 rfl rfl (by constructor <;> decide) oA.reads (Reads.nil _ 1) (by decide)) ?_
  rintro r30 m31 ⟨l31, Ao, co, Am, cm, rfl, hao, ham⟩
  refine ⟨_, _, _, _, _, _, _, _, rfl, ?_⟩
  refine blk4 fun b M lM nb hb pb => ?_
  have ham' := ham.le lM
  generalize runP code 2 [] 10 = ra at q1 q2 pb ham' ⊢
  refine ⟨_, cel pb rfl, rfl, ?_⟩
  have d1 : (ra.trap != 1) = false := by rw [q1]; rfl
  refine bcEF d1 ⟨_, _, _, cel pb rfl, rfl, ?_⟩
  have hu : (usedP [1, w32 a1]) = if w32 a1 = 0 then [1] else [1, w32 a1] := by
    split
    · rename_i h; rw [h]; rfl
    · rename_i h
      exact usedP_snoc [1] (w32 a1) h
  have hlen : 1 ≤ ra.mem.length := by rw [q2, hu]; split <;> simp
  refine bcEF (by rw [d1, decide_eq_false (show ¬ ((ra.mem.length : Nat) : Int) < 1 by omega)]; rfl) ⟨_, _, _, cel pb rfl, rfl, ?_⟩
  obtain ⟨ad, hA, hc⟩ := ham'.ex (by omega)
  subst hA
  by_cases hz : w32 a1 = 0
  · have hmem : ra.mem = [1] := by rw [q2, hu, if_pos hz]
    rw [hmem] at pb hc
    refine bcEF (by rw [hmem]; rfl) ?_
    refine CallsA.mono (refWrap W M a1) ?_
    rintro r51 m52 ⟨rfl, rfl⟩
    refine ⟨_, rfl, rfl, ?_⟩
    rw [hz]
    refine bcET rfl ⟨_, _, _, cel pb rfl, ⟨by decide, by decide⟩, ?_⟩
    refine ⟨_, hc 0 _ rfl, rfl, ?_⟩
    exact bcET rfl (awE W _ rfl)
  · have hmem : ra.mem = [1, w32 a1] := by rw [q2, hu, if_neg hz]
    rw [hmem] at pb hc
    refine bcET (by rw [hmem]; rfl) ?_
    refine ⟨_, _, _, cel pb rfl, ⟨by decide, by simp⟩, ?_⟩
    refine ⟨_, hc 1 _ rfl, ?_⟩
    refine CallsA.mono (refWrap W M a1) ?_
    rintro r51 m52 ⟨rfl, rfl⟩
    have e : (w32 a1 == w32 a1) = true := by simp
    refine ⟨_, rfl, rfl, ?_⟩
    refine bcET e ⟨_, _, _, cel pb rfl, ⟨by decide, by simp⟩, ?_⟩
    refine ⟨_, hc 0 _ rfl, rfl, ?_⟩
    exact bcET (by rw [e]; rfl) (awE W _ (by rw [e]; rfl))

/-! A branch that lands. -/
def landsC (many : Nat) : List Ins := [⟨15, 0, 0, 0, many⟩] ++ List.replicate many ⟨10, 1, 1, 0, 1⟩ ++ [⟨10, 2, 2, 0, 1⟩, ⟨8, 3, 2, 4, 0⟩, ⟨16, 3, 0, 0, -3⟩, ⟨13, 1, 0, 0, 0⟩, ⟨13, 2, 0, 0, 1⟩, ⟨20, 0, 0, 0, 0⟩]
theorem lands_all : ∀ k ∈ List.range 51, runP (landsC k) 2 [] 100 = ⟨1, 7, [], [0, 1]⟩ := by decide +kernel

theorem law_EmitLands (W : World) (a0 : Int) (w0 : (Lit.int .u8 a0).wf = true) : CallsA Try.prog W 8 #[.int .u8 a0] (mOf W) (fun r _ => r = .bool true) := by
  have hr := wf_u8 w0
  refine cf8 W _ a0 _ ?_
  have er : IntKind.wrap .i64 (Int.tmod a0 51) = a0 % 51 := by
    rw [Int.tmod_eq_emod_of_nonneg hr.1, IntKind.wrap_i64]; omega
  rw [er]
  obtain ⟨k, hk⟩ : ∃ k : Nat, a0 % 51 = k := ⟨(a0 % 51).toNat, by omega⟩
  have hk2 : k < 51 := by omega
  rw [hk]
  refine ⟨rfl, by decide, ?_⟩
  intro b1 hb1 hm1 m2
  have hbuf : Buf m2 W.heap.size b1 [] [] 0 [b1] := buf_new _ hb1
  clear_value m2
  refine ⟨rfl, ?_⟩
  refine CallsA.mono (jump_spec W m2 b1 [] [] 0 [b1] ⟨15, 0, 0, 0, 0⟩ hbuf (by simp) (by simp)) ?_
  rintro r4 m5 ⟨rfl, fp5, hb5, _, _⟩
  refine ⟨_, rfl, ?_⟩
  refine vl8_1111010 W m5 _ _ (k : Int) b1 0 k 0 (fun n i m => ∃ fp, Buf m W.heap.size b1 ([⟨15, 0, 0, 0, 0⟩] ++ List.replicate i.toNat ⟨10, 1, 1, 0, 1⟩) [] 0 fp ∧ 0 ≤ i ∧ i ≤ k ∧ (n : Int) = k - i) (fun m => ∃ fp, Buf m W.heap.size b1 ([⟨15, 0, 0, 0, 0⟩] ++ List.replicate k ⟨10, 1, 1, 0, 1⟩) [] 0 fp) k rfl rfl rfl rfl rfl ⟨fp5, hb5, by omega, by omega, by omega⟩ ?_ ?_
  · rintro n σ i m ⟨fp, hb, h0, h1, hn⟩
    refine ⟨rfl, ?_⟩
    by_cases c1 : i < k
    · refine bcET (decide_eq_true c1) ⟨rfl, ?_⟩
      refine CallsA.mono (put_spec W m b1 _ [] 0 fp ⟨10, 1, 1, 0, 1⟩ hb (by simp; omega)) ?_
      rintro r7 m8 ⟨rfl, fp8, hb8, _, _⟩
      have w : IntKind.wrap .i64 (i + 1) = i + 1 := by rw [IntKind.wrap_i64]; omega
      refine ⟨_, rfl, rfl, rfl, rfl, rfl, rfl, rfl, n - 1, by omega, ?_⟩
      rw [w]
      refine ⟨fp8, ?_, by omega, by omega, by omega⟩
      have e : (i + 1).toNat = i.toNat + 1 := by omega
      rw [e, List.replicate_succ', ← List.append_assoc]
      exact hb8
    · refine bcEF (decide_eq_false c1) ⟨rfl, rfl, rfl, rfl, fp, ?_⟩
      have : i.toNat = k := by omega
      rw [this] at hb
      exact hb
  · rintro σ m ⟨fp, hb⟩
    refine CallsA.mono (land_spec W m b1 _ [] 0 fp 0 hb) ?_
    rintro r10 m11 ⟨rfl, fp11, hb11, _, _⟩
    have ea : aimC ([⟨15, 0, 0, 0, 0⟩] ++ List.replicate k ⟨10, 1, 1, 0, 1⟩) 0 (([⟨15, 0, 0, 0, 0⟩] ++ List.replicate k ⟨10, 1, 1, 0, 1⟩ : List Ins).length : Nat) = some ⟨15, 0, 0, 0, k⟩ := by
      have w : IntKind.wrap .i64 (IntKind.wrap .i64 (((([⟨15, 0, 0, 0, 0⟩] ++ List.replicate k ⟨10, 1, 1, 0, 1⟩ : List Ins).length : Nat) : Int) - 0) - 1) = k := by
        rw [IntKind.wrap_i64, IntKind.wrap_i64]; simp; omega
      unfold aimC
      rw [if_neg (by omega), if_neg (by simp)]
      show aimI ⟨15, 0, 0, 0, 0⟩ 0 _ = _
      unfold aimI
      show some ({ (⟨15, 0, 0, 0, 0⟩ : Ins) with imm := _ } : Ins) = _
      rw [w]
    have es : setC ([⟨15, 0, 0, 0, 0⟩] ++ List.replicate k ⟨10, 1, 1, 0, 1⟩) 0 (some ⟨15, 0, 0, 0, k⟩) = [⟨15, 0, 0, 0, k⟩] ++ List.replicate k ⟨10, 1, 1, 0, 1⟩ := rfl
    rw [ea] at hb11 ⊢
    rw [es] at hb11
    refine ⟨_, rfl, rfl, ?_⟩
    refine CallsA.mono (put_spec W m11 b1 _ [] 0 fp11 ⟨10, 2, 2, 0, 1⟩ hb11 (by simp; omega)) ?_
    rintro r m14 ⟨rfl, fp14, hb14, _, _⟩
    refine ⟨_, rfl, rfl, ?_⟩
    refine CallsA.mono (put_spec W m14 b1 _ [] 0 fp14 ⟨8, 3, 2, 4, 0⟩ hb14 (by simp; omega)) ?_
    rintro r m17 ⟨rfl, fp17, hb17, _, _⟩
    refine ⟨_, rfl, rfl, rfl, ?_⟩
    have w : IntKind.wrap .i64 ((k : Int) + 1) = k + 1 := by rw [IntKind.wrap_i64]; omega
    rw [w]
    refine CallsA.mono (back_spec W m17 b1 _ [] 0 fp17 ⟨16, 3, 0, 0, 0⟩ ((k : Int) + 1) hb17 (by simp; omega) (by simp)) ?_
    rintro r m20 ⟨rfl, fp20, hb20, _, _⟩
    have hlen : (([⟨15, 0, 0, 0, (k : Int)⟩] ++ List.replicate k ⟨10, 1, 1, 0, 1⟩ ++ [⟨10, 2, 2, 0, 1⟩] ++ [⟨8, 3, 2, 4, 0⟩] : List Ins).length) = k + 3 := by simp
    have eb : setC ([⟨15, 0, 0, 0, (k : Int)⟩] ++ List.replicate k ⟨10, 1, 1, 0, 1⟩ ++ [⟨10, 2, 2, 0, 1⟩] ++ [⟨8, 3, 2, 4, 0⟩] ++ [⟨16, 3, 0, 0, 0⟩]) ((([⟨15, 0, 0, 0, (k : Int)⟩] ++ List.replicate k ⟨10, 1, 1, 0, 1⟩ ++ [⟨10, 2, 2, 0, 1⟩] ++ [⟨8, 3, 2, 4, 0⟩] : List Ins).length : Nat) : Int) (aimC ([⟨15, 0, 0, 0, (k : Int)⟩] ++ List.replicate k ⟨10, 1, 1, 0, 1⟩ ++ [⟨10, 2, 2, 0, 1⟩] ++ [⟨8, 3, 2, 4, 0⟩] ++ [⟨16, 3, 0, 0, 0⟩]) ((([⟨15, 0, 0, 0, (k : Int)⟩] ++ List.replicate k ⟨10, 1, 1, 0, 1⟩ ++ [⟨10, 2, 2, 0, 1⟩] ++ [⟨8, 3, 2, 4, 0⟩] : List Ins).length : Nat) : Int) ((k : Int) + 1))
        = [⟨15, 0, 0, 0, (k : Int)⟩] ++ List.replicate k ⟨10, 1, 1, 0, 1⟩ ++ [⟨10, 2, 2, 0, 1⟩] ++ [⟨8, 3, 2, 4, 0⟩] ++ [⟨16, 3, 0, 0, -3⟩] := by
      have w2 : IntKind.wrap .i64 (IntKind.wrap .i64 ((k : Int) + 1 - ((k + 3 : Nat) : Int)) - 1) = -3 := by rw [IntKind.wrap_i64, IntKind.wrap_i64]; omega
      rw [hlen]
      generalize hp : ([⟨15, 0, 0, 0, (k : Int)⟩] ++ List.replicate k ⟨10, 1, 1, 0, 1⟩ ++ [⟨10, 2, 2, 0, 1⟩] ++ [⟨8, 3, 2, 4, 0⟩] : List Ins) = pre at hlen ⊢
      have ha : aimC (pre ++ [⟨16, 3, 0, 0, 0⟩]) ((k + 3 : Nat) : Int) ((k : Int) + 1) = some ⟨16, 3, 0, 0, -3⟩ := by
        unfold aimC
        rw [if_neg (by omega), if_neg (by rw [List.length_append, hlen]; simp only [List.length_cons, List.length_nil]; omega), Int.toNat_natCast, List.getElem?_append_right (by omega), hlen, Nat.sub_self]
        show aimI ⟨16, 3, 0, 0, 0⟩ _ _ = _
        unfold aimI
        show some ({ (⟨16, 3, 0, 0, 0⟩ : Ins) with imm := _ } : Ins) = _
        rw [w2]
      rw [ha]
      show (pre ++ ([⟨16, 3, 0, 0, 0⟩] : List Ins)).set (((k + 3 : Nat) : Int)).toNat ⟨16, 3, 0, 0, -3⟩ = _
      rw [Int.toNat_natCast, List.set_append_right _ _ (by omega), hlen, Nat.sub_self]
      rfl
    rw [eb] at hb20
    have ej : jumpC ([⟨15, 0, 0, 0, (k : Int)⟩] ++ List.replicate k ⟨10, 1, 1, 0, 1⟩ ++ [⟨10, 2, 2, 0, 1⟩] ++ [⟨8, 3, 2, 4, 0⟩]) [] ⟨16, 3, 0, 0, 0⟩ = [] := rfl
    rw [ej] at hb20
    refine ⟨_, rfl, rfl, ?_⟩
    refine CallsA.mono (put_spec W m20 b1 _ [] 0 fp20 ⟨13, 1, 0, 0, 0⟩ hb20 (by simp; omega)) ?_
    rintro r m23 ⟨rfl, fp23, hb23, _, _⟩
    refine ⟨_, rfl, rfl, ?_⟩
    refine CallsA.mono (put_spec W m23 b1 _ [] 0 fp23 ⟨13, 2, 0, 0, 1⟩ hb23 (by simp; omega)) ?_
    rintro r m26 ⟨rfl, fp26, hb26, _, _⟩
    refine ⟨_, rfl, rfl, ?_⟩
    refine CallsA.mono (put_spec W m26 b1 _ [] 0 fp26 ⟨20, 0, 0, 0, 0⟩ hb26 (by simp; omega)) ?_
    rintro r m29 ⟨rfl, fp29, hb29, _, _⟩
    refine ⟨_, rfl, ?_⟩
    have ec : [⟨15, 0, 0, 0, (k : Int)⟩] ++ List.replicate k ⟨10, 1, 1, 0, 1⟩ ++ [⟨10, 2, 2, 0, 1⟩] ++ [⟨8, 3, 2, 4, 0⟩] ++ [⟨16, 3, 0, 0, -3⟩] ++ [⟨13, 1, 0, 0, 0⟩] ++ [⟨13, 2, 0, 0, 1⟩] ++ [⟨20, 0, 0, 0, 0⟩] = landsC k := by unfold landsC; simp
    rw [ec] at hb29
    have hll : (landsC k).length ≤ 100 := by unfold landsC; simp; omega
    refine CallsA.mono (code_spec W m29 b1 (landsC k) [] 0 fp29 hb29 (by omega)) ?_
    rintro r33 m34 ⟨l34, A, c, rfl, oA, _⟩
    refine ⟨_, _, _, rfl, ?_⟩
    refine CallsA.mono (run_of W m34 A (landsC k).length c (landsC k) 2 none 0 0 [] 100 rfl rfl (by constructor <;> decide) oA.reads (Reads.nil _ 1) (by decide)) ?_
    rintro r43 m44 ⟨l44, Ao, co, Am, cm, rfl, hao, ham⟩
    refine ⟨_, _, _, _, _, _, _, _, rfl, ?_⟩
    refine blk4 fun b M lM nb hb pb => ?_
    have ham' := ham.le lM
    rw [lands_all k (List.mem_range.2 hk2)] at pb ham'
    obtain ⟨ad, hA, hc⟩ := ham'.ex (by simp)
    subst hA
    refine bcET rfl ⟨_, cel pb rfl, rfl, bcET rfl ⟨_, cel pb rfl, rfl, bcET rfl ⟨_, _, _, cel pb rfl, rfl, bcET rfl ⟨_, _, _, cel pb rfl, ⟨by decide, by decide⟩, ?_⟩⟩⟩⟩
    refine ⟨_, hc 0 _ rfl, rfl, bcET rfl ⟨_, _, _, cel pb rfl, ⟨by decide, by decide⟩, ?_⟩⟩
    refine ⟨_, hc 1 _ rfl, rfl, bcET rfl (awE W _ rfl)⟩
end Go.Proofs.Ytijilloaggeepaa.S
