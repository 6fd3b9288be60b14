/- YtkfemiloehkmhaaGreat: a text of our own, by an AI agent: VLaw7Y -/
import Derived.Test.YtkfemiloehkmhaaGreatCoreA
import Derived.Test.YtkfemiloehkmhaaGreatTabY
namespace Go.Proofs.YtkfemiloehkmhaaGreat.V
open Go Go.Alog Go.Proofs.YtkfemiloehkmhaaGreat.T
set_option linter.unusedVariables false
set_option maxRecDepth 100000

def qs9:Nat→List (Nat × Nat):=fun i=>match i with | _=>[]
noncomputable def c9:Code:=bodyOf Tryz.f9
theorem cf9 (w0:World) (m:AM) (x0_0:Int) (x0_1:Int) (x0_2:Option Addr) (x0_2n x0_2c:Nat) (x0_3:Option Addr) (x0_3n x0_3c:Nat) (x1_0:Int) (x1_1:Int) (x1_2:Option Addr) (x1_2n x1_2c:Nat) (x1_3:Option Addr) (x1_3n x1_3c:Nat) (R:Value→AM→Prop) (h :
 ∀ b1:Nat,w0.heap.size≤b1→m b1=none→let m2:=AM.upd m b1 (.cells #[.int .i64 x0_0,.int .i64 x0_1,.slice x0_2 x0_2n x0_2c,.slice x0_3 x0_3n x0_3c] 33);
 ∀ b3:Nat,w0.heap.size≤b3→m2 b3=none→let m4:=AM.upd m2 b3 (.cells #[.int .i64 x1_0,.int .i64 x1_1,.slice x1_2 x1_2n x1_2c,.slice x1_3 x1_3n x1_3c] 33);
 LI_ m4 b1 0 fun i5 => 
 LI_ m4 b3 0 fun i6 => 
 KI_∧(bcase ((i5:Int) != i6) (
 ((i5:Int) != i6)=true∧true=true∧true=true∧RetP R (.bool false) m4) (
 LI_ m4 b1 1 fun i7 => 
 LI_ m4 b3 1 fun i8 => 
 KI_∧(bcase (bif (i5:Int) != i6 then true else (i7:Int) != i8) (
 (bif (i5:Int) != i6 then true else (i7:Int) != i8)=true∧true=true∧RetP R (.bool false) m4) (
 ∃ (A9:Option Addr) (n10 c11:Nat),m4.cell ⟨b1,2,none⟩=some (.slice A9 n10 c11) ∧ 
 ∃ (A12:Option Addr) (n13 c14:Nat),m4.cell ⟨b3,2,none⟩=some (.slice A12 n13 c14) ∧ 
 KI_∧(bcase (bif bif (i5:Int) != i6 then true else (i7:Int) != i8 then true else (((n10:Nat):Int):Int) != ((n13:Nat):Int)) (
 (bif bif (i5:Int) != i6 then true else (i7:Int) != i8 then true else (((n10:Nat):Int):Int) != ((n13:Nat):Int))=true∧RetP R (.bool false) m4) (
 ∃ (A15:Option Addr) (n16 c17:Nat),m4.cell ⟨b1,3,none⟩=some (.slice A15 n16 c17) ∧ 
 ∃ (A18:Option Addr) (n19 c20:Nat),m4.cell ⟨b3,3,none⟩=some (.slice A18 n19 c20) ∧ 
 KI_∧(bcase (bif bif bif (i5:Int) != i6 then true else (i7:Int) != i8 then true else (((n10:Nat):Int):Int) != ((n13:Nat):Int) then true else (((n16:Nat):Int):Int) != ((n19:Nat):Int)) (
 RetP R (.bool false) m4) (
 vcS Tryz.prog w0 qs9 (sub c9 [1,1,0,1,0]) (upd (upd (upd (upd (upd (upd (upd (upd (upd (upd (upd (upd (upd (upd (upd (upd (upd (upd (upd (upd (upd (upd (upd (upd (upd (upd (upd (upd (upd (upd (upd (upd (upd (upd (argS [.agg #[.int .i64 x0_0,.int .i64 x0_1,.slice x0_2 x0_2n x0_2c,.slice x0_3 x0_3n x0_3c],.agg #[.int .i64 x1_0,.int .i64 x1_1,.slice x1_2 x1_2n x1_2c,.slice x1_3 x1_3n x1_3c]]) 2 (pt_ b1)) 3 (pt_ b3)) 4 (.bool false)) 7 (pt_ b1)) 8 (.int .i64 i5)) 9 (pt_ b3)) 10 (.int .i64 i6)) 11 (.bool ((i5:Int) != i6))) 12 (.bool ((i5:Int) != i6))) 13 (.pointer (some ⟨b1,1,none⟩))) 14 (.int .i64 i7)) 15 (.pointer (some ⟨b3,1,none⟩))) 16 (.int .i64 i8)) 17 (.bool ((i7:Int) != i8))) 18 (.bool (bif (i5:Int) != i6 then true else (i7:Int) != i8))) 19 (.bool (bif (i5:Int) != i6 then true else (i7:Int) != i8))) 20 (.pointer (some ⟨b1,2,none⟩))) 21 (.slice A9 n10 c11)) 22 (.int .i64 ((n10:Nat):Int))) 23 (.pointer (some ⟨b3,2,none⟩))) 24 (.slice A12 n13 c14)) 25 (.int .i64 ((n13:Nat):Int))) 26 (.bool ((((n10:Nat):Int):Int) != ((n13:Nat):Int)))) 27 (.bool (bif bif (i5:Int) != i6 then true else (i7:Int) != i8 then true else (((n10:Nat):Int):Int) != ((n13:Nat):Int)))) 28 (.bool (bif bif (i5:Int) != i6 then true else (i7:Int) != i8 then true else (((n10:Nat):Int):Int) != ((n13:Nat):Int)))) 29 (.pointer (some ⟨b1,3,none⟩))) 30 (.slice A15 n16 c17)) 31 (.int .i64 ((n16:Nat):Int))) 32 (.pointer (some ⟨b3,3,none⟩))) 33 (.slice A18 n19 c20)) 34 (.int .i64 ((n19:Nat):Int))) 35 (.bool ((((n16:Nat):Int):Int) != ((n19:Nat):Int)))) 36 (.bool (bif bif bif (i5:Int) != i6 then true else (i7:Int) != i8 then true else (((n10:Nat):Int):Int) != ((n13:Nat):Int) then true else (((n16:Nat):Int):Int) != ((n19:Nat):Int)))) 5 (.int .i64 0)) m4 (blockS 0 (thenS (fun σ m=>vcS Tryz.prog w0 qs9 (sub c9 [1,1,1]) σ m (retQ Tryz.prog Tryz.f9 R)) (retQ Tryz.prog Tryz.f9 R)))))))))))):CallsA Tryz.prog w0 9 #[.agg #[.int .i64 x0_0,.int .i64 x0_1,.slice x0_2 x0_2n x0_2c,.slice x0_3 x0_3n x0_3c],.agg #[.int .i64 x1_0,.int .i64 x1_1,.slice x1_2 x1_2n x1_2c,.slice x1_3 x1_3n x1_3c]] m R :=
  callsA_of (c:=c9) (args:=[.agg #[.int .i64 x0_0,.int .i64 x0_1,.slice x0_2 x0_2n x0_2c,.slice x0_3 x0_3n x0_3c],.agg #[.int .i64 x1_0,.int .i64 x1_1,.slice x1_2 x1_2n x1_2c,.slice x1_3 x1_3n x1_3c]]) (by kernel_rfl) Tryz.func9 (by kernel_rfl) qs9 (by kernel_rfl) (by kernel_rfl) (cast (by kernel_rfl) h)
def lq9_11010 (R:Value→AM→Prop) (x2:Nat) (x3:Nat) (I0:Nat→Int→AM→Prop) (E0_0:AM→Prop) (n0:Nat):Exit→Sg→AM→Prop
 | .normal,σ,m=>σ 2=.pointer (some ⟨x2,0,none⟩)∧σ 3=.pointer (some ⟨x3,0,none⟩)∧okI .i64 (σ 5)=true∧∃ n':Nat,n'<n0∧I0 n' (vI (σ 5)) m
 | .exit id,σ,m=>if id=0 then σ 2=.pointer (some ⟨x2,0,none⟩)∧σ 3=.pointer (some ⟨x3,0,none⟩)∧E0_0  m else False
 | .ret,σ,m=>retQ Tryz.prog Tryz.f9 R .ret σ m
 | _,_,_=>False
theorem vl9_11010 (w0:World) (m:AM) (σ:Sg) (R:Value→AM→Prop)  (x2:Nat) (x3:Nat) (x5:Int) (I0:Nat→Int→AM→Prop) (E0_0:AM→Prop) (N:Nat) (h2:σ 2=.pointer (some ⟨x2,0,none⟩)) (h3:σ 3=.pointer (some ⟨x3,0,none⟩)) (h5:σ 5=.int .i64 x5)
 (h_0:I0 N x5 m)
 (h_s:∀ (n0:Nat) (σ:Sg) (x5:Int) (m:AM),I0 n0 x5 m→(
 ∃ (A21:Option Addr) (n22 c23:Nat),m.cell ⟨x2,2,none⟩=some (.slice A21 n22 c23) ∧ 
 KI_∧(bcase (decide ((x5:Int)<((n22:Nat):Int))) (
 ∃ (A24:Option Addr) (n25 c26:Nat),m.cell ⟨x2,2,none⟩=some (.slice A24 n25 c26) ∧ 
 ((0:Int)≤x5∧x5<((n25:Nat):Int))∧nilO A24 fun a27 =>
 LA_ m (a27.add ((x5:Int).toNat*1)) fun i28 => 
 ∃ (A29:Option Addr) (n30 c31:Nat),m.cell ⟨x3,2,none⟩=some (.slice A29 n30 c31) ∧ 
 ((0:Int)≤x5∧x5<((n30:Nat):Int))∧nilO A29 fun a32 =>
 LA_ m (a32.add ((x5:Int).toNat*1)) fun i33 => 
 KI_∧(bcase ((i28:Int) != i33) (
 RetP R (.bool false) m) (
 KI_∧(.pointer (some ⟨x2,0,none⟩):Value)=.pointer (some ⟨x2,0,none⟩)∧(.pointer (some ⟨x3,0,none⟩):Value)=.pointer (some ⟨x3,0,none⟩)∧true=true∧∃ n':Nat,n'<n0∧I0 n' (IntKind.wrap .i64 (x5+1)) m))) (
 (.pointer (some ⟨x2,0,none⟩):Value)=.pointer (some ⟨x2,0,none⟩)∧(.pointer (some ⟨x3,0,none⟩):Value)=.pointer (some ⟨x3,0,none⟩)∧E0_0  m))))
 (h_e0:∀ (σ:Sg)  (m:AM),E0_0  m→(
 vcS Tryz.prog w0 qs9 (sub c9 [1,1,1,0,1,0]) (upd (upd (upd σ 2 (pt_ x2)) 3 (pt_ x3)) 6 (.int .i64 0)) m (blockS 2 (thenS (fun σ m=>vcS Tryz.prog w0 qs9 (sub c9 [1,1,1,1]) σ m (retQ Tryz.prog Tryz.f9 R)) (retQ Tryz.prog Tryz.f9 R))))) :
 vcS Tryz.prog w0 qs9 (sub c9 [1,1,0,1,0]) σ m (blockS 0 (thenS (fun σ m=>vcS Tryz.prog w0 qs9 (sub c9 [1,1,1]) σ m (retQ Tryz.prog Tryz.f9 R)) (retQ Tryz.prog Tryz.f9 R))):=by
  rw [show sub c9 [1,1,0,1,0]=.loop (sub c9 [1,1,0,1,0,0]) from by kernel_rfl]
  refine loopQ (fun n0 σ m=>σ 2=.pointer (some ⟨x2,0,none⟩)∧σ 3=.pointer (some ⟨x3,0,none⟩)∧okI .i64 (σ 5)=true∧I0 n0 (vI (σ 5)) m) N (fun n0=>(lq9_11010 R x2 x3 I0 E0_0 n0)) ⟨h2,h3,(by rw [h5]; rfl),(by rw [h5]; exact h_0)⟩ ?_ ?_ ?_
  · rintro n0 σ m ⟨kk0,kk1,kk2,n',hlt,hI⟩; exact ⟨n',hlt,kk0,kk1,kk2,hI⟩
  · intro n0 e σ m hne h
    cases e with
    | normal=>exact absurd rfl hne
    | ret=>exact h
    | exit id =>
      by_cases e0:id=0
      · subst e0
        obtain ⟨kk0,kk1,hE⟩:=h
        have es:(upd (upd σ 2 (pt_ x2)) 3 (pt_ x3))=σ:=by rw [upd_id kk0,upd_id kk1]
        exact cast (congrArg (fun s=>(blockS 0 (thenS (fun σ m=>vcS Tryz.prog w0 qs9 (sub c9 [1,1,1]) σ m (retQ Tryz.prog Tryz.f9 R)) (retQ Tryz.prog Tryz.f9 R))) (.exit 0) s m) es) (cast (by kernel_rfl) (h_e0 σ  m hE))
      · replace h:=(if_neg e0:(if id=0 then _ else _)=_).mp h
        exact False.elim h
    | _=>exact False.elim h
  · rintro n0 σ m ⟨kk0,kk1,kk2,hI⟩
    have es:(upd (upd (upd σ 2 (pt_ x2)) 3 (pt_ x3)) 5 (.int .i64 (vI (σ 5))))=σ:=by rw [upd_id kk0,upd_id kk1,upd_id (ok_int kk2)]
    exact cast (congrArg (fun s=>vcS Tryz.prog w0 qs9 (sub c9 [1,1,0,1,0,0]) s m (lq9_11010 R x2 x3 I0 E0_0 n0)) es) (cast (by kernel_rfl) (h_s n0 σ (vI (σ 5)) m hI))
def lq9_111010 (R:Value→AM→Prop) (x2:Nat) (x3:Nat) (I0:Nat→Int→AM→Prop) (E0_2:AM→Prop) (n0:Nat):Exit→Sg→AM→Prop
 | .normal,σ,m=>σ 2=.pointer (some ⟨x2,0,none⟩)∧σ 3=.pointer (some ⟨x3,0,none⟩)∧okI .i64 (σ 6)=true∧∃ n':Nat,n'<n0∧I0 n' (vI (σ 6)) m
 | .exit id,σ,m=>if id=2 then σ 2=.pointer (some ⟨x2,0,none⟩)∧σ 3=.pointer (some ⟨x3,0,none⟩)∧E0_2  m else False
 | .ret,σ,m=>retQ Tryz.prog Tryz.f9 R .ret σ m
 | _,_,_=>False
theorem vl9_111010 (w0:World) (m:AM) (σ:Sg) (R:Value→AM→Prop)  (x2:Nat) (x3:Nat) (x6:Int) (I0:Nat→Int→AM→Prop) (E0_2:AM→Prop) (N:Nat) (h2:σ 2=.pointer (some ⟨x2,0,none⟩)) (h3:σ 3=.pointer (some ⟨x3,0,none⟩)) (h6:σ 6=.int .i64 x6)
 (h_0:I0 N x6 m)
 (h_s:∀ (n0:Nat) (σ:Sg) (x6:Int) (m:AM),I0 n0 x6 m→(
 ∃ (A34:Option Addr) (n35 c36:Nat),m.cell ⟨x2,3,none⟩=some (.slice A34 n35 c36) ∧ 
 KI_∧(bcase (decide ((x6:Int)<((n35:Nat):Int))) (
 ∃ (A37:Option Addr) (n38 c39:Nat),m.cell ⟨x2,3,none⟩=some (.slice A37 n38 c39) ∧ 
 ((0:Int)≤x6∧x6<((n38:Nat):Int))∧nilO A37 fun a40 =>
 LA_ m (a40.add ((x6:Int).toNat*1)) fun i41 => 
 ∃ (A42:Option Addr) (n43 c44:Nat),m.cell ⟨x3,3,none⟩=some (.slice A42 n43 c44) ∧ 
 ((0:Int)≤x6∧x6<((n43:Nat):Int))∧nilO A42 fun a45 =>
 LA_ m (a45.add ((x6:Int).toNat*1)) fun i46 => 
 KI_∧(bcase ((i41:Int) != i46) (
 RetP R (.bool false) m) (
 KI_∧(.pointer (some ⟨x2,0,none⟩):Value)=.pointer (some ⟨x2,0,none⟩)∧(.pointer (some ⟨x3,0,none⟩):Value)=.pointer (some ⟨x3,0,none⟩)∧true=true∧∃ n':Nat,n'<n0∧I0 n' (IntKind.wrap .i64 (x6+1)) m))) (
 (.pointer (some ⟨x2,0,none⟩):Value)=.pointer (some ⟨x2,0,none⟩)∧(.pointer (some ⟨x3,0,none⟩):Value)=.pointer (some ⟨x3,0,none⟩)∧E0_2  m))))
 (h_e2:∀ (σ:Sg)  (m:AM),E0_2  m→(
 RetP R (.bool true) m)) :
 vcS Tryz.prog w0 qs9 (sub c9 [1,1,1,0,1,0]) σ m (blockS 2 (thenS (fun σ m=>vcS Tryz.prog w0 qs9 (sub c9 [1,1,1,1]) σ m (retQ Tryz.prog Tryz.f9 R)) (retQ Tryz.prog Tryz.f9 R))):=by
  rw [show sub c9 [1,1,1,0,1,0]=.loop (sub c9 [1,1,1,0,1,0,0]) from by kernel_rfl]
  refine loopQ (fun n0 σ m=>σ 2=.pointer (some ⟨x2,0,none⟩)∧σ 3=.pointer (some ⟨x3,0,none⟩)∧okI .i64 (σ 6)=true∧I0 n0 (vI (σ 6)) m) N (fun n0=>(lq9_111010 R x2 x3 I0 E0_2 n0)) ⟨h2,h3,(by rw [h6]; rfl),(by rw [h6]; exact h_0)⟩ ?_ ?_ ?_
  · rintro n0 σ m ⟨kk0,kk1,kk2,n',hlt,hI⟩; exact ⟨n',hlt,kk0,kk1,kk2,hI⟩
  · intro n0 e σ m hne h
    cases e with
    | normal=>exact absurd rfl hne
    | ret=>exact h
    | exit id =>
      by_cases e2:id=2
      · subst e2
        obtain ⟨kk0,kk1,hE⟩:=h
        have es:(upd (upd σ 2 (pt_ x2)) 3 (pt_ x3))=σ:=by rw [upd_id kk0,upd_id kk1]
        exact cast (congrArg (fun s=>(blockS 2 (thenS (fun σ m=>vcS Tryz.prog w0 qs9 (sub c9 [1,1,1,1]) σ m (retQ Tryz.prog Tryz.f9 R)) (retQ Tryz.prog Tryz.f9 R))) (.exit 2) s m) es) (cast (by kernel_rfl) (h_e2 σ  m hE))
      · replace h:=(if_neg e2:(if id=2 then _ else _)=_).mp h
        exact False.elim h
    | _=>exact False.elim h
  · rintro n0 σ m ⟨kk0,kk1,kk2,hI⟩
    have es:(upd (upd (upd σ 2 (pt_ x2)) 3 (pt_ x3)) 6 (.int .i64 (vI (σ 6))))=σ:=by rw [upd_id kk0,upd_id kk1,upd_id (ok_int kk2)]
    exact cast (congrArg (fun s=>vcS Tryz.prog w0 qs9 (sub c9 [1,1,1,0,1,0,0]) s m (lq9_111010 R x2 x3 I0 E0_2 n0)) es) (cast (by kernel_rfl) (h_s n0 σ (vI (σ 6)) m hI))
end Go.Proofs.YtkfemiloehkmhaaGreat.V

