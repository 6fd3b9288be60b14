/- YtgjamnhjlaohaaaGreatDoor: a text of our own, by an AI agent -/
import Derived.Test.YtgjamnhjlaohaaaGreatDoorP3T
set_option maxRecDepth 100000
set_option maxHeartbeats 400000
set_option linter.unusedSectionVars false
set_option linter.unusedVariables false
set_option linter.unusedSimpArgs false
namespace Go.Proofs.YtgjamnhjlaohaaaGreatDoor.S
open Go Go.RowKit Go.Alog Go.Proofs.YtgjamnhjlaohaaaGreatDoor.T Go.Proofs.YtgjamnhjlaohaaaGreatDoor.V
theorem obl_disj {m:AM} {A:Option Addr} (h:∀ x∈obl A,m x=none) {C:Option Addr} {B:Nat} {e:TypeId} {sz n c:Nat} {xs:List Value} (hC:Alog.Own m B e sz C n c xs):∀ x∈obl A,x∉obl C:=fun x hx hc=>by
 obtain ⟨_,cur,h2⟩:=hC.obl_some hc
 rw [h x hx] at h2; cases h2
theorem addS_new {zs:List Int} {x:Int} (h:x∉zs):addS zs x=zs ++ [x]:=by unfold addS; rw [if_neg (by simpa using h)]
theorem order_spec (w0:World) (m:AM) (A:Option Addr) (c:Nat) (l:List Ins) (hl:l.length<=5000) (rd:Reads m 5 A l.length (insCells l)) :
  CallsA Tryz.prog w0 70 #[.slice A l.length c] m (oI w0 m (ordP l)):=by
 generalize hR:oI w0 m (ordP l)=R
 have hlen:=heightsP_len l
 refine cf70 w0 m A l.length c R ?_
 refine CallsA.mono (heights_spec w0 m A c l (by omega) rd) ?_
 rintro r m5 ⟨⟨A1,c3,rfl,o1,n1⟩,l5⟩
 refine ⟨_,_,_,rfl,fun b6 hb6 hn6=>?_⟩
 have l7:=le_new hn6 (.cells #[.slice none 0 0] 33)
 refine StC_upd.2 ⟨hb6,by simp,rfl,?_⟩
 have p8:(m5.upd b6 (.cells (#[Value.slice none 0 0].setIfInBounds 0 (.slice A1 (heightsP l).length c3)) 33)) b6=some (.cells #[.slice A1 (heightsP l).length c3] 33 (0,0)):=by rw [upd_get_same]; rfl
 have l8:m5.le (m5.upd b6 (.cells (#[Value.slice none 0 0].setIfInBounds 0 (.slice A1 (heightsP l).length c3)) 33)):=le_new hn6 _
 generalize m5.upd b6 (.cells (#[Value.slice none 0 0].setIfInBounds 0 (.slice A1 (heightsP l).length c3)) 33)=m8 at p8 l8 ⊢
 intro b9 hb9 hn9
 have l10:=le_new hn9 (.cells #[.int .i64 (-1)] 3)
 refine repeat_spec w0 _ (by omega) (b:=b9) (Reads.lit rfl) (R:=fun r14 m15=>_) fun A11 c13 m15 l15 n11 o11=>⟨_,_,_,rfl,?_⟩
 have L15:m.le m15:=AM.le_trans l5 (AM.le_trans l8 (AM.le_trans l10 l15))
 have lm10:=AM.le_trans l5 (AM.le_trans l8 l10)
 have nA11:∀ x∈obl A11,m x=none:=fun x hx=>by
  cases hm:m x with
  | none=>rfl
  | some o=>have:=n11 x hx; rw [lm10 _ _ hm] at this; cases this
 have start:OI w0 m l b6 A1 c3 A11 c13 none 0 [] m15:=by
  refine ⟨L15,l15 _ _ (l10 _ _ p8),(o1.le l8).le (AM.le_trans l10 l15),?_,Alog.Own.nil _ _ _ _,nA11,by simp [obl],obl_disj n11 ((o1.le l8).le l10),by simp [obl],by simp [obl]⟩
  rw [whRow_0]; exact o11
 refine vl70_1111010 w0 m15 _ _ A l.length c b6 A11 l.length c13 none 0 0 l.length
  (fun q B n5 c5 left m'=>∃ out,OI w0 m l b6 A1 c3 A11 c13 B c5 out m'/\n5=out.length/\left=(leftP l out:Int)/\muP l out<=q/\q+out.length=2*l.length+1/\ordF l q out=ordP l)
  (fun B n5 c5 m'=>∃ out,OI w0 m l b6 A1 c3 A11 c13 B c5 out m'/\n5=out.length/\out=ordP l) (2*l.length+1) rfl rfl rfl rfl rfl
  ⟨[],start,rfl,by unfold leftP; rw [covN_nil]; omega,mu_0 l,rfl,rfl⟩ ?_ ?_
 .rintro q σ B n5 c5 left m' ⟨out,hi,rfl,rfl,hmu,hq,hF⟩
  refine ⟨rfl,bcP (fun hpos=>?_) (fun hpos=>?_)⟩
  .intro b16 hb16 hn16
   have hleft:leftP l out≠0:=by omega
   have hmp:=mu_pos hleft
   have hst:=mu_step hleft
   have hFs:=ordF_step hleft hmu
   have l17:=le_new hn16 (.cells #[.map none,.slice none 0 0] 167)
   have p17:(AM.upd m' b16 (.cells #[.map none,.slice none 0 0] 167)) b16=some (.cells #[.map none,.slice none 0 0] 167 (0,0)):=upd_get_same
   generalize AM.upd m' b16 (.cells #[.map none,.slice none 0 0] 167)=m17 at l17 p17 ⊢
   have h6_16:b6≠b16:=fun e=>by rw [<- e,hi.box] at hn16; cases hn16
   have s0:HI m' w0.heap.size b6 (.cells #[.slice A1 (heightsP l).length c3] 33 (0,0)) b16 [] m17 :=
    ⟨[b16],l17,l17 _ _ hi.box,by simpa using h6_16,by simpa using hn16,none,none,0,p17,hb16,Alog.Own.nil _ _ _ _,.inl ⟨rfl,rfl⟩,by simp [obl]⟩
   refine vl70_11110100101010 w0 m17 _ _ q _ _ A l.length c b6 A11 l.length c13 B out.length c5 (leftP l out) b16 l.length 0
    (fun q1 k m2=>HI m' w0.heap.size b6 (.cells #[.slice A1 (heightsP l).length c3] 33 (0,0)) b16 (rdyL l out k.toNat) m2/\0<=k/\k<=l.length/\(q1:Int)=l.length-k)
    (fun m2=>HI m' w0.heap.size b6 (.cells #[.slice A1 (heightsP l).length c3] 33 (0,0)) b16 (rdyL l out l.length) m2) l.length rfl rfl rfl rfl rfl rfl rfl rfl ⟨s0,by omega,by omega,by omega⟩ ?_ ?_
   .rintro q1 σ k m2 ⟨h2,k0,k1,hq1⟩
    refine ⟨rfl,bcP (fun hlt=>?_) (fun hlt=>by (repeat (refine And.intro (Eq.refl _) ?_)); rwa [show k.toNat=l.length by omega] at h2)⟩
    have le2:m'.le m2:=by obtain ⟨fp,h,_⟩:=h2; exact h
    have hi2:=hi.mono le2
    have wk:IntKind.wrap .i64 (k+1)=k+1:=wrap_s (by omega) (by omega)
    have hrs:=rdyL_succ l out k.toNat
    have hrl:=rdyL_len l out k.toNat
    have ek:(k+1).toNat=k.toNat+1:=by omega
    refine callB (ready_e w0 m2 A c l (by omega) (rd.le hi2.le) A11 c13 (whRow out l.length) out (whRow_len _ _) (fun i h=>whRow_at h) (by omega) hi2.at_.reads k k0 hlt) ?_
    rw [wk]
    cases hr:readyP l out k.toNat with
    | true =>
     rw [hr,if_pos rfl] at hrs
     have hnew:k∉rdyL l out k.toNat:=fun h=>by have:=(rdyL_mem.1 h).2.1; omega
     refine bcT (CallsA.mono (h2.add (by omega) k hi2.box (fun fp hfp=>hfp.ne_ins hi2.box (by decide) (by decide))) ?_)
     rintro r m3 ⟨t,rfl,h3,_⟩
     rw [addL_eq,addS_new hnew] at h3
     refine ⟨_,rfl,?_⟩
     (repeat (refine And.intro (Eq.refl _) ?_))
     refine ⟨q1-1,by omega,?_,by omega,by omega,by omega⟩
     rw [ek,hrs,show ((k.toNat:Nat):Int)=k by omega]; exact h3
    | false =>
     rw [hr,if_neg (by simp),List.append_nil] at hrs
     refine bcF ?_
     (repeat (refine And.intro (Eq.refl _) ?_))
     refine ⟨q1-1,by omega,?_,by omega,by omega,by omega⟩
     rw [ek,hrs]; exact h2
   .rintro σ m2 h2
    obtain ⟨fp,le2,hbx,_,_,hset⟩:=h2
    have hi2:=hi.mono le2
    refine all_spec w0 m2 b16 (R:=fun r25 m26=>_) fun bs M3 l3 nbs hbs pbs=>⟨_,rfl,?_⟩
    have hi3:=hi2.mono l3
    have hll:=rdyL_len l out l.length
    refine CallsA.mono (least_e w0 M3 (hset.le l3) pbs (by omega) hi3.box hi3.hs.reads (fun x hx=>by have:=rdyL_mem.1 hx; rw [hlen]; exact ⟨this.1,this.2.1⟩)) ?_
    rintro r M4 ⟨rfl,h4⟩
    replace h4:=h4.symm; subst h4
    have hlt:(fun a b:Int=>decide ((heightsP l).getD a.toNat 0>(heightsP l).getD b.toNat 0))=ltH l:=rfl
    rw [hlt]
    refine ⟨_,_,rfl,?_⟩
    by_cases hr:rdyL l out l.length = []
    .have hf:(leastL (ltH l) (rdyL l out l.length)).2=false:=by rw [hr]; rfl
     rw [hf]
     have hnx:=nextO_none hr
     rw [hnx] at hst hFs
     refine bcT ⟨rfl,?_⟩
     refine OI.app (K:=fun A n c m11=>_) hi3.le hi3.box hi3.hs (by rw [whRow_neg]; exact hi3.at_) hi3.out hi3.nAt hi3.nB hi3.d1 hi3.d2 hi3.d3 (by omega) ?_
     intro B' c' M5 h5
     (repeat (refine And.intro (Eq.refl _) ?_))
     exact ⟨q-1,by omega,out ++ [-1],h5,rfl,by rw [left_none],by omega,by simp; omega,by rw [<- hFs]; exact hF⟩
    .have hf:(leastL (ltH l) (rdyL l out l.length)).2=true:=(leastL_found _ _).2 hr
     obtain ⟨hnx,hnm⟩:=nextO_some hr
     rw [hf,<- hnx]
     generalize nextO l out=x at hst hFs hnm
     obtain ⟨x0,x1,xo⟩:=ready_new hnm
     have hls:=left_some hnm
     refine bcF ⟨⟨x0,x1⟩,?_⟩
     obtain ⟨a11,rfl,_⟩:=hi3.at_.ex (by omega)
     rw [nilO_some]
     have hat3:Alog.Own M3 w0.heap.size 3 1 (some a11) (whRow out l.length).length c13 (intCells .i64 (whRow out l.length)):=by rw [whRow_len]; exact hi3.at_
     refine own_set hat3 (k:=x.toNat) (by rw [whRow_len]; omega) _ fun M5 o5 f5=>?_
     rw [<- whRow_new x0 xo,whRow_len] at o5
     have K5:∀ {C:Option Addr} {n c:Nat} {e:TypeId} {sz:Nat} {xs:List Value},Alog.Own M3 w0.heap.size e sz C n c xs->(∀ y∈obl (some a11),y∉obl C)->Alog.Own M5 w0.heap.size e sz C n c xs:=fun hC hd=>hC.fr f5 (fun y hy h=>hd y h hy)
     have lm5:m.le M5:=fun y o hy=>f5 y o (hi3.le y o hy) fun h=>by rw [hi3.nAt y h] at hy; cases hy
     have bx5:M5 b6=some (.cells #[.slice A1 (heightsP l).length c3] 33 (0,0)):=f5 _ _ hi3.box fun h=>by
      obtain ⟨_,cur,hc⟩:=hi3.at_.obl_some h
      rw [hi3.box] at hc; injection hc with hc; injection hc with _ e; exact absurd e (by decide)
     refine ⟨rfl,?_⟩
     refine OI.app (K:=fun A n c m11=>_) lm5 bx5 (K5 hi3.hs hi3.d1) o5 (K5 hi3.out (fun y hy hb=>hi3.d3 y hb hy)) hi3.nAt hi3.nB hi3.d1 hi3.d2 hi3.d3 (by omega) ?_
     intro B' c' M6 h6
     (repeat (refine And.intro (Eq.refl _) ?_))
     refine ⟨q-1,by omega,out ++ [x],h6,rfl,?_,by omega,by simp; omega,by rw [<- hFs]; exact hF⟩
     have hlb:leftP l out<=l.length:=by unfold leftP; omega
     rw [wrap_s (i:=(leftP l out:Int)-1) (by omega) (by omega)]; omega
  ·(repeat (refine And.intro (Eq.refl _) ?_))
   have h0:leftP l out=0:=by omega
   rw [ordF_end h0] at hF
   exact ⟨out,hi,rfl,hF⟩
 .rintro σ B n5 c5 m' ⟨out,hi,rfl,rfl⟩
  rw [<- hR]
  exact retP_of ⟨⟨B,c5,rfl,hi.out,hi.nB⟩,hi.le⟩
def lastI (l:List Ins):Ins:=cAt l ((l.length:Int)-1)
def padL (l:List Ins) (o:List Int) (last:Ins):List Int:=if clearP l o last o.length=true then o else o ++ [-1]
def slotOk (l:List Ins) (o:List Int) (last:Ins):Bool:=!lateP (cAt l (o.getD (o.length-1) 0)) && (farP (cAt l (o.getD (o.length-1) 0)) last == 0) && clearP l (o.take (o.length-1)) last ((o.length:Int)-1)
def layP (l:List Ins):List Int :=
 if l = [] then [] else
 if goesP (lastI l)=false then (if lateP (cAt l ((ordP l).getD ((ordP l).length-1) 0))=true then ordP l ++ [-1] else ordP l)
 else if ordP (l.take (l.length-1))≠[]/\slotOk l (ordP (l.take (l.length-1))) (lastI l)=true
  then (ordP (l.take (l.length-1))).take ((ordP (l.take (l.length-1))).length-1) ++ [(l.length:Int)-1,(ordP (l.take (l.length-1))).getD ((ordP (l.take (l.length-1))).length-1) 0]
  else padL l (ordP (l.take (l.length-1))) (lastI l) ++ [(l.length:Int)-1,-1]
theorem pad_clear (l:List Ins) (o:List Int) (last:Ins):clearP l (o ++ [-1]) last ((o ++ [(-1:Int)]).length:Int)=true:=by
 have hlen:(o ++ [(-1:Int)]).length=o.length+1:=by simp
 refine clearP_t fun k hk=>?_
 rw [hlen] at hk ⊢
 unfold czA
 by_cases e:k=o.length
 .subst e
  have:(o ++ [(-1:Int)]).getD o.length 0 = -1:=by simp [List.getD_eq_getElem?_getD]
  rw [this]; rfl
 .have hf:=farP_in (cAt l ((o ++ [(-1:Int)]).getD k 0)) last
  rw [Bool.and_eq_false_iff]
  right
  exact decide_eq_false (by omega)
theorem ord_lt {l:List Ins} {o:List Int} {n:Nat} (h:∀ x∈o,x = -1\/(0<=x/\x<n)) (hn:n<=l.length) (hl:0<l.length):∀ k:Nat,k<o.length->o.getD k 0<l.length:=fun k hk=>by
 have:=h (o.getD k 0) (by simp [List.getD,hk])
 omega
theorem snoc2I {w0:World} {m0 m:AM} {A:Option Addr} {c:Nat} {l:List Int} (lm:m0.le m) (o:Alog.Own m w0.heap.size 3 1 A l.length c (intCells .i64 l)) (nA:∀ k∈obl A,m0 k=none) (hl:l.length<=1000000) (x y:Int) {b11:Nat} {A2:Option Addr} (hr:Reads m 1 A2 2 [.int .i64 x,.int .i64 y]) {K:Value->AM->Prop} {c2:Nat}
  (hK:∀ A' c' m',m0.le m'->Alog.Own m' w0.heap.size 3 1 A' (l ++ [x,y]).length c' (intCells .i64 (l ++ [x,y]))->(∀ k∈obl A',m0 k=none)->K (.slice A' (l ++ [x,y]).length c') m') :
  awp Tryz.prog w0.heap.size (Builtin.append_ #[33,33] 33 #[.slice A l.length c,.slice A2 2 c2]) m K:=by
 refine awp_append_loc (m0:=m0) el30' lm o nA (k:=2) (news:=[.int .i64 x,.int .i64 y]) hr (by simp [Value.oneCell']) (by omega) (by omega) (fun A2' c2' m28 l28 f28 o28 n28 _=>?_)
 have e2:(l ++ [x,y]).length=l.length+2:=by simp
 rw [<- e2] at o28 ⊢
 refine hK A2' c2' m28 l28 ?_ n28
 rw [show intCells .i64 (l ++ [x,y])=intCells .i64 l ++ [.int .i64 x,.int .i64 y] by simp [intCells]]; exact o28
theorem layTail (w0:World) (m0 m:AM) (σ:Sg) {R:Value->AM->Prop} {A:Option Addr} {c:Nat} {l:List Ins} (hl:l.length<=100000) (hpos:0<l.length) (rd:Reads m0 5 A l.length (insCells l)) {b7:Nat} {last:Ins} (pb:m0 b7=some (.cells last.cells.toArray 57 (0,0)))
  {A7:Option Addr} {c7:Nat} {o:List Int} (ho:∀ x∈o,x = -1\/(0<=x/\x<l.length)) (hol:o.length<=100000) (L:m0.le m) (oo:Alog.Own m w0.heap.size 3 1 A7 o.length c7 (intCells .i64 o)) (no:∀ k∈obl A7,m0 k=none)
  (hR:∀ A' c' m',m0.le m'->Alog.Own m' w0.heap.size 3 1 A' (padL l o last ++ [(l.length:Int)-1,-1]).length c' (intCells .i64 (padL l o last ++ [(l.length:Int)-1,-1]))->(∀ k∈obl A',m0 k=none)->RetP R (.slice A' (padL l o last ++ [(l.length:Int)-1,-1]).length c') m')
  (h0:σ 0=.slice A l.length c) (h3:σ 3=.int .i64 ((l.length:Int)-1)) (h4:σ 4=.pointer (some ⟨b7,0,none⟩)) (h7:σ 7=.slice A7 o.length c7):(XV w0 F33 (Tz R) 1020 σ m):=by
 refine vl33_111111100 w0 m _ _ A l.length c ((l.length:Int)-1) b7 A7 o.length c7
  (fun q B n5 c5 m'=>∃ o',(o'=o/\q=1\/(o'=o ++ [-1]/\clearP l o last o.length=false))/\m0.le m'/\Alog.Own m' w0.heap.size 3 1 B o'.length c5 (intCells .i64 o')/\(∀ k∈obl B,m0 k=none)/\n5=o'.length)
  (fun B n5 c5 m'=>m0.le m'/\Alog.Own m' w0.heap.size 3 1 B (padL l o last).length c5 (intCells .i64 (padL l o last))/\(∀ k∈obl B,m0 k=none)/\n5=(padL l o last).length) 1 h0 h3 h4 h7 ⟨o,.inl ⟨rfl,rfl⟩,L,oo,no,rfl⟩ ?_ ?_
 .rintro q σ B n5 c5 m' ⟨o',hq,l',oo',no',rfl⟩
  have rd':=rd.le l'
  have pb':=l' _ _ pb
  have ho':∀ x∈o',x = -1\/(0<=x/\x<l.length):=by
   rcases hq with ⟨rfl,_⟩ | ⟨rfl,_⟩
   .exact ho
   .intro x hx
    rw [List.mem_append,List.mem_singleton] at hx
    rcases hx with hx | rfl
    .exact ho x hx
    .exact .inl rfl
  have hol':o'.length<=100001:=by
   rcases hq with ⟨rfl,_⟩ | ⟨rfl,_⟩
   .omega
   .rw [List.length_append,List.length_singleton]; omega
  refine ldIns pb' (callB (clear_e w0 m' A c l (by omega) rd' B o'.length c5 o' rfl (by omega) (ord_lt ho' (Nat.le_refl _) hpos) oo'.reads last o'.length) ?_)
  cases hc:clearP l o' last o'.length with
  | true =>
   refine bcF ?_
   (repeat (refine And.intro (Eq.refl _) ?_))
   have e:o'=padL l o last:=by
    rcases hq with ⟨rfl,_⟩ | ⟨rfl,h2⟩
    .unfold padL; rw [if_pos hc]
    .unfold padL; rw [if_neg (by rw [h2]; simp)]
   rw [<- e]
   exact ⟨l',oo',no',rfl⟩
  | false =>
   rcases hq with ⟨rfl,rfl⟩ | ⟨rfl,h2⟩
   .refine bcT ⟨rfl,?_⟩
    refine snocI l' oo' no' (by omega) (-1) (K:=fun A n c m11=>_) ?_
    intro B' c' M6 l6 o6 n6
    (repeat (refine And.intro (Eq.refl _) ?_))
    exact ⟨0,by omega,o' ++ [-1],.inr ⟨rfl,hc⟩,l6,o6,n6,rfl⟩
   .rw [pad_clear] at hc; cases hc
 .rintro σ B n5 c5 m' ⟨l',oo',no',rfl⟩
  refine ⟨rfl,fun b hb hn=>?_⟩
  have hpl:(padL l o last).length<=100001:=by
   unfold padL
   split
   .omega
   .rw [List.length_append,List.length_singleton]; omega
  refine snoc2I (b11:=b) (AM.le_trans l' (le_new hn _)) (oo'.upd (oo'.ne_none hn)) no' (by omega) ((l.length:Int)-1) (-1) (Reads.lit rfl) ?_
  intro A' c' M l6 o6 n6
  exact ⟨_,_,_,rfl,hR A' c' M l6 o6 n6⟩
theorem clone_spec (w0:World) (m:AM) (A:Option Addr) (c:Nat) (l:List Int) (hl:l.length<=1000000) (rd:Reads m 1 A l.length (intCells .i64 l)) :
  CallsA Tryz.prog w0 40 #[.slice A l.length c] m (oI w0 m l):=by
 refine cf40 w0 m A l.length c _ ?_
 dsimp only [cf40,mkF]
 cases A with
 | none =>
  have:l = []:=by
   obtain ⟨_,⟨_,h⟩ | ⟨ad,h,_⟩⟩:=rd
   .exact List.eq_nil_of_length_eq_zero h
   .cases h
  subst this
  exact bcT (retP_of ⟨⟨none,0,rfl,Alog.Own.nil _ _ _ _,by simp [obl]⟩,AM.le_refl _⟩)
 | some a =>
  refine bcF ⟨rfl,fun b hb hn=>?_⟩
  have ow1:Alog.Own (m.upd b (.cells #[] 3)) w0.heap.size 3 1 (some ⟨b,0,none⟩) 0 0 []:=Alog.Own.new m hb 3 1 0 [] (by simp)
  refine awp_append_loc (m0:=m) el30' (le_new hn _) ow1 (fun k hk=>by simp [obl] at hk; subst hk; exact hn) (rd.le (le_new hn _)) (by intro u hu; obtain ⟨x,_,rfl⟩:=List.mem_map.1 hu; rfl) (by omega) (by omega) (fun A' c' m23 l23 f23 o23 n23 _=>?_)
  rw [List.nil_append,Nat.zero_add] at o23
  rw [Nat.zero_add]
  exact ⟨_,_,_,rfl,retP_of ⟨⟨A',c',rfl,o23,n23⟩,l23⟩⟩
theorem intCells_take (l:List Int) (k:Nat):(intCells .i64 l).take k=intCells .i64 (l.take k):=by simp [intCells,List.map_take]
theorem reads_intPre {m:AM} {A:Option Addr} {c:Nat} {o:List Int} (r:Reads m 1 A o.length (intCells .i64 o)) (k:Nat) (hk:k<=o.length) (hc:o.length<=c) :
  Reads m 1 (if c=0 then A else Option.map (fun x=>Addr.add x (0*1)) A) (k-0) (intCells .i64 (o.take k)):=by
 have:=r.slice 0 k (by omega) hk hc
 rwa [Nat.zero_mul,List.drop_zero,Nat.sub_zero,Nat.mul_one,intCells_take] at this
theorem laySlot (w0:World) (m0 m:AM) (σ:Sg) {R:Value->AM->Prop} {A7:Option Addr} {c7:Nat} {o:List Int} (hpos:0<o.length) (hol:o.length<=100000) (L:m0.le m) (oo:Alog.Own m w0.heap.size 3 1 A7 o.length c7 (intCells .i64 o)) (e:Int)
  (hR:∀ A' c' m',m0.le m'->Alog.Own m' w0.heap.size 3 1 A' (o.take (o.length-1) ++ [e,o.getD (o.length-1) 0]).length c' (intCells .i64 (o.take (o.length-1) ++ [e,o.getD (o.length-1) 0]))->(∀ k∈obl A',m0 k=none)->RetP R (.slice A' (o.take (o.length-1) ++ [e,o.getD (o.length-1) 0]).length c') m')
  (h3:σ 3=.int .i64 e) (h7:σ 7=.slice A7 o.length c7) (h8:σ 8=.int .i64 ((o.length:Int)-1)):(XV w0 F33 (Tz R) 32620 σ m):=by
 have ek:((o.length:Int)-1).toNat=o.length-1:=by omega
 have hcap:=oo.2.1
 refine vr33_11111101101100 w0 m σ R e A7 o.length c7 ((o.length:Int)-1) (fun A n c m'=>n=(o.take (o.length-1) ++ [e,o.getD (o.length-1) 0]).length/\m0.le m'/\Alog.Own m' w0.heap.size 3 1 A n c (intCells .i64 (o.take (o.length-1) ++ [e,o.getD (o.length-1) 0]))/\∀ k∈obl A,m0 k=none) h3 h7 h8 ?_ ?_
 .obtain ⟨a,rfl,hc⟩:=oo.ex hpos
  dsimp only [vr33_11111101101100,mkR]
  rw [nilO_some]
  have hx:=cell_k hc (i:=(o.length:Int)-1) (by omega) (by omega)
  rw [ek] at hx ⊢
  have etk:(o.take (o.length-1)).length=o.length-1-0:=by rw [List.length_take]; omega
  have pre:∀ M:AM,m.le M->CallsA Tryz.prog w0 40 #[.slice (if c7=0 then some a else Option.map (fun x=>Addr.add x (0*1)) (some a)) (o.length-1-0) (c7-0)] M (oI w0 M (o.take (o.length-1))):=by
   intro M lM
   have rd:=reads_intPre (oo.le lM).reads (o.length-1) (by omega) hcap
   have:=clone_spec w0 M (if c7=0 then some a else Option.map (fun x=>Addr.add x (0*1)) (some a)) (c7-0) (o.take (o.length-1)) (by omega) (by rw [etk]; exact rd)
   rwa [etk] at this
  have fr:∀ {M:AM} {A':Option Addr},m.le M->(∀ k∈obl A',M k=none)->∀ k∈obl A',m0 k=none:=fun {M A'} lM h k hk=>by
   cases hm:m0 k with
   | none=>rfl
   | some o'=>have:=h k hk; rw [lM _ _ (L _ _ hm)] at this; cases this
  generalize hx2:o.getD (o.length-1) 0=x at hx ⊢
  refine ⟨by omega,by omega,by omega,⟨by omega,by omega⟩,?_,_,hx,?_,?_⟩
  .refine CallsA.mono (pre m (AM.le_refl _)) ?_
   rintro r m1 ⟨⟨A',c',rfl,o',n'⟩,l'⟩
   refine ⟨_,_,_,rfl,_,AM.le_cell l' hx,rfl,fun b hb hn=>?_⟩
   refine snoc2I (b11:=b) (m0:=m0) (AM.le_trans (AM.le_trans L l') (le_new hn _)) (o'.upd (o'.ne_none hn)) (fr (AM.le_refl _) n') (by omega) e x (Reads.lit rfl) ?_
   intro A2 c2 M l6 o6 n6
   exact ⟨_,_,_,rfl,rfl,rfl,rfl,l6,o6,n6⟩
  .refine CallsA.mono (pre m (AM.le_refl _)) ?_
   rintro r m1 ⟨⟨A',c',rfl,o',n'⟩,l'⟩
   refine ⟨_,_,_,rfl,rfl,fun b hb hn=>?_⟩
   refine snoc2I (b11:=b) (m0:=m0) (AM.le_trans (AM.le_trans L l') (le_new hn _)) (o'.upd (o'.ne_none hn)) (fr (AM.le_refl _) n') (by omega) e x (Reads.lit rfl) ?_
   intro A2 c2 M l6 o6 n6
   exact ⟨_,_,_,rfl,rfl,rfl,rfl,l6,o6,n6⟩
  .refine ⟨rfl,fun b hb hn=>?_⟩
   have lb:=le_new hn (.cells #[.int .i64 e,.int .i64 x] 3)
   refine CallsA.mono (pre _ lb) ?_
   rintro r m1 ⟨⟨A',c',rfl,o',n'⟩,l'⟩
   refine ⟨_,_,_,rfl,?_⟩
   refine snoc2I (b11:=b) (m0:=m0) (AM.le_trans (AM.le_trans L lb) l') o' (fr lb n') (by omega) e x ((Reads.lit (cs:=[.int .i64 e,.int .i64 x]) rfl).le l') ?_
   intro A2 c2 M l6 o6 n6
   exact ⟨_,_,_,rfl,rfl,rfl,rfl,l6,o6,n6⟩
 .rintro σ A n c M ⟨rfl,l6,o6,n6⟩
  exact hR A c M l6 o6 n6
def layG (l:List Ins) (o:List Int) (last:Ins) (t:Bool):List Int:=if t=true then o.take (o.length-1) ++ [(l.length:Int)-1,o.getD (o.length-1) 0] else padL l o last ++ [(l.length:Int)-1,-1]
theorem layDec (w0:World) (m0 m:AM) (σ:Sg) {R:Value->AM->Prop} {A:Option Addr} {c:Nat} {l:List Ins} (hl:l.length<=100000) (hpos:0<l.length) (rd:Reads m0 5 A l.length (insCells l)) {b7:Nat} {last:Ins} (pb:m0 b7=some (.cells last.cells.toArray 57 (0,0)))
  {A7:Option Addr} {c7:Nat} {o:List Int} (ho:∀ x∈o,x = -1\/(0<=x/\x<l.length)) (hol:o.length<=100000) (L:m0.le m) (oo:Alog.Own m w0.heap.size 3 1 A7 o.length c7 (intCells .i64 o)) (no:∀ k∈obl A7,m0 k=none) (t:Bool) (ht:t=true->0<o.length)
  (hR:∀ A' c' m',m0.le m'->Alog.Own m' w0.heap.size 3 1 A' (layG l o last t).length c' (intCells .i64 (layG l o last t))->(∀ k∈obl A',m0 k=none)->RetP R (.slice A' (layG l o last t).length c') m')
  (h0:σ 0=.slice A l.length c) (h3:σ 3=.int .i64 ((l.length:Int)-1)) (h4:σ 4=.pointer (some ⟨b7,0,none⟩)) (h7:σ 7=.slice A7 o.length c7) (h8:σ 8=.int .i64 ((o.length:Int)-1)) (h77:σ 77=.bool t):(XV w0 F33 (Tz R) 8155 σ m):=by
 refine vk33_111111011011 w0 m σ R A l.length c ((l.length:Int)-1) b7 A7 o.length c7 ((o.length:Int)-1) t h0 h3 h4 h7 h8 h77 ?_
 dsimp only [vk33_111111011011,mkK]
 cases t with
 | true=>exact bcT (laySlot w0 m0 m _ (ht rfl) hol L oo ((l.length:Int)-1) hR rfl rfl rfl)
 | false =>
  refine bcF ?_
  refine vk33_1111111 w0 m _ R A l.length c ((l.length:Int)-1) b7 A7 o.length c7 rfl rfl rfl rfl ?_
  dsimp only [vk33_1111111,mkK]
  exact layTail w0 m0 m _ hl hpos rd pb ho hol L oo no hR rfl rfl rfl rfl
theorem last_get {o:List Int} (h:0<o.length):o.getLast?=some (o.getD (o.length-1) 0):=by
 rw [List.getLast?_eq_getElem?]
 simp [List.getD,show o.length-1<o.length by omega]
theorem lay_spec (w0:World) (m:AM) (A:Option Addr) (c:Nat) (l:List Ins) (hl:l.length<=5000) (hc:l.length<=c) (rd:Reads m 5 A l.length (insCells l)) :
  CallsA Tryz.prog w0 33 #[.slice A l.length c] m (oI w0 m (layP l)):=by
 generalize hR:oI w0 m (layP l)=R
 refine cf33 w0 m A l.length c R ⟨rfl,bcI (fun h=>?_) (fun h=>⟨rfl,?_⟩)⟩
 .have h':(((l.length:Nat):Int) == 0)=true:=h
  have:l = []:=List.eq_nil_of_length_eq_zero (by simpa using h')
  rw [<- hR]
  unfold layP
  rw [if_pos this]
  exact retP_of ⟨⟨none,0,rfl,Alog.Own.nil _ _ _ _,by simp [obl]⟩,AM.le_refl _⟩
 have hne:l≠[]:=fun e=>by
  have h':(((l.length:Nat):Int) == 0)=false:=h
  rw [e] at h'; simp at h'
 have hpos:0<l.length:=by
  cases l with
  | nil=>exact absurd rfl hne
  | cons=>simp
 have wn:IntKind.wrap .i64 ((l.length:Int)-1)=(l.length:Int)-1:=wrap_s (by omega) (by omega)
 rw [wn]
 refine ldAt rd rfl (by omega) (by omega) fun a=>blk5 fun b7 M l7 nb7 hb7 p7=>?_
 replace p7:M b7=some (.cells (Ins.cells (cAt l ((l.length:Int)-1))).toArray 57 (0,0)):=p7
 unfold layP at hR
 rw [if_neg hne] at hR
 unfold lastI at hR
 generalize cAt l ((l.length:Int)-1)=last at p7 hR ⊢
 have ret:∀ (A':Option Addr) (c':Nat) (m':AM) (r:List Int),R=oI w0 m r->M.le m'->Alog.Own m' w0.heap.size 3 1 A' r.length c' (intCells .i64 r)->(∀ k∈obl A',M k=none)->RetP R (.slice A' r.length c') m':=fun A' c' m' r e h1 h2 h3=>by
  rw [e]
  refine retP_of ⟨⟨A',c',rfl,h2,fun k hk=>?_⟩,AM.le_trans l7 h1⟩
  cases hm:m k with
  | none=>rfl
  | some o=>have:=h3 k hk; rw [l7 _ _ hm] at this; cases this
 have rdM:=rd.le l7
 refine ldIns p7 (callB (goes_e w0 M last) ?_)
 cases hg:goesP last with
 | false =>
  rw [hg,if_pos rfl] at hR
  refine bcT (CallsA.mono (order_spec w0 M A c l hl rdM) ?_)
  rintro r m1 ⟨⟨A1,c1,rfl,o1,n1⟩,l1⟩
  have hon:ordP l≠[]:=ordP_ne hne
  have hop:0<(ordP l).length:=by
   cases ho:ordP l with
   | nil=>exact absurd ho hon
   | cons=>simp
  have hol:=ordP_len l
  have hin:=ordP_in l
  have hlast:=ordP_last l (last_get hop)
  have hmem:(ordP l).getD ((ordP l).length-1) 0∈ordP l:=by simp [List.getD,show (ordP l).length-1<(ordP l).length by omega]
  have hlt:=hin _ hmem
  generalize ordP l=o at hR o1 hop hol hin hlast hlt ⊢
  have wo:IntKind.wrap .i64 ((o.length:Int)-1)=(o.length:Int)-1:=wrap_s (by omega) (by omega)
  have ek:((o.length:Int)-1).toNat=o.length-1:=by omega
  refine ⟨_,_,_,rfl,?_⟩
  try dsimp only
  rw [wo]
  refine ⟨rfl,⟨by omega,by omega⟩,?_⟩
  have o1':=o1
  obtain ⟨a1,hA1,hc1⟩:=o1.ex hop
  subst hA1
  rw [nilO_some]
  have hx:=cell_k hc1 (i:=(o.length:Int)-1) (by omega) (by omega)
  rw [ek] at hx ⊢
  generalize o.getD (o.length-1) 0=x at hx hlast hlt hR ⊢
  refine ⟨_,hx,rfl,bcET (decide_eq_true hlast) ?_⟩
  rw [decide_eq_true hlast]
  refine ldAt (rdM.le l1) rfl hlast (by omega) fun a=>callB (late_e w0 m1 (cAt l x)) ?_
  cases hlate:lateP (cAt l x) with
  | true =>
   rw [hlate,if_pos rfl] at hR
   refine bcT ⟨rfl,?_⟩
   refine snocI l1 o1 n1 (by omega) (-1) (K:=fun A n c m11=>_) ?_
   intro B' c' M6 l6 o6 n6
   exact ret B' c' M6 _ hR.symm l6 o6 n6
  | false =>
   rw [hlate,if_neg (by simp)] at hR
   exact bcF (ret _ _ m1 _ hR.symm l1 o1 n1)
 | true =>
  rw [hg,if_neg (by simp)] at hR
  have etk:(l.take (l.length-1)).length=l.length-1-0:=by rw [List.length_take]; omega
  have rs:Reads M 5 (if c=0 then A else Option.map (fun x=>Addr.add x (0*5)) A) (l.length-1-0) (insCells (l.take (l.length-1))):=by
   have:=rdM.insSlice 0 (l.length-1) (by omega) (by omega) hc
   rwa [List.drop_zero,Nat.sub_zero] at this
  refine bcF ?_
  rw [show ((l.length:Int)-1).toNat=l.length-1 by omega]
  refine ⟨by omega,by omega,by omega,?_⟩
  have hsp:=order_spec w0 M (if c=0 then A else Option.map (fun x=>Addr.add x (0*5)) A) (c-0) (l.take (l.length-1)) (by omega) (by rw [etk]; exact rs)
  rw [etk] at hsp
  refine CallsA.mono hsp ?_
  rintro r m1 ⟨⟨A1,c1,rfl,o1,n1⟩,l1⟩
  have hol:=ordP_len (l.take (l.length-1))
  have hin:∀ x∈ordP (l.take (l.length-1)),x = -1\/(0<=x/\x<l.length):=fun x hx=>by
   have:=ordP_in (l.take (l.length-1)) x hx
   rw [etk] at this; omega
  have hlast:0<(ordP (l.take (l.length-1))).length->0<=(ordP (l.take (l.length-1))).getD ((ordP (l.take (l.length-1))).length-1) 0:=fun h=>ordP_last _ (last_get h)
  rw [etk] at hol
  generalize ordP (l.take (l.length-1))=o at hR o1 hol hin hlast ⊢
  have wo:IntKind.wrap .i64 ((o.length:Int)-1)=(o.length:Int)-1:=wrap_s (by omega) (by omega)
  have ek:o.length≠0->((o.length:Int)-1).toNat=o.length-1:=fun h=>by omega
  have dec:∀ (m2:AM) (σ:Sg) (t:Bool),m1.le m2->(t=true↔(o≠[]/\slotOk l o last=true))->σ 0=.slice A l.length c->σ 3=.int .i64 ((l.length:Int)-1)->σ 4=.pointer (some ⟨b7,0,none⟩)->σ 7=.slice A1 o.length c1->σ 8=.int .i64 ((o.length:Int)-1)->σ 77=.bool t->(XV w0 F33 (Tz R) 8155 σ m2):=by
   intro m2 σ t l2 ht h0 h3 h4 h7 h8 h77
   refine layDec w0 M m2 σ (by omega) hpos rdM p7 hin (by omega) (AM.le_trans l1 l2) (o1.le l2) n1 t (fun h=>?_) (fun A' c' m' q1 q2 q3=>ret A' c' m' _ ?_ q1 q2 q3) h0 h3 h4 h7 h8 h77
   .have:=(ht.1 h).1
    cases o with
    | nil=>exact absurd rfl this
    | cons=>simp
   .rw [<- hR]
    unfold layG
    cases t with
    | true=>rw [if_pos (ht.1 rfl),if_pos rfl]
    | false=>rw [if_neg (fun h=>by have:=ht.2 h; cases this),if_neg (by simp)]
  refine ⟨_,_,_,rfl,?_⟩
  try dsimp only
  rw [wo]
  refine ⟨rfl,rfl,bcP (fun h0=>?_) (fun h0=>?_)⟩
  .have hop:0<o.length:=by omega
   have hon:o≠[]:=fun e=>by rw [e] at hop; simp at hop
   have hlast:=hlast hop
   have hmem:o.getD (o.length-1) 0∈o:=by simp [List.getD,show o.length-1<o.length by omega]
   have hlt:=hin _ hmem
   have ek:=ek (by omega)
   refine ⟨⟨by omega,by omega⟩,?_⟩
   obtain ⟨a1,hA1,hc1⟩:=o1.ex hop
   subst hA1
   rw [nilO_some]
   have hx:=cell_k hc1 (i:=(o.length:Int)-1) (by omega) (by omega)
   rw [ek] at hx ⊢
   have hso:slotOk l o last=(!lateP (cAt l (o.getD (o.length-1) 0)) && (farP (cAt l (o.getD (o.length-1) 0)) last == 0) && clearP l (o.take (o.length-1)) last ((o.length:Int)-1)):=rfl
   generalize o.getD (o.length-1) 0=x at hx hlast hlt hso ⊢
   refine ⟨_,hx,ldAt (rdM.le l1) rfl hlast (by omega) fun a=>blk5 fun b58 M2 l2 nb2 hb2 p2=>?_⟩
   replace p2:M2 b58=some (.cells (Ins.cells (cAt l x)).toArray 57 (0,0)):=p2
   have p72:=l2 _ _ (l1 _ _ p7)
   refine ldIns p2 (callB (late_e w0 M2 (cAt l x)) ?_)
   cases hlate:lateP (cAt l x) with
   | true =>
    rw [hlate] at hso
    exact bcF ⟨rfl,rfl,dec M2 _ false l2 ⟨(fun h=>by cases h),fun h=>by rw [hso] at h; simp at h⟩ rfl rfl rfl rfl rfl rfl⟩
   | false =>
    rw [hlate] at hso
    refine bcT (ldIns p2 (ldIns p72 (callI (far_e w0 M2 (cAt l x) last) ⟨rfl,?_⟩)))
    cases hfar:(farP (cAt l x) last == 0) with
    | false =>
     rw [hfar] at hso
     exact bcF ⟨rfl,dec M2 _ false l2 ⟨(fun h=>by cases h),fun h=>by rw [hso] at h; simp at h⟩ rfl rfl rfl rfl rfl rfl⟩
    | true =>
     rw [hfar] at hso
     have hcap:=o1.2.1
     have rp:=reads_intPre (o1.le l2).reads (o.length-1) (by omega) hcap
     refine bcT ⟨by omega,by omega,by omega,ldIns p72 (callB (clear_e w0 M2 A c l (by omega) (rdM.le (AM.le_trans l1 l2)) _ _ _ (o.take (o.length-1)) (by rw [List.length_take]; omega) (by rw [List.length_take]; omega) ?_ rp last ((o.length:Int)-1)) ?_)⟩
     .exact ord_lt (fun y hy=>hin y (List.mem_of_mem_take hy)) (Nat.le_refl _) hpos
     .have hcl:slotOk l o last=clearP l (o.take (o.length-1)) last ((o.length:Int)-1):=by rw [hso]; simp
      refine dec M2 _ _ l2 ⟨fun h=>⟨hon,by rw [hcl]; exact h⟩,fun h=>by rw [hcl] at h; exact h.2⟩ rfl rfl rfl rfl rfl rfl
  .have hon:o = []:=List.eq_nil_of_length_eq_zero (by omega)
   rw [if_neg (fun h=>h.1 hon)] at hR
   refine vk33_1111111 w0 m1 _ R A l.length c ((l.length:Int)-1) b7 A1 o.length c1 rfl rfl rfl rfl ?_
   dsimp only [vk33_1111111,mkK]
   exact layTail w0 M m1 _ (by omega) hpos rdM p7 hin (by omega) l1 o1 n1 (fun A' c' m' q1 q2 q3=>ret A' c' m' _ hR.symm q1 q2 q3) rfl rfl rfl rfl
end Go.Proofs.YtgjamnhjlaohaaaGreatDoor.S
namespace Go.Proofs.YtgjamnhjlaohaaaGreatDoor.S
open Go Go.RowKit Go.Alog
def nnL (o:List Int):List Int:=o.filter (fun x=>decide (0<=x))
def idL (n:Nat):List Int:=(List.range n).map (fun k:Nat=>(k:Int))
theorem nnL_app (a b:List Int):nnL (a ++ b)=nnL a ++ nnL b:=List.filter_append ..
theorem nnL_neg:nnL [-1] = []:=rfl
theorem nnL_new {x:Int} (h:0<=x):nnL [x] = [x]:=by unfold nnL; simp [h]
theorem idL_mem {n:Nat} {x:Int}:x∈idL n↔0<=x/\x<n:=by
 unfold idL
 rw [List.mem_map]
 constructor
 .rintro ⟨k,hk,rfl⟩
  rw [List.mem_range] at hk; omega
 .rintro ⟨h0,h1⟩
  exact ⟨x.toNat,List.mem_range.2 (by omega),by omega⟩
theorem idL_nodup (n:Nat):(idL n).Nodup:=by
 unfold idL List.Nodup
 rw [List.pairwise_map]
 exact List.Pairwise.imp (fun h e=>h (by omega)) (List.nodup_range (n:=n))
theorem ordP_nodup (l:List Ins):(nnL (ordP l)).Nodup:=by
 refine ordP_ind (fun out=>(nnL out).Nodup) (by unfold nnL; simp) fun out hl h=>?_
 rw [nnL_app]
 rcases next_cases l out with ⟨_,e⟩ | ⟨_,hm⟩
 .rw [e,nnL_neg,List.append_nil]; exact h
 .obtain ⟨h0,h1,h2⟩:=ready_new hm
  rw [nnL_new h0,List.nodup_append]
  refine ⟨h,by simp,fun a ha b hb=>?_⟩
  rw [List.mem_singleton] at hb
  subst hb
  rintro rfl
  exact h2 (List.mem_filter.1 ha).1
theorem ordP_perm (l:List Ins):(nnL (ordP l)).Perm (idL l.length):=by
 rw [List.perm_ext_iff_of_nodup (ordP_nodup l) (idL_nodup _)]
 intro x
 rw [idL_mem]
 unfold nnL
 rw [List.mem_filter,decide_eq_true_eq]
 constructor
 .rintro ⟨h1,h2⟩
  have:=ordP_in l x h1; omega
 .rintro ⟨h0,h1⟩
  have:=ordP_all l (q:=x.toNat) (by omega)
  rw [show ((x.toNat:Nat):Int)=x by omega] at this
  exact ⟨this,h0⟩
theorem nn_once {o:List Int} (h:(nnL o).Nodup):∀ i j:Nat,i<j->j<o.length->o.getD i 0=o.getD j 0->o.getD i 0<0:=by
 induction o with
 | nil=>intro i j _ hj; simp at hj
 | cons x o ih =>
  intro i j hij hj he
  have hx:nnL (x :: o)=if 0<=x then x :: nnL o else nnL o:=by
   unfold nnL; rw [List.filter_cons]; simp
  have ho:(nnL o).Nodup:=by
   rw [hx] at h
   split at h
   .exact (List.nodup_cons.1 h).2
   .exact h
  cases j with
  | zero=>omega
  | succ j =>
   rw [List.length_cons] at hj
   cases i with
   | zero =>
    refine Classical.byContradiction fun hn=>?_
    have he':x=o.getD j 0:=he
    have hn':¬ x<0:=hn
    rw [hx,if_pos (by omega)] at h
    refine (List.nodup_cons.1 h).1 (List.mem_filter.2 ⟨?_,decide_eq_true (by omega)⟩)
    rw [he']
    simp [List.getD,show j<o.length by omega]
   | succ i=>exact ih ho i j (by omega) (by omega) he
theorem wh_once {o:List Int} (h:(nnL o).Nodup) {k:Nat} (hk:k<o.length) (h0:0<=o.getD k 0):whP o (o.getD k 0)=k:=by
 refine (whP_fst hk).2 fun hm=>?_
 obtain ⟨i,hi,he⟩:=List.mem_iff_getElem.1 hm
 rw [List.length_take] at hi
 rw [List.getElem_take] at he
 have hi2:i<o.length:=by omega
 have e2:o.getD i 0=o.getD k 0:=by
  rw [<- he]; simp [List.getD,hi2]
 have:=nn_once h i k (by omega) hk e2
 omega
theorem ready_far {l:List Ins} {out:List Int} {x:Int} (h:x∈rdyL l out l.length) {p:Nat} (hp:(p:Int)<x) (hf:farP (cAt l p) (cAt l x)>0):(p:Int)∈out/\whP out p+farP (cAt l p) (cAt l x)<=out.length:=by
 obtain ⟨h0,h1,h2⟩:=rdyL_mem.1 h
 have hx:((x.toNat:Nat):Int)=x:=by omega
 have hb:bz l out x.toNat p=false:=by
  cases hb:bz l out x.toNat p with
  | false=>rfl
  | true=>rw [readyP_f (i:=p) (by omega) hb] at h2; cases h2
 unfold bz at hb
 rw [hx,decide_eq_true hf,Bool.true_and,Bool.or_eq_false_iff] at hb
 have h3:=of_decide_eq_false hb.1
 have h4:=of_decide_eq_false hb.2
 refine ⟨Classical.byContradiction fun hn=>?_,by omega⟩
 rw [whP_neg.2 hn] at h3; omega
theorem ordP_far (l:List Ins):∀ (p:Nat) (q:Int),(p:Int)<q->q<l.length->farP (cAt l p) (cAt l q)>0->(p:Int)∈ordP l/\whP (ordP l) p+farP (cAt l p) (cAt l q)<=whP (ordP l) q:=by
 have key:∀ (p:Nat) (q:Int),(p:Int)<q->q∈ordP l->farP (cAt l p) (cAt l q)>0->(p:Int)∈ordP l/\whP (ordP l) p+farP (cAt l p) (cAt l q)<=whP (ordP l) q:=by
  refine ordP_ind (fun out=>∀ (p:Nat) (q:Int),(p:Int)<q->q∈out->farP (cAt l p) (cAt l q)>0->(p:Int)∈out/\whP out p+farP (cAt l p) (cAt l q)<=whP out q) (by simp) fun out hl h p q hpq hq hf=>?_
  have keep:∀ y:Int,y∈out->whP (out ++ [nextO l out]) y=whP out y:=fun y hy=>by
   rw [whP_snoc,if_pos]
   exact hy
  rw [List.mem_append,List.mem_singleton] at hq
  by_cases hqo:q∈out
  .obtain ⟨h1,h2⟩:=h p q hpq hqo hf
   rw [keep _ hqo,keep _ h1]
   exact ⟨List.mem_append_left _ h1,h2⟩
  .have hqe:q=nextO l out:=by
    rcases hq with hq | hq
    .exact absurd hq hqo
    .exact hq
   rcases next_cases l out with ⟨_,e⟩ | ⟨_,hm⟩
   .omega
   .rw [<- hqe] at hm
    obtain ⟨h1,h2⟩:=ready_far hm hpq hf
    rw [keep _ h1]
    refine ⟨List.mem_append_left _ h1,?_⟩
    have:whP (out ++ [nextO l out]) q=out.length:=by
     rw [whP_snoc,if_neg hqo,if_pos hqe.symm]
    omega
 intro p q h1 h2 h3
 have:=ordP_all l (q:=q.toNat) (by omega)
 rw [show ((q.toNat:Nat):Int)=q by omega] at this
 exact key p q h1 this h3
theorem idL_succ (n:Nat):idL (n+1)=idL n ++ [(n:Int)]:=by unfold idL; rw [List.range_succ,List.map_append]; rfl
theorem idL_len (n:Nat):(idL n).length=n:=by simp [idL]
theorem padL_nn (l:List Ins) (o:List Int) (last:Ins):nnL (padL l o last)=nnL o:=by
 unfold padL
 split
 .rfl
 .rw [nnL_app,nnL_neg,List.append_nil]
theorem padL_len (l:List Ins) (o:List Int) (last:Ins):o.length<=(padL l o last).length/\(padL l o last).length<=o.length+1:=by
 unfold padL
 split
 .omega
 .rw [List.length_append,List.length_singleton]; omega
theorem idL_pred {n:Nat} (h:0<n):idL n=idL (n-1) ++ [(n:Int)-1]:=by
 have:=idL_succ (n-1)
 rw [show n-1+1=n by omega] at this
 rw [this,show ((n-1:Nat):Int)=(n:Int)-1 by omega]
theorem split_last {o:List Int} (h:o≠[]):o=o.take (o.length-1) ++ [o.getD (o.length-1) 0]:=by
 have hp:0<o.length:=by
  cases o with
  | nil=>exact absurd rfl h
  | cons=>simp
 apply List.ext_getElem
 .rw [List.length_append,List.length_take,List.length_singleton]; omega
 .intro i h1 h2
  by_cases e:i<o.length-1
  .rw [List.getElem_append_left (by rw [List.length_take]; omega),List.getElem_take]
  .have:i=o.length-1:=by omega
   subst this
   rw [List.getElem_append_right (by rw [List.length_take]; omega)]
   simp [List.getD,h1]
theorem layP_perm (l:List Ins):(nnL (layP l)).Perm (idL l.length):=by
 unfold layP
 split
 .rename_i h; rw [h]; exact List.Perm.refl _
 .rename_i hne
  have hpos:0<l.length:=by
   cases l with
   | nil=>exact absurd rfl hne
   | cons=>simp
  split
  .split
   .rw [nnL_app,nnL_neg,List.append_nil]; exact ordP_perm l
   .exact ordP_perm l
  .have hp:=ordP_perm (l.take (l.length-1))
   have etk:(l.take (l.length-1)).length=l.length-1:=by rw [List.length_take]; omega
   rw [etk] at hp
   rw [idL_pred hpos]
   split
   .rename_i hs
    have hlast:=ordP_last (l.take (l.length-1)) (y:=(ordP (l.take (l.length-1))).getD ((ordP (l.take (l.length-1))).length-1) 0) (by
     have hp:0<(ordP (l.take (l.length-1))).length:=by
      cases hh:ordP (l.take (l.length-1)) with
      | nil=>exact absurd hh hs.1
      | cons=>simp
     exact last_get hp)
    have hsp:=split_last hs.1
    generalize ordP (l.take (l.length-1))=o at hp hlast hsp hs ⊢
    have e:nnL o=nnL (o.take (o.length-1)) ++ [o.getD (o.length-1) 0]:=by
     have h2:nnL o=nnL (o.take (o.length-1) ++ [o.getD (o.length-1) 0]):=by rw [<- hsp]
     rw [h2,nnL_app,nnL_new hlast]
    rw [e] at hp
    have e2:nnL (o.take (o.length-1) ++ [(l.length:Int)-1,o.getD (o.length-1) 0])=nnL (o.take (o.length-1)) ++ ([(l.length:Int)-1] ++ [o.getD (o.length-1) 0]):=by
     rw [nnL_app]
     congr 1
     show nnL ([(l.length:Int)-1] ++ [o.getD (o.length-1) 0])=_
     rw [nnL_app,nnL_new hlast,nnL_new (by omega)]
    rw [e2]
    refine List.Perm.trans (List.Perm.append_left _ List.perm_append_comm) ?_
    rw [<- List.append_assoc]
    exact List.Perm.append_right _ hp
   .have e2:nnL (padL l (ordP (l.take (l.length-1))) (lastI l) ++ [(l.length:Int)-1,-1])=nnL (ordP (l.take (l.length-1))) ++ [(l.length:Int)-1]:=by
     rw [nnL_app,padL_nn]
     congr 1
     show nnL ([(l.length:Int)-1] ++ [-1])=_
     rw [nnL_app,nnL_new (by omega),nnL_neg,List.append_nil]
    rw [e2]
    exact List.Perm.append_right _ hp
theorem layP_len (l:List Ins):(layP l).length<=2*l.length+1:=by
 unfold layP
 split
 .simp
 .rename_i hne
  have hpos:0<l.length:=by
   cases l with
   | nil=>exact absurd rfl hne
   | cons=>simp
  have h1:=ordP_len l
  have h2:=ordP_len (l.take (l.length-1))
  have etk:(l.take (l.length-1)).length=l.length-1:=by rw [List.length_take]; omega
  rw [etk] at h2
  split
  .split
   .rw [List.length_append,List.length_singleton]; omega
   .omega
  .split
   .rw [List.length_append,List.length_take]; simp; omega
   .have:=(padL_len l (ordP (l.take (l.length-1))) (lastI l)).2
    rw [List.length_append]; simp; omega
theorem layP_ge (l:List Ins):l.length<=(layP l).length:=by
 have hp:=(layP_perm l).length_eq
 rw [idL_len] at hp
 have:(nnL (layP l)).length<=(layP l).length:=List.length_filter_le _ _
 omega
theorem layP_in (l:List Ins):∀ x∈layP l,x = -1\/(0<=x/\x<l.length):=by
 unfold layP
 split
 .simp
 .rename_i hne
  have hpos:0<l.length:=by
   cases l with
   | nil=>exact absurd rfl hne
   | cons=>simp
  have h1:=ordP_in l
  have h2:=ordP_in (l.take (l.length-1))
  have etk:(l.take (l.length-1)).length=l.length-1:=by rw [List.length_take]; omega
  rw [etk] at h2
  split
  .split
   .intro x hx
    rw [List.mem_append,List.mem_singleton] at hx
    rcases hx with hx | hx
    .exact h1 x hx
    .exact .inl hx
   .exact h1
  .split
   .rename_i hs
    have hm:(ordP (l.take (l.length-1))).getD ((ordP (l.take (l.length-1))).length-1) 0∈ordP (l.take (l.length-1)):=by
     have hp:0<(ordP (l.take (l.length-1))).length:=by
      cases hh:ordP (l.take (l.length-1)) with
      | nil=>exact absurd hh hs.1
      | cons=>simp
     simp [List.getD,show (ordP (l.take (l.length-1))).length-1<(ordP (l.take (l.length-1))).length by omega]
    intro x hx
    rw [List.mem_append] at hx
    rcases hx with hx | hx
    .have:=h2 x (List.mem_of_mem_take hx); omega
    .simp only [List.mem_cons,List.not_mem_nil,or_false] at hx
     rcases hx with rfl | rfl
     .omega
     .have:=h2 _ hm; omega
   .intro x hx
    rw [List.mem_append] at hx
    rcases hx with hx | hx
    .unfold padL at hx
     split at hx
     .have:=h2 x hx; omega
     .rw [List.mem_append,List.mem_singleton] at hx
      rcases hx with hx | hx
      .have:=h2 x hx; omega
      .omega
    .simp only [List.mem_cons,List.not_mem_nil,or_false] at hx
     omega
theorem layP_end (l:List Ins) (hne:l≠[]):0<=(layP l).getD ((layP l).length-1) 0->lateP (cAt l ((layP l).getD ((layP l).length-1) 0))=false:=by
 have hpos:0<l.length:=by
  cases l with
  | nil=>exact absurd rfl hne
  | cons=>simp
 have snoc:∀ (o:List Int) (x:Int),(o ++ [x]).getD ((o ++ [x]).length-1) 0=x:=fun o x=>by
  rw [List.length_append,List.length_singleton,Nat.add_sub_cancel]
  simp [List.getD_eq_getElem?_getD]
 have snoc2:∀ (o:List Int) (y x:Int),(o ++ [y,x]).getD ((o ++ [y,x]).length-1) 0=x:=fun o y x=>by
  have:=snoc (o ++ [y]) x
  rwa [List.append_assoc] at this
 unfold layP
 rw [if_neg hne]
 split
 .split
  .rw [snoc]; intro h; omega
  .rename_i h; intro _; simpa using h
 .split
  .rename_i hs
   rw [snoc2]
   intro _
   have:=hs.2
   unfold slotOk at this
   simp only [Bool.and_eq_true,Bool.not_eq_true'] at this
   exact this.1.1
  .rw [snoc2]; intro h; omega
theorem layP_goes (l:List Ins) (hne:l≠[]) (hg:goesP (lastI l)=true):1<(layP l).length/\(layP l).getD ((layP l).length-2) 0=(l.length:Int)-1:=by
 have snoc2:∀ (o:List Int) (y x:Int),1<(o ++ [y,x]).length/\(o ++ [y,x]).getD ((o ++ [y,x]).length-2) 0=y:=fun o y x=>by
  rw [List.length_append]
  refine ⟨by simp,?_⟩
  simp [List.getD_eq_getElem?_getD]
 unfold layP
 rw [if_neg hne,if_neg (by rw [hg]; simp)]
 split
 .exact snoc2 _ _ _
 .exact snoc2 _ _ _
end Go.Proofs.YtgjamnhjlaohaaaGreatDoor.S
namespace Go.Proofs.YtgjamnhjlaohaaaGreatDoor.V
open Go Go.Alog Go.Proofs.YtgjamnhjlaohaaaGreatDoor.T
variable (w0:World) (m:AM)
noncomputable abbrev cf14 (x0:Option Addr) (x0n x0c:Nat) (R:RT):Vn (C_ w0 14 #[.slice x0 x0n x0c] m R):=mkF (F:=F14) Tryz.func14 (by dsimp only [push_cast,↓u1,↓u2,↓u3,Nat.reduceAdd,Nat.reduceBEq,Nat.reduceDiv,Nat.reduceMod]) (by kernel_rfl)
noncomputable abbrev vl14_111010 (σ:Sg) (R:RT) (x0:Option Addr) (x0n x0c x2 x3 x4_0:Nat) (x16:Option Addr) (x16n x16c:Nat) (x17 x18:Int) (I0:Nat->Int->AM->Prop) (E0_0:AM->Prop) (N:Nat) (h0:σ 0=.slice x0 x0n x0c) (h2:σ 2=pt_ x2) (h3:σ 3=pt_ x3) (h4:σ 4=.func (.func 31) #[] #[pt_ x4_0]) (h16:σ 16=.slice x16 x16n x16c) (h17:σ 17=I_ x17) (h18:σ 18=I_ x18) (h_0:I0 N x18 m):Vn (Vn (XV w0 F14 (Tz R) 122 σ m)):=mkL1 (lq14_111010 R x0 x0n x0c x2 x3 x4_0 x16 x16n x16c x17 I0 E0_0) (fun _=>rfl) N (cs h0 (cs h2 (cs h3 (cs h4 (cs h16 (cs h17 nl)))))) (cs h18 nl) h_0 (by dsimp only [push_cast,↓u1,↓u2,↓u3,Nat.reduceAdd,Nat.reduceBEq,Nat.reduceDiv,Nat.reduceMod]) (by dsimp only [push_cast,↓u1,↓u2,↓u3,Nat.reduceAdd,Nat.reduceBEq,Nat.reduceDiv,Nat.reduceMod]) (by kernel_rfl)
noncomputable abbrev vr14_1110100110011110 (σ:Sg) (R:RT) (n0:Nat) (I0:Nat->Int->AM->Prop) (E0_0:AM->Prop) (x0:Option Addr) (x0n x0c x2 x3 x4_0 x6:Nat) (x7:Option Addr) (x7n x7c:Nat) (x8:Option Addr) (x8n x8c:Nat) (x16:Option Addr) (x16n x16c:Nat) (x17 x18:Int) (K:AM->Prop) (h0:σ 0=.slice x0 x0n x0c) (h2:σ 2=pt_ x2) (h3:σ 3=pt_ x3) (h4:σ 4=.func (.func 31) #[] #[pt_ x4_0]) (h6:σ 6=pt_ x6) (h7:σ 7=.slice x7 x7n x7c) (h8:σ 8=.slice x8 x8n x8c) (h16:σ 16=.slice x16 x16n x16c) (h17:σ 17=I_ x17) (h18:σ 18=I_ x18):Vn (Vn (XV w0 F14 (lq14_111010 R x0 x0n x0c x2 x3 x4_0 x16 x16n x16c x17 I0 E0_0 n0) 125342 σ m)):=mkR (.o 0 (.o 2 (.o 3 (.a (.o 1 (.o 4 (.o 5 (.o 6 (.o 7 .z))))) (.o 4 (.o 1 (.o 5 (.o 6 (.o 7 .z))))))))) [0,2,3,4,6,8,16,17,18] (ks:=[]) K (cs h0 (cs h2 (cs h3 (cs h4 (cs h6 (cs h7 (cs h8 (cs h16 (cs h17 (cs h18 nl)))))))))) (by dsimp only [push_cast,↓u1,↓u2,↓u3,Nat.reduceAdd,Nat.reduceBEq,Nat.reduceDiv,Nat.reduceMod]) (by dsimp only [push_cast,↓u1,↓u2,↓u3,Nat.reduceAdd,Nat.reduceBEq,Nat.reduceDiv,Nat.reduceMod]) (by kernel_rfl)
noncomputable abbrev vl14_111010011001111110 (σ:Sg) (R:RT) (n0:Nat) (I0:Nat->Int->AM->Prop) (E0_0:AM->Prop) (x0:Option Addr) (x0n x0c x2 x3 x4_0 x6:Nat) (x16:Option Addr) (x16n x16c:Nat) (x17 x18:Int) (x41:Option Addr) (x41n x41c:Nat) (x42 x43:Int) (I1:Nat->Int->AM->Prop) (E1_2:AM->Prop) (N:Nat) (h0:σ 0=.slice x0 x0n x0c) (h2:σ 2=pt_ x2) (h3:σ 3=pt_ x3) (h4:σ 4=.func (.func 31) #[] #[pt_ x4_0]) (h6:σ 6=pt_ x6) (h16:σ 16=.slice x16 x16n x16c) (h17:σ 17=I_ x17) (h18:σ 18=I_ x18) (h41:σ 41=.slice x41 x41n x41c) (h42:σ 42=I_ x42) (h43:σ 43=I_ x43) (h_0:I1 N x43 m):Vn (Vn (XV w0 F14 (lq14_111010 R x0 x0n x0c x2 x3 x4_0 x16 x16n x16c x17 I0 E0_0 n0) 501374 σ m)):=mkL1 (lq14_111010011001111110 R x0 x0n x0c x2 x3 x4_0 x6 x16 x16n x16c x17 x18 x41 x41n x41c x42 I1 E1_2) (fun _=>rfl) N (cs h0 (cs h2 (cs h3 (cs h4 (cs h6 (cs h16 (cs h17 (cs h18 (cs h41 (cs h42 nl)))))))))) (cs h43 nl) h_0 (by dsimp only [push_cast,↓u1,↓u2,↓u3,Nat.reduceAdd,Nat.reduceBEq,Nat.reduceDiv,Nat.reduceMod]) (by dsimp only [push_cast,↓u1,↓u2,↓u3,Nat.reduceAdd,Nat.reduceBEq,Nat.reduceDiv,Nat.reduceMod]) (by kernel_rfl)
noncomputable abbrev cf31 (x0:Int) (pc:Nat) (R:RT):Vn (C_ w0 31 #[I_ x0,pt_ pc] m R):=mkF (F:=F31) Tryz.func31 (by dsimp only [push_cast,↓u1,↓u2,↓u3,Nat.reduceAdd,Nat.reduceBEq,Nat.reduceDiv,Nat.reduceMod]) (by kernel_rfl)
noncomputable abbrev cf7 (x0:Option Addr) (x0n x0c:Nat) (R:RT):Vn (C_ w0 7 #[.slice x0 x0n x0c] m R):=mkF (F:=F7) Tryz.func7 (by dsimp only [push_cast,↓u1,↓u2,↓u3,Nat.reduceAdd,Nat.reduceBEq,Nat.reduceDiv,Nat.reduceMod]) (by kernel_rfl)
noncomputable abbrev vl7_1111010 (σ:Sg) (R:RT) (x0:Option Addr) (x0n x0c x5:Nat) (x21:Option Addr) (x21n x21c:Nat) (x22 x23:Int) (I0:Nat->Int->AM->Prop) (E0_0:AM->Prop) (N:Nat) (h0:σ 0=.slice x0 x0n x0c) (h5:σ 5=pt_ x5) (h21:σ 21=.slice x21 x21n x21c) (h22:σ 22=I_ x22) (h23:σ 23=I_ x23) (h_0:I0 N x23 m):Vn (Vn (XV w0 F7 (Tz R) 250 σ m)):=mkL1 (lq7_1111010 R x0 x0n x0c x5 x21 x21n x21c x22 I0 E0_0) (fun _=>rfl) N (cs h0 (cs h5 (cs h21 (cs h22 nl)))) (cs h23 nl) h_0 (by dsimp only [push_cast,↓u1,↓u2,↓u3,Nat.reduceAdd,Nat.reduceBEq,Nat.reduceDiv,Nat.reduceMod]) (by dsimp only [push_cast,↓u1,↓u2,↓u3,Nat.reduceAdd,Nat.reduceBEq,Nat.reduceDiv,Nat.reduceMod]) (by kernel_rfl)
noncomputable abbrev vk7_1111010011001111111 (σ:Sg) (R:RT) (n0:Nat) (I0:Nat->Int->AM->Prop) (E0_0:AM->Prop) (x0:Option Addr) (x0n x0c x5:Nat) (x6:Int) (x10:Nat) (x21:Option Addr) (x21n x21c:Nat) (x22 x23:Int) (h0:σ 0=.slice x0 x0n x0c) (h5:σ 5=pt_ x5) (h6:σ 6=I_ x6) (h10:σ 10=pt_ x10) (h21:σ 21=.slice x21 x21n x21c) (h22:σ 22=I_ x22) (h23:σ 23=I_ x23):Vn (XV w0 F7 (lq7_1111010 R x0 x0n x0c x5 x21 x21n x21c x22 I0 E0_0 n0) 1025663 σ m):=mkK (cs h0 (cs h5 (cs h6 (cs h10 (cs h21 (cs h22 (cs h23 nl))))))) (by dsimp only [push_cast,↓u1,↓u2,↓u3,Nat.reduceAdd,Nat.reduceBEq,Nat.reduceDiv,Nat.reduceMod]) (by kernel_rfl)
end Go.Proofs.YtgjamnhjlaohaaaGreatDoor.V
namespace Go.Proofs.YtgjamnhjlaohaaaGreatDoor.S
open Go Go.RowKit Go.Alog Go.Proofs.YtgjamnhjlaohaaaGreatDoor.T Go.Proofs.YtgjamnhjlaohaaaGreatDoor.V
def blkCells (l:List (Int × Int)):List Value:=l.flatMap fun p=>[.int .i64 p.1,.int .i64 p.2]
theorem blkCells_app (l r:List (Int × Int)):blkCells (l ++ r)=blkCells l ++ blkCells r:=by simp [blkCells]
def blkAt (h:List Int) (n:Int) (k:Nat):Int × Int:=(h.getD k 0,if k+1<h.length then h.getD (k+1) 0 else n)
def blkP (h:List Int) (n:Int):List (Int × Int):=(List.range h.length).map (blkAt h n)
theorem blkP_len (h:List Int) (n:Int):(blkP h n).length=h.length:=by simp [blkP]
def oB (w0:World) (m0:AM) (l:List (Int × Int)) (r:Value) (m':AM):Prop:=(∃ (A:Option Addr) (c:Nat),r=.slice A l.length c/\Alog.Own m' w0.heap.size 94 2 A l.length c (blkCells l)/\∀ k∈obl A,m0 k=none)/\m0.le m'
theorem elBlk:elOf Tryz.prog 91=some (94,2,16,[.int .i64 0,.int .i64 0]):=by kernel_rfl
theorem headsP_len (code:List Ins):(headsP code).length<=code.length:=by
 unfold headsP
 split
 .refine Nat.le_trans (List.length_filter_le _ _) (by simp)
 .simp
theorem blocks_spec (w0:World) (m:AM) (A:Option Addr) (c:Nat) (code:List Ins) (hl:code.length<=1000000) (rd:Reads m 5 A code.length (insCells code)) :
  CallsA Tryz.prog w0 32 #[.slice A code.length c] m (oB w0 m (blkP (headsP code) code.length)):=by
 generalize hR:oB w0 m (blkP (headsP code) code.length)=R
 have hhl:=headsP_len code
 refine cf32 w0 m A code.length c R ?_
 refine CallsA.mono (heads_spec w0 m A c code hl rd) ?_
 rintro r m1 ⟨⟨A4,c4,rfl,o4,n4⟩,l1⟩
 generalize headsP code=h at hR hhl o4 n4 ⊢
 refine ⟨_,_,_,rfl,?_⟩
 refine vl32_111010 w0 m1 _ _ A code.length c A4 h.length c4 A4 h.length c4 h.length none 0 0 0
  (fun n B3 n3 c3 k m'=>m.le m'/\0<=k/\k<=h.length/\(n:Int)=h.length-k/\n3=k.toNat/\Alog.Own m' w0.heap.size 3 1 A4 h.length c4 (intCells .i64 h)/\Alog.Own m' w0.heap.size 94 2 B3 n3 c3 (blkCells ((List.range k.toNat).map (blkAt h code.length)))/\∀ q∈obl B3,m q=none)
  (fun B3 n3 c3 m'=>m.le m'/\n3=h.length/\Alog.Own m' w0.heap.size 94 2 B3 n3 c3 (blkCells (blkP h code.length))/\∀ q∈obl B3,m q=none) h.length rfl rfl rfl rfl rfl rfl
  ⟨l1,by omega,by omega,by omega,rfl,o4,Alog.Own.nil _ _ _ _,by simp [obl]⟩ ?_ ?_
 .rintro n σ B3 n3 c3 k m' ⟨l',k0,k1,hn,hn3,oh,ob,nb⟩
  refine ⟨rfl,bcP (fun hlt=>?_) (fun hlt=>?_)⟩
  .obtain ⟨ad,hA4,hc⟩:=oh.ex (by omega)
   subst hA4
   have wk:IntKind.wrap .i64 (k+1)=k+1:=wrap_s (by omega) (by omega)
   refine ⟨⟨k0,hlt⟩,?_⟩
   rw [nilO_some]
   refine ⟨_,cell_k hc k0 hlt,rfl,rfl,?_⟩
   rw [wk]
   have step:∀ v:Int,blkAt h code.length k.toNat=(h.getD k.toNat 0,v)->∀ b:Nat,w0.heap.size<=b->m' b=none -> 
     awp Tryz.prog w0.heap.size (Builtin.append_ #[91,91] 91 #[.slice B3 n3 c3,.slice (some ⟨b,0,none⟩) 1 1]) (AM.upd m' b (.cells #[.int .i64 (h.getD k.toNat 0),.int .i64 v] 94)) (fun v12 m13=>∃ (A14:Option Addr) (n15 c16:Nat),v12=.slice A14 n15 c16/\∃ n':Nat,n'<n/\(m.le m13/\0<=k+1/\k+1<=h.length/\(n':Int)=h.length-(k+1)/\n15=(k+1).toNat/\Alog.Own m13 w0.heap.size 3 1 (some ad) h.length c4 (intCells .i64 h)/\Alog.Own m13 w0.heap.size 94 2 A14 n15 c16 (blkCells ((List.range (k+1).toNat).map (blkAt h code.length)))/\∀ q∈obl A14,m q=none)):=by
    intro v hv b hb hnb
    have lb:=le_new hnb (.cells #[.int .i64 (h.getD k.toNat 0),.int .i64 v] 94)
    refine awp_append_own elBlk (ob.upd (ob.ne_none hnb)) (A2:=some ⟨b,0,none⟩) (k:=1) (news:=[.int .i64 (h.getD k.toNat 0),.int .i64 v]) (Reads.lit rfl) (by simp [Value.oneCell']) (by omega) (by omega) (fun g cp' cur hor hB hO=>?_) (fun h0=>by omega)
    have hmg:m g=none:=by
     rcases hor with h' | h'
     .exact nb g (by rw [h']; simp [obl])
     .cases hm:m g with
      | none=>rfl
      | some o =>
       have:=lb _ _ (l' _ _ hm)
       rw [h'] at this; cases this
    refine ⟨_,_,_,rfl,n-1,by omega,?_,by omega,by omega,by omega,by omega,?_,?_,by simpa [obl] using hmg⟩
    .intro q o hq
     have e:q≠g:=fun e=>by rw [e,hmg] at hq; cases hq
     rw [upd_get_ne e]; exact lb _ _ (l' _ _ hq)
    .refine (oh.le lb).upd fun off e=>?_
     rcases hor with h' | h'
     .obtain ⟨_,cur',hc'⟩:=ob.obl_some (k:=g) (by rw [h']; simp [obl])
      obtain ⟨_,cur2,hc2⟩:=oh.obl_some (k:=g) (by rw [e]; simp [obl])
      rw [hc'] at hc2; injection hc2 with hc2; injection hc2 with _ e2; exact absurd e2 (by decide)
     .exact (oh.le lb).ne_none h' off e
    .rw [show (k+1).toNat=k.toNat+1 by omega,List.range_succ,List.map_append,blkCells_app]
     rw [show n3+1=k.toNat+1 by omega] at hO ⊢
     have:blkCells (List.map (blkAt h ↑code.length) [k.toNat]) = [.int .i64 (h.getD k.toNat 0),.int .i64 v]:=by simp [blkCells,hv]
     rw [this]; exact hO
   refine bcP (fun h2=>?_) (fun h2=>?_)
   .refine ⟨rfl,⟨by omega,h2⟩,?_⟩
    rw [nilO_some]
    refine ⟨_,cell_k hc (i:=k+1) (by omega) h2,rfl,rfl,fun b hb hnb=>?_⟩
    refine awp_mono _ _ _ _ ?_ (step (h.getD (k+1).toNat 0) (by unfold blkAt; rw [if_pos (by omega),show (k+1).toNat=k.toNat+1 by omega]) b hb hnb)
    rintro v m13 ⟨A14,n15,c16,rfl,n',h1,h2⟩
    refine ⟨_,_,_,rfl,?_⟩
    (repeat (refine And.intro (Eq.refl _) ?_))
    exact ⟨n',h1,h2⟩
   .refine ⟨rfl,rfl,fun b hb hnb=>?_⟩
    refine awp_mono _ _ _ _ ?_ (step code.length (by unfold blkAt; rw [if_neg (by omega)]) b hb hnb)
    rintro v m13 ⟨A14,n15,c16,rfl,n',h1,h2⟩
    refine ⟨_,_,_,rfl,?_⟩
    (repeat (refine And.intro (Eq.refl _) ?_))
    exact ⟨n',h1,h2⟩
  .have e:k.toNat=h.length:=by omega
   (repeat (refine And.intro (Eq.refl _) ?_))
   rw [e] at ob hn3
   exact ⟨l',hn3,ob,nb⟩
 .rintro σ B3 n3 c3 m' ⟨l',rfl,ob,nb⟩
  rw [<- hR]
  exact retP_of ⟨⟨B3,c3,by rw [blkP_len],by rw [blkP_len]; exact ob,nb⟩,l'⟩
def hsUp (code:List Ins) (a:Nat):List Int:=((List.range a).map (fun k:Nat=>(k:Int))).filter (headP code)
theorem hsUp_succ (code:List Ins) (a:Nat):hsUp code (a+1)=hsUp code a ++ (if headP code a=true then [(a:Int)] else []):=by
 unfold hsUp
 rw [List.range_succ,List.map_append,List.filter_append]
 congr 1
 simp only [List.map_cons,List.map_nil,List.filter_cons,List.filter_nil]
theorem hsUp_pre (code:List Ins) (a d:Nat):∃ t,hsUp code (a+d)=hsUp code a ++ t:=by
 induction d with
 | zero=>exact ⟨[],by simp⟩
 | succ d ih =>
  obtain ⟨t,ht⟩:=ih
  rw [<- Nat.add_assoc,hsUp_succ,ht,List.append_assoc]
  exact ⟨_,rfl⟩
theorem hsUp_at {code:List Ins} {a n:Nat} (h:a<n) (hh:headP code a=true):(hsUp code a).length<(hsUp code n).length/\(hsUp code n).getD (hsUp code a).length 0=a:=by
 obtain ⟨t,ht⟩:=hsUp_pre code (a+1) (n-(a+1))
 rw [show a+1+(n-(a+1))=n by omega,hsUp_succ,if_pos hh] at ht
 rw [ht]
 refine ⟨by simp,?_⟩
 simp [List.getD]
theorem headsP_up {code:List Ins} (h:fitP code=true):headsP code=hsUp code code.length:=by
 unfold headsP hsUp; rw [if_pos h]
theorem blk_get:∀ (l:List (Int × Int)) (k:Nat),k<l.length->(blkCells l)[k*2]?=some (.int .i64 (l.getD k (0,0)).1)/\(blkCells l)[k*2+1]?=some (.int .i64 (l.getD k (0,0)).2)
 | [],k,h=>by simp at h
 | p :: l,0,h=>by simp [blkCells]
 | p :: l,k+1,h=>by
  have:=blk_get l k (by simpa using h)
  have e:blkCells (p :: l) = [.int .i64 p.1,.int .i64 p.2] ++ blkCells l:=by simp [blkCells]
  rw [e]
  refine ⟨?_,?_⟩
  .rw [List.getElem?_append_right (by simp; omega)]
   simp only [List.length_cons,List.length_nil]
   rw [show (k+1)*2-(0+1+1)=k*2 by omega,this.1]; simp
  .rw [List.getElem?_append_right (by simp; omega)]
   simp only [List.length_cons,List.length_nil]
   rw [show (k+1)*2+1-(0+1+1)=k*2+1 by omega,this.2]; simp
theorem cell_blk {m:AM} {a:Addr} {l:List (Int × Int)} (h:Cells m a (blkCells l)) {i:Int} (h0:0<=i) (h1:i<l.length) :
  m.cell (a.add (i.toNat*2))=some (.int .i64 (l.getD i.toNat (0,0)).1)/\m.cell ((a.add (i.toNat*2)).add 1)=some (.int .i64 (l.getD i.toNat (0,0)).2):=by
 have:=blk_get l i.toNat (by omega)
 refine ⟨h _ _ this.1,?_⟩
 rw [Addr.add_add]
 exact h _ _ this.2
theorem blkP_get (h:List Int) (n:Int) {k:Nat} (hk:k<h.length):(blkP h n).getD k (0,0)=blkAt h n k:=by
 unfold blkP
 simp [List.getD,hk]
theorem blk2 {w0:World} {m:AM} {T:TypeId} {z0 z1 v0 v1:Value} {K:Nat->AM->Prop} (hK:∀ b m',m.le m'->m b=none->w0.heap.size<=b->m' b=some (.cells #[v0,v1] T)->K b m') :
  ∀ b:Nat,w0.heap.size<=b->m b=none->let m1:=AM.upd m b (.cells #[z0,z1] T);
   StC w0.heap.size m1 ⟨b,0,none⟩ v0 fun m2=>StC w0.heap.size m2 ⟨b,1,none⟩ v1 fun m3=>K b m3:=by
 intro b hb hm m1
 refine StC_upd.2 ⟨hb,by simp,StC_upd.2 ⟨hb,by simp,?_⟩⟩
 exact hK b _ (le_new hm _) hm hb (by rw [upd_get_same]; simp)
theorem hsUp_mem {code:List Ins} {n:Nat} {x:Int}:x∈hsUp code n↔0<=x/\x<n/\headP code x=true:=by
 unfold hsUp
 rw [List.mem_filter,List.mem_map]
 constructor
 .rintro ⟨⟨j,hj,rfl⟩,h⟩
  have:=List.mem_range.1 hj
  exact ⟨by omega,by omega,h⟩
 .rintro ⟨h0,h1,h⟩
  exact ⟨⟨x.toNat,List.mem_range.2 (by omega),by omega⟩,h⟩
theorem hsUp_mono {code:List Ins} {n q r:Nat} (h:q<r) (hr:r<(hsUp code n).length):(hsUp code n).getD q 0<(hsUp code n).getD r 0:=by
 have hp:(hsUp code n).Pairwise (· < ·):=(range_rise n).filter _
 rw [List.pairwise_iff_getElem] at hp
 have:=hp q r (by omega) hr h
 simpa [List.getD,hr,show q<(hsUp code n).length by omega] using this
theorem hsUp_get {code:List Ins} {n q:Nat} (hq:q<(hsUp code n).length):(hsUp code n).getD q 0∈hsUp code n:=by
 simp [List.getD,hq]
theorem mem_at {l:List Int} {x:Int} (h:x∈l):∃ r,r<l.length/\l.getD r 0=x:=by
 obtain ⟨r,hr,e⟩:=List.mem_iff_getElem.1 h
 exact ⟨r,hr,by simp [List.getD,hr,e]⟩
def nxt (code:List Ins) (n j:Nat):Int:=if j<(hsUp code n).length then (hsUp code n).getD j 0 else n
theorem blkAt_nxt (code:List Ins) (n j:Nat) (h:j<(hsUp code n).length):blkAt (hsUp code n) n j=(nxt code n j,nxt code n (j+1)):=by
 unfold blkAt nxt
 rw [if_pos h]
theorem nxt_0 (code:List Ins) (n:Nat):nxt code n 0=0:=by
 unfold nxt
 by_cases hn:n=0
 .subst hn; simp [hsUp]
 .have:=hsUp_at (code:=code) (a:=0) (n:=n) (by omega) (by simp [headP])
  have e:(hsUp code 0).length=0:=by simp [hsUp]
  rw [e] at this
  rw [if_pos this.1,this.2]; rfl
theorem nxt_lt (code:List Ins) (n j:Nat) (h:j<(hsUp code n).length):0<=nxt code n j/\nxt code n j<nxt code n (j+1)/\nxt code n (j+1)<=n:=by
 unfold nxt
 rw [if_pos h]
 have h1:=hsUp_mem.1 (hsUp_get h)
 split
 .rename_i h2
  have h3:=hsUp_mem.1 (hsUp_get h2)
  have h4:=hsUp_mono (code:=code) (n:=n) (q:=j) (r:=j+1) (by omega) h2
  omega
 .omega
theorem nxt_end (code:List Ins) (n j:Nat) (h:(hsUp code n).length<=j):nxt code n j=n:=by unfold nxt; rw [if_neg (by omega)]
theorem nogo (code:List Ins) (n j:Nat) (h:j<(hsUp code n).length) {q:Int} (h0:nxt code n j<=q) (h1:q+1<nxt code n (j+1)):goesP (cAt code q)=false:=by
 cases hg:goesP (cAt code q) with
 | false=>rfl
 | true =>
  have hl:=nxt_lt code n j h
  have hh:headP code (q+1)=true:=by
   unfold headP
   rw [show q+1-1=q by omega,hg]; simp
  obtain ⟨r,hr,e⟩:=mem_at (hsUp_mem.2 ⟨by omega,by omega,hh⟩:q+1∈hsUp code n)
  have hj:nxt code n j=(hsUp code n).getD j 0:=by unfold nxt; rw [if_pos h]
  have hrj:j<r:=by
   rcases Nat.lt_trichotomy j r with h2 | h2 | h2
   .exact h2
   .subst h2; omega
   .have:=hsUp_mono (code:=code) (n:=n) h2 h; omega
  have hn1:nxt code n (j+1)=(hsUp code n).getD (j+1) 0:=by unfold nxt; rw [if_pos (by omega)]
  rcases Nat.lt_or_ge (j+1) r with h2 | h2
  .have:=hsUp_mono (code:=code) (n:=n) h2 hr; omega
  .have:r=j+1:=by omega
   subst this; omega
theorem target_head {code:List Ins} (hf:fitP code=true) {k:Nat} (hk:k<code.length) (ht:tok (cAt code k)=true):tgt (cAt code k) k=code.length\/∃ q,q<(hsUp code code.length).length/\nxt code code.length q=tgt (cAt code k) k:=by
 have hb:=(fitP_at hf hk).2 ht
 by_cases e:tgt (cAt code k) k=code.length
 .exact .inl e
 .right
  have hh:headP code (tgt (cAt code k) k)=true:=by
   unfold headP
   rw [Bool.or_eq_true]
   right
   exact List.any_eq_true.2 ⟨k,List.mem_range.2 hk,by unfold toAt; rw [ht]; simp⟩
  obtain ⟨q,hq,e2⟩:=mem_at (hsUp_mem.2 ⟨hb.1,by omega,hh⟩:tgt (cAt code k) k∈hsUp code code.length)
  exact ⟨q,hq,by unfold nxt; rw [if_pos hq]; exact e2⟩
structure LS (m0 m:AM) (B s r:Nat) (cd:List Ins) (pl od:List Int) (kv:List (Int × Value)) (A:Option Addr) (c:Nat) (A1:Option Addr) (c1:Nat) (A2:Option Addr) (c2:Nat) (es:Array MapEntry) (clk:Nat):Prop where
 le:m0.le m
 ps:m s=some (.cells #[.slice A cd.length c,.slice A1 pl.length c1,.map (some r),.slice A2 od.length c2] 52 (0,0))
 oc:Alog.Own m B 57 5 A cd.length c (insCells cd)
 op:Alog.Own m B 3 1 A1 pl.length c1 (intCells .i64 pl)
 oo:Alog.Own m B 3 1 A2 od.length c2 (intCells .i64 od)
 dj:∀ k∈obl A1,k∉obl A2
 pr:m r=some (.map es clk)
 mi:MapI es kv
 hs:B<=s
 hr:B<=r
 ns:m0 s=none
 nr:m0 r=none
 nc:∀ k∈obl A,m0 k=none
 np:∀ k∈obl A1,m0 k=none
 no:∀ k∈obl A2,m0 k=none
def LSx (m0 m:AM) (B s r:Nat) (cd:List Ins) (pl od:List Int) (kv:List (Int × Value)):Prop:=∃ A c A1 c1 A2 c2 es clk,LS m0 m B s r cd pl od kv A c A1 c1 A2 c2 es clk
theorem obl_some' {m:AM} {B:Nat} {e:TypeId} {sz:Nat} {A:Option Addr} {n cp:Nat} {xs:List Value} (h:Alog.Own m B e sz A n cp xs) {k:Nat} (hk:k∈obl A):m k≠none:=fun e=>by
 obtain ⟨_,cur,h1⟩:=h.obl_some hk
 rw [e] at h1; cases h1
theorem LS.grow {m0 m m':AM} {B s r:Nat} {cd:List Ins} {pl od:List Int} {kv:List (Int × Value)} {A:Option Addr} {c:Nat} {A1:Option Addr} {c1:Nat} {A2:Option Addr} {c2:Nat} {es:Array MapEntry} {clk:Nat} (h:LS m0 m B s r cd pl od kv A c A1 c1 A2 c2 es clk) (l:m.le m') :
  ∃ m2,m0.le m2/\LS m2 m' B s r cd pl od kv A c A1 c1 A2 c2 es clk/\∀ k,m k=none->m2 k=m' k:=by
 obtain ⟨hle,ps,oc,op,oo,dj,pr,mi,hs,hr,ns,nr,nc,np,no⟩:=h
 refine ⟨fun k=>match m k with | none=>m' k | some _=>m0 k,?_,⟨?_,l _ _ ps,oc.le l,op.le l,oo.le l,dj,l _ _ pr,mi,hs,hr,?_,?_,?_,?_,?_⟩,?_⟩
 .intro k o hk
  show (match m k with | none=>m' k | some _=>m0 k)=some o
  rw [hle k o hk]; exact hk
 .intro k o hk
  have hk:(match m k with | none=>m' k | some _=>m0 k)=some o:=hk
  cases hm:m k with
  | none=>rw [hm] at hk; exact hk
  | some o2=>rw [hm] at hk; exact l _ _ (hle k o hk)
 .show (match m s with | none=>m' s | some _=>m0 s)=none
  rw [ps]; exact ns
 .show (match m r with | none=>m' r | some _=>m0 r)=none
  rw [pr]; exact nr
 .intro k hk
  show (match m k with | none=>m' k | some _=>m0 k)=none
  cases hm:m k with
  | none=>exact absurd hm (obl_some' oc hk)
  | some o2=>exact nc k hk
 .intro k hk
  show (match m k with | none=>m' k | some _=>m0 k)=none
  cases hm:m k with
  | none=>exact absurd hm (obl_some' op hk)
  | some o2=>exact np k hk
 .intro k hk
  show (match m k with | none=>m' k | some _=>m0 k)=none
  cases hm:m k with
  | none=>exact absurd hm (obl_some' oo hk)
  | some o2=>exact no k hk
 .intro k hk
  show (match m k with | none=>m' k | some _=>m0 k)=m' k
  rw [hk]
theorem LSx.grow {m0 m m':AM} {B s r:Nat} {cd:List Ins} {pl od:List Int} {kv:List (Int × Value)} (h:LSx m0 m B s r cd pl od kv) (l:m.le m') :
  ∃ m2,m0.le m2/\LSx m2 m' B s r cd pl od kv/\∀ k,m k=none->m2 k=m' k:=by
 obtain ⟨A,c,A1,c1,A2,c2,es,clk,h⟩:=h
 obtain ⟨m2,a,b,d⟩:=h.grow l
 exact ⟨m2,a,⟨A,c,A1,c1,A2,c2,es,clk,b⟩,d⟩
theorem LSx.le {m0 m:AM} {B s r:Nat} {cd:List Ins} {pl od:List Int} {kv:List (Int × Value)} (h:LSx m0 m B s r cd pl od kv):m0.le m:=by
 obtain ⟨A,c,A1,c1,A2,c2,es,clk,h⟩:=h
 exact h.le
theorem LSx.base {m0 m1 m:AM} {B s r:Nat} {cd:List Ins} {pl od:List Int} {kv:List (Int × Value)} (h:LSx m1 m B s r cd pl od kv) (l:m0.le m1):LSx m0 m B s r cd pl od kv:=by
 obtain ⟨A,c,A1,c1,A2,c2,es,clk,hle,ps,oc,op,oo,dj,pr,mi,hs,hr,ns,nr,nc,np,no⟩:=h
 exact ⟨A,c,A1,c1,A2,c2,es,clk,AM.le_trans l hle,ps,oc,op,oo,dj,pr,mi,hs,hr,AM.le_none l ns,AM.le_none l nr,fun k hk=>AM.le_none l (nc k hk),fun k hk=>AM.le_none l (np k hk),fun k hk=>AM.le_none l (no k hk)⟩
theorem uMap:Tryz.prog.underlying 50=some (.map 3 3):=by kernel_rfl
theorem uInt:Tryz.prog.underlying 3=some (.int .i64):=by kernel_rfl
theorem zInt:pval Tryz.prog (zeroValue 3)=some (.int .i64 0):=by kernel_rfl
theorem mem_obl {A:Option Addr} {g:Nat} {k:Nat} (hA:A=some ⟨g,0,none⟩):k∈obl A↔k=g:=by
 subst hA; simp [obl]
theorem LS.pushP {m0 m:AM} {B s r:Nat} {cd:List Ins} {pl od:List Int} {kv:List (Int × Value)} {A:Option Addr} {c:Nat} {A1:Option Addr} {c1:Nat} {A2:Option Addr} {c2:Nat} {es:Array MapEntry} {clk:Nat} (h:LS m0 m B s r cd pl od kv A c A1 c1 A2 c2 es clk) (x:Int) (hl:pl.length<=100000) {Q:AM->Prop}
  (hQ:∀ m',LSx m0 m' B s r cd (pl ++ [x]) od kv->Q m') :
  ∀ b:Nat,B<=b->m b=none->let m13:=AM.upd m b (.cells #[.int .i64 x] 3);
  awp Tryz.prog B (Builtin.append_ #[33,33] 33 #[.slice A1 pl.length c1,.slice (some ⟨b,0,none⟩) 1 1]) m13 fun v14 m15 =>
  ∃ (A16:Option Addr) (n17 c18:Nat),v14=.slice A16 n17 c18/\StC B m15 ⟨s,1,none⟩ (.slice A16 n17 c18) Q:=by
 intro b hb hn
 obtain ⟨hle,ps,oc,op,oo,dj,pr,mi,hs,hr,ns,nr,nc,np,no⟩:=h
 have hsb:s≠b:=fun e=>by rw [e,hn] at ps; cases ps
 have hrb:r≠b:=fun e=>by rw [e,hn] at pr; cases pr
 have hrs:r≠s:=fun e=>by rw [e,ps] at pr; cases pr
 have nb0:m0 b=none:=AM.le_none hle hn
 refine awp_append_field el30' (op.upd (op.ne_none hn)) (A2:=some ⟨b,0,none⟩) (k:=1) (news:=[.int .i64 x]) (Reads.lit rfl) (by simp [Value.oneCell']) (by omega) (by omega) (by omega) (g:=s) (C:=#[.slice A cd.length c,.slice A1 pl.length c1,.map (some r),.slice A2 od.length c2]) (T:=52) (by rw [upd_get_ne hsb]; exact ps) hs (by decide) (j:=1) (by simp) ?_
 intro g2 cp' cur hor hB2 hsg hown
 have ho2:g2∈obl A1\/m g2=none:=by
  rcases hor with h | h
  .exact .inl ((mem_obl h).2 rfl)
  .by_cases e:g2=b
   .right; rw [e]; exact hn
   .right; rwa [upd_get_ne e] at h
 have ng0:m0 g2=none:=by
  rcases ho2 with h | h
  .exact np g2 h
  .exact AM.le_none hle h
 have hrg:r≠g2:=fun e=>by
  rcases ho2 with h | h
  .obtain ⟨_,cur',h1⟩:=op.obl_some h
   rw [<- e,pr] at h1; cases h1
  .rw [<- e,pr] at h; cases h
 have hAg:∀ k∈obl A,k≠g2/\k≠b/\k≠s:=fun k hk=>by
  obtain ⟨_,cur',h1⟩:=oc.obl_some hk
  refine ⟨fun e=>?_,fun e=>?_,fun e=>?_⟩
  .rcases ho2 with h | h
   .obtain ⟨_,cur2,h2⟩:=op.obl_some h
    rw [<- e,h1] at h2
    injection h2 with h2
    injection h2 with _ h2
    exact absurd h2 (by decide)
   .rw [<- e,h1] at h; cases h
  .rw [e,hn] at h1; cases h1
  .rw [e,ps] at h1
   injection h1 with h1
   injection h1 with _ h1
   exact absurd h1 (by decide)
 have h2g:∀ k∈obl A2,k≠g2/\k≠b/\k≠s:=fun k hk=>by
  obtain ⟨_,cur',h1⟩:=oo.obl_some hk
  refine ⟨fun e=>?_,fun e=>?_,fun e=>?_⟩
  .rcases ho2 with h | h
   .exact dj g2 h (e ▸ hk)
   .rw [<- e,h1] at h; cases h
  .rw [e,hn] at h1; cases h1
  .rw [e,ps] at h1
   injection h1 with h1
   injection h1 with _ h1
   exact absurd h1 (by decide)
 refine hQ _ ⟨A,c,some ⟨g2,0,none⟩,cp',A2,c2,es,clk,?_,?_,?_,?_,?_,?_,?_,mi,hs,hr,ns,nr,nc,?_,no⟩
 .intro k o hk
  have e1:k≠s:=fun e=>by rw [e,ns] at hk; cases hk
  have e2:k≠g2:=fun e=>by rw [e,ng0] at hk; cases hk
  have e3:k≠b:=fun e=>by rw [e,nb0] at hk; cases hk
  rw [upd_get_ne e1,upd_get_ne e2,upd_get_ne e3]; exact hle k o hk
 .rw [upd_get_same]; simp
 .refine oc.keep fun g hg=>?_
  have hgo:=hAg g ((mem_obl hg).2 rfl)
  rw [upd_get_ne hgo.2.2,upd_get_ne hgo.1,upd_get_ne hgo.2.1]
 .simpa [intCells] using hown
 .refine oo.keep fun g hg=>?_
  have hgo:=h2g g ((mem_obl hg).2 rfl)
  rw [upd_get_ne hgo.2.2,upd_get_ne hgo.1,upd_get_ne hgo.2.1]
 .intro k hk hk2
  simp [obl] at hk
  subst hk
  exact (h2g _ hk2).1 rfl
 .rw [upd_get_ne hrs,upd_get_ne hrg,upd_get_ne hrb]; exact pr
 .intro k hk
  simp [obl] at hk; subst hk; exact ng0
theorem LS.pushO {m0 m:AM} {B s r:Nat} {cd:List Ins} {pl od:List Int} {kv:List (Int × Value)} {A:Option Addr} {c:Nat} {A1:Option Addr} {c1:Nat} {A2:Option Addr} {c2:Nat} {es:Array MapEntry} {clk:Nat} (h:LS m0 m B s r cd pl od kv A c A1 c1 A2 c2 es clk) (x:Int) (hl:od.length<=100000) {Q:AM->Prop}
  (hQ:∀ m',LSx m0 m' B s r cd pl (od ++ [x]) kv->Q m') :
  ∀ b:Nat,B<=b->m b=none->let m13:=AM.upd m b (.cells #[.int .i64 x] 3);
  awp Tryz.prog B (Builtin.append_ #[33,33] 33 #[.slice A2 od.length c2,.slice (some ⟨b,0,none⟩) 1 1]) m13 fun v14 m15 =>
  ∃ (A16:Option Addr) (n17 c18:Nat),v14=.slice A16 n17 c18/\StC B m15 ⟨s,3,none⟩ (.slice A16 n17 c18) Q:=by
 intro b hb hn
 obtain ⟨hle,ps,oc,op,oo,dj,pr,mi,hs,hr,ns,nr,nc,np,no⟩:=h
 have hsb:s≠b:=fun e=>by rw [e,hn] at ps; cases ps
 have hrb:r≠b:=fun e=>by rw [e,hn] at pr; cases pr
 have hrs:r≠s:=fun e=>by rw [e,ps] at pr; cases pr
 have nb0:m0 b=none:=AM.le_none hle hn
 refine awp_append_field el30' (oo.upd (oo.ne_none hn)) (A2:=some ⟨b,0,none⟩) (k:=1) (news:=[.int .i64 x]) (Reads.lit rfl) (by simp [Value.oneCell']) (by omega) (by omega) (by omega) (g:=s) (C:=#[.slice A cd.length c,.slice A1 pl.length c1,.map (some r),.slice A2 od.length c2]) (T:=52) (by rw [upd_get_ne hsb]; exact ps) hs (by decide) (j:=3) (by simp) ?_
 intro g2 cp' cur hor hB2 hsg hown
 have ho2:g2∈obl A2\/m g2=none:=by
  rcases hor with h | h
  .exact .inl ((mem_obl h).2 rfl)
  .by_cases e:g2=b
   .right; rw [e]; exact hn
   .right; rwa [upd_get_ne e] at h
 have ng0:m0 g2=none:=by
  rcases ho2 with h | h
  .exact no g2 h
  .exact AM.le_none hle h
 have hrg:r≠g2:=fun e=>by
  rcases ho2 with h | h
  .obtain ⟨_,cur',h1⟩:=oo.obl_some h
   rw [<- e,pr] at h1; cases h1
  .rw [<- e,pr] at h; cases h
 have hAg:∀ k∈obl A,k≠g2/\k≠b/\k≠s:=fun k hk=>by
  obtain ⟨_,cur',h1⟩:=oc.obl_some hk
  refine ⟨fun e=>?_,fun e=>?_,fun e=>?_⟩
  .rcases ho2 with h | h
   .obtain ⟨_,cur2,h2⟩:=oo.obl_some h
    rw [<- e,h1] at h2
    injection h2 with h2
    injection h2 with _ h2
    exact absurd h2 (by decide)
   .rw [<- e,h1] at h; cases h
  .rw [e,hn] at h1; cases h1
  .rw [e,ps] at h1
   injection h1 with h1
   injection h1 with _ h1
   exact absurd h1 (by decide)
 have h2g:∀ k∈obl A1,k≠g2/\k≠b/\k≠s:=fun k hk=>by
  obtain ⟨_,cur',h1⟩:=op.obl_some hk
  refine ⟨fun e=>?_,fun e=>?_,fun e=>?_⟩
  .rcases ho2 with h | h
   .exact dj k hk (e ▸ h)
   .rw [<- e,h1] at h; cases h
  .rw [e,hn] at h1; cases h1
  .rw [e,ps] at h1
   injection h1 with h1
   injection h1 with _ h1
   exact absurd h1 (by decide)
 refine hQ _ ⟨A,c,A1,c1,some ⟨g2,0,none⟩,cp',es,clk,?_,?_,?_,?_,?_,?_,?_,mi,hs,hr,ns,nr,nc,np,?_⟩
 .intro k o hk
  have e1:k≠s:=fun e=>by rw [e,ns] at hk; cases hk
  have e2:k≠g2:=fun e=>by rw [e,ng0] at hk; cases hk
  have e3:k≠b:=fun e=>by rw [e,nb0] at hk; cases hk
  rw [upd_get_ne e1,upd_get_ne e2,upd_get_ne e3]; exact hle k o hk
 .rw [upd_get_same]; simp
 .refine oc.keep fun g hg=>?_
  have hgo:=hAg g ((mem_obl hg).2 rfl)
  rw [upd_get_ne hgo.2.2,upd_get_ne hgo.1,upd_get_ne hgo.2.1]
 .refine op.keep fun g hg=>?_
  have hgo:=h2g g ((mem_obl hg).2 rfl)
  rw [upd_get_ne hgo.2.2,upd_get_ne hgo.1,upd_get_ne hgo.2.1]
 .simpa [intCells] using hown
 .intro k hk hk2
  simp [obl] at hk2
  subst hk2
  exact (h2g _ hk).1 rfl
 .rw [upd_get_ne hrs,upd_get_ne hrg,upd_get_ne hrb]; exact pr
 .intro k hk
  simp [obl] at hk; subst hk; exact ng0
theorem LS.pushC {m0 m:AM} {B s r:Nat} {cd:List Ins} {pl od:List Int} {kv:List (Int × Value)} {A:Option Addr} {c:Nat} {A1:Option Addr} {c1:Nat} {A2:Option Addr} {c2:Nat} {es:Array MapEntry} {clk:Nat} (h:LS m0 m B s r cd pl od kv A c A1 c1 A2 c2 es clk) {x:List Ins} {A3:Option Addr} {c3:Nat} (hx:Reads m 5 A3 x.length (insCells x)) (hpos:0<cd.length+x.length) (hl:cd.length+x.length<=100000) {Q:AM->Prop}
  (hQ:∀ m',LSx m0 m' B s r (cd ++ x) pl od kv->Q m') :
  awp Tryz.prog B (Builtin.append_ #[25,25] 25 #[.slice A cd.length c,.slice A3 x.length c3]) m fun v14 m15 =>
  ∃ (A16:Option Addr) (n17 c18:Nat),v14=.slice A16 n17 c18/\StC B m15 ⟨s,0,none⟩ (.slice A16 n17 c18) Q:=by
 obtain ⟨hle,ps,oc,op,oo,dj,pr,mi,hs,hr,ns,nr,nc,np,no⟩:=h
 have hrs:r≠s:=fun e=>by rw [e,ps] at pr; cases pr
 refine awp_append_field elIns oc (A2:=A3) (k:=x.length) (news:=insCells x) hx (insCells_one x) (by omega) (by omega) hpos (g:=s) (C:=#[.slice A cd.length c,.slice A1 pl.length c1,.map (some r),.slice A2 od.length c2]) (T:=52) ps hs (by decide) (j:=0) (by simp) ?_
 intro g2 cp' cur ho hB2 hsg hown
 have ho2:g2∈obl A\/m g2=none:=by
  rcases ho with h | h
  .exact .inl ((mem_obl h).2 rfl)
  .exact .inr h
 have ng0:m0 g2=none:=by
  rcases ho2 with h | h
  .exact nc g2 h
  .exact AM.le_none hle h
 have hrg:r≠g2:=fun e=>by
  rcases ho2 with h | h
  .obtain ⟨_,cur',h1⟩:=oc.obl_some h
   rw [<- e,pr] at h1; cases h1
  .rw [<- e,pr] at h; cases h
 have hint:∀ {A':Option Addr} {n c':Nat} {xs:List Value},Alog.Own m B 3 1 A' n c' xs->∀ k∈obl A',k≠g2/\k≠s:=fun {A' n c' xs} o k hk=>by
  obtain ⟨_,cur',h1⟩:=o.obl_some hk
  refine ⟨fun e=>?_,fun e=>?_⟩
  .rcases ho2 with h | h
   .obtain ⟨_,cur2,h2⟩:=oc.obl_some h
    rw [<- e,h1] at h2
    injection h2 with h2
    injection h2 with _ h2
    exact absurd h2 (by decide)
   .rw [<- e,h1] at h; cases h
  .rw [e,ps] at h1
   injection h1 with h1
   injection h1 with _ h1
   exact absurd h1 (by decide)
 refine hQ _ ⟨some ⟨g2,0,none⟩,cp',A1,c1,A2,c2,es,clk,?_,?_,?_,?_,?_,dj,?_,mi,hs,hr,ns,nr,?_,np,no⟩
 .intro k o hk
  have e1:k≠s:=fun e=>by rw [e,ns] at hk; cases hk
  have e2:k≠g2:=fun e=>by rw [e,ng0] at hk; cases hk
  rw [upd_get_ne e1,upd_get_ne e2]; exact hle k o hk
 .rw [upd_get_same,List.length_append]; simp
 .rw [List.length_append,show insCells (cd ++ x)=insCells cd ++ insCells x by simp [insCells]]; exact hown
 .refine op.keep fun g hg=>?_
  have hgo:=hint op g ((mem_obl hg).2 rfl)
  rw [upd_get_ne hgo.2,upd_get_ne hgo.1]
 .refine oo.keep fun g hg=>?_
  have hgo:=hint oo g ((mem_obl hg).2 rfl)
  rw [upd_get_ne hgo.2,upd_get_ne hgo.1]
 .rw [upd_get_ne hrs,upd_get_ne hrg]; exact pr
 .intro k hk
  simp [obl] at hk; subst hk; exact ng0
theorem head_spec (w0:World) {m0 m:AM} {s r:Nat} {cd:List Ins} {pl od:List Int} {kv:List (Int × Value)} (h:LSx m0 m w0.heap.size s r cd pl od kv) (x:Int) (hx:x∉kv.map (·.1)) (hl:pl.length<=100000) {R:Value->AM->Prop}
  (hR:∀ m',LSx m0 m' w0.heap.size s r cd (pl ++ [(cd.length:Int)]) od (kv ++ [(x,.int .i64 cd.length)])->R (.tuple #[]) m') :
  CallsA Tryz.prog w0 31 #[.int .i64 x,.pointer (some ⟨s,0,none⟩)] m R:=by
 obtain ⟨A,c,A1,c1,A2,c2,es,clk,h⟩:=h
 obtain ⟨hle,ps,oc,op,oo,dj,pr,mi,hs,hr,ns,nr,nc,np,no⟩:=h
 refine cf31 w0 m x s R ⟨_,cel ps rfl,_,_,_,cel ps rfl,?_⟩
 refine mapUpdate_new uMap uInt hr pr mi (findI_none hx 0) fun es' clk' hes=>?_
 have hrs:r≠s:=fun e=>by rw [e,ps] at pr; cases pr
 have hne:∀ {e:TypeId} {sz:Nat} {A':Option Addr} {n c':Nat} {xs:List Value},Alog.Own m w0.heap.size e sz A' n c' xs->∀ g,A'=some ⟨g,0,none⟩->(m.upd r (.map es' clk')) g=m g:=fun {e sz A' n c' xs} o g hg=>by
  refine upd_get_ne fun e=>?_
  obtain ⟨_,cur',h1⟩:=o.obl_some ((mem_obl hg).2 rfl)
  rw [e,pr] at h1; cases h1
 have hS:LS m0 (m.upd r (.map es' clk')) w0.heap.size s r cd pl od (kv ++ [(x,.int .i64 cd.length)]) A c A1 c1 A2 c2 es' clk':=by
  refine ⟨le_upd_fresh hle nr,by rw [upd_get_ne hrs.symm]; exact ps,oc.keep (hne oc),op.keep (hne op),oo.keep (hne oo),dj,upd_get_same,hes,hs,hr,ns,nr,nc,np,no⟩
 generalize m.upd r (.map es' clk')=m5 at hS
 refine ⟨_,_,_,cel hS.ps rfl,_,_,_,cel hS.ps rfl,rfl,?_⟩
 refine hS.pushP (cd.length:Int) hl (Q:=fun m19=>RetP R (.tuple #[]) m19) fun m' h'=>?_
 exact retP_of (hR m' h')
end Go.Proofs.YtgjamnhjlaohaaaGreatDoor.S
namespace Go.Proofs.YtgjamnhjlaohaaaGreatDoor.S
open Go Go.RowKit Go.Alog
def mB (code:List Ins):Nat:=(hsUp code code.length).length
def nx (code:List Ins) (j:Nat):Int:=nxt code code.length j
def blkI (code:List Ins) (j:Nat):List Ins:=(code.drop (nx code j).toNat).take ((nx code (j+1)).toNat-(nx code j).toNat)
def layB (l:List Ins):List Ins:=pickP l (layP l)
def outU (code:List Ins):Nat->List Ins
 | 0=>[]
 | j+1=>outU code j ++ layB (blkI code j)
def oldB (code:List Ins) (j:Nat):List Int:=(layP (blkI code j)).map (fun x=>if 0<=x then nx code j+x else -1)
def oldU (code:List Ins):Nat->List Int
 | 0=>[]
 | j+1=>oldU code j ++ oldB code j
def plU (code:List Ins) (j:Nat):List Int:=(List.range j).map (fun q=>((outU code q).length:Int))
def kvU (code:List Ins) (j:Nat):List (Int × Value):=(List.range j).map (fun q=>(nx code q,Value.int .i64 (outU code q).length))
theorem nx_in {code:List Ins} {j:Nat} (h:j<mB code):0<=nx code j/\nx code j<nx code (j+1)/\nx code (j+1)<=code.length:=nxt_lt code code.length j h
theorem nx_0 (code:List Ins):nx code 0=0:=nxt_0 code code.length
theorem nx_end (code:List Ins):nx code (mB code)=code.length:=nxt_end code code.length _ (Nat.le_refl _)
theorem nx_mono {code:List Ins}:∀ {i j:Nat},i<j->j<=mB code->nx code i<nx code j:=by
 intro i j hij
 induction j with
 | zero=>omega
 | succ j ih =>
  intro hj
  have h1:=(nx_in (code:=code) (j:=j) (by omega)).2.1
  by_cases e:i=j
  .rw [e]; exact h1
  .have:=ih (by omega) (by omega); omega
theorem mB_le (code:List Ins):mB code<=code.length:=by
 unfold mB hsUp
 exact Nat.le_trans (List.length_filter_le _ _) (by simp)
theorem blkI_len {code:List Ins} {j:Nat} (h:j<mB code):((blkI code j).length:Int)=nx code (j+1)-nx code j:=by
 have:=nx_in h
 unfold blkI
 rw [List.length_take,List.length_drop]
 omega
theorem blkI_at {code:List Ins} {j:Nat} (h:j<mB code) {x:Int} (h0:0<=x) (h1:x<(blkI code j).length):cAt (blkI code j) x=cAt code (nx code j+x):=by
 have h2:=nx_in h
 have h3:=blkI_len h
 unfold cAt blkI
 rw [show (nx code j+x).toNat=(nx code j).toNat+x.toNat by omega]
 simp only [List.getD]
 rw [List.getElem?_take,if_pos (by omega),List.getElem?_drop]
theorem layB_len (l:List Ins):(layB l).length=(layP l).length:=pickP_len _ _
theorem outU_len {code:List Ins}:∀ {j:Nat},j<=mB code->((outU code j).length:Int)<=2*nx code j+j:=by
 intro j
 induction j with
 | zero=>intro _; simp [outU,nx_0]
 | succ j ih =>
  intro h
  have h1:=ih (by omega)
  have h2:=blkI_len (code:=code) (j:=j) (by omega)
  have h3:=layP_len (blkI code j)
  unfold outU
  rw [List.length_append,layB_len]
  omega
theorem outU_le {code:List Ins} {j:Nat} (h:j<=mB code):(outU code j).length<=3*code.length:=by
 have h1:=outU_len h
 have h2:=mB_le code
 have h3:nx code j<=code.length:=by
  by_cases e:j<mB code
  .have:=nx_in e; omega
  .rw [show j=mB code by omega,nx_end]; omega
 omega
theorem oldU_len {code:List Ins} (j:Nat):(oldU code j).length=(outU code j).length:=by
 induction j with
 | zero=>rfl
 | succ j ih =>
  unfold oldU outU
  rw [List.length_append,List.length_append,ih,layB_len]
  simp [oldB]
theorem plU_len (code:List Ins) (j:Nat):(plU code j).length=j:=by simp [plU]
theorem plU_succ (code:List Ins) (j:Nat):plU code (j+1)=plU code j ++ [((outU code j).length:Int)]:=by unfold plU; rw [List.range_succ,List.map_append]; rfl
theorem kvU_succ (code:List Ins) (j:Nat):kvU code (j+1)=kvU code j ++ [(nx code j,Value.int .i64 (outU code j).length)]:=by unfold kvU; rw [List.range_succ,List.map_append]; rfl
theorem kvU_new {code:List Ins} {j:Nat} (h:j<=mB code):nx code j∉(kvU code j).map (·.1):=by
 intro hm
 unfold kvU at hm
 rw [List.map_map,List.mem_map] at hm
 obtain ⟨q,hq,e⟩:=hm
 rw [List.mem_range] at hq
 have:=nx_mono (code:=code) hq h
 simp at e; omega
theorem findI_kv {code:List Ins}:∀ {n q:Nat},q<n->n<=mB code+1->∃ j,findI (nx code q) (kvU code n) 0=some (j,Value.int .i64 (outU code q).length):=by
 intro n q hq hn
 have key:∀ (l:List Nat) (i:Nat),q∈l->(∀ x∈l,nx code x=nx code q->x=q)->∃ j,findI (nx code q) (l.map (fun q=>(nx code q,Value.int .i64 (outU code q).length))) i=some (j,Value.int .i64 (outU code q).length):=by
  intro l
  induction l with
  | nil=>intro i h; cases h
  | cons a l ih =>
   intro i h hu
   rw [List.map_cons]
   unfold findI
   by_cases e:nx code q=nx code a
   .have:=hu a (by simp) e.symm
    subst this
    exact ⟨i,by simp⟩
   .rw [if_neg (by simpa using e)]
    rcases List.mem_cons.1 h with h | h
    .rw [h] at e; exact absurd rfl e
    .exact ih (i+1) h fun x hx=>hu x (List.mem_cons_of_mem _ hx)
 refine key _ 0 (List.mem_range.2 hq) fun x hx e=>?_
 have hx:=List.mem_range.1 hx
 rcases Nat.lt_trichotomy x q with h | h | h
 .have:=nx_mono (code:=code) h (by omega); omega
 .exact h
 .have:=nx_mono (code:=code) h (by omega); omega
end Go.Proofs.YtgjamnhjlaohaaaGreatDoor.S
namespace Go.Proofs.YtgjamnhjlaohaaaGreatDoor.S
open Go Go.RowKit Go.Alog Go.Proofs.YtgjamnhjlaohaaaGreatDoor.T Go.Proofs.YtgjamnhjlaohaaaGreatDoor.V
structure LayR (m0 m:AM) (B:Nat) (cd:List Ins) (pl od:List Int) (kv:List (Int × Value)) (A:Option Addr) (c:Nat) (A1:Option Addr) (c1:Nat) (q:Nat) (A2:Option Addr) (c2:Nat):Prop where
 le:m0.le m
 oc:Alog.Own m B 57 5 A cd.length c (insCells cd)
 op:Alog.Own m B 3 1 A1 pl.length c1 (intCells .i64 pl)
 oo:Alog.Own m B 3 1 A2 od.length c2 (intCells .i64 od)
 pr:∃ es clk,m q=some (.map es clk)/\MapI es kv
 nc:∀ k∈obl A,m0 k=none
 np:∀ k∈obl A1,m0 k=none
theorem reoLay_spec (w0:World) (m:AM) (A0:Option Addr) (c0:Nat) (code:List Ins) (hl:code.length<=4096) (hc0:code.length<=c0) (rd0:Reads m 5 A0 code.length (insCells code)) (hf:fitP code=true) :
  CallsA Tryz.prog w0 14 #[.slice A0 code.length c0] m (fun v m'=>∃ A c A1 c1 q A2 c2,v=.agg #[.slice A (outU code (mB code)).length c,.slice A1 (plU code (mB code+1)).length c1,.map (some q),.slice A2 (oldU code (mB code)).length c2]/\LayR m m' w0.heap.size (outU code (mB code)) (plU code (mB code+1)) (oldU code (mB code)) (kvU code (mB code+1)) A c A1 c1 q A2 c2):=by
 generalize hR:(fun (v:Value) (m':AM)=>∃ A c A1 c1 q A2 c2,v=.agg #[.slice A (outU code (mB code)).length c,.slice A1 (plU code (mB code+1)).length c1,.map (some q),.slice A2 (oldU code (mB code)).length c2]/\LayR m m' w0.heap.size (outU code (mB code)) (plU code (mB code+1)) (oldU code (mB code)) (kvU code (mB code+1)) A c A1 c1 q A2 c2)=R
 refine cf14 w0 m A0 code.length c0 R ?_
 intro b1 hb1 hn1
 have l1:=le_new hn1 (.cells #[.slice none 0 0,.slice none 0 0,.map none,.slice none 0 0] 52)
 have p1:(m.upd b1 (.cells #[.slice none 0 0,.slice none 0 0,.map none,.slice none 0 0] 52)) b1=some (.cells #[.slice none 0 0,.slice none 0 0,.map none,.slice none 0 0] 52 (0,0)):=upd_get_same
 try dsimp only
 generalize m.upd b1 (.cells #[.slice none 0 0,.slice none 0 0,.map none,.slice none 0 0] 52)=m2 at l1 p1 ⊢
 intro b3 hb3 hn3
 have l3:=le_new hn3 (.map #[] 0)
 have p3:(m2.upd b3 (.map #[] 0)) b3=some (.map #[] 0):=upd_get_same
 try dsimp only
 generalize m2.upd b3 (.map #[] 0)=m4 at l3 p3 ⊢
 refine ⟨rfl,blk4 fun b5 M l5 hn5 hb5 p5=>?_⟩
 have hn52:=AM.le_none l3 hn5
 have hS:LS m2 M w0.heap.size b5 b3 [] [] [] [] none 0 none 0 none 0 #[] 0:=⟨AM.le_trans l3 l5,p5,Alog.Own.nil _ _ _ _,Alog.Own.nil _ _ _ _,Alog.Own.nil _ _ _ _,by simp [obl],l5 _ _ p3,rfl,hb5,hb3,hn52,hn3,by simp [obl],by simp [obl],by simp [obl]⟩
 have rdM:=(rd0.le l1).le hS.le
 refine CallsA.mono (blocks_spec w0 M A0 c0 code (by omega) rdM) ?_
 rintro r m15 ⟨⟨A11,c13,rfl,o11,n11⟩,l15⟩
 obtain ⟨mb,lb,hS,hg⟩:=hS.grow l15
 replace o11:=o11.keep (m':=mb) fun g hA=>hg g (n11 g ((mem_obl hA).2 rfl))
 rw [headsP_up hf] at o11 ⊢
 have hbl:=blkP_len (hsUp code code.length) code.length
 have hmB:(hsUp code code.length).length=mB code:=rfl
 have hmBle:=mB_le code
 have p1b:=lb _ _ p1
 have lmb:=AM.le_trans l1 lb
 have rdb:=rd0.le lmb
 have b1s:b1≠b5:=fun e=>by rw [e,hn52] at p1; cases p1
 clear p5 p3 hg n11 rdM
 refine ⟨_,_,_,rfl,?_⟩
 refine vl14_111010 w0 m15 _ R A0 code.length c0 b1 b5 b5 A11 (blkP (hsUp code code.length) code.length).length c13 (blkP (hsUp code code.length) code.length).length 0
  (fun q k m'=>LSx mb m' w0.heap.size b5 b3 (outU code k.toNat) (plU code k.toNat) (oldU code k.toNat) (kvU code k.toNat)/\0<=k/\k<=mB code/\(q:Int)=mB code-k)
  (fun m'=>LSx mb m' w0.heap.size b5 b3 (outU code (mB code)) (plU code (mB code)) (oldU code (mB code)) (kvU code (mB code))) (mB code) rfl rfl rfl rfl rfl rfl rfl ⟨⟨_,_,_,_,_,_,_,_,hS⟩,by omega,by omega,by omega⟩ ?_ ?_
 .rintro q σ k m' ⟨hI,k0,k1,hq⟩
  refine ⟨rfl,bcP (fun hlt=>?_) (fun hlt=>?_)⟩
  .have hkn:k.toNat<mB code:=by omega
   have wk:IntKind.wrap .i64 (k+1)=k+1:=wrap_s (by omega) (by omega)
   have ek:(k+1).toNat=k.toNat+1:=by omega
   have hnx:=nx_in hkn
   have hbk:=blkI_len hkn
   refine ⟨⟨k0,hlt⟩,?_⟩
   obtain ⟨ad,hA,hc⟩:=o11.ex (by omega)
   subst hA
   rw [nilO_some]
   have b9:=cell_blk hc (i:=k) k0 (by omega)
   rw [blkP_get _ _ (by omega),blkAt_nxt _ _ _ (by omega)] at b9
   refine ⟨_,AM.le_cell hI.le b9.1,_,AM.le_cell hI.le b9.2,blk2 fun b19 M2 l2 n19 hb19 p19=>?_⟩
   obtain ⟨mb2,lb2,hI2,hg2⟩:=hI.grow l2
   have p19b:mb2 b19=some (.cells #[.int .i64 (nx code k.toNat),.int .i64 (nx code (k.toNat+1))] 94):=by rw [hg2 b19 n19]; exact p19
   refine ⟨_,cel p19 rfl,?_⟩
   refine head_spec w0 hI2 (nx code k.toNat) (kvU_new (by omega)) (by rw [plU_len]; have:=mB_le code; omega) fun m25 hI3=>⟨rfl,?_⟩
   rw [<- plU_succ,<- kvU_succ,<- ek] at hI3
   have p25:=hI3.le _ _ p19b
   refine ⟨_,cel p25 rfl,_,cel p25 rfl,by omega,hnx.1,by omega,by omega,?_⟩
   have rds:=(((rdb.le lb2).le hI3.le)).insSlice (nx code k.toNat).toNat (nx code (k.toNat+1)).toNat (by omega) (by omega) hc0
   have ebl:(nx code (k.toNat+1)).toNat-(nx code k.toNat).toNat=(blkI code k.toNat).length:=by omega
   change Reads m25 5 _ ((nx code (k.toNat+1)).toNat-(nx code k.toNat).toNat) (insCells (blkI code k.toNat)) at rds
   rw [ebl] at rds ⊢
   refine CallsA.mono (lay_spec w0 m25 _ _ (blkI code k.toNat) (by omega) (by omega) rds) ?_
   rintro r m32 ⟨⟨A28,c30,rfl,o28,n28⟩,l32⟩
   obtain ⟨mb3,lb3,hI4,hg3⟩:=hI3.grow l32
   replace o28:=o28.keep (m':=mb3) fun g hA=>hg3 g (n28 g ((mem_obl hA).2 rfl))
   have rdl:=rds
   replace rds:=rds.le l32
   have p19c:=lb3 _ _ p19b
   have rdm3:Reads mb3 5 A0 code.length (insCells code):=(rdb.le lb2).le lb3
   have rdbl:Reads mb3 5 (if c0=(nx code k.toNat).toNat then A0 else Option.map (fun x=>Addr.add x ((nx code k.toNat).toNat*5)) A0) (blkI code k.toNat).length (insCells (blkI code k.toNat)):=by
    have:=rdm3.insSlice (nx code k.toNat).toNat (nx code (k.toNat+1)).toNat (by omega) (by omega) hc0
    change Reads mb3 5 _ ((nx code (k.toNat+1)).toNat-(nx code k.toNat).toNat) (insCells (blkI code k.toNat)) at this
    rwa [ebl] at this
   have hll:=layP_len (blkI code k.toNat)
   have hlg:=layP_ge (blkI code k.toNat)
   have hlay:oldU code (k+1).toNat=oldU code k.toNat ++ (layP (blkI code k.toNat)).map (fun x=>if 0<=x then nx code k.toNat+x else -1):=by rw [ek]; rfl
   have hout:outU code (k+1).toNat=outU code k.toNat ++ pickP (blkI code k.toNat) (layP (blkI code k.toNat)):=by rw [ek]; rfl
   have hpl:(pickP (blkI code k.toNat) (layP (blkI code k.toNat))).length=(layP (blkI code k.toNat)).length:=pickP_len _ _
   have hul:=outU_le (code:=code) (j:=k.toNat) (by omega)
   have hoL:=oldU_len (code:=code) k.toNat
   have pk:=fun (M:AM) (l:mb3.le M)=>pick_spec w0 M _ (c0-(nx code k.toNat).toNat) (blkI code k.toNat) (by omega) (rdbl.le l) A28 c30 (layP (blkI code k.toNat)) (by omega) (o28.reads.le l)
   have lb03:mb.le mb3:=AM.le_trans lb2 lb3
   refine ⟨_,_,_,rfl,?_⟩
   refine Vn.f (Vn.f (vr14_1110100110011110 w0 m32 _ R q _ _ A0 code.length c0 b1 b5 b5 b19 _ (blkI code k.toNat).length _ A28 (layP (blkI code k.toNat)).length c30 (some ad) (blkP (hsUp code code.length) code.length).length c13 (blkP (hsUp code code.length) code.length).length k
    (fun m'=>LSx mb3 m' w0.heap.size b5 b3 (outU code (k+1).toNat) (plU code (k+1).toNat) (oldU code k.toNat) (kvU code (k+1).toNat)) rfl rfl rfl rfl rfl rfl rfl rfl rfl rfl) ⟨?_,?_⟩) ?_
   .obtain ⟨Ac,cc,Ap,cp,Ao,co,es,clk,h4⟩:=hI4
    refine ⟨_,_,_,cel h4.ps rfl,CallsA.mono (pk m32 h4.le) ?_⟩
    rintro r m66 ⟨⟨A62,c64,rfl,o62,n62⟩,l66⟩
    obtain ⟨mb4,lb4,h5,hg4⟩:=h4.grow l66
    refine ⟨_,_,_,rfl,?_⟩
    refine h5.pushC o62.reads (by omega) (by omega) (Q:=fun m72=>_) fun m72 h6=>?_
    (repeat (refine And.intro (Eq.refl _) ?_))
    rw [<- hout] at h6
    exact h6.base lb4
   .obtain ⟨Ac,cc,Ap,cp,Ao,co,es,clk,h4⟩:=hI4
    refine CallsA.mono (pk m32 h4.le) ?_
    rintro r m66 ⟨⟨A62,c64,rfl,o62,n62⟩,l66⟩
    obtain ⟨mb4,lb4,h5,hg4⟩:=h4.grow l66
    refine ⟨_,_,_,rfl,_,_,_,cel h5.ps rfl,?_⟩
    refine h5.pushC o62.reads (by omega) (by omega) (Q:=fun m72=>_) fun m72 h6=>?_
    (repeat (refine And.intro (Eq.refl _) ?_))
    rw [<- hout] at h6
    exact h6.base lb4
   .intro σ m41 hI5
    refine vl14_111010011001111110 w0 m41 _ R q _ _ A0 code.length c0 b1 b5 b5 b19 (some ad) (blkP (hsUp code code.length) code.length).length c13 (blkP (hsUp code code.length) code.length).length k A28 (layP (blkI code k.toNat)).length c30 (layP (blkI code k.toNat)).length 0
     (fun q2 j m'=>LSx mb3 m' w0.heap.size b5 b3 (outU code (k+1).toNat) (plU code (k+1).toNat) (oldU code k.toNat ++ ((layP (blkI code k.toNat)).take j.toNat).map (fun x=>if 0<=x then nx code k.toNat+x else -1)) (kvU code (k+1).toNat)/\0<=j/\j<=(layP (blkI code k.toNat)).length/\(q2:Int)=(layP (blkI code k.toNat)).length-j)
     (fun m'=>LSx mb3 m' w0.heap.size b5 b3 (outU code (k+1).toNat) (plU code (k+1).toNat) (oldU code (k+1).toNat) (kvU code (k+1).toNat)) (layP (blkI code k.toNat)).length rfl rfl rfl rfl rfl rfl rfl rfl rfl rfl rfl ⟨by simpa using hI5,by omega,by omega,by omega⟩ ?_ ?_
    .rintro q2 σ j m6 ⟨hI6,j0,j1,hq2⟩
     refine ⟨rfl,bcP (fun hlt2=>⟨⟨j0,hlt2⟩,?_⟩) (fun hlt2=>?_)⟩
     .obtain ⟨ad2,hA2,hc2⟩:=(o28.reads.le hI6.le).ex (by omega)
      rw [hA2,nilO_some]
      have wj:IntKind.wrap .i64 (j+1)=j+1:=wrap_s (by omega) (by omega)
      have htk:(layP (blkI code k.toNat)).take (j+1).toNat=(layP (blkI code k.toNat)).take j.toNat ++ [(layP (blkI code k.toNat)).getD j.toNat 0]:=take_stepI j0 hlt2
      have hin:=layP_in (blkI code k.toNat) ((layP (blkI code k.toNat)).getD j.toNat 0) (by simp [List.getD,show j.toNat<(layP (blkI code k.toNat)).length by omega])
      have hlen6:(oldU code k.toNat ++ ((layP (blkI code k.toNat)).take j.toNat).map (fun x=>if 0<=x then nx code k.toNat+x else -1)).length<=100000:=by
       rw [List.length_append,List.length_map,List.length_take]; omega
      refine ⟨_,cell_k hc2 j0 hlt2,rfl,?_⟩
      generalize (layP (blkI code k.toNat)).getD j.toNat 0=x at htk hin ⊢
      have fin:∀ (m':AM) (y:Int),y=(if 0<=x then nx code k.toNat+x else -1)->LSx mb3 m' w0.heap.size b5 b3 (outU code (k+1).toNat) (plU code (k+1).toNat) ((oldU code k.toNat ++ ((layP (blkI code k.toNat)).take j.toNat).map (fun x=>if 0<=x then nx code k.toNat+x else -1)) ++ [y]) (kvU code (k+1).toNat)->∃ n':Nat,n'<q2/\(LSx mb3 m' w0.heap.size b5 b3 (outU code (k+1).toNat) (plU code (k+1).toNat) (oldU code k.toNat ++ ((layP (blkI code k.toNat)).take (j+1).toNat).map (fun x=>if 0<=x then nx code k.toNat+x else -1)) (kvU code (k+1).toNat)/\0<=j+1/\j+1<=(layP (blkI code k.toNat)).length/\(n':Int)=(layP (blkI code k.toNat)).length-(j+1)):=by
       intro m' y hy h7
       refine ⟨q2-1,by omega,?_,by omega,by omega,by omega⟩
       rw [htk,List.map_append,<- List.append_assoc]
       rw [hy] at h7
       exact h7
      rw [wj]
      obtain ⟨Ac,cc,Ap,cp,Ao,co,es,clk,h6⟩:=hI6
      have p6:=h6.le _ _ p19c
      refine bcP (fun h1=>?_) (fun h1=>?_)
      .refine ⟨_,cel p6 rfl,rfl,_,_,_,cel h6.ps rfl,rfl,?_⟩
       rw [wrap_s (i:=nx code k.toNat+x) (by omega) (by omega)]
       refine h6.pushO (nx code k.toNat+x) hlen6 (Q:=fun m100=>_) fun m100 h7=>?_
       (repeat (refine And.intro (Eq.refl _) ?_))
       exact fin _ _ (by rw [if_pos h1]) h7
      .refine ⟨_,_,_,cel h6.ps rfl,rfl,?_⟩
       refine h6.pushO (-1) hlen6 (Q:=fun m100=>_) fun m100 h7=>?_
       (repeat (refine And.intro (Eq.refl _) ?_))
       exact fin _ _ (by rw [if_neg h1]) h7
     ·(repeat (refine And.intro (Eq.refl _) ?_))
      rw [show j.toNat=(layP (blkI code k.toNat)).length by omega,List.take_of_length_le (Nat.le_refl _),<- hlay] at hI6
      exact hI6
    .intro σ m6 hI6
     (repeat (refine And.intro (Eq.refl _) ?_))
     rw [wk]
     exact ⟨q-1,by omega,hI6.base lb03,by omega,by omega,by omega⟩
  ·(repeat (refine And.intro (Eq.refl _) ?_))
   rw [show k.toNat=mB code by omega] at hI
   exact hI
 .intro σ m33 hI
  have hnx:=nx_end code
  have hkv:=kvU_new (code:=code) (j:=mB code) (Nat.le_refl _)
  rw [hnx] at hkv
  refine head_spec w0 hI (code.length:Int) hkv (by rw [plU_len]; have:=mB_le code; omega) fun m34 hI2=>⟨rfl,?_⟩
  have ekv:kvU code (mB code+1)=kvU code (mB code) ++ [((code.length:Int),Value.int .i64 (outU code (mB code)).length)]:=by rw [kvU_succ,hnx]
  rw [<- plU_succ,<- ekv] at hI2
  obtain ⟨A,c,A1,c1,A2,c2,es,clk,hle,ps,oc,op,oo,dj,pr,mi,hs,hr,ns,nr,nc,np,no⟩:=hI2
  refine ⟨_,_,_,cel ps rfl,_,_,_,cel ps rfl,_,cel ps rfl,_,_,_,cel ps rfl,?_⟩
  have p34:=hle _ _ p1b
  refine StC_own p34 hb1 (by simp) (StC_upd.2 ⟨hb1,by simp,StC_upd.2 ⟨hb1,by simp,StC_upd.2 ⟨hb1,by simp,?_⟩⟩⟩)
  refine ⟨_,_,_,cel upd_get_same rfl,_,_,_,cel upd_get_same rfl,_,cel upd_get_same rfl,_,_,_,cel upd_get_same rfl,?_⟩
  rw [<- hR]
  have keep:∀ {e:TypeId} {sz:Nat} {A':Option Addr} {n c':Nat} {xs:List Value} {o:Obj},e≠52->Alog.Own m34 w0.heap.size e sz A' n c' xs->Alog.Own (m34.upd b1 o) w0.heap.size e sz A' n c' xs:=fun {e sz A' n c' xs o} he ow=>by
   refine ow.keep fun g hg=>upd_get_ne fun e1=>?_
   obtain ⟨_,cur',h1⟩:=ow.obl_some ((mem_obl hg).2 rfl)
   rw [e1,p34] at h1
   injection h1 with h1
   injection h1 with _ h1
   exact he h1.symm
  have hrb:b3≠b1:=fun e=>by rw [<- e,pr] at p34; cases p34
  refine retP_of ⟨A,c,A1,c1,b3,A2,c2,rfl,⟨?_,keep (by decide) oc,keep (by decide) op,keep (by decide) oo,⟨es,clk,by rw [upd_get_ne hrb]; exact pr,mi⟩,fun k hk=>AM.le_none lmb (nc k hk),fun k hk=>AM.le_none lmb (np k hk)⟩⟩
  exact le_upd_fresh (AM.le_trans lmb hle) hn1
def anewP (code:List Ins) (tq:Int):Int:=((outU code (whP (hsUp code code.length ++ [(code.length:Int)]) tq).toNat).length:Int)
def patI (code:List Ins) (at_:Int) (i:Ins) (tq:Int):Ins:={ i with imm:=if i.op=15\/i.op=16 then w64 (anewP code tq-w64 (at_+1)) else anewP code tq }
def stepAt (code:List Ins) (k:Nat) (cur:List Ins):Option (List Ins) :=
 if (oldU code (mB code)).getD k 0<0\/tok (cAt code ((oldU code (mB code)).getD k 0))=false then some cur
 else if rightR (patI code k (cAt cur k) (tgt (cAt code ((oldU code (mB code)).getD k 0)) ((oldU code (mB code)).getD k 0)))=true
  then some (cur.set k (patI code k (cAt cur k) (tgt (cAt code ((oldU code (mB code)).getD k 0)) ((oldU code (mB code)).getD k 0)))) else none
def posF (code:List Ins):Nat->Option (List Ins)
 | 0=>some (outU code (mB code))
 | k+1=>(posF code k).bind (stepAt code k)
def reorgP (code:List Ins):List Ins × List Int × Int :=
 if fitP code=false then ([],[],1) else
 if (outU code (mB code)).length>4096 then ([],[],4) else
 match posF code (outU code (mB code)).length with
 | none=>([],[],3)
 | some out=>(out,plU code (mB code+1),0)
theorem hs_get {code:List Ins} {q:Nat} (h:q<=mB code):(hsUp code code.length ++ [(code.length:Int)]).getD q 0=nx code q:=by
 have hm:(hsUp code code.length).length=mB code:=rfl
 by_cases e:q<mB code
 .have:nx code q=(hsUp code code.length).getD q 0:=by unfold nx nxt; rw [if_pos (by omega)]
  rw [this]
  unfold List.getD
  rw [List.getElem?_append_left (by omega)]
 .have:q=mB code:=by omega
  subst this
  rw [nx_end,<- hm]
  simp [List.getD]
theorem hs_wh {code:List Ins} {q:Nat} (h:q<=mB code):whP (hsUp code code.length ++ [(code.length:Int)]) (nx code q)=q:=by
 have hm:(hsUp code code.length ++ [(code.length:Int)]).length=mB code+1:=by rw [List.length_append]; rfl
 refine whP_at (by omega) (hs_get h) fun hin=>?_
 obtain ⟨r,hr,he⟩:=mem_at hin
 rw [List.length_take] at hr
 have h1:=hs_get (code:=code) (q:=r) (by omega)
 have h2:(List.take q (hsUp code code.length ++ [(code.length:Int)])).getD r 0=(hsUp code code.length ++ [(code.length:Int)]).getD r 0:=by
  unfold List.getD
  rw [List.getElem?_take,if_pos (by omega)]
 have h3:=nx_mono (code:=code) (i:=r) (j:=q) (by omega) h
 omega
theorem anewP_at {code:List Ins} {q:Nat} (h:q<=mB code):anewP code (nx code q)=(outU code q).length:=by
 unfold anewP
 rw [hs_wh h]; rfl
theorem to_nx {code:List Ins} (hf:fitP code=true) {k:Nat} (hk:k<code.length) (ht:tok (cAt code k)=true):∃ q,q<=mB code/\tgt (cAt code k) k=nx code q:=by
 rcases target_head hf hk ht with h | ⟨q,hq,h⟩
 .exact ⟨mB code,Nat.le_refl _,by rw [h,nx_end]⟩
 .exact ⟨q,Nat.le_of_lt hq,h.symm⟩
theorem look_kv {code:List Ins} {q:Nat} (h:q<=mB code):(match findI (nx code q) (kvU code (mB code+1)) 0 with | some p=>p.2 | none=>Value.int .i64 0)=.int .i64 (anewP code (nx code q)):=by
 obtain ⟨j,hj⟩:=findI_kv (code:=code) (n:=mB code+1) (q:=q) (by omega) (Nat.le_refl _)
 rw [hj,anewP_at h]
theorem oldU_in (code:List Ins):∀ {j:Nat},j<=mB code->∀ x∈oldU code j,x = -1\/(0<=x/\x<code.length):=by
 intro j
 induction j with
 | zero=>intro _ x hx; simp [oldU] at hx
 | succ j ih =>
  intro h x hx
  unfold oldU at hx
  rw [List.mem_append] at hx
  rcases hx with hx | hx
  .exact ih (by omega) x hx
  .unfold oldB at hx
   obtain ⟨y,hy,rfl⟩:=List.mem_map.1 hx
   have h1:=layP_in (blkI code j) y hy
   have h2:=blkI_len (code:=code) (j:=j) (by omega)
   have h3:=nx_in (code:=code) (j:=j) (by omega)
   split <;> omega
theorem posF_len {code:List Ins}:∀ {k:Nat} {out:List Ins},posF code k=some out->out.length=(outU code (mB code)).length:=by
 intro k
 induction k with
 | zero=>intro out h; injection h with h; rw [<- h]
 | succ k ih =>
  intro out h
  unfold posF at h
  obtain ⟨cur,hc,hs⟩:=Option.bind_eq_some_iff.1 h
  have:=ih hc
  unfold stepAt at hs
  split at hs
  .injection hs with hs; rw [<- hs]; exact this
  .split at hs
   .injection hs with hs; rw [<- hs,List.length_set]; exact this
   .cases hs
theorem posF_none {code:List Ins} {k:Nat} (h:posF code k=none):∀ d,posF code (k+d)=none
 | 0=>h
 | d+1=>by
  show (posF code (k+d)).bind (stepAt code (k+d))=none
  rw [posF_none h d]; rfl
def oRe (w0:World) (m0:AM) (p:List Ins × List Int × Int) (v:Value) (m':AM):Prop:=∃ A c A1 c1,v=.tuple #[.slice A p.1.length c,.slice A1 p.2.1.length c1,.int .i64 p.2.2]/\Alog.Own m' w0.heap.size 57 5 A p.1.length c (insCells p.1)/\Alog.Own m' w0.heap.size 3 1 A1 p.2.1.length c1 (intCells .i64 p.2.1)/\(∀ k∈obl A,m0 k=none)/\(∀ k∈obl A1,m0 k=none)/\m0.le m'
set_option maxHeartbeats 1000000 in
theorem reorg_spec (w0:World) (m:AM) (A0:Option Addr) (c0:Nat) (code:List Ins) (hl:code.length<=1000000) (hc0:code.length<=c0) (rd0:Reads m 5 A0 code.length (insCells code)) :
  CallsA Tryz.prog w0 7 #[.slice A0 code.length c0] m (oRe w0 m (reorgP code)):=by
 generalize hR:oRe w0 m (reorgP code)=R
 refine cf7 w0 m A0 code.length c0 R (callB (fit_e w0 m A0 c0 code hl rd0) ?_)
 have bad:∀ (M:AM) (e:Int),m.le M->reorgP code=([],[],e)->RetP R (.tuple #[.slice none 0 0,.slice none 0 0,.int .i64 e]) M:=fun M e hM he=>by
  rw [<- hR,he]
  exact retP_of ⟨none,0,none,0,rfl,Alog.Own.nil _ _ _ _,Alog.Own.nil _ _ _ _,by simp [obl],by simp [obl],hM⟩
 cases hf:fitP code with
 | false=>exact bcT (bad m 1 (AM.le_refl _) (by unfold reorgP; rw [if_pos hf]))
 | true =>
  have hl':code.length<=4096:=by
   refine Classical.byContradiction fun h=>?_
   rw [fitP_len (by omega)] at hf; cases hf
  refine bcF (CallsA.mono (reoLay_spec w0 m A0 c0 code hl' hc0 rd0 hf) ?_)
  rintro r m15 ⟨A,c,A1,c1,q,A2,c2,rfl,le15,oc,op,oo,⟨es,clk,pr,mi⟩,nc,np⟩
  refine ⟨_,_,_,_,_,_,_,_,_,_,rfl,?_⟩
  refine blk4 fun b16 M lM n16 hb16 p16=>?_
  refine ⟨_,_,_,cel p16 rfl,rfl,?_⟩
  have hoL:=oldU_len (code:=code) (mB code)
  have hre:reorgP code=if (outU code (mB code)).length>4096 then ([],[],4) else match posF code (outU code (mB code)).length with
    | none=>([],[],(3:Int))
    | some out=>(out,plU code (mB code+1),0):=by unfold reorgP; rw [if_neg (by rw [hf]; simp)]
  have hul:=outU_le (code:=code) (j:=mB code) (Nat.le_refl _)
  refine bcP (fun h=>bad M 4 (AM.le_trans le15 lM) (by rw [hre,if_pos (by omega)])) fun h=>?_
  rw [if_neg (by omega)] at hre
  have hin:=oldU_in code (Nat.le_refl (mB code))
  have hpos:=fun k out=>posF_len (code:=code) (k:=k) (out:=out)
  have hinit:posF code 0=some (outU code (mB code)):=rfl
  have hsucc:∀ k,posF code (k+1)=(posF code k).bind (stepAt code k):=fun k=>rfl
  have hnone:=fun k=>posF_none (code:=code) (k:=k)
  have hstep:∀ (k:Nat) (cur:List Ins),stepAt code k cur=if (oldU code (mB code)).getD k 0<0\/tok (cAt code ((oldU code (mB code)).getD k 0))=false then some cur
   else if rightR (patI code k (cAt cur k) (tgt (cAt code ((oldU code (mB code)).getD k 0)) ((oldU code (mB code)).getD k 0)))=true
    then some (cur.set k (patI code k (cAt cur k) (tgt (cAt code ((oldU code (mB code)).getD k 0)) ((oldU code (mB code)).getD k 0)))) else none:=fun k cur=>rfl
  have hpl:=plU_len code (mB code+1)
  refine ⟨_,_,_,cel p16 rfl,?_⟩
  generalize hout:outU code (mB code)=out0 at *
  generalize hold:oldU code (mB code)=od at *
  generalize hplu:plU code (mB code+1)=pl at *
  obtain ⟨mb,hmb⟩:∃ mb:AM,mb=fun k=>if k∈obl A then none else M k:=⟨_,rfl⟩
  have lb:mb.le M:=fun k o hk=>by
   rw [hmb] at hk
   dsimp only at hk
   split at hk
   .cases hk
   .exact hk
  have mbM:∀ k,k∉obl A->mb k=M k:=fun k hk=>by rw [hmb]; exact if_neg hk
  have ncb:∀ k∈obl A,mb k=none:=fun k hk=>by rw [hmb]; exact if_pos hk
  have ocM:=oc.le lM
  have notA:∀ {k:Nat} {cs:Array Value} {T:TypeId} {f:Nat × Nat},M k=some (.cells cs T f)->T≠57->k∉obl A:=fun {k cs T f} hk hT hm=>by
   obtain ⟨_,cur',h1⟩:=ocM.obl_some hm
   rw [hk] at h1
   injection h1 with h1
   injection h1 with _ h1
   exact hT h1
  have p16b:mb b16=some (.cells #[.slice A out0.length c,.slice A1 pl.length c1,.map (some q),.slice A2 od.length c2] 52 (0,0)):=by rw [mbM _ (notA p16 (by decide))]; exact p16
  have oob:Alog.Own mb w0.heap.size 3 1 A2 od.length c2 (intCells .i64 od):=(oo.le lM).keep fun g hg=>mbM g fun hm=>by
   obtain ⟨_,cur',h1⟩:=(oo.le lM).obl_some ((mem_obl hg).2 rfl)
   exact notA h1 (by decide) hm
  have opb:Alog.Own mb w0.heap.size 3 1 A1 pl.length c1 (intCells .i64 pl):=(op.le lM).keep fun g hg=>mbM g fun hm=>by
   obtain ⟨_,cur',h1⟩:=(op.le lM).obl_some ((mem_obl hg).2 rfl)
   exact notA h1 (by decide) hm
  have prb:mb q=some (.map es clk):=by
   rw [mbM _ fun hm=>?_]
   .exact lM _ _ pr
   .obtain ⟨_,cur',h1⟩:=ocM.obl_some hm
    rw [lM _ _ pr] at h1; cases h1
  have rdb:m.le mb:=fun k o hk=>by
   rw [mbM k fun hm=>?_]
   .exact lM _ _ (le15 _ _ hk)
   .rw [nc k hm] at hk; cases hk
  have rd:=rd0.le rdb
  clear p16 ocM notA mbM pr oo op rd0
  have oc0:=oc.le lM
  clear oc
  obtain ⟨I,hI⟩:∃ I:Nat->Int->AM->Prop,I=fun (n:Nat) (k:Int) (m':AM)=>∃ cur,mb.le m'/\posF code k.toNat=some cur/\Alog.Own m' w0.heap.size 57 5 A cur.length c (insCells cur)/\0<=k/\k<=od.length/\(n:Int)=od.length-k:=⟨_,rfl⟩
  obtain ⟨E,hE⟩:∃ E:AM->Prop,E=fun (m':AM)=>∃ cur,mb.le m'/\posF code od.length=some cur/\Alog.Own m' w0.heap.size 57 5 A cur.length c (insCells cur):=⟨_,rfl⟩
  refine vl7_1111010 w0 M _ R A0 code.length c0 b16 A2 od.length c2 od.length 0 I E od.length rfl rfl rfl rfl rfl (by rw [hI]; exact ⟨out0,lb,hinit,oc0,by omega,by omega,by omega⟩) ?_ ?_
  .intro n σ k m' hh
   rw [hI] at hh
   obtain ⟨cur,l',hp,ow,k0,k1,hn⟩:=hh
   have hcl:=hpos _ _ hp
   have wk:IntKind.wrap .i64 (k+1)=k+1:=wrap_s (by omega) (by omega)
   refine ⟨rfl,bcP (fun hlt=>⟨⟨k0,hlt⟩,?_⟩) (fun hlt=>?_)⟩
   .obtain ⟨ad,hA2,hc⟩:=(oob.reads.le l').ex (by omega)
    subst hA2
    rw [nilO_some,wk]
    have hx:=hin (od.getD k.toNat 0) (by simp [List.getD,show k.toNat<od.length by omega])
    have hst:=hstep k.toNat cur
    refine ⟨_,cell_k hc k0 hlt,rfl,?_⟩
    generalize od.getD k.toNat 0=x at hx hst ⊢
    have ek:(k+1).toNat=k.toNat+1:=by omega
    have hsk:=hsucc k.toNat
    rw [hp] at hsk
    have go:∀ (M2:AM) (cur2:List Ins),mb.le M2->stepAt code k.toNat cur=some cur2->Alog.Own M2 w0.heap.size 57 5 A cur2.length c (insCells cur2)->∃ n':Nat,n'<n/\I n' (k+1) M2:=by
     intro M2 cur2 h1 h2 h3
     rw [hI]
     refine ⟨n-1,by omega,cur2,h1,?_,h3,by omega,by omega,by omega⟩
     rw [ek,hsk]; exact h2
    refine bcP (fun h1=>?_) (fun h1=>?_)
    ·(repeat (refine And.intro (Eq.refl _) ?_))
     exact go m' cur l' (by rw [hst,if_pos (.inl h1)]) ow
    .have hx0:0<=x:=by omega
     have hxl:x<code.length:=by omega
     have rd':=rd.le l'
     have hrd:code.length=code.length:=rfl
     refine ldAt rd' rfl hx0 hxl fun a=>?_
     refine CallsA.mono (target_e w0 m' (cAt code x) x) ?_
     rintro r m39 ⟨rfl,hm39⟩
     replace hm39:=hm39.symm; subst hm39
     refine ⟨_,_,rfl,?_⟩
     cases ht:tok (cAt code x) with
     | false =>
      refine bcT ?_
      (repeat (refine And.intro (Eq.refl _) ?_))
      exact go m' cur l' (by rw [hst,if_pos (.inr ht)]) ow
     | true =>
      obtain ⟨qq,hqq,htq⟩:=to_nx hf (k:=x.toNat) (by omega) (by rw [show ((x.toNat:Nat):Int)=x by omega]; exact ht)
      rw [show ((x.toNat:Nat):Int)=x by omega] at htq
      rw [if_neg (by rw [ht]; simp; omega)] at hst
      refine bcF ⟨_,_,_,cel (l' _ _ p16b) rfl,?_⟩
      rw [<- hcl]
      refine ldAt ow.reads rfl k0 (by omega) fun a=>blk5 fun b51 M2 l2 n51 hb51 p51=>?_
      generalize hci:cAt cur k=ci at p51 ⊢
      have hci':cAt cur ((k.toNat:Nat):Int)=ci:=by rw [show ((k.toNat:Nat):Int)=k by omega]; exact hci
      rw [hci',show ((k.toNat:Nat):Int)=k by omega] at hst
      replace p51:M2 b51=some (.cells (Ins.cells ci).toArray 57 (0,0)):=p51
      have lb2:=AM.le_trans l' l2
      refine ⟨_,cel (lb2 _ _ p16b) rfl,anewP code (tgt (cAt code x) x),?_,?_⟩
      .try unfold I_
       rw [htq,<- look_kv hqq]
       exact lookup_int uMap uInt zInt (.inr ⟨q,es,clk,rfl,lb2 _ _ prb,mi⟩) _
      have nb51:mb b51=none:=AM.le_none l' n51
      have ow2:=ow.le l2
      have nA51:b51∉obl A:=fun hm=>obl_some' ow hm n51
      have K:∀ (M5:AM) (σ:Sg) (i2:Ins),i2=patI code k ci (tgt (cAt code x) x)->mb.le M5->Alog.Own M5 w0.heap.size 57 5 A cur.length c (insCells cur)->M5 b51=some (.cells (Ins.cells i2).toArray 57 (0,0))->σ 0=.slice A0 code.length c0->σ 5=.pointer (some ⟨b16,0,none⟩)->σ 6=.int .i64 k->σ 10=.pointer (some ⟨b51,0,none⟩)->σ 21=.slice (some ad) od.length c2->σ 22=.int .i64 od.length->σ 23=.int .i64 k->(XV w0 F7 (lq7_1111010 R A0 code.length c0 b16 (some ad) od.length c2 (od.length:Int) I E n) 1025663 σ M5):=by
       intro M5 σ i2 hi2 l5 o5 p5 h0 h5 h6 h10 h21 h22 h23
       rw [<- hi2] at hst
       refine vk7_1111010011001111111 w0 M5 σ R n _ _ A0 code.length c0 b16 k b51 (some ad) od.length c2 od.length k h0 h5 h6 h10 h21 h22 h23 ?_
       refine ldIns p5 (callB (right_e w0 M5 i2) ?_)
       cases hr:rightR i2 with
       | false =>
        rw [hr,if_neg (by simp)] at hst
        refine bcT (bad M5 3 (AM.le_trans rdb l5) ?_)
        have hn1:posF code (k.toNat+1)=none:=by rw [hsk]; exact hst
        have hn2:=hnone _ hn1 (out0.length-(k.toNat+1))
        rw [show k.toNat+1+(out0.length-(k.toNat+1))=out0.length by omega] at hn2
        rw [hre,hn2]
       | true =>
        rw [hr,if_pos rfl] at hst
        refine bcF ⟨_,_,_,cel (l5 _ _ p16b) rfl,?_⟩
        refine ldIns p5 ⟨⟨k0,by omega⟩,?_⟩
        obtain ⟨aA,hA,_⟩:=o5.ex (by omega)
        subst hA
        rw [nilO_some,wk]
        refine o5.storeRow (f:=Ins.cells) Ins.len (k:=k.toNat) (by omega) i2 (K:=fun m94=>_) fun gA cur' hA ho=>?_
        (repeat (refine And.intro (Eq.refl _) ?_))
        subst hA
        exact go _ _ (le_upd_fresh l5 (ncb gA (by simp [obl]))) hst ho
      have set4:∀ v:Int,((Ins.cells ci).toArray.setIfInBounds 4 (.int .i64 v))=(Ins.cells { ci with imm:=v }).toArray:=fun v=>by simp [Ins.cells]
      have stp:∀ (M4:AM) (i4:Ins),mb.le M4->Alog.Own M4 w0.heap.size 57 5 A cur.length c (insCells cur)->mb.le (M4.upd b51 (.cells (Ins.cells i4).toArray 57))/\Alog.Own (M4.upd b51 (.cells (Ins.cells i4).toArray 57)) w0.heap.size 57 5 A cur.length c (insCells cur):=fun M4 i4 h1 h2=>⟨le_upd_fresh h1 nb51,h2.keep fun g hg=>upd_get_ne fun e=>nA51 ((mem_obl hg).2 e.symm)⟩
      refine StC_own p51 hb51 (by simp [Ins.cells]) ?_
      rw [set4]
      obtain ⟨l6,o6⟩:=stp M2 { ci with imm:=anewP code (tgt (cAt code x) x) } lb2 ow2
      have p6:(M2.upd b51 (.cells (Ins.cells { ci with imm:=anewP code (tgt (cAt code x) x) }).toArray 57)) b51=some (.cells (Ins.cells { ci with imm:=anewP code (tgt (cAt code x) x) }).toArray 57 (0,0)):=upd_get_same
      generalize M2.upd b51 (.cells (Ins.cells { ci with imm:=anewP code (tgt (cAt code x) x) }).toArray 57)=M6 at l6 o6 p6 ⊢
      have br:∀ (h15:ci.op=15\/ci.op=16),∃ i62:Int,M6.cell ⟨b51,4,none⟩=some (.int .i64 i62)/\IntKind.i64=IntKind.i64/\IntKind.i64=IntKind.i64/\StC w0.heap.size M6 ⟨b51,4,none⟩ (.int .i64 (IntKind.wrap .i64 (i62-(IntKind.wrap .i64 (k+1))))) fun m63=>(∃ i2:Ins,i2=patI code k ci (tgt (cAt code x) x)/\mb.le m63/\Alog.Own m63 w0.heap.size 57 5 A cur.length c (insCells cur)/\m63 b51=some (.cells (Ins.cells i2).toArray 57 (0,0))):=by
       intro h15
       refine ⟨_,cel p6 rfl,rfl,rfl,StC_own p6 hb51 (by simp [Ins.cells]) ?_⟩
       have set42:∀ v:Int,((Ins.cells { ci with imm:=anewP code (tgt (cAt code x) x) }).toArray.setIfInBounds 4 (.int .i64 v))=(Ins.cells { ci with imm:=v }).toArray:=fun v=>by simp [Ins.cells]
       rw [set42]
       obtain ⟨l7,o7⟩:=stp M6 { ci with imm:=IntKind.wrap .i64 (anewP code (tgt (cAt code x) x)-IntKind.wrap .i64 (k+1)) } l6 o6
       refine ⟨_,?_,l7,o7,upd_get_same⟩
       unfold patI w64
       rw [if_pos h15]
      rw [wk] at br
      refine ⟨_,cel p6 rfl,rfl,?_⟩
      have stmono:∀ {v:Value} {P Q:AM->Prop},StC w0.heap.size M6 ⟨b51,4,none⟩ v P->(∀ m,P m->Q m)->StC w0.heap.size M6 ⟨b51,4,none⟩ v Q:=fun {v P Q} h hPQ=>by
       unfold StC at h ⊢
       exact ⟨h.1,h.2.1,h.2.2.1,hPQ _ h.2.2.2⟩
      refine bcI (fun h15=>⟨h15,?_⟩) (fun h15=>⟨_,cel p6 rfl,rfl,?_⟩)
      .obtain ⟨i62,hc62,e1,e2,hst62⟩:=br (.inl (by simpa using h15))
       refine ⟨i62,hc62,e1,e2,stmono hst62 fun m63 ⟨i2,hi2,l7,o7,p7⟩=>?_⟩
       exact K m63 _ i2 hi2 l7 o7 p7 rfl rfl rfl rfl rfl rfl rfl
      .rw [h15]
       refine bcI (fun h16=>?_) (fun h16=>?_)
       .obtain ⟨i62,hc62,e1,e2,hst62⟩:=br (.inr (by simpa using h16))
        refine ⟨i62,hc62,e1,e2,stmono hst62 fun m63 ⟨i2,hi2,l7,o7,p7⟩=>?_⟩
        exact K m63 _ i2 hi2 l7 o7 p7 rfl rfl rfl rfl rfl rfl rfl
       .refine K M6 _ _ ?_ l6 o6 p6 rfl rfl rfl rfl rfl rfl rfl
        have h15':ci.op≠15:=by simpa using h15
        have h16':ci.op≠16:=by simpa using h16
        unfold patI
        rw [if_neg (by omega)]
   ·(repeat (refine And.intro (Eq.refl _) ?_))
    rw [show k.toNat=od.length by omega] at hp
    rw [hE]
    exact ⟨cur,l',hp,ow⟩
  .intro σ m' hh
   rw [hE] at hh
   obtain ⟨cur,l',hp,ow⟩:=hh
   have hcl:=hpos _ _ hp
   refine ⟨_,_,_,cel (l' _ _ p16b) rfl,_,_,_,cel (l' _ _ p16b) rfl,?_⟩
   rw [hoL] at hp
   rw [hp] at hre
   rw [<- hR,hre,<- hcl]
   exact retP_of ⟨A,c,A1,c1,rfl,ow,opb.le l',nc,np,AM.le_trans rdb l'⟩
end Go.Proofs.YtgjamnhjlaohaaaGreatDoor.S
namespace Go.Proofs.YtgjamnhjlaohaaaGreatDoor.V
open Go Go.Alog Go.Proofs.YtgjamnhjlaohaaaGreatDoor.T
variable (w0:World) (m:AM)
noncomputable abbrev cf6 (x0:Option Addr) (x0n x0c:Nat) (x1:Int) (R:RT):Vn (C_ w0 6 #[.slice x0 x0n x0c,I_ x1] m R):=mkF (F:=F6) Tryz.func6 (by dsimp only [push_cast,↓u1,↓u2,↓u3,Nat.reduceAdd,Nat.reduceBEq,Nat.reduceDiv,Nat.reduceMod]) (by kernel_rfl)
noncomputable abbrev vl6_11010 (σ:Sg) (R:RT) (x0:Option Addr) (x0n x0c:Nat) (x1:Int) (x4:Nat) (x18:Option Addr) (x18n x18c:Nat) (x19:Int) (x8:Option Addr) (x8n x8c:Nat) (x20:Int) (I0:Nat->Option Addr->Nat->Nat->Int->AM->Prop) (E0_0:Option Addr->Nat->Nat->AM->Prop) (N:Nat) (h0:σ 0=.slice x0 x0n x0c) (h1:σ 1=I_ x1) (h4:σ 4=pt_ x4) (h8:σ 8=.slice x8 x8n x8c) (h18:σ 18=.slice x18 x18n x18c) (h19:σ 19=I_ x19) (h20:σ 20=I_ x20) (h_0:I0 N x8 x8n x8c x20 m):Vn (Vn (XV w0 F6 (Tz R) 58 σ m)):=mkL1 (lq6_11010 R x0 x0n x0c x1 x4 x18 x18n x18c x19 I0 E0_0) (fun _=>rfl) N (cs h0 (cs h1 (cs h4 (cs h18 (cs h19 nl))))) (cs h8 (cs h20 nl)) h_0 (by dsimp only [push_cast,↓u1,↓u2,↓u3,Nat.reduceAdd,Nat.reduceBEq,Nat.reduceDiv,Nat.reduceMod]) (by dsimp only [push_cast,↓u1,↓u2,↓u3,Nat.reduceAdd,Nat.reduceBEq,Nat.reduceDiv,Nat.reduceMod]) (by kernel_rfl)
noncomputable abbrev cf9 (x0_0:Option Addr) (x0_0n x0_0c:Nat) (x0_1:Int) (x0_2:Option Addr) (x0_2n x0_2c:Nat) (x0_3:Int) (x1:Option Addr) (x1n x1c:Nat) (x2:Int) (R:RT):Vn (C_ w0 9 #[.agg #[.slice x0_0 x0_0n x0_0c,I_ x0_1,.slice x0_2 x0_2n x0_2c,I_ x0_3],.slice x1 x1n x1c,I_ x2] m R):=mkF (F:=F9) Tryz.func9 (by dsimp only [push_cast,↓u1,↓u2,↓u3,Nat.reduceAdd,Nat.reduceBEq,Nat.reduceDiv,Nat.reduceMod]) (by kernel_rfl)
noncomputable abbrev cf10 (x0_0:Option Addr) (x0_0n x0_0c:Nat) (x0_1:Int) (x0_2:Option Addr) (x0_2n x0_2c:Nat) (x0_3:Int) (x1:Option Addr) (x1n x1c:Nat) (x2:Int) (R:RT):Vn (C_ w0 10 #[.agg #[.slice x0_0 x0_0n x0_0c,I_ x0_1,.slice x0_2 x0_2n x0_2c,I_ x0_3],.slice x1 x1n x1c,I_ x2] m R):=mkF (F:=F10) Tryz.func10 (by dsimp only [push_cast,↓u1,↓u2,↓u3,Nat.reduceAdd,Nat.reduceBEq,Nat.reduceDiv,Nat.reduceMod]) (by kernel_rfl)
noncomputable abbrev cf3 (x0:Option Addr) (x0n x0c:Nat) (x1:Int) (R:RT):Vn (C_ w0 3 #[.slice x0 x0n x0c,I_ x1] m R):=mkF (F:=F3) Tryz.func3 (by dsimp only [push_cast,↓u1,↓u2,↓u3,Nat.reduceAdd,Nat.reduceBEq,Nat.reduceDiv,Nat.reduceMod]) (by kernel_rfl)
noncomputable abbrev cf4 (x0:Option Addr) (x0n x0c:Nat) (R:RT):Vn (C_ w0 4 #[.slice x0 x0n x0c] m R):=mkF (F:=F4) Tryz.func4 (by dsimp only [push_cast,↓u1,↓u2,↓u3,Nat.reduceAdd,Nat.reduceBEq,Nat.reduceDiv,Nat.reduceMod]) (by kernel_rfl)
noncomputable abbrev vl4_1010 (σ:Sg) (R:RT) (x0:Option Addr) (x0n x0c:Nat) (x5:Option Addr) (x5n x5c:Nat) (x6 x7:Int) (I0:Nat->Int->AM->Prop) (E0_0:AM->Prop) (N:Nat) (h0:σ 0=.slice x0 x0n x0c) (h5:σ 5=.slice x5 x5n x5c) (h6:σ 6=I_ x6) (h7:σ 7=I_ x7) (h_0:I0 N x7 m):Vn (Vn (XV w0 F4 (Tz R) 26 σ m)):=mkL1 (lq4_1010 R x0 x0n x0c x5 x5n x5c x6 I0 E0_0) (fun _=>rfl) N (cs h0 (cs h5 (cs h6 nl))) (cs h7 nl) h_0 (by dsimp only [push_cast,↓u1,↓u2,↓u3,Nat.reduceAdd,Nat.reduceBEq,Nat.reduceDiv,Nat.reduceMod]) (by dsimp only [push_cast,↓u1,↓u2,↓u3,Nat.reduceAdd,Nat.reduceBEq,Nat.reduceDiv,Nat.reduceMod]) (by kernel_rfl)
noncomputable abbrev cf5 (R:RT):Vn (C_ w0 5 #[] m R):=mkF (F:=F5) Tryz.func5 (by dsimp only [push_cast,↓u1,↓u2,↓u3,Nat.reduceAdd,Nat.reduceBEq,Nat.reduceDiv,Nat.reduceMod]) (by kernel_rfl)
noncomputable abbrev vr5_110 (σ:Sg) (R:RT) (x1:Nat) (x4:Int) (K:Nat->Nat->AM->Prop) (h1:σ 1=pt_ x1) (h4:σ 4=I_ x4):Vn (Vn (XV w0 F5 (Tz R) 14 σ m)):=mkR (.o 0 (.o 2 (.a (.o 1 (.a (.o 3 (.a (.o 4 (.o 5 (.o 6 (.o 7 .z)))) (.o 5 (.o 4 (.o 6 (.o 7 .z)))))) (.a (.o 4 (.a (.o 3 (.o 5 (.o 6 (.o 7 .z)))) (.o 5 (.o 3 (.o 6 (.o 7 .z)))))) (.o 5 (.a (.o 3 (.o 4 (.o 6 (.o 7 .z)))) (.o 4 (.o 3 (.o 6 (.o 7 .z))))))))) (.a (.o 4 (.a (.o 1 (.a (.o 3 (.o 5 (.o 6 (.o 7 .z)))) (.o 5 (.o 3 (.o 6 (.o 7 .z)))))) (.o 5 (.o 1 (.o 3 (.o 6 (.o 7 .z))))))) (.o 5 (.a (.o 1 (.a (.o 3 (.o 4 (.o 6 (.o 7 .z)))) (.o 4 (.o 3 (.o 6 (.o 7 .z)))))) (.o 4 (.o 1 (.o 3 (.o 6 (.o 7 .z))))))))))) [4] (ks:=[(5,.p),(6,.p)]) K (cs h1 (cs h4 nl)) (by dsimp only [push_cast,↓u1,↓u2,↓u3,Nat.reduceAdd,Nat.reduceBEq,Nat.reduceDiv,Nat.reduceMod]) (by dsimp only [push_cast,↓u1,↓u2,↓u3,Nat.reduceAdd,Nat.reduceBEq,Nat.reduceDiv,Nat.reduceMod]) (by kernel_rfl)
end Go.Proofs.YtgjamnhjlaohaaaGreatDoor.V
namespace Go.Proofs.YtgjamnhjlaohaaaGreatDoor.S
open Go Go.RowKit Go.Alog Go.Proofs.YtgjamnhjlaohaaaGreatDoor.T Go.Proofs.YtgjamnhjlaohaaaGreatDoor.V
structure Good (P:CS->Prop) (mem:Int) (x:ByteArray) (c':List Ins):Prop where
 sc:(scanP x).2.2=0
 ok:∀ s,P s->s.e=0/\s.code.length<=4096
 si:∀ s y,P s->y.o=s.ob->Simple y mem c'
 re:(reorgP c').2.2=0
def oBuild (m0 : AM) (texts : List ByteArray) (P : CS -> Prop) (mem : Int) (r : Value) (m' : AM) : Prop := m0.le m' /\ ∃ (A1 : Option Addr) (n1 c1 : Nat) (d : Int) (A2 : Option Addr) (n2 c2 : Nat) (mm i j e : Int),
  r = .tuple #[.agg #[.slice A1 n1 c1, .int .i64 d, .slice A2 n2 c2, .int .i64 mm], .int .i64 i, .int .i64 j, .int .i64 e] /\
  ((e ≠ 0 /\ n2 = 0 /\ ∀ x c', texts = [x] -> Good P mem x c' -> False) \/
   (e = 0 /\ mm = mem /\ ∃ code, n1 = code.length /\ code.length <= 4096 /\ (reorgP code).2.2 = 0 /\ n2 = (reorgP code).1.length /\ n2 <= c2 /\ Reads m' 5 A1 code.length (insCells code) /\ Reads m' 5 A2 (reorgP code).1.length (insCells (reorgP code).1) /\ ∀ x c', texts = [x] -> Good P mem x c' -> code = c'))
def zBt:List Value:=[.slice none 0 0,.int .i64 0,.slice none 0 0,.int .i64 0]
theorem elO:elOf Tryz.prog 41=some (45,6,120,obVal ByteArray.empty none 0 0 0 none 0 0 none 0 0 none 0 0):=by kernel_rfl
theorem obk {A:Option Addr} {ad:Addr} (e:A=some ad):ad.block∈obl A:=by subst e; simp [obl]
theorem reads_away {m:AM} {sz n:Nat} {A:Option Addr} {xs:List Value} (h:Reads m sz A n xs) {b:Nat} {o:Obj} (hf:∀ ad,A=some ad->ad.block≠b):Reads (m.upd b o) sz A n xs:=by
 refine ⟨h.1,?_⟩
 rcases h.2 with h2 | ⟨ad,hA,hc⟩
 .exact .inl h2
 .refine .inr ⟨ad,hA,fun j u hu=>?_⟩
  have hc':=hc j u hu
  unfold AM.cell at hc' ⊢
  rw [add_block] at hc' ⊢
  rw [upd_get_ne (hf ad hA)]
  exact hc'
theorem build_of (w0:World) (m:AM) (A0:Option Addr) (c0:Nat) (texts:List ByteArray) (mem:Int) (P:CS->Prop) (hl:texts.length<=8) (rd:Reads m 1 A0 texts.length (texts.map Value.string)) (hP:∀ s,P s->s.ob.small 100000)
  (hcomp:∀ x∈texts,∀ M,m.le M->CallsA Tryz.prog w0 11 #[.string x] M (oComp M P x)) :
  CallsA Tryz.prog w0 6 #[.slice A0 texts.length c0,.int .i64 mem] m (oBuild m texts P mem):=by
 generalize hR:oBuild m texts P mem=R
 refine cf6 w0 m A0 texts.length c0 mem R ?_
 intro b1 hB1 hN1 M
 have l1:m.le M:=le_new hN1 _
 have p1:M b1=some (.cells zBt.toArray 29):=upd_get_same
 clear_value M
 have lup:∀ {M:AM} {o:Obj},m.le M->m.le (M.upd b1 o):=fun l k o hk=>by
  have:k≠b1:=fun e=>by rw [e,hN1] at hk; cases hk
  rw [upd_get_ne this]; exact l _ _ hk
 have err:∀ (i j e:Int) (M':AM),m.le M'->M' b1=some (.cells zBt.toArray 29)->e≠0->(∀ x c',texts = [x]->Good P mem x c'->False) ->
   StC w0.heap.size M' ⟨b1,0,none⟩ (.slice none 0 0) fun m3=>StC w0.heap.size m3 ⟨b1,1,none⟩ (.int .i64 0) fun m4=>StC w0.heap.size m4 ⟨b1,2,none⟩ (.slice none 0 0) fun m5=>StC w0.heap.size m5 ⟨b1,3,none⟩ (.int .i64 0) fun m6 =>
   ∃ (A:Option Addr) (n c:Nat),m6.cell ⟨b1,0,none⟩=some (.slice A n c)/\∃ d:Int,m6.cell ⟨b1,1,none⟩=some (.int .i64 d)/\∃ (A2:Option Addr) (n2 c2:Nat),m6.cell ⟨b1,2,none⟩=some (.slice A2 n2 c2)/\∃ d2:Int,m6.cell ⟨b1,3,none⟩=some (.int .i64 d2) /\
   RetP R (.tuple #[.agg #[.slice A n c,.int .i64 d,.slice A2 n2 c2,.int .i64 d2],.int .i64 i,.int .i64 j,.int .i64 e]) m6:=fun i j e M' l p he hno=>by
  refine StC_own p hB1 (by simp [zBt]) (StC_own upd_get_same hB1 (by simp [zBt]) (StC_own upd_get_same hB1 (by simp [zBt]) (StC_own upd_get_same hB1 (by simp [zBt]) ?_)))
  rw [upd_upd,upd_upd,upd_upd]
  refine ⟨_,_,_,cel upd_get_same rfl,_,cel upd_get_same rfl,_,_,_,cel upd_get_same rfl,_,cel upd_get_same rfl,retP_of ?_⟩
  rw [<- hR]
  exact ⟨lup l,none,0,0,0,none,0,0,0,i,j,e,rfl,.inl ⟨he,rfl,hno⟩⟩
 have one:∀ {x:ByteArray},texts = [x]->texts.length=1/\(∀ y∈texts,y=x):=fun {x} h=>by rw [h]; simp
 refine vl6_11010 w0 M _ R A0 texts.length c0 mem b1 A0 texts.length c0 texts.length none 0 0 0
  (fun n A An Ac j m'=>∃ (q:Nat) (acc:List OV) (X:AM),j=q/\q<=texts.length/\n=texts.length-q/\acc.length=q/\An=q/\M.le X/\X.le m'/\(∀ y∈acc,y.ok X)/\Alog.Own m' w0.heap.size 45 6 A q Ac (acc.flatMap OV.cells)/\(∀ k∈obl A,X k=none)/\(∀ x,texts = [x]->q=1->∃ y s',acc = [y]/\P s'/\y.o=s'.ob))
  (fun A An Ac m'=>∃ (acc:List OV) (X:AM),acc.length=texts.length/\An=acc.length/\M.le X/\X.le m'/\(∀ y∈acc,y.ok X)/\Alog.Own m' w0.heap.size 45 6 A acc.length Ac (acc.flatMap OV.cells)/\(∀ x,texts = [x]->∃ y s',acc = [y]/\P s'/\y.o=s'.ob)) texts.length rfl rfl rfl rfl rfl rfl rfl
  ⟨0,[],M,rfl,by omega,by omega,rfl,rfl,AM.le_refl _,AM.le_refl _,nofun,Alog.Own.nil _ _ _ _,by simp [obl],fun x _ h=>by omega⟩ ?_ ?_
 .rintro n σ A An Ac j m2 ⟨q,acc,X,rfl,hq,rfl,hacc,hAn,lX,lm,hok,hown,hno,hone⟩
  subst An
  have hw1:IntKind.wrap .i64 ((q:Int)+1)=((q+1:Nat):Int):=by rw [IntKind.wrap_i64]; omega
  have lM:=AM.le_trans lX lm
  refine ⟨rfl,bcP (fun hlt=>?_) fun hge=>⟨rfl,rfl,rfl,rfl,rfl,rfl,acc,X,by omega,by omega,lX,lm,hok,by rw [hacc]; exact hown,fun x hx=>hone x hx (by have:=(one hx).1; omega)⟩⟩
  have hq':q<texts.length:=by omega
  obtain ⟨a,hA,hc⟩:=(rd.le (AM.le_trans l1 lM)).ex (by omega)
  have h1:=hc q (.string texts[q]) (by simp [hq'])
  have eq:(q:Int).toNat=q:=by omega
  rw [eq,Nat.mul_one]
  refine ⟨⟨by omega,hlt⟩,nilO_at hA ⟨_,h1,?_⟩⟩
  refine CallsA.mono (hcomp _ (List.getElem_mem _) m2 (AM.le_trans l1 lM)) ?_
  rintro r m3 ⟨l3,v,at_,e,rfl,hres⟩
  have l13:=AM.le_trans lM l3
  rcases hres with ⟨he,⟨A1,c1,A2,c2,A3,c3,A4,c4,rfl,hob⟩,hbad⟩ | ⟨rfl,s',hs',he',hlen,hob⟩
  .refine ⟨_,_,_,_,_,_,_,_,_,_,_,_,_,_,_,_,rfl,?_⟩
   intro b hB hN M3
   refine fill6 hB rfl upd_get_same _ _ _ _ _ _ _ _ _ _ _ _ _ _ ⟨rfl,bcET (by simpa using he) ⟨rfl,?_⟩⟩
   have l4:m3.le ((m3.upd b (.cells zObj.toArray 45)).upd b (.cells ([.string noOb.name,.slice A1 noOb.code.length c1,.int .i64 noOb.data,.slice A2 noOb.exps.length c2,.slice A3 noOb.imps.length c3,.slice A4 noOb.pats.length c4]:List Value).toArray 45)):=by rw [upd_upd]; exact le_new hN _
   refine err _ _ _ _ (AM.le_trans l1 (AM.le_trans l13 l4)) (l4 _ _ (l13 _ _ p1)) he fun x c' hx hg=>?_
   have ex:=(one hx).2 texts[q] (List.getElem_mem _)
   obtain ⟨s',h2,h3⟩:=hbad (by rw [ex]; exact hg.sc)
   exact h3 (hg.ok _ h2)
  .obtain ⟨y,hy,rfl,hyo⟩:=hob.ov (hP _ hs')
   refine ⟨_,_,_,_,_,_,_,_,_,_,_,_,_,_,_,_,rfl,?_⟩
   intro b hB hN M3
   refine fill6 hB rfl upd_get_same _ _ _ _ _ _ _ _ _ _ _ _ _ _ ⟨rfl,bcEF rfl ?_⟩
   rw [upd_upd]
   refine read6 upd_get_same ⟨rfl,?_⟩
   have l4:m3.le (m3.upd b (.cells y.cells.toArray 45)):=le_new hN _
   intro b2 hB2 hN2 M4
   have l5:(m3.upd b (.cells y.cells.toArray 45)).le M4:=le_new hN2 _
   have p5:M4 b2=some (.cells y.cells.toArray 45):=upd_get_same
   replace l5:=AM.le_trans l4 l5
   clear_value M4
   refine awp_append_own elO (hown.le (AM.le_trans l3 l5)) (rd_of p5 rfl) (by simp [OV.cells,obVal,Value.oneCell']) (by omega) (by omega) (fun g cp' cur hor hB3 ho=>?_) (fun h0=>by omega)
   have dA:∀ {k o},X k=some o->k∉obl A:=fun h hin=>by rw [hno _ hin] at h; cases h
   have gX:∀ {k},k∉obl A->m3 k≠none->k≠g:=fun {k} h1 h2 e=>by
    rcases hor with hA' | hA'
    .exact h1 (e ▸ obl_mem hA')
    .exact h2 (AM.le_none l5 (e ▸ hA'))
   refine ⟨_,_,_,rfl,rfl,rfl,rfl,rfl,rfl,rfl,rfl,rfl,texts.length-(q+1),by omega,q+1,acc ++ [y],fun k=>if k∈obl A then none else m3 k,hw1,by omega,rfl,by simp [hacc],rfl,fun k o hk=>?_,fun k o hk=>?_,fun z hz=>?_,?_,fun k hk=>?_,fun x hx h1q=>?_⟩
   .show (if k∈obl A then none else m3 k)=some o
    rw [if_neg (dA (lX _ _ hk))]; exact l13 _ _ hk
   .replace hk:(if k∈obl A then none else m3 k)=some o:=hk
    by_cases hin:k∈obl A
    .rw [if_pos hin] at hk; cases hk
    .rw [if_neg hin] at hk
     rw [upd_get_ne (gX hin (by rw [hk]; simp))]
     exact l5 _ _ hk
   .rcases List.mem_append.1 hz with hz | hz
    .refine (hok z hz).le fun k o hk=>?_
     show (if k∈obl A then none else m3 k)=some o
     rw [if_neg (dA hk)]; exact l3 _ _ (lm _ _ hk)
    .rw [List.mem_singleton.1 hz]
     refine hyo.le fun k o hk=>?_
     unfold AM.dif at hk
     cases e:m2 k with
     | some o'=>rw [e] at hk; cases hk
     | none =>
      rw [e] at hk
      show (if k∈obl A then none else m3 k)=some o
      rw [if_neg fun hin=>by
       obtain ⟨_,cur,h9⟩:=hown.obl_some hin
       rw [e] at h9; cases h9]
      exact hk
   .rw [List.flatMap_append,List.flatMap_singleton]; exact ho
   .show (if k∈obl A then none else m3 k)=none
    have e:k=g:=by simpa [obl] using hk
    by_cases hin:k∈obl A
    .exact if_pos hin
    .rw [if_neg hin]
     cases h9:m3 k with
     | none=>rfl
     | some o=>exact absurd e (gX hin (by rw [h9]; simp))
   .have:acc = []:=List.eq_nil_of_length_eq_zero (by omega)
    exact ⟨y,s',by rw [this]; rfl,hs',hy⟩
 .rintro σ A An Ac m2 ⟨acc,X,hacc,hAn,lX,lm,hok,hown,hone⟩
  subst An
  have lM:=AM.le_trans lX lm
  refine CallsA.mono (link_w w0 m2 acc A Ac mem hown.reads (fun y hy=>(hok y hy).le lm) (by omega)) ?_
  rintro r m3 ⟨l3,A1,n1,c1,d,e,rfl,hres⟩
  have l13:=AM.le_trans lM l3
  refine ⟨_,_,_,_,_,rfl,?_⟩
  intro b hB hN M3
  refine StC_own upd_get_same hB (by simp) (StC_own upd_get_same hB (by simp) ?_)
  rw [upd_upd,upd_upd,show ((#[Value.slice none 0 0,Value.int .i64 0].setIfInBounds 0 (Value.slice A1 n1 c1)).setIfInBounds 1 (Value.int .i64 d)) = #[Value.slice A1 n1 c1,Value.int .i64 d] from rfl]
  have l4:m3.le (m3.upd b (.cells #[.slice A1 n1 c1,.int .i64 d] 27)):=le_new hN _
  have p4:(m3.upd b (.cells #[.slice A1 n1 c1,.int .i64 d] 27)) b=some (.cells #[.slice A1 n1 c1,.int .i64 d] 27 (0,0)):=upd_get_same
  revert l4 p4
  generalize m3.upd b (.cells #[.slice A1 n1 c1,.int .i64 d] 27)=m4
  intro l4 p4
  have l14:=AM.le_trans l13 l4
  have sim:∀ x c',texts = [x]->Good P mem x c'->∃ y,acc = [y]/\Simple y mem c':=fun x c' hx hg=>by
   obtain ⟨y,s',h1,h2,h3⟩:=hone x hx
   exact ⟨y,h1,hg.si s' y h2 h3⟩
  rcases hres with ⟨he,rfl,rfl,hno⟩ | ⟨rfl,code,rfl,rdc,hcap,hlen,hnl,hex⟩
  .refine ⟨rfl,bcET (by simpa using he) ⟨rfl,err _ _ _ _ (AM.le_trans l1 l14) (l14 _ _ p1) he fun x c' hx hg=>?_⟩⟩
   obtain ⟨y,h1,h2⟩:=sim x c' hx hg
   exact hno y c' h1 h2
  refine ⟨rfl,bcEF rfl ⟨_,_,_,cel p4 rfl,?_⟩⟩
  refine CallsA.mono (reorg_spec w0 m4 A1 c1 code (by omega) hcap (rdc.le l4)) ?_
  rintro r m5 ⟨A5,c5,A6,c6,rfl,o5,o6,n5,n6,l5⟩
  have l15:=AM.le_trans l14 l5
  refine ⟨_,_,_,_,_,_,_,rfl,rfl,bcI (fun hz=>?_) fun hz=>?_⟩
  .have hz:(reorgP code).2.2≠0:=by simpa using hz
   refine ⟨rfl,err _ _ _ _ (AM.le_trans l1 l15) (l15 _ _ p1) hz fun x c' hx hg=>?_⟩
   obtain ⟨y,h1,h2⟩:=sim x c' hx hg
   rw [hex y c' h1 h2] at hz
   exact hz hg.re
  .have hz:(reorgP code).2.2=0:=by simpa using hz
   have p5:=l5 _ _ p4
   have pb:=l15 _ _ p1
   refine ⟨_,_,_,cel p5 rfl,_,cel p5 rfl,rfl,?_⟩
   refine StC_own pb hB1 (by simp [zBt]) (StC_own upd_get_same hB1 (by simp [zBt]) (StC_own upd_get_same hB1 (by simp [zBt]) (StC_own upd_get_same hB1 (by simp [zBt]) ?_)))
   rw [upd_upd,upd_upd,upd_upd]
   refine ⟨_,_,_,cel upd_get_same rfl,_,cel upd_get_same rfl,_,_,_,cel upd_get_same rfl,_,cel upd_get_same rfl,retP_of ?_⟩
   rw [<- hR]
   refine ⟨lup (AM.le_trans l1 l15),A1,code.length,c1,d,A5,_,c5,mem,0,0,0,rfl,.inr ⟨rfl,rfl,code,rfl,hlen,hz,rfl,o5.2.1,reads_away (rdc.le (AM.le_trans l4 l5)) fun ad e=>?_,reads_away o5.reads fun ad e=>?_,fun x c' hx hg=>?_⟩⟩
   .have:=hnl ad.block (obk e)
    rintro rfl
    have h9:=lM _ _ p1
    rw [this] at h9; cases h9
   .have:=n5 ad.block (obk e)
    rintro rfl
    have h9:=l14 _ _ p1
    rw [this] at h9; cases h9
   .obtain ⟨y,h1,h2⟩:=sim x c' hx hg
    exact hex y c' h1 h2
section
variable {w0:World} {mt m0 m:AM} {c:Nat} {s:CS}
theorem has_f (h:CIx mt m0 m w0.heap.size c s) {x:ByteArray} (hs:s.sees x=false):CallsA Tryz.prog w0 46 #[.pointer (some ⟨c,0,none⟩),.string x] m (fun r m'=>r=.bool false/\CIx mt m0 m' w0.heap.size c s) :=
 CallsA.mono (has_c w0 mt m0 m c s x h) fun r m' ⟨h1,h2⟩=>⟨by rw [h1,hs],by unfold CS.has at h2; rw [hs] at h2; exact h2⟩
theorem has_t (h:CIx mt m0 m w0.heap.size c s) {x:ByteArray} (hs:s.sees x=true):CallsA Tryz.prog w0 46 #[.pointer (some ⟨c,0,none⟩),.string x] m (fun r m'=>r=.bool true/\CIx mt m0 m' w0.heap.size c s.nxt) :=
 CallsA.mono (has_c w0 mt m0 m c s x h) fun r m' ⟨h1,h2⟩=>⟨by rw [h1,hs],by unfold CS.has at h2; rw [hs] at h2; exact h2⟩
theorem must_t (h:CIx mt m0 m w0.heap.size c s) {x:ByteArray} (hs:s.sees x=true):CallsA Tryz.prog w0 47 #[.pointer (some ⟨c,0,none⟩),.string x] m (fun r m'=>r=.tuple #[]/\CIx mt m0 m' w0.heap.size c s.nxt) :=
 CallsA.mono (must_c w0 mt m0 m c s x h) fun r m' ⟨h1,h2⟩=>⟨h1,by unfold CS.must at h2; rw [hs] at h2; exact h2⟩
theorem CIx.lde (h:CIx mt m0 m w0.heap.size c s):m.cell ⟨c,13,none⟩=some (.int .i64 s.e):=by
 obtain ⟨At,ct,L,h⟩:=h
 exact cel h.ps rfl
theorem const_x (h:CIx mt m0 m w0.heap.size c s) (r n:Int) (h1 : -32768<=n) (h2:n<=32767) (hl:s.code.length<=1000000) :
  CallsA Tryz.prog w0 215 #[.pointer (some ⟨c,2,none⟩),.int .i64 r,.int .i64 n] m (fun r' m'=>r'=.tuple #[]/\CIx mt m0 m' w0.heap.size c (s.put ⟨10,r,0,0,n⟩)):=by
 refine cf215 w0 m c _ _ _ ?_
 refine CallsA.mono (fitsW w0 m n) ?_
 rintro r1 m1 ⟨rfl,rfl⟩
 refine ⟨_,rfl,?_⟩
 rw [decide_eq_true (show -32768<=n/\n<=32767 from ⟨h1,h2⟩)]
 refine bcT ⟨rfl,?_⟩
 refine CallsA.mono (put_c w0 mt m0 m1 c s ⟨10,r,0,0,n⟩ h hl) ?_
 rintro r4 m4 ⟨rfl,k4⟩
 exact ⟨_,rfl,retP_of ⟨rfl,k4⟩⟩
structure AtNum (s:CS):Prop where
 n1:s.sees (ByteArray.mk #[40])=false
 n2:s.sees (ByteArray.mk #[45])=false
 n3:s.sees (ByteArray.mk #[110,111,116])=false
 n4:s.isName=false
 n5:s.isNum=true
 e:s.e=0
 t:(s.taken == 8)=false
 v1 : -32768<=s.num
 v2:s.num<=32767
 l:s.code.length<=1000
def CS.cst (s:CS):CS:=s.nxt.take.put ⟨10,s.nxt.reg,0,0,s.num⟩
theorem factor_x (a:AtNum s) (h:CIx mt m0 m w0.heap.size c s):CallsA Tryz.prog w0 208 #[.pointer (some ⟨c,0,none⟩)] m (fun r m'=>r=.int .i64 s.nxt.reg/\CIx mt m0 m' w0.heap.size c s.cst):=by
 refine cf208 w0 m c _ ?_
 refine CallsA.mono (where_c w0 mt m0 m c s h) ?_
 rintro r m1 ⟨rfl,k1⟩
 refine ⟨_,rfl,CallsA.mono (has_f k1 a.n1) ?_⟩
 rintro r m2 ⟨rfl,k2⟩
 refine ⟨_,rfl,bcF (CallsA.mono (has_f k2 a.n2) ?_)⟩
 rintro r m3 ⟨rfl,k3⟩
 refine ⟨_,rfl,bcF (CallsA.mono (has_f k3 a.n3) ?_)⟩
 rintro r m4 ⟨rfl,k4⟩
 refine ⟨_,rfl,bcF (CallsA.mono (named_c w0 mt m0 m4 c s k4) ?_)⟩
 rintro r m5 ⟨rfl,k5⟩
 rw [a.n4]
 refine ⟨_,rfl,bcF (CallsA.mono (number_c w0 mt m0 m5 c s k5) ?_)⟩
 rintro r m6 ⟨rfl,k6⟩
 have e6:s.anum=s.nxt:=by unfold CS.anum; rw [a.n5]; rfl
 rw [e6] at k6
 have t6:(s.nxt.taken == 8)=false:=a.t
 refine ⟨_,_,rfl,_,k6.lde,rfl,bcEF (by show (s.e != 0)=false; rw [a.e]; rfl) ?_⟩
 refine CallsA.mono (reg_c w0 mt m0 m6 c s.nxt s.here k6) ?_
 rintro r m7 ⟨rfl,k7⟩
 have e7:s.nxt.areg s.here=s.nxt.take:=by unfold CS.areg; rw [t6]; rfl
 have r7:s.nxt.rg=s.nxt.reg:=by unfold CS.rg; rw [t6]; rfl
 rw [e7] at k7
 rw [r7]
 have hl:s.nxt.take.code.length<=1000000:=by
  have:s.nxt.take.code=s.code:=by unfold CS.take; rw [t6]; rfl
  rw [this]; have:=a.l; omega
 refine ⟨_,rfl,CallsA.mono (const_x k7 s.nxt.reg s.num a.v1 a.v2 hl) ?_⟩
 rintro r m8 ⟨rfl,k8⟩
 exact ⟨rfl,retP_of ⟨rfl,k8⟩⟩
end
def OpsL (m:AM) (r:Nat) (l:List (ByteArray × Int)):Prop:=∃ es clk,m r=some (.map es clk)/\MapS es (opsK l)
section
variable {w0:World} {mt m0 m:AM} {c r:Nat} {s s':CS} {x:Int} {l:List (ByteArray × Int)} {t:Tok} {ts:List Tok}
theorem CIx.le' (h:CIx mt m0 m w0.heap.size c s):m0.le m:=by
 obtain ⟨_,_,_,h⟩:=h
 exact h.le
theorem CIx.lt' (h:CIx mt m0 m w0.heap.size c s):mt.le m0:=by
 obtain ⟨_,_,_,h⟩:=h
 exact h.lt
theorem joined_x (hf:CallsA Tryz.prog w0 208 #[.pointer (some ⟨c,0,none⟩)] m (fun r m'=>r=.int .i64 x/\CIx mt m0 m' w0.heap.size c s')) (he:s'.e=0) (ht:s'.toks=t :: ts) (ho:OpsL m0 r l) (hn:findS t.text (opsK l) 0=none) :
  CallsA Tryz.prog w0 198 #[.pointer (some ⟨c,0,none⟩),.func (.func 208) #[.pointer (some ⟨c,0,none⟩)] #[],.map (some r)] m (fun r m'=>r=.int .i64 x/\CIx mt m0 m' w0.heap.size c s'):=by
 refine cf198 w0 m c _ _ (CallsA.mono hf ?_)
 rintro r1 m1 ⟨rfl,k1⟩
 refine ⟨_,rfl,?_⟩
 refine vl198_1100 w0 m1 _ _ c _ x (fun n m'=>n=0/\CIx mt m0 m' w0.heap.size c s') (fun m'=>CIx mt m0 m' w0.heap.size c s') 0 rfl rfl rfl rfl ⟨rfl,k1⟩ ?_ ?_
 .rintro n σ m2 ⟨_,k2⟩
  have k2x:=k2
  obtain ⟨At,ct,L,h2⟩:=k2
  refine ⟨_,k2x.lde,rfl,?_⟩
  rw [he]
  refine ⟨_,_,_,cel h2.ps rfl,rfl,?_⟩
  obtain ⟨ad,rfl,q0,q1,q2,q3⟩:=h2.tok ht (AM.le_refl _)
  have e:decide (((s'.toks.length:Nat):Int)>0)=true:=by rw [ht]; simp
  rw [e]
  refine bcET rfl ⟨_,_,_,cel h2.ps rfl,⟨by simp,by rw [ht]; simp⟩,_,q1,?_⟩
  obtain ⟨es,clk,o1,o2⟩:=ho
  refine ⟨0,false,by rw [lookup_str uMS uS zI (k2x.le' _ _ o1) o2,hn]; rfl,?_⟩
  exact ⟨rfl,rfl,rfl,rfl,rfl,k2x⟩
 .rintro σ m2 k2
  exact retP_of ⟨rfl,k2⟩
theorem joinedT_x (hf:CallsA Tryz.prog w0 199 #[.pointer (some ⟨c,0,none⟩)] m (fun r m'=>r=.int .i64 x/\CIx mt m0 m' w0.heap.size c s')) (he:s'.e=0) (ht:s'.toks=t :: ts) (ho:OpsL m0 r l) (hn:findS t.text (opsK l) 0=none) :
  CallsA Tryz.prog w0 198 #[.pointer (some ⟨c,0,none⟩),.func (.func 199) #[.pointer (some ⟨c,0,none⟩)] #[],.map (some r)] m (fun r m'=>r=.int .i64 x/\CIx mt m0 m' w0.heap.size c s'):=by
 refine tcf198 w0 m c _ _ (CallsA.mono hf ?_)
 rintro r1 m1 ⟨rfl,k1⟩
 refine ⟨_,rfl,?_⟩
 refine tvl198_1100 w0 m1 _ _ c _ x (fun n m'=>n=0/\CIx mt m0 m' w0.heap.size c s') (fun m'=>CIx mt m0 m' w0.heap.size c s') 0 rfl rfl rfl rfl ⟨rfl,k1⟩ ?_ ?_
 .rintro n σ m2 ⟨_,k2⟩
  have k2x:=k2
  obtain ⟨At,ct,L,h2⟩:=k2
  refine ⟨_,k2x.lde,rfl,?_⟩
  rw [he]
  refine ⟨_,_,_,cel h2.ps rfl,rfl,?_⟩
  obtain ⟨ad,rfl,q0,q1,q2,q3⟩:=h2.tok ht (AM.le_refl _)
  have e:decide (((s'.toks.length:Nat):Int)>0)=true:=by rw [ht]; simp
  rw [e]
  refine bcET rfl ⟨_,_,_,cel h2.ps rfl,⟨by simp,by rw [ht]; simp⟩,_,q1,?_⟩
  obtain ⟨es,clk,o1,o2⟩:=ho
  refine ⟨0,false,by rw [lookup_str uMS uS zI (k2x.le' _ _ o1) o2,hn]; rfl,?_⟩
  exact ⟨rfl,rfl,rfl,rfl,rfl,k2x⟩
 .rintro σ m2 k2
  exact retP_of ⟨rfl,k2⟩
theorem ins_x {es:Array MapEntry} {clk:Nat} {k:ByteArray} {v:Int} (h:CIx mt (m0.upd r (.map es clk)) m w0.heap.size c s) (hr0:m0 r=none) (lt:mt.le m0) (hB:w0.heap.size<=r) (he:MapS es (opsK l))
  (hn:findS k (opsK l) 0=none) {K:Unit->AM->Prop} (hK:∀ m' es' clk',CIx mt (m0.upd r (.map es' clk')) m' w0.heap.size c s->MapS es' (opsK (l ++ [(k,v)]))->K () m'):awp Tryz.prog w0.heap.size (Instr.mapUpdate 79 (.map (some r)) (.string k) (.int .i64 v)) m K:=by
 refine mapUpdate_newS uMS uS hB (h.le' _ _ upd_get_same) he hn fun es' clk' he'=>hK _ es' clk' (h.poke hr0 lt) ?_
 simpa [opsK] using he'
def mulK:List (ByteArray × Int):=[(ByteArray.mk #[42],3),(ByteArray.mk #[100,105,118],4),(ByteArray.mk #[109,111,100],5),(ByteArray.mk #[97,110,100],6)]
def addK:List (ByteArray × Int):=[(ByteArray.mk #[43],1),(ByteArray.mk #[45],2),(ByteArray.mk #[111,114],7)]
structure Stays (s:CS) (t:Tok) (ts:List Tok):Prop where
 e:s.e=0
 k:s.toks=t :: ts
 f:findS t.text (opsK mulK) 0=none
 g:findS t.text (opsK addK) 0=none
 z:∀ y∈signs,s.sees y=false
theorem term_x (a:AtNum s) (b:Stays s.cst t ts) (h:CIx mt m0 m w0.heap.size c s):CallsA Tryz.prog w0 199 #[.pointer (some ⟨c,0,none⟩)] m (fun r m'=>r=.int .i64 s.nxt.reg/\CIx mt m0 m' w0.heap.size c s.cst):=by
 have lt:=h.lt'
 refine cf199 w0 m c _ ?_
 intro r hB hN1 M
 obtain ⟨k1,hr0⟩:CIx mt (m0.upd r (.map #[] 0)) M w0.heap.size c s/\m0 r=none:=⟨(h.box hN1 _).1,AM.le_none h.le' hN1⟩
 clear_value M
 refine ins_x (l:=[]) k1 hr0 lt hB rfl rfl fun m1 e1 c1 k2 g2=>ins_x k2 hr0 lt hB g2 rfl fun m2 e2 c2 k3 g3=>ins_x k3 hr0 lt hB g3 rfl fun m3 e3 c3 k4 g4=>ins_x k4 hr0 lt hB g4 rfl fun m4 e4 c4 k5 g5=>?_
 refine CallsA.mono (joined_x (l:=mulK) (factor_x a k5) b.e b.k ⟨_,_,upd_get_same,g5⟩ b.f) ?_
 rintro r1 m5 ⟨rfl,k6⟩
 exact ⟨_,rfl,retP_of ⟨rfl,k6.base (le_new hr0 _) lt⟩⟩
theorem sum_x (a:AtNum s) (b:Stays s.cst t ts) (h:CIx mt m0 m w0.heap.size c s):CallsA Tryz.prog w0 176 #[.pointer (some ⟨c,0,none⟩)] m (fun r m'=>r=.int .i64 s.nxt.reg/\CIx mt m0 m' w0.heap.size c s.cst):=by
 have lt:=h.lt'
 refine cf176 w0 m c _ ?_
 intro r hB hN1 M
 obtain ⟨k1,hr0⟩:CIx mt (m0.upd r (.map #[] 0)) M w0.heap.size c s/\m0 r=none:=⟨(h.box hN1 _).1,AM.le_none h.le' hN1⟩
 clear_value M
 refine ins_x (l:=[]) k1 hr0 lt hB rfl rfl fun m1 e1 c1 k2 g2=>ins_x k2 hr0 lt hB g2 rfl fun m2 e2 c2 k3 g3=>ins_x k3 hr0 lt hB g3 rfl fun m3 e3 c3 k4 g4=>?_
 refine CallsA.mono (joinedT_x (l:=addK) (term_x a b k4) b.e b.k ⟨_,_,upd_get_same,g4⟩ b.g) ?_
 rintro r1 m5 ⟨rfl,k6⟩
 exact ⟨_,rfl,retP_of ⟨rfl,k6.base (le_new hr0 _) lt⟩⟩
theorem expression_x (a:AtNum s) (b:Stays s.cst t ts) (h:CIx mt m0 m w0.heap.size c s):CallsA Tryz.prog w0 152 #[.pointer (some ⟨c,0,none⟩)] m (fun r m'=>r=.int .i64 s.nxt.reg/\CIx mt m0 m' w0.heap.size c s.cst):=by
 have lt:=h.lt'
 refine cf152 w0 m c _ ?_
 refine CallsA.mono (sum_x a b h) ?_
 rintro r1 m1 ⟨rfl,k1⟩
 refine ⟨_,rfl,rfl,?_⟩
 intro bb hB hN1 M
 obtain ⟨k2,hb0⟩:CIx mt (m0.upd bb (.cells (signs.map Value.string).toArray 9)) M w0.heap.size c s.cst/\m0 bb=none:=⟨(k1.box hN1 _).1,AM.le_none k1.le' hN1⟩
 have lX:m0.le (m0.upd bb (.cells (signs.map Value.string).toArray 9)):=le_new hb0 _
 have hXb:(m0.upd bb (.cells (signs.map Value.string).toArray 9)) bb=some (.cells (signs.map Value.string).toArray 9 (0,0)):=upd_get_same
 clear_value M
 revert k2 lX hXb
 generalize m0.upd bb (.cells (signs.map Value.string).toArray 9)=X
 intro k2 lX hXb
 refine vl152_11010 w0 M _ _ c s.nxt.reg (some ⟨bb,0,none⟩) 6 6 6 0 (fun n i m'=>0<=i/\i<=6/\n=(6-i).toNat/\CIx mt X m' w0.heap.size c s.cst) (fun m'=>CIx mt X m' w0.heap.size c s.cst) 6 rfl rfl rfl rfl rfl ⟨by omega,by omega,rfl,k2⟩ ?_ ?_
 .rintro n σ i m2 ⟨i0,i1,rfl,k3⟩
  refine ⟨rfl,?_⟩
  by_cases hi:i<6
  case neg=>rw [decide_eq_false hi,bcase_f]; exact ⟨rfl,rfl,rfl,rfl,k3⟩
  rw [decide_eq_true hi,bcase_t]
  have hlt:i.toNat<signs.length:=by simp [signs]; omega
  have hw:IntKind.wrap .i64 (i+1)=i+1:=by rw [IntKind.wrap_i64]; omega
  refine ⟨⟨i0,by omega⟩,nilO_at rfl ⟨signs[i.toNat],?_,_,k3.lde,rfl,?_⟩⟩
  .rw [addn,cell_of (k3.le' _ _ hXb)]
   simp [hlt]
  rw [b.e,hw]
  refine CallsA.mono (has_f k3 (b.z _ (List.getElem_mem _))) ?_
  rintro r3 m3 ⟨rfl,k4⟩
  exact ⟨_,rfl,rfl,rfl,rfl,rfl,rfl,rfl,_,by omega,by omega,by omega,rfl,k4⟩
 .rintro σ m2 k3
  exact retP_of ⟨rfl,k3.base lX lt⟩
end
structure AtWrite (s:CS):Prop where
 i:s.sees (ByteArray.mk #[105,102])=false
 h:s.sees (ByteArray.mk #[119,104,105,108,101])=false
 w:s.sees (ByteArray.mk #[119,114,105,116,101])=true
def CS.wr (s:CS):CS:=((s.nxt.cst.put ⟨1,4,s.nxt.nxt.reg,0,0⟩).put ⟨20,0,0,0,2⟩).give
section
variable {w0:World} {mt m0 m:AM} {c:Nat} {s:CS} {t:Tok} {ts:List Tok}
theorem cst_len (a:AtNum s):s.cst.code.length<=1001:=by
 have e:s.nxt.take.code=s.code:=by
  unfold CS.take
  rw [show (s.nxt.taken == 8)=false from a.t]; rfl
 unfold CS.cst CS.put
 rw [List.length_append,e]
 have:=a.l
 simp; omega
theorem statement_x (q:AtWrite s) (a:AtNum s.nxt) (b:Stays s.nxt.cst t ts) (h:CIx mt m0 m w0.heap.size c s):CallsA Tryz.prog w0 103 #[.pointer (some ⟨c,0,none⟩)] m (fun r m'=>r=.tuple #[]/\CIx mt m0 m' w0.heap.size c s.wr):=by
 have hl:=cst_len a
 refine cf103 w0 m c _ ?_
 refine CallsA.mono (where_c w0 mt m0 m c s h) ?_
 rintro r m1 ⟨rfl,k1⟩
 refine ⟨_,rfl,CallsA.mono (has_f k1 q.i) ?_⟩
 rintro r m2 ⟨rfl,k2⟩
 refine ⟨_,rfl,bcF (CallsA.mono (has_f k2 q.h) ?_)⟩
 rintro r m3 ⟨rfl,k3⟩
 refine ⟨_,rfl,bcF (CallsA.mono (has_t k3 q.w) ?_)⟩
 rintro r m4 ⟨rfl,k4⟩
 refine ⟨_,rfl,bcT (CallsA.mono (expression_x a b k4) ?_)⟩
 rintro r m5 ⟨rfl,k5⟩
 refine ⟨_,rfl,rfl,CallsA.mono (put_c w0 mt m0 m5 c _ ⟨1,4,s.nxt.nxt.reg,0,0⟩ k5 (by omega)) ?_⟩
 rintro r m6 ⟨rfl,k6⟩
 refine ⟨_,rfl,rfl,CallsA.mono (put_c w0 mt m0 m6 c _ ⟨20,0,0,0,2⟩ k6 (by simp [CS.put]; omega)) ?_⟩
 rintro r m7 ⟨rfl,k7⟩
 refine ⟨_,rfl,CallsA.mono (give_c w0 mt m0 m7 c _ k7) ?_⟩
 rintro r m8 ⟨z,rfl,k8⟩
 exact ⟨_,rfl,retP_of ⟨rfl,k8⟩⟩
theorem statements_x (q:AtWrite s) (a:AtNum s.nxt) (b:Stays s.nxt.cst t ts) (he:s.wr.e=0) (hs:s.wr.sees (ByteArray.mk #[59])=false) (h:CIx mt m0 m w0.heap.size c s):CallsA Tryz.prog w0 54 #[.pointer (some ⟨c,0,none⟩)] m (fun r m'=>r=.tuple #[]/\CIx mt m0 m' w0.heap.size c s.wr):=by
 refine cf54 w0 m c _ (CallsA.mono (statement_x q a b h) ?_)
 rintro r m1 ⟨rfl,k1⟩
 refine ⟨rfl,?_⟩
 refine vl54_10 w0 m1 _ _ c (fun n m'=>n=0/\CIx mt m0 m' w0.heap.size c s.wr) (fun m'=>CIx mt m0 m' w0.heap.size c s.wr) 0 rfl ⟨rfl,k1⟩ ?_ ?_
 .rintro n σ m2 ⟨_,k2⟩
  refine ⟨_,k2.lde,rfl,?_⟩
  rw [he]
  refine CallsA.mono (has_f k2 hs) ?_
  rintro r3 m3 ⟨rfl,k3⟩
  exact ⟨_,rfl,rfl,k3⟩
 .rintro σ m2 k2
  exact retP_of ⟨rfl,k2⟩
theorem declarations_x (he:s.e=0) (h1:s.sees (ByteArray.mk #[118,97,114])=false) (h2:s.sees (ByteArray.mk #[101,120,116,101,114,110,97,108])=false) (h3:s.sees (ByteArray.mk #[112,114,111,99,101,100,117,114,101])=false) (h:CIx mt m0 m w0.heap.size c s):CallsA Tryz.prog w0 51 #[.pointer (some ⟨c,0,none⟩)] m (fun r m'=>r=.tuple #[]/\CIx mt m0 m' w0.heap.size c s):=by
 refine cf51 w0 m c _ ?_
 dsimp only [cf51,mkF]
 refine vl51_0 w0 m _ _ c (fun n m'=>n=0/\CIx mt m0 m' w0.heap.size c s) (fun m'=>CIx mt m0 m' w0.heap.size c s) 0 rfl ⟨rfl,h⟩ ?_ ?_
 .rintro n σ m1 ⟨_,k1⟩
  refine ⟨_,k1.lde,rfl,?_⟩
  rw [he]
  refine CallsA.mono (has_f k1 h1) ?_
  rintro r m2 ⟨rfl,k2⟩
  refine ⟨_,rfl,bcF (CallsA.mono (has_f k2 h2) ?_)⟩
  rintro r m3 ⟨rfl,k3⟩
  refine ⟨_,rfl,bcF (CallsA.mono (has_f k3 h3) ?_)⟩
  rintro r m4 ⟨rfl,k4⟩
  exact ⟨_,rfl,bcF (retP_of ⟨rfl,k4⟩)⟩
 .rintro σ m2 k2
  exact retP_of ⟨rfl,k2⟩
def CS.p1 (s:CS):CS:={ s.nxt.nxt with name:=s.nxt.word }
def CS.p2 (s:CS):CS:=s.p1.nxt.opn.jump ⟨17,0,0,0,0⟩
def CS.p3 (s:CS):CS:=(s.p2.nxt.aim s.p1.nxt.opn.code.length s.p2.nxt.code.length).mark ⟨10,29,0,0,0⟩ 4 0
def CS.p4 (s:CS):CS:=s.p3.wr.put ⟨20,0,0,0,0⟩
structure Writes (s:CS) (t:Tok) (ts:List Tok):Prop where
 a1:s.sees (ByteArray.mk #[112,114,111,103,114,97,109])=true
 a2:s.nxt.isName=true
 a3:s.p1.sees (ByteArray.mk #[59])=true
 b0:s.p2.e=0
 b1:s.p2.sees (ByteArray.mk #[118,97,114])=false
 b2:s.p2.sees (ByteArray.mk #[101,120,116,101,114,110,97,108])=false
 b3:s.p2.sees (ByteArray.mk #[112,114,111,99,101,100,117,114,101])=false
 b4:s.p2.sees (ByteArray.mk #[98,101,103,105,110])=true
 c1:AtWrite s.p3
 c2:AtNum s.p3.nxt
 c3:Stays s.p3.nxt.cst t ts
 c4:s.p3.wr.e=0
 c5:s.p3.wr.sees (ByteArray.mk #[59])=false
 d1:s.p4.sees (ByteArray.mk #[101,110,100])=true
 d2:s.p4.nxt.sees (ByteArray.mk #[46])=true
 d3:s.p4.nxt.nxt.e=0
 d4:s.p4.nxt.nxt.toks = []
 l1:s.p1.nxt.opn.code.length<=1000
 l2:s.p1.nxt.opn.pats.length<=1000
 l3:(s.p2.nxt.aim s.p1.nxt.opn.code.length s.p2.nxt.code.length).code.length<=1000
 l4:(s.p2.nxt.aim s.p1.nxt.opn.code.length s.p2.nxt.code.length).pats.length<=1000
 l5:s.p3.wr.code.length<=1000
 l6:s.p1.nxt.begs.length<=1000
theorem program_x (a:Writes s t ts) (h:CIx mt m0 m w0.heap.size c s):CallsA Tryz.prog w0 21 #[.pointer (some ⟨c,0,none⟩)] m (fun r m'=>r=.tuple #[]/\CIx mt m0 m' w0.heap.size c s.p4.nxt.nxt):=by
 refine cf21 w0 m c _ (CallsA.mono (has_t h a.a1) ?_)
 rintro r m1 ⟨rfl,k1⟩
 refine ⟨_,rfl,bcF ?_⟩
 refine vk21_11 w0 m1 _ _ c true rfl rfl ?_
 refine CallsA.mono (name_c w0 mt m0 m1 c _ k1) ?_
 rintro r m2 ⟨rfl,k2⟩
 have e2:s.nxt.aname=s.nxt.nxt:=by unfold CS.aname; rw [a.a2]; rfl
 rw [e2] at k2
 refine ⟨_,_,rfl,?_⟩
 obtain ⟨At,ct,L,g2⟩:=k2
 refine g2.st' (s':=s.p1) rfl (by omega) (fun j=>by rfl) (fun j=>by rfl) rfl fun m3 k3=>?_
 refine CallsA.mono (must_t k3 a.a3) ?_
 rintro r m4 ⟨rfl,k4⟩
 refine ⟨rfl,CallsA.mono (open_c w0 mt m0 m4 c _ k4 (by have:=a.l6; omega)) ?_⟩
 rintro r m5 ⟨rfl,k5⟩
 refine ⟨rfl,bcT ⟨rfl,?_⟩⟩
 refine CallsA.mono (jump_c w0 mt m0 m5 c _ ⟨17,0,0,0,0⟩ k5 (by have:=a.l1; omega) (by have:=a.l2; omega)) ?_
 rintro r m6 ⟨rfl,k6⟩
 refine ⟨_,rfl,CallsA.mono (declarations_x (s:=s.p2) a.b0 a.b1 a.b2 a.b3 k6) ?_⟩
 rintro r m7 ⟨rfl,k7⟩
 refine ⟨rfl,bcT (CallsA.mono (must_t k7 a.b4) ?_)⟩
 rintro r m8 ⟨rfl,k8⟩
 refine ⟨rfl,CallsA.mono (land_c w0 mt m0 m8 c _ _ k8) ?_⟩
 rintro r m9 ⟨rfl,k9⟩
 refine ⟨_,rfl,rfl,CallsA.mono (mark_c w0 mt m0 m9 c _ ⟨10,29,0,0,0⟩ 4 0 k9 (by have:=a.l3; omega) (by have:=a.l4; omega)) ?_⟩
 rintro r m10 ⟨rfl,k10⟩
 refine ⟨_,rfl,CallsA.mono (statements_x (s:=s.p3) a.c1 a.c2 a.c3 a.c4 a.c5 k10) ?_⟩
 rintro r m11 ⟨rfl,k11⟩
 refine ⟨rfl,rfl,CallsA.mono (put_c w0 mt m0 m11 c _ ⟨20,0,0,0,0⟩ k11 (by have:=a.l5; omega)) ?_⟩
 rintro r m12 ⟨rfl,k12⟩
 refine ⟨_,rfl,CallsA.mono (must_t (s:=s.p4) k12 a.d1) ?_⟩
 rintro r m13 ⟨rfl,k13⟩
 refine ⟨rfl,CallsA.mono (must_t k13 a.d2) ?_⟩
 rintro r m14 ⟨rfl,k14⟩
 refine ⟨rfl,_,k14.lde,rfl,?_⟩
 have k14x:=k14
 obtain ⟨At,ct,L,g⟩:=k14
 rw [a.d3]
 refine bcET rfl ⟨_,_,_,cel g.ps rfl,rfl,?_⟩
 rw [a.d4]
 exact bcEF rfl (retP_of ⟨rfl,k14x⟩)
end
end Go.Proofs.YtgjamnhjlaohaaaGreatDoor.S
namespace Go.Proofs.YtgjamnhjlaohaaaGreatDoor.V
open Go Go.Alog Go.Proofs.YtgjamnhjlaohaaaGreatDoor.T
variable (w0:World) (m:AM)
noncomputable abbrev cf38 (x0:Option Addr) (x0n x0c:Nat) (x1:Int) (R:RT):Vn (C_ w0 38 #[.slice x0 x0n x0c,I_ x1] m R):=mkF (F:=F38) Tryz.func38 (by dsimp only [push_cast,↓u1,↓u2,↓u3,Nat.reduceAdd,Nat.reduceBEq,Nat.reduceDiv,Nat.reduceMod]) (by kernel_rfl)
noncomputable abbrev vk38_1111 (σ:Sg) (R:RT) (x0:Option Addr) (x0n x0c:Nat) (x1:Int) (x5:Nat) (x6:Bool) (h0:σ 0=.slice x0 x0n x0c) (h1:σ 1=I_ x1) (h5:σ 5=pt_ x5) (h6:σ 6=.bool x6):Vn (XV w0 F38 (Tz R) 31 σ m):=mkK (cs h0 (cs h1 (cs h5 (cs h6 nl)))) (by dsimp only [push_cast,↓u1,↓u2,↓u3,Nat.reduceAdd,Nat.reduceBEq,Nat.reduceDiv,Nat.reduceMod]) (by kernel_rfl)
noncomputable abbrev vk38_1111100111 (σ:Sg) (R:RT) (x0:Option Addr) (x0n x0c:Nat) (x1:Int) (x5:Nat) (x6 x7 x39:Bool) (h0:σ 0=.slice x0 x0n x0c) (h1:σ 1=I_ x1) (h5:σ 5=pt_ x5) (h6:σ 6=.bool x6) (h7:σ 7=.bool x7) (h39:σ 39=.bool x39):Vn (XV w0 F38 (Tz R) 2023 σ m):=mkK (cs h0 (cs h1 (cs h5 (cs h6 (cs h7 (cs h39 nl)))))) (by dsimp only [push_cast,↓u1,↓u2,↓u3,Nat.reduceAdd,Nat.reduceBEq,Nat.reduceDiv,Nat.reduceMod]) (by kernel_rfl)
noncomputable abbrev vr38_11111001111110 (σ:Sg) (R:RT) (x0:Option Addr) (x0n x0c:Nat) (x1:Int) (x5:Nat) (x7:Bool) (K:Bool->AM->Prop) (h0:σ 0=.slice x0 x0n x0c) (h1:σ 1=I_ x1) (h5:σ 5=pt_ x5) (h7:σ 7=.bool x7):Vn (Vn (XV w0 F38 (Tz R) 32382 σ m)):=mkR (.o 0 (.o 1 (.o 2 (.o 3 (.o 4 (.o 5 (.o 6 (.o 7 (.o 8 (.o 9 (.o 10 (.o 11 (.o 12 (.o 13 (.o 14 (.o 15 (.o 16 (.a (.o 17 (.o 18 (.o 19 (.o 20 (.o 21 (.o 22 .z)))))) (.o 18 (.o 17 (.o 19 (.o 20 (.o 21 (.o 22 .z)))))))))))))))))))))))) [] (ks:=[(59,.b)]) K (cs h0 (cs h1 (cs h5 (cs h7 nl)))) (by dsimp only [push_cast,↓u1,↓u2,↓u3,Nat.reduceAdd,Nat.reduceBEq,Nat.reduceDiv,Nat.reduceMod]) (by dsimp only [push_cast,↓u1,↓u2,↓u3,Nat.reduceAdd,Nat.reduceBEq,Nat.reduceDiv,Nat.reduceMod]) (by kernel_rfl)
noncomputable abbrev cf17 (x0:Option Addr) (x0n x0c:Nat) (R:RT):Vn (C_ w0 17 #[.slice x0 x0n x0c] m R):=mkF (F:=F17) Tryz.func17 (by dsimp only [push_cast,↓u1,↓u2,↓u3,Nat.reduceAdd,Nat.reduceBEq,Nat.reduceDiv,Nat.reduceMod]) (by kernel_rfl)
noncomputable abbrev vl17_1010 (σ:Sg) (R:RT) (x0:Option Addr) (x0n x0c:Nat) (x7 x8:Int) (I0:Nat->Int->AM->Prop) (E0_0:AM->Prop) (N:Nat) (h0:σ 0=.slice x0 x0n x0c) (h7:σ 7=I_ x7) (h8:σ 8=I_ x8) (h_0:I0 N x8 m):Vn (Vn (XV w0 F17 (Tz R) 26 σ m)):=mkL1 (lq17_1010 R x0 x0n x0c x7 I0 E0_0) (fun _=>rfl) N (cs h0 (cs h7 nl)) (cs h8 nl) h_0 (by dsimp only [push_cast,↓u1,↓u2,↓u3,Nat.reduceAdd,Nat.reduceBEq,Nat.reduceDiv,Nat.reduceMod]) (by dsimp only [push_cast,↓u1,↓u2,↓u3,Nat.reduceAdd,Nat.reduceBEq,Nat.reduceDiv,Nat.reduceMod]) (by kernel_rfl)
noncomputable abbrev cf8 (x0:Option Addr) (x0n x0c:Nat) (R:RT):Vn (C_ w0 8 #[.slice x0 x0n x0c] m R):=mkF (F:=F8) Tryz.func8 (by dsimp only [push_cast,↓u1,↓u2,↓u3,Nat.reduceAdd,Nat.reduceBEq,Nat.reduceDiv,Nat.reduceMod]) (by kernel_rfl)
end Go.Proofs.YtgjamnhjlaohaaaGreatDoor.V
namespace Go.Proofs.YtgjamnhjlaohaaaGreatDoor.S
open Go Go.RowKit Go.Alog Go.Proofs.YtgjamnhjlaohaaaGreatDoor.T Go.Proofs.YtgjamnhjlaohaaaGreatDoor.V
def hazP (code:List Ins) (k:Int):Int :=
 if k<0\/k>=code.length then 0 else
 if rightR (cAt code k)=false then 1 else
 if (goesP (cAt code k) && (decide (k+1=code.length) || goesP (cAt code (k+1))))=true then 2 else
 if ((decide (k>0) && goesP (cAt code (k-1))) && lateP (cAt code k))=true then 3 else
 if (lateP (cAt code k) && !decide (k+1=code.length) && readsR (cAt code (k+1)) (writesP (cAt code k)))=true then 4 else 0
theorem hazAt_spec (w0:World) (m:AM) (A:Option Addr) (c:Nat) (code:List Ins) (k:Int) (hl:code.length<=1000000) (rd:Reads m 5 A code.length (insCells code)) :
  CallsA Tryz.prog w0 38 #[.slice A code.length c,.int .i64 k] m (fun r m'=>r=.int .i64 (hazP code k)/\m'=m):=by
 refine CallsA.down (R:=fun r m'=>r=.int .i64 (hazP code k)/\m.le m') ?_ fun _ _ h=>h
 generalize hR:(fun (r:Value) (m':AM)=>r=.int .i64 (hazP code k)/\m.le m')=R
 have ret:∀ (v:Int) (m':AM),m.le m'->v=hazP code k->RetP R (.int .i64 v) m':=fun v m' l e=>by rw [<- hR]; exact retP_of ⟨by rw [e],l⟩
 refine cf38 w0 m A code.length c k R ⟨rfl,bcP (fun h=>⟨decide_eq_true h,ret 0 m (AM.le_refl _) (by unfold hazP; rw [if_pos (.inl h)])⟩) fun h=>⟨rfl,?_⟩⟩
 rw [decide_eq_false h]
 refine bifF (bcP (fun h2=>ret 0 m (AM.le_refl _) (by unfold hazP; rw [if_pos (.inr h2)])) fun h2=>?_)
 unfold hazP at ret
 rw [if_neg (by omega)] at ret
 have wp:IntKind.wrap .i64 (k+1)=k+1:=wrap_s (by omega) (by omega)
 have wm:IntKind.wrap .i64 (k-1)=k-1:=wrap_s (by omega) (by omega)
 refine ldAt rd rfl (by omega) (by omega) fun a=>blk5 fun b M l n hb p=>⟨rfl,?_⟩
 replace p:M b=some (.cells (Ins.cells (cAt code k)).toArray 57):=p
 have rd:=rd.le l
 generalize hx:cAt code k=x at p ret
 have deq:decide (k+1=(code.length:Int))=(k+1 == (code.length:Int)):=by by_cases e:k+1=(code.length:Int) <;> simp [e]
 have KR:∀ (σ:Sg),σ 0=.slice A code.length c->σ 1=.int .i64 k->σ 5=.pointer (some ⟨b,0,none⟩)->σ 7=.bool (k+1 == (code.length:Int))->(∀ (v:Int) (m':AM),m.le m'->v=(if (lateP x && !decide (k+1=code.length) && readsR (cAt code (k+1)) (writesP x))=true then 4 else 0)->RetP R (.int .i64 v) m')->(XV w0 F38 (Tz R) 32382 σ M):=by
  intro σ h0 h1 h5 h7 ret
  refine vr38_11111001111110 w0 M σ R A code.length c k b _ (fun t m'=>t=(lateP x && !(k+1 == (code.length:Int)) && readsR (cAt code (k+1)) (writesP x))/\m.le m') h0 h1 h5 h7 ?_ ?_
  .refine ldIns p (callB (late_e w0 M x) ?_)
   rw [wp]
   cases hl:lateP x
   .repeat' first | exact l | refine bcF ?_ | refine bcT ?_ | refine ⟨rfl,?_⟩ | refine And.intro ?_ ?_ | exact rfl
   cases he:(k+1 == (code.length:Int))
   .have hne:¬ k+1=(code.length:Int):=by simpa using he
    refine bcT (bcT (ldIns p (callI (writes_e w0 M x) ⟨rfl,?_⟩)))
    cases hw:(writesP x != 0)
    .have hz:writesP x=0:=by simpa using hw
     have hrd:readsR (cAt code (k+1)) (writesP x)=false:=by rw [hz]; unfold readsR; simp
     rw [hrd]
     repeat' first | exact l | refine bcF ?_ | refine bcT ?_ | refine ⟨rfl,?_⟩ | refine And.intro ?_ ?_ | exact rfl
    .obtain ⟨ad,rfl,hc⟩:=rd.ex (by omega)
     obtain ⟨c0,c1,c2,c3,c4⟩:=hc.ins (cAt_some (code:=code) (i:=k+1) (by omega) (by omega))
     refine bcT ⟨rfl,⟨by omega,by omega⟩,?_⟩
     rw [nilO_some]
     refine ⟨_,c0,_,c1,_,c2,_,c3,_,c4,?_,?_⟩
     .refine callReads (i:=cAt code (k+1)) fun A2 c2 m2 l2 r2=>ldIns (l2 _ _ p) (callI (writes_e w0 m2 x) ?_)
      refine callB (ix_spec w0 m2 A2 c2 _ _ (by have:=two_len (readsL_two (cAt code (k+1))); omega) r2) ?_
      exact ⟨rfl,rfl,by rw [readsL_c]; rfl,AM.le_trans l l2⟩
     .refine ldIns p (callReads (i:=cAt code (k+1)) fun A2 c2 m2 l2 r2=>callI (writes_e w0 m2 x) ?_)
      refine callB (ix_spec w0 m2 A2 c2 _ _ (by have:=two_len (readsL_two (cAt code (k+1))); omega) r2) ?_
      exact ⟨rfl,rfl,by rw [readsL_c]; rfl,AM.le_trans l l2⟩
   .repeat' first | exact l | refine bcF ?_ | refine bcT ?_ | refine ⟨rfl,?_⟩ | refine And.intro ?_ ?_ | exact rfl
  .rintro σ y m' ⟨rfl,l'⟩
   refine bcI (fun h=>ret 4 m' l' ?_) fun h=>ret 0 m' l' ?_
   .rw [deq,if_pos h]
   .rw [deq,if_neg (by rw [h]; simp)]
 have K3:∀ (σ:Sg) (x6 x39:Bool),σ 0=.slice A code.length c->σ 1=.int .i64 k->σ 5=.pointer (some ⟨b,0,none⟩)->σ 6=.bool x6->σ 7=.bool (k+1 == (code.length:Int))->σ 39=.bool x39->x6=(decide (k>0) && goesP (cAt code (k-1)))->x39=(goesP x && (decide (k+1=code.length) || goesP (cAt code (k+1))))->rightR x=true->(XV w0 F38 (Tz R) 2023 σ M):=by
  intro σ x6 x39 h0 h1 h5 h6 h7 h39 e6 e39 hr
  rw [hr,if_neg (by simp),<- e6,<- e39] at ret
  refine vk38_1111100111 w0 M σ R A code.length c k b x6 _ x39 h0 h1 h5 h6 h7 h39 ?_
  refine bcI (fun h=>ret 2 M l (by rw [if_pos h])) fun h=>?_
  rw [h,if_neg (by simp)] at ret
  cases x6
  .refine bcF ⟨rfl,KR _ rfl rfl rfl rfl ?_⟩
   simpa using ret
  .refine bcT (ldIns p (callB (late_e w0 M x) (bifT (bcI (fun h2=>ret 3 M l (by rw [h2]; rfl)) fun h2=>KR _ rfl rfl rfl rfl ?_))))
   rw [h2] at ret ⊢
   simpa using ret
 have K4:∀ (σ:Sg) (x6:Bool),σ 0=.slice A code.length c->σ 1=.int .i64 k->σ 5=.pointer (some ⟨b,0,none⟩)->σ 6=.bool x6->x6=(decide (k>0) && goesP (cAt code (k-1)))->(XV w0 F38 (Tz R) 31 σ M):=by
  intro σ x6 h0 h1 h5 h6 e6
  refine vk38_1111 w0 M σ R A code.length c k b x6 h0 h1 h5 h6 ?_
  dsimp only [vk38_1111,mkK]
  rw [wp]
  refine ⟨rfl,rfl,ldIns p (callB (right_e w0 M x) ?_)⟩
  cases hr:rightR x
  .exact bcT (ret 1 M l (by rw [hr,if_pos rfl]))
  refine bcF (ldIns p (callB (goes_e w0 M x) ?_))
  cases hg:goesP x
  .exact ⟨rfl,K3 _ x6 false rfl rfl rfl rfl rfl rfl e6 (by rw [hg]; rfl) hr⟩
  refine bcT (bcI (fun h=>⟨h,K3 _ x6 true rfl rfl rfl rfl ?_ rfl e6 ?_ hr⟩) fun h=>⟨rfl,?_⟩)
  .rw [<- h]; rfl
  .rw [hg,deq,h]; rfl
  .have hne:¬ k+1=(code.length:Int):=by simpa using h
   refine ldAt rd rfl (by omega) (by omega) fun a=>(callB (goes_e w0 M (cAt code (k+1))) (K3 _ x6 _ rfl rfl rfl rfl rfl rfl e6 ?_ hr))
   rw [hg,deq]; simp
 refine bcP (fun h3=>⟨rfl,?_⟩) fun h3=>⟨decide_eq_false h3,K4 _ _ rfl rfl rfl rfl (by rw [decide_eq_false h3]; rfl)⟩
 rw [wm]
 refine ldAt rd rfl (by omega) (by omega) fun a=>(callB (goes_e w0 M (cAt code (k-1))) (K4 _ _ rfl rfl rfl rfl (by rw [decide_eq_true h3]; rfl)))
def firstFrom (code:List Ins):Nat->Int->Int × Int
 | 0,_=>(-1,0)
 | n+1,k=>if hazP code k≠0 then (k,hazP code k) else firstFrom code n (k+1)
def firstP (code:List Ins):Int × Int:=firstFrom code code.length 0
def safeP (code:List Ins):Bool:=(firstP code).2 == 0
theorem firstFrom_zero (code:List Ins):∀ (n:Nat) (k:Int),(firstFrom code n k).2=0↔∀ j,k<=j->j<k+n->hazP code j=0
 | 0,k=>by simp [firstFrom]; intro j h1 h2; omega
 | n+1,k=>by
  unfold firstFrom
  split
  .rename_i h
   refine ⟨fun hz=>absurd hz h,fun hz=>absurd (hz k (by omega) (by omega)) h⟩
  .rename_i h
   rw [firstFrom_zero code n (k+1)]
   constructor
   .intro hz j h1 h2
    by_cases e:j=k
    .rw [e]; exact Classical.not_not.1 h
    .exact hz j (by omega) (by omega)
   .intro hz j h1 h2; exact hz j (by omega) (by omega)
theorem safe_iff (code:List Ins):safeP code=true↔∀ j:Int,0<=j->j<code.length->hazP code j=0:=by
 unfold safeP firstP
 rw [beq_iff_eq,firstFrom_zero]
 simp
theorem first_e (w0:World) (m:AM) (A:Option Addr) (c:Nat) (code:List Ins) (hl:code.length<=1000000) (rd:Reads m 5 A code.length (insCells code)) :
  CallsA Tryz.prog w0 17 #[.slice A code.length c] m (fun r m'=>r=.tuple #[.int .i64 (firstP code).1,.int .i64 (firstP code).2]/\m'=m):=by
 refine cf17 w0 m A code.length c _ ?_
 dsimp only [cf17,mkF]
 refine vl17_1010 w0 m _ _ A code.length c code.length 0 (fun k i m'=>m'=m/\0<=i/\(k:Int)=code.length-i/\firstP code=firstFrom code k i) (fun m'=>m'=m/\firstP code=(-1,0)) code.length rfl rfl rfl ⟨rfl,by omega,by omega,rfl⟩ ?_ ?_
 .rintro k σ i m' ⟨rfl,i0,hk,hf⟩
  refine ⟨rfl,bcP (fun c1=>callI (hazAt_spec w0 m' A c code i hl rd) ⟨rfl,?_⟩) fun c1=>?_⟩
  .obtain ⟨k',rfl⟩:∃ k',k=k'+1:=⟨k-1,by omega⟩
   rw [firstFrom] at hf
   by_cases hz:hazP code i=0
   .rw [if_neg (by simp [hz])] at hf
    have w:IntKind.wrap .i64 (i+1)=i+1:=wrap_s (by omega) (by omega)
    refine bcEF (by simp [hz]) ?_
    rw [w]
    repeat refine ⟨rfl,?_⟩
    exact ⟨k',by omega,rfl,by omega,by omega,hf⟩
   .rw [if_pos hz] at hf
    refine bcET (by simp [hz]) (retP_of ⟨?_,rfl⟩)
    rw [hf]
  .repeat refine ⟨rfl,?_⟩
   obtain rfl:k=0:=by omega
   exact hf
 .rintro σ m' ⟨rfl,hf⟩
  exact retP_of ⟨by rw [hf],rfl⟩
theorem safe_e (w0:World) (m:AM) (A:Option Addr) (n c:Nat) (code:List Ins) (hn:code.length=n) (hl:code.length<=1000000) (rd:Reads m 5 A n (insCells code)) :
  CallsA Tryz.prog w0 8 #[.slice A n c] m (fun r m'=>r=.bool (safeP code)/\m'=m):=by
 subst hn
 refine cf8 w0 m A code.length c _ ?_
 refine CallsA.mono (first_e w0 m A c code hl rd) ?_
 rintro r m2 ⟨rfl,h2⟩
 replace h2:=h2.symm; subst h2
 exact ⟨_,_,rfl,rfl,retP_of ⟨rfl,rfl⟩⟩
theorem cAt_left {a b:List Ins} {i:Int} (h:i.toNat<a.length):cAt (a ++ b) i=cAt a i:=by
 unfold cAt; simp [List.getD,List.getElem?_append_left h]
theorem cAt_right {a b:List Ins} {i:Int} (h:0<=i):cAt (a ++ b) (a.length+i)=cAt b i:=by
 unfold cAt
 rw [show ((a.length:Int)+i).toNat=a.length+i.toNat by omega]
 simp [List.getD,List.getElem?_append_right]
theorem hazP_in {code:List Ins} {k:Int} (h0:0<=k) (h1:k<code.length):hazP code k=if rightR (cAt code k)=false then 1 else
  if (goesP (cAt code k) && (decide (k+1=code.length) || goesP (cAt code (k+1))))=true then 2 else
  if ((decide (k>0) && goesP (cAt code (k-1))) && lateP (cAt code k))=true then 3 else
  if (lateP (cAt code k) && !decide (k+1=code.length) && readsR (cAt code (k+1)) (writesP (cAt code k)))=true then 4 else 0:=by
 unfold hazP; rw [if_neg (by omega)]
theorem calm_haz {code:List Ins} {k:Int} (h0:0<=k) (h1:k<code.length) (hg:goesP (cAt code k)=false) (hl:lateP (cAt code k)=false):hazP code k=if rightR (cAt code k)=false then 1 else 0:=by
 unfold hazP
 rw [if_neg (by omega),hg,hl]
 simp
theorem haz_left (a b:List Ins) {j:Int} (h0:0<=j) (h1:j<a.length) (h:j+1<a.length\/(goesP (cAt a j)=false/\lateP (cAt a j)=false)):hazP (a ++ b) j=hazP a j:=by
 have e:cAt (a ++ b) j=cAt a j:=cAt_left (by omega)
 rcases h with h | ⟨hg,hl⟩
 .rw [hazP_in h0 (by simp; omega),hazP_in h0 h1,e,cAt_left (a:=a) (b:=b) (i:=j+1) (by omega),cAt_left (a:=a) (b:=b) (i:=j-1) (by omega)]
  rw [decide_eq_false (show ¬ j+1=((a ++ b).length:Int) by simp; omega),decide_eq_false (show ¬ j+1=(a.length:Int) by omega)]
 .rw [calm_haz h0 (by simp; omega) (by rw [e]; exact hg) (by rw [e]; exact hl),calm_haz h0 h1 hg hl,e]
theorem haz_right (a b:List Ins) {j:Int} (h0:0<=j) (h1:j<b.length) (h:a.length=0\/goesP (cAt a (a.length-1))=false):hazP (a ++ b) (a.length+j)=hazP b j:=by
 have e2:cAt (a ++ b) ((a.length:Int)+j+1)=cAt b (j+1):=by rw [Int.add_assoc]; exact cAt_right (by omega)
 have e3:(decide ((a.length:Int)+j>0) && goesP (cAt (a ++ b) ((a.length:Int)+j-1)))=(decide (j>0) && goesP (cAt b (j-1))):=by
  by_cases hj:j>0
  .rw [decide_eq_true hj,decide_eq_true (by omega),show (a.length:Int)+j-1=a.length+(j-1) by omega,cAt_right (by omega)]
  .obtain rfl:j=0:=by omega
   rcases h with h | h
   .rw [decide_eq_false (by omega),decide_eq_false (by omega)]; rfl
   .by_cases ha:a.length=0
    .rw [decide_eq_false (by omega),decide_eq_false (by omega)]; rfl
    .rw [decide_eq_false (p:=(0:Int)>0) (by omega),Int.add_zero,cAt_left (by omega),h]; simp
 have e4:decide ((a.length:Int)+j+1=((a ++ b).length:Int))=decide (j+1=(b.length:Int)):=by
  apply decide_eq_decide.2; simp; omega
 rw [hazP_in (by omega) (by simp; omega),hazP_in h0 h1,cAt_right h0,e2,e3,e4]
theorem safe_joins (a b:List Ins) (h:a.length=0\/(goesP (cAt a (a.length-1))=false/\lateP (cAt a (a.length-1))=false)):safeP (a ++ b)=(safeP a && safeP b):=by
 have hg:a.length=0\/goesP (cAt a (a.length-1))=false:=h.imp id fun h=>h.1
 rw [Bool.eq_iff_iff,Bool.and_eq_true,safe_iff,safe_iff,safe_iff]
 have hl:∀ j:Int,0<=j->j<a.length->hazP (a ++ b) j=hazP a j:=fun j h0 h1=>haz_left a b h0 h1 (by
  by_cases e:j+1<a.length
  .exact .inl e
  .have:j=a.length-1:=by omega
   rw [this]
   exact .inr (h.resolve_left (by omega)))
 constructor
 .intro hs
  refine ⟨fun j h0 h1=>?_,fun j h0 h1=>?_⟩
  .rw [<- hl j h0 h1]; exact hs j h0 (by simp; omega)
  .rw [<- haz_right a b h0 h1 hg]; exact hs _ (by omega) (by simp; omega)
 .rintro ⟨h1,h2⟩ j j0 j1
  by_cases e:j<a.length
  .rw [hl j j0 e]; exact h1 j j0 e
  .have:j=a.length+(j-a.length):=by omega
   rw [this,haz_right a b (by omega) (by simp at j1; omega) hg]
   exact h2 _ (by omega) (by simp at j1; omega)
end Go.Proofs.YtgjamnhjlaohaaaGreatDoor.S
namespace Go.Proofs.YtgjamnhjlaohaaaGreatDoor.S
open Go Go.RowKit Go.Alog
theorem farW {a b:Ins} (h:readsR a (writesP b)=true):farP a b>0:=by
 unfold farP
 split
 .decide
 .rw [if_pos (by simp [h])]; decide
theorem farL {a b:Ins} (h:readsR b (writesP a)=true) (hl:lateP a=true):farP a b=2:=by
 unfold farP
 rw [if_pos (by simp [h,hl])]
theorem nop_calm:rightR nop=true/\goesP nop=false/\lateP nop=false/\∀ n,readsR nop n=false:=by
 refine ⟨by decide +kernel,by decide +kernel,by decide +kernel,fun n=>?_⟩
 unfold readsR
 rw [show fieldL nop = [] from by decide]
 simp
theorem goes_calm {i:Ins} (h:goesP i=true):lateP i=false:=by
 unfold goesP at h
 unfold lateP
 simp only [Bool.and_eq_true,decide_eq_true_eq] at h
 rw [h.1]
 have h1:(i.op == 12)=false:=by rw [beq_eq_false_iff_ne]; omega
 have h2:(i.op == 20)=false:=by rw [beq_eq_false_iff_ne]; omega
 rw [h1,h2]; rfl
theorem ord_adj {l:List Ins} {t:Nat} (ht:t+1<(ordP l).length) (h0:0<=(ordP l).getD t 0) (h1:0<=(ordP l).getD (t+1) 0) (hl:lateP (cAt l ((ordP l).getD t 0))=true) :
  readsR (cAt l ((ordP l).getD (t+1) 0)) (writesP (cAt l ((ordP l).getD t 0)))=false:=by
 cases hr:readsR (cAt l ((ordP l).getD (t+1) 0)) (writesP (cAt l ((ordP l).getD t 0))) with
 | false=>rfl
 | true =>
  exfalso
  have hm:∀ k,k<(ordP l).length->(ordP l).getD k 0∈ordP l:=fun k hk=>by simp [List.getD,hk]
  have i0:=ordP_in l _ (hm t (by omega))
  have i1:=ordP_in l _ (hm (t+1) ht)
  have w0:=wh_once (ordP_nodup l) (k:=t) (by omega) h0
  have w1:=wh_once (ordP_nodup l) ht h1
  have hne:=nn_once (ordP_nodup l) t (t+1) (by omega) ht
  generalize (ordP l).getD t 0=p at *
  generalize (ordP l).getD (t+1) 0=q at *
  obtain ⟨p',rfl⟩:∃ p':Nat,p=p':=⟨p.toNat,by omega⟩
  obtain ⟨q',rfl⟩:∃ q':Nat,q=q':=⟨q.toNat,by omega⟩
  rcases Int.lt_trichotomy (p':Int) q' with h | h | h
  .have:=(ordP_far l p' q' h (by omega) (by rw [farL hr hl]; decide)).2
   rw [farL hr hl] at this
   omega
  .have:=hne h; omega
  .have hf:=farW hr
   have:=(ordP_far l q' p' h (by omega) hf).2
   omega
theorem gL {a b:List Int} {k:Nat} (h:k<a.length):(a ++ b).getD k 0=a.getD k 0:=by
 rw [List.getD_eq_getElem?_getD,List.getD_eq_getElem?_getD,List.getElem?_append_left h]
theorem gR {a b:List Int} {k:Nat}:(a ++ b).getD (a.length+k) 0=b.getD k 0:=by
 rw [List.getD_eq_getElem?_getD,List.getD_eq_getElem?_getD,List.getElem?_append_right (by omega),Nat.add_sub_cancel_left]
theorem gT {a:List Int} {n k:Nat} (h:k<n):(a.take n).getD k 0=a.getD k 0:=by
 rw [List.getD_eq_getElem?_getD,List.getD_eq_getElem?_getD,List.getElem?_take,if_pos h]
theorem clr_at {l:List Ins} {b:List Int} {i:Ins} {place:Int} (h:clearP l b i place=true) {k:Nat} (hk:k<b.length) (h0:0<=b.getD k 0):(k:Int)+farP (cAt l (b.getD k 0)) i<=place:=by
 unfold clearP at h
 rw [List.all_eq_true] at h
 have:=h k (List.mem_range.2 hk)
 unfold czA at this
 simp only [Bool.not_eq_true',Bool.and_eq_false_iff,decide_eq_false_iff_not] at this
 omega
theorem lay_adj {l:List Ins} (hne:l≠[]) {k:Nat} (hk:k+1<(layP l).length) (h0:0<=(layP l).getD k 0) (h1:0<=(layP l).getD (k+1) 0) (hl:lateP (cAt l ((layP l).getD k 0))=true) :
  readsR (cAt l ((layP l).getD (k+1) 0)) (writesP (cAt l ((layP l).getD k 0)))=false:=by
 have hpos:0<l.length:=by
  cases l with
  | nil=>exact absurd rfl hne
  | cons=>simp
 by_cases hg:goesP (lastI l)=false
 .have e:∃ z:List Int,layP l=ordP l ++ z/\∀ j,j<z.length->z.getD j 0 = -1:=by
   unfold layP
   rw [if_neg hne,if_pos hg]
   split
   .refine ⟨[-1],rfl,fun j hj=>?_⟩
    have:j=0:=by simp at hj; omega
    subst this; rfl
   .exact ⟨[],by simp,fun j hj=>by simp at hj⟩
  obtain ⟨z,e,hz⟩:=e
  rw [e] at hk h0 h1 hl ⊢
  have hk2:k+1<(ordP l).length:=by
   refine Classical.byContradiction fun h=>?_
   rw [List.length_append] at hk
   have:=hz (k+1-(ordP l).length) (by omega)
   rw [show k+1=(ordP l).length+(k+1-(ordP l).length) by omega,gR] at h1
   omega
  rw [gL hk2] at h1 ⊢
  rw [gL (by omega)] at h0 hl ⊢
  exact ord_adj hk2 h0 h1 hl
 .have hg:goesP (lastI l)=true:=by simpa using hg
  have hlen:(l.take (l.length-1)).length=l.length-1:=by rw [List.length_take]; omega
  have hat:∀ x:Int,0<=x->x<l.length-1->cAt (l.take (l.length-1)) x=cAt l x:=fun x x0 x1=>by
   unfold cAt
   simp only [List.getD]
   rw [List.getElem?_take,if_pos (by omega)]
  have hin:=ordP_in (l.take (l.length-1))
  rw [hlen] at hin
  have hmm:∀ j,j<(ordP (l.take (l.length-1))).length->(ordP (l.take (l.length-1))).getD j 0 = -1\/(0<=(ordP (l.take (l.length-1))).getD j 0/\(ordP (l.take (l.length-1))).getD j 0<(l.length-1:Nat)):=fun j hj=>hin _ (by simp [List.getD,hj])
  have adj:∀ j,j+1<(ordP (l.take (l.length-1))).length->0<=(ordP (l.take (l.length-1))).getD j 0->0<=(ordP (l.take (l.length-1))).getD (j+1) 0->lateP (cAt l ((ordP (l.take (l.length-1))).getD j 0))=true->readsR (cAt l ((ordP (l.take (l.length-1))).getD (j+1) 0)) (writesP (cAt l ((ordP (l.take (l.length-1))).getD j 0)))=false:=fun j hj a b c=>by
   have m0:=hmm j (by omega)
   have m1:=hmm (j+1) hj
   have:=ord_adj hj a b
   rw [hat _ (by omega) (by omega),hat _ (by omega) (by omega)] at this
   exact this c
  have last:cAt l ((l.length:Int)-1)=lastI l:=rfl
  have noread:∀ (p:Int) (a b:Int),lateP (cAt l p)=true->a+farP (cAt l p) (lastI l)<=b->b=a+1->readsR (lastI l) (writesP (cAt l p))=false:=fun p a b h1 h2 h3=>by
   cases hr:readsR (lastI l) (writesP (cAt l p)) with
   | false=>rfl
   | true=>have:=farL hr h1; omega
  unfold layP at hk h0 h1 hl ⊢
  rw [if_neg hne,if_neg (by rw [hg]; simp)] at hk h0 h1 hl ⊢
  generalize ordP (l.take (l.length-1))=o at *
  split at hk
  .rename_i hs
   rw [if_pos hs] at h0 h1 hl ⊢
   have ho:0<o.length:=by
    cases o with
    | nil=>exact absurd rfl hs.1
    | cons=>simp
   have hcl:clearP l (o.take (o.length-1)) (lastI l) ((o.length:Int)-1)=true:=by
    have:=hs.2
    unfold slotOk at this
    simp only [Bool.and_eq_true] at this
    exact this.2
   have ht:(o.take (o.length-1)).length=o.length-1:=by rw [List.length_take]; omega
   rw [List.length_append,ht] at hk
   simp only [List.length_cons,List.length_nil] at hk
   by_cases c1:k+1<o.length-1
   .have e0:(o.take (o.length-1) ++ [(l.length:Int)-1,o.getD (o.length-1) 0]).getD k 0=o.getD k 0:=by rw [gL (by omega),gT (by omega)]
    have e1:(o.take (o.length-1) ++ [(l.length:Int)-1,o.getD (o.length-1) 0]).getD (k+1) 0=o.getD (k+1) 0:=by rw [gL (by omega),gT (by omega)]
    rw [e0] at h0 hl ⊢
    rw [e1] at h1 ⊢
    exact adj k (by omega) h0 h1 hl
   .by_cases c2:k+1=o.length-1
    .have e1:(o.take (o.length-1) ++ [(l.length:Int)-1,o.getD (o.length-1) 0]).getD (k+1) 0=(l.length:Int)-1:=by
      rw [c2]; conv=>lhs; arg 2; rw [<- ht]
      exact gR (k:=0)
     rw [e1,last]
     rw [gL (k:=k) (by omega)] at h0 hl ⊢
     have:=clr_at hcl (k:=k) (by omega) h0
     exact noread _ _ _ hl this (by omega)
    .have:k=o.length-1:=by omega
     have e1:(o.take (o.length-1) ++ [(l.length:Int)-1,o.getD (o.length-1) 0]).getD k 0=(l.length:Int)-1:=by
      rw [this]; conv=>lhs; arg 2; rw [<- ht]
      exact gR (k:=0)
     rw [e1,last,goes_calm hg] at hl
     cases hl
  .rename_i hs
   rw [if_neg hs] at h0 h1 hl ⊢
   have hp:∃ z:List Int,padL l o (lastI l)=o ++ z/\(∀ j,j<z.length->z.getD j 0 = -1)/\clearP l (o ++ z) (lastI l) ((o ++ z).length:Int)=true:=by
    unfold padL
    split
    .rename_i h; exact ⟨[],by simp,fun j hj=>by simp at hj,by simpa using h⟩
    .refine ⟨[-1],rfl,fun j hj=>?_,pad_clear _ _ _⟩
     have:j=0:=by simp at hj; omega
     subst this; rfl
   obtain ⟨z,e,hz,hcl⟩:=hp
   rw [e] at hk h0 h1 hl ⊢
   have hzz:∀ j,j<(o ++ z).length->0<=(o ++ z).getD j 0->j<o.length:=fun j hj h=>by
    refine Classical.byContradiction fun hn=>?_
    rw [List.length_append] at hj
    have:=hz (j-o.length) (by omega)
    rw [show j=o.length+(j-o.length) by omega,gR] at h
    omega
   rw [List.length_append] at hk
   simp only [List.length_cons,List.length_nil] at hk
   by_cases c1:k+1<(o ++ z).length
   .rw [gL (k:=k+1) c1] at h1 ⊢
    have c2:=hzz _ c1 h1
    have e0:(o ++ z ++ [(l.length:Int)-1,-1]).getD k 0=o.getD k 0:=by rw [gL (by omega),gL (by omega)]
    rw [e0] at h0 hl ⊢
    rw [gL c2] at h1 ⊢
    exact adj k c2 h0 h1 hl
   .by_cases c2:k+1=(o ++ z).length
    .have e1:(o ++ z ++ [(l.length:Int)-1,-1]).getD (k+1) 0=(l.length:Int)-1:=by
      rw [c2]; exact gR (k:=0)
     rw [e1,last]
     rw [gL (by omega)] at h0 hl ⊢
     have:=clr_at hcl (k:=k) (by omega) h0
     exact noread _ _ _ hl this (by omega)
    .have:k+1=(o ++ z).length+1:=by omega
     rw [this,gR] at h1
     have e:([(l.length:Int)-1,-1]:List Int).getD 1 0 = -1:=rfl
     omega
def calmL (b:List Ins):Prop:=b.length=0\/(goesP (cAt b (b.length-1))=false/\lateP (cAt b (b.length-1))=false)
theorem layB_at (l:List Ins) {k:Nat} (h:k<(layP l).length):cAt (layB l) k=pickAt l ((layP l).getD k 0):=by
 unfold cAt layB pickP
 rw [show ((k:Nat):Int).toNat=k by omega]
 simp [List.getD,h]
theorem lay_safe (l:List Ins) (hne:l≠[]) (hr:∀ j:Nat,j<l.length->rightR (cAt l j)=true) (hg:∀ j:Nat,j+1<l.length->goesP (cAt l j)=false):safeP (layB l)=true/\calmL (layB l):=by
 have hpos:0<l.length:=by
  cases l with
  | nil=>exact absurd rfl hne
  | cons=>simp
 have hlen:=layB_len l
 have hge:=layP_ge l
 obtain ⟨n1,n2,n3,n4⟩:=nop_calm
 have hin:=layP_in l
 have hmm:∀ j,j<(layP l).length->(layP l).getD j 0 = -1\/(0<=(layP l).getD j 0/\(layP l).getD j 0<l.length):=fun j hj=>hin _ (by simp [List.getD,hj])
 have pk:∀ j,j<(layP l).length->((layP l).getD j 0 = -1/\cAt (layB l) j=nop)\/(0<=(layP l).getD j 0/\(layP l).getD j 0<l.length/\cAt (layB l) j=cAt l ((layP l).getD j 0)):=fun j hj=>by
  rw [layB_at l hj]
  unfold pickAt
  rcases hmm j hj with h | h
  .exact .inl ⟨h,by rw [if_neg (by omega)]⟩
  .exact .inr ⟨h.1,h.2,by rw [if_pos h]⟩
 have hnd:(nnL (layP l)).Nodup:=(layP_perm l).nodup_iff.2 (idL_nodup _)
 have right:∀ j,j<(layP l).length->rightR (cAt (layB l) j)=true:=fun j hj=>by
  rcases pk j hj with ⟨_,h⟩ | ⟨h0,h1,h⟩
  .rw [h]; exact n1
  .rw [h]
   have:=hr ((layP l).getD j 0).toNat (by omega)
   rwa [show ((((layP l).getD j 0).toNat:Nat):Int)=(layP l).getD j 0 by omega] at this
 have goes:∀ j,j<(layP l).length->goesP (cAt (layB l) j)=true->j+2=(layP l).length:=fun j hj h=>by
  rcases pk j hj with ⟨_,e⟩ | ⟨h0,h1,e⟩
  .rw [e,n2] at h; cases h
  .rw [e] at h
   have hl:(layP l).getD j 0=(l.length:Int)-1:=by
    refine Classical.byContradiction fun hn=>?_
    have:=hg ((layP l).getD j 0).toNat (by omega)
    rw [show ((((layP l).getD j 0).toNat:Nat):Int)=(layP l).getD j 0 by omega,h] at this
    cases this
   have hgl:goesP (lastI l)=true:=by rw [hl] at h; exact h
   obtain ⟨g1,g2⟩:=layP_goes l hne hgl
   refine Classical.byContradiction fun hn=>?_
   rcases Nat.lt_or_ge j ((layP l).length-2) with hlt | hge'
   .have:=nn_once hnd j ((layP l).length-2) hlt (by omega) (by rw [hl,g2])
    omega
   .have:=nn_once hnd ((layP l).length-2) j (by omega) hj (by rw [hl,g2])
    omega
 have lastc:lateP (cAt (layB l) ((layP l).length-1:Nat))=false:=by
  rcases pk ((layP l).length-1) (by omega) with ⟨_,e⟩ | ⟨h0,h1,e⟩
  .rw [e]; exact n3
  .rw [e]; exact layP_end l hne h0
 have lastg:goesP (cAt (layB l) ((layP l).length-1:Nat))=false:=by
  cases hg2:goesP (cAt (layB l) ((layP l).length-1:Nat)) with
  | false=>rfl
  | true=>have:=goes _ (by omega) hg2; omega
 refine ⟨?_,.inr ?_⟩
 .rw [safe_iff]
  intro j h0 h1
  rw [hlen] at h1
  obtain ⟨k,rfl⟩:∃ k:Nat,j=k:=⟨j.toNat,by omega⟩
  have hk:k<(layP l).length:=by omega
  rw [hazP_in h0 (by rw [hlen]; omega),right k hk,if_neg (by simp)]
  have c2:(goesP (cAt (layB l) k) && (decide ((k:Int)+1=(layB l).length) || goesP (cAt (layB l) ((k:Int)+1))))=false:=by
   cases hg2:goesP (cAt (layB l) k) with
   | false=>rfl
   | true =>
    have:=goes k hk hg2
    rw [hlen,decide_eq_false (by omega),Bool.true_and,Bool.false_or]
    cases hg3:goesP (cAt (layB l) ((k:Int)+1)) with
    | false=>rfl
    | true =>
     have:=goes (k+1) (by omega) hg3
     omega
  rw [c2,if_neg (by simp)]
  have c3:((decide ((k:Int)>0) && goesP (cAt (layB l) ((k:Int)-1))) && lateP (cAt (layB l) k))=false:=by
   by_cases hk0:(k:Int)>0
   .rw [decide_eq_true hk0,Bool.true_and]
    cases hg2:goesP (cAt (layB l) ((k:Int)-1)) with
    | false=>rfl
    | true =>
     rw [show ((k:Int)-1)=((k-1:Nat):Int) by omega] at hg2
     have:=goes (k-1) (by omega) hg2
     rw [show k=(layP l).length-1 by omega,lastc]; rfl
   .rw [decide_eq_false hk0]; rfl
  rw [c3,if_neg (by simp)]
  rw [if_neg]
  intro hh
  simp only [Bool.and_eq_true,Bool.not_eq_true',decide_eq_false_iff_not] at hh
  obtain ⟨⟨hl,hne2⟩,hrd⟩:=hh
  rw [hlen] at hne2
  rcases pk k hk with ⟨_,e⟩ | ⟨p0,p1,e⟩
  .rw [e,n3] at hl; cases hl
  rw [e] at hl hrd
  rw [show ((k:Int)+1)=((k+1:Nat):Int) by omega] at hrd
  rcases pk (k+1) (by omega) with ⟨_,e2⟩ | ⟨q0,q1,e2⟩
  .rw [e2,n4] at hrd; cases hrd
  rw [e2,lay_adj hne (by omega) p0 q0 hl] at hrd
  cases hrd
 .rw [hlen,show (((layP l).length:Nat):Int)-1=((layP l).length-1:Nat) by omega]
  exact ⟨lastg,lastc⟩
theorem calm_app {a b:List Ins} (hb:b≠[]) (h:calmL b):calmL (a ++ b):=by
 have hpos:0<b.length:=by
  cases b with
  | nil=>exact absurd rfl hb
  | cons=>simp
 rcases h with h | h
 .omega
 .right
  rw [List.length_append,show (((a.length+b.length:Nat):Int)-1)=a.length+((b.length:Int)-1) by omega,cAt_right (by omega)]
  exact h
theorem fitR {code:List Ins} (h:fitP code=true) {k:Int} (h0:0<=k) (h1:k<code.length):rightR (cAt code k)=true:=by
 have:=(fitP_at h (j:=k.toNat) (by omega)).1
 rwa [show ((k.toNat:Nat):Int)=k by omega] at this
theorem outU_safe {code:List Ins} (hf:fitP code=true):∀ {j:Nat},j<=mB code->safeP (outU code j)=true/\calmL (outU code j):=by
 intro j
 induction j with
 | zero=>intro _; exact ⟨by rw [show outU code 0 = [] from rfl]; decide,.inl rfl⟩
 | succ j ih =>
  intro h
  obtain ⟨i1,i2⟩:=ih (by omega)
  have hin:=nx_in (code:=code) (j:=j) (by omega)
  have hbl:=blkI_len (code:=code) (j:=j) (by omega)
  have hat:∀ q:Nat,q<(blkI code j).length->cAt (blkI code j) q=cAt code (nx code j+q):=fun q hq=>blkI_at (by omega) (by omega) (by omega)
  have hne:blkI code j≠[]:=fun e=>by rw [e] at hbl; simp at hbl; omega
  obtain ⟨l1,l2⟩:=lay_safe (blkI code j) hne (fun q hq=>by rw [hat q hq]; exact fitR hf (by omega) (by omega)) (fun q hq=>by
   rw [hat q (by omega)]
   exact nogo code code.length j (by show j<mB code; omega) (show nx code j<=_ by omega) (show nx code j+(q:Int)+1<nx code (j+1) by omega))
  have hne2:layB (blkI code j)≠[]:=fun e=>by
   have:=congrArg List.length e
   rw [layB_len] at this
   have h2:=layP_ge (blkI code j)
   simp at this; rw [this] at h2; simp at h2; exact hne h2
  refine ⟨?_,calm_app hne2 l2⟩
  show safeP (outU code j ++ layB (blkI code j))=true
  rw [safe_joins _ _ i2,i1,l1]; rfl
theorem outU_ge {code:List Ins}:∀ {j:Nat},j<=mB code->nx code j<=(outU code j).length:=by
 intro j
 induction j with
 | zero=>intro _; rw [nx_0]; simp [outU]
 | succ j ih =>
  intro h
  have i1:=ih (by omega)
  have hbl:=blkI_len (code:=code) (j:=j) (by omega)
  have h2:=layP_ge (blkI code j)
  show _<=(((outU code j ++ layB (blkI code j)).length:Nat):Int)
  rw [List.length_append,layB_len]
  omega
structure Alike (i i':Ins):Prop where
 r:rightR i'=rightR i
 g:goesP i'=goesP i
 l:lateP i'=lateP i
 w:writesP i'=writesP i
 d:∀ n,readsR i' n=readsR i n
theorem Alike.refl (i:Ins):Alike i i:=⟨rfl,rfl,rfl,rfl,fun _=>rfl⟩
theorem haz_alike {a b:List Ins} (hl:b.length=a.length) (h:∀ k,Alike (cAt a k) (cAt b k)) (k:Int):hazP b k=hazP a k:=by
 unfold hazP
 rw [hl,(h k).r,(h k).g,(h k).l,(h k).w,(h (k+1)).g,(h (k-1)).g,(h (k+1)).d]
theorem safe_alike {a b:List Ins} (hl:b.length=a.length) (h:∀ k,Alike (cAt a k) (cAt b k)) (hs:safeP a=true):safeP b=true:=by
 rw [safe_iff] at hs ⊢
 intro j h0 h1
 rw [haz_alike hl h]
 exact hs j h0 (by omega)
theorem alike_pat {code:List Ins} {k tq:Int} {i:Ins} (ht:tok i=true) (hr:rightR (patI code k i tq)=true):Alike i (patI code k i tq):=by
 unfold tok at ht
 simp only [Bool.and_eq_true,decide_eq_true_eq] at ht
 have ho:(patI code k i tq).op=i.op:=rfl
 have hop:=ht.2
 refine ⟨by rw [hr,ht.1],?_,?_,?_,fun n=>?_⟩
 .unfold goesP; rw [hr,ht.1,ho]
 .rw [goes_calm (i:=i) (by unfold goesP; rw [ht.1,Bool.true_and]; exact decide_eq_true (by omega)),goes_calm]
  unfold goesP; rw [hr,ho,Bool.true_and]; exact decide_eq_true (by omega)
 .unfold writesP fieldW
  have h12:¬ (1<=i.op/\i.op<=12):=by omega
  have h20:¬ i.op=20:=by omega
  simp only [hr,ht.1,ho,h12,h20,if_true,if_false,false_and]
 .unfold readsR fieldL
  rw [hr,ht.1,ho,show (patI code k i tq).a=i.a from rfl,show (patI code k i tq).b=i.b from rfl,show (patI code k i tq).c=i.c from rfl]
  by_cases h:i.op=20
  .omega
  .simp [h]
theorem old_at {code:List Ins}:∀ {j:Nat},j<=mB code->∀ k,k<(outU code j).length->cAt (outU code j) k=if (oldU code j).getD k 0<0 then nop else cAt code ((oldU code j).getD k 0):=by
 intro j
 induction j with
 | zero=>intro _ k hk; simp [outU] at hk
 | succ j ih =>
  intro h k hk
  have hol:=oldU_len (code:=code) j
  have hin:=nx_in (code:=code) (j:=j) (by omega)
  show cAt (outU code j ++ layB (blkI code j)) k=if (oldU code j ++ oldB code j).getD k 0<0 then nop else cAt code ((oldU code j ++ oldB code j).getD k 0)
  replace hk:k<(outU code j ++ layB (blkI code j)).length:=hk
  rw [List.length_append,layB_len] at hk
  by_cases hlt:k<(outU code j).length
  .rw [cAt_left (by omega),gL (by omega)]
   exact ih (by omega) k hlt
  .obtain ⟨d,rfl⟩:∃ d,k=(outU code j).length+d:=⟨k-(outU code j).length,by omega⟩
   have hd:d<(layP (blkI code j)).length:=by omega
   rw [show ((((outU code j).length+d:Nat)):Int)=(outU code j).length+(d:Int) by omega,cAt_right (by omega),layB_at _ hd,<- hol,gR]
   have e:(oldB code j).getD d 0=if 0<=(layP (blkI code j)).getD d 0 then nx code j+(layP (blkI code j)).getD d 0 else -1:=by
    unfold oldB
    simp [List.getD,hd]
   rw [e]
   have hm:=layP_in (blkI code j) ((layP (blkI code j)).getD d 0) (by simp [List.getD,hd])
   unfold pickAt
   rcases hm with h1 | h1
   .rw [h1]; simp
   .rw [if_pos h1,if_pos h1.1,if_neg (by omega)]
    exact blkI_at (by omega) h1.1 h1.2
theorem posF_alike {code:List Ins}:∀ {k:Nat} {out:List Ins},k<=(outU code (mB code)).length->posF code k=some out->out.length=(outU code (mB code)).length/\(∀ p,Alike (cAt (outU code (mB code)) p) (cAt out p))/\∀ p:Nat,k<=p->cAt out p=cAt (outU code (mB code)) p:=by
 intro k
 induction k with
 | zero =>
  intro out _ h
  injection h with h
  subst h
  exact ⟨rfl,fun p=>Alike.refl _,fun p _=>rfl⟩
 | succ k ih =>
  intro out hk h
  replace h:(posF code k).bind (stepAt code k)=some out:=h
  cases hp:posF code k with
  | none=>rw [hp] at h; cases h
  | some cur =>
   rw [hp] at h
   obtain ⟨i1,i2,i3⟩:=ih (by omega) hp
   replace h:stepAt code k cur=some out:=h
   unfold stepAt at h
   split at h
   .injection h with h
    subst h
    exact ⟨i1,i2,fun p hp=>i3 p (by omega)⟩
   .rename_i hc
    split at h
    .rename_i hr
     injection h with h
     have hck:cAt cur k=cAt code ((oldU code (mB code)).getD k 0):=by
      rw [i3 k (Nat.le_refl _),old_at (Nat.le_refl _) k (by omega),if_neg (by omega)]
     have ht:tok (cAt cur k)=true:=by
      rw [hck]
      cases ht:tok (cAt code ((oldU code (mB code)).getD k 0)) with
      | true=>rfl
      | false=>exact absurd (.inr ht) hc
     have ha:=alike_pat (code:=code) ht hr
     have hne:∀ p:Int,p.toNat≠k->cAt out p=cAt cur p:=fun p hp=>by
      rw [<- h]
      unfold cAt
      simp only [List.getD]
      rw [List.getElem?_set_ne (Ne.symm hp)]
     refine ⟨by rw [<- h,List.length_set]; exact i1,fun p=>?_,fun p hp=>?_⟩
     .by_cases hpk:p.toNat=k
      .have e1:∀ l:List Ins,cAt l p=cAt l (k:Int):=fun l=>by unfold cAt; rw [hpk]; rfl
       rw [e1,e1,<- i3 k (Nat.le_refl _)]
       have:cAt out (k:Int)=patI code k (cAt cur k) (tgt (cAt code ((oldU code (mB code)).getD k 0)) ((oldU code (mB code)).getD k 0)):=by
        rw [<- h]
        unfold cAt
        simp only [List.getD]
        rw [show ((k:Nat):Int).toNat=k by omega,List.getElem?_set_self (by omega)]
        rfl
       rw [this]
       exact ha
      .rw [hne p hpk]; exact i2 p
     .rw [hne p (by omega)]; exact i3 p (by omega)
    .cases h
theorem reorg_safe {code:List Ins} (h:(reorgP code).2.2=0):safeP (reorgP code).1=true/\code.length<=(reorgP code).1.length/\(reorgP code).1.length<=4096:=by
 unfold reorgP at h ⊢
 cases hf:fitP code with
 | false=>rw [hf,if_pos rfl] at h; cases h
 | true =>
  rw [hf,if_neg (by simp)] at h
  rw [if_neg (by simp)]
  by_cases hl:(outU code (mB code)).length>4096
  .rw [if_pos hl] at h; cases h
  .rw [if_neg hl] at h ⊢
   cases hp:posF code (outU code (mB code)).length with
   | none=>rw [hp] at h; cases h
   | some out =>
    obtain ⟨i1,i2,_⟩:=posF_alike (Nat.le_refl _) hp
    refine ⟨safe_alike i1 i2 (outU_safe hf (Nat.le_refl _)).1,?_,?_⟩
    .have:=outU_ge (code:=code) (Nat.le_refl _)
     rw [nx_end] at this
     show code.length<=out.length
     omega
    .show out.length<=4096
     omega
end Go.Proofs.YtgjamnhjlaohaaaGreatDoor.S
namespace Go.Proofs.YtgjamnhjlaohaaaGreatDoor.S
open Go Go.RowKit Go.Alog Go.Proofs.YtgjamnhjlaohaaaGreatDoor.T Go.Proofs.YtgjamnhjlaohaaaGreatDoor.V
def shortP (l:List ByteArray):Bool:=l.all (fun s=>decide (s.size<=400)) && decide (l.length<=3)
theorem short_c (w0:World) (m:AM) (A:Option Addr) (c:Nat) (l:List ByteArray) (hl:l.length<=4611686018427387904) (rd:Reads m 1 A l.length (l.map Value.string)) :
  CallsA Tryz.prog w0 4 #[.slice A l.length c] m (fun r m'=>r=.bool (shortP l)/\m'=m):=by
 refine CallsA.down (Q:=fun r=>r=.bool (shortP l)) (R:=fun r m'=>r=.bool (shortP l)/\m.le m') ?_ fun _ _ h=>h
 generalize hR:(fun (r:Value) (m':AM)=>r=.bool (shortP l)/\m.le m')=R
 refine cf4 w0 m A l.length c R ?_
 dsimp only [cf4,mkF]
 refine vl4_1010 w0 m _ R A l.length c A l.length c l.length 0 (fun n j m'=>∃ q:Nat,j=q/\q<=l.length/\n=l.length-q/\m'=m/\(l.take q).all (fun s=>decide (s.size<=400))=true) (fun m'=>m'=m/\l.all (fun s=>decide (s.size<=400))=true) l.length rfl rfl rfl rfl ⟨0,rfl,by omega,by omega,rfl,by simp⟩ ?_ ?_
 .rintro n σ j M ⟨q,rfl,hq,rfl,rfl,hall⟩
  have hw1:IntKind.wrap .i64 ((q:Int)+1)=((q+1:Nat):Int):=by rw [IntKind.wrap_i64]; omega
  refine ⟨rfl,bcP (fun hlt=>?_) fun hge=>⟨rfl,rfl,rfl,rfl,by rw [List.take_of_length_le (by omega)] at hall; exact hall⟩⟩
  have hq':q<l.length:=by omega
  obtain ⟨a,hA,hc⟩:=rd.ex (by omega)
  have h1:=hc q (.string l[q]) (by simp [hq'])
  rw [show (q:Int).toNat=q by omega,Nat.mul_one]
  refine ⟨⟨by omega,hlt⟩,nilO_at hA ⟨_,h1,rfl,bcP (fun hbig=>?_) fun hsm=>?_⟩⟩
  .refine retP_of ?_
   rw [<- hR]
   refine ⟨?_,AM.le_refl _⟩
   have:l.all (fun s=>decide (s.size<=400))=false:=by
    rw [List.all_eq_false]
    exact ⟨l[q],List.getElem_mem _,by simp; omega⟩
   rw [shortP,this,Bool.false_and]
  .refine ⟨rfl,rfl,rfl,rfl,rfl,l.length-(q+1),by omega,q+1,hw1,by omega,rfl,rfl,?_⟩
   rw [List.take_add_one,List.all_append,hall,List.getElem?_eq_getElem hq']
   simp; omega
 .rintro σ M ⟨rfl,hall⟩
  refine ⟨rfl,retP_of ?_⟩
  rw [<- hR]
  refine ⟨?_,AM.le_refl _⟩
  rw [shortP,hall,Bool.true_and]
  congr 1
  simp; omega
def oLives (m:AM) (r:Value) (m':AM):Prop:=r=.bool true/\m.le m'
theorem fillB4 {B:Nat} {m:AM} {b:Nat} {T:TypeId} (hB:B<=b) {z:List Value} (hz:z.length=4) (p:m b=some (.cells z.toArray T)) (v0 v1 v2 v3:Value) {K:AM->Prop} (hK:K (m.upd b (.cells ([v0,v1,v2,v3]:List Value).toArray T))) :
  StC B m ⟨b,0,none⟩ v0 fun m1=>StC B m1 ⟨b,1,none⟩ v1 fun m2=>StC B m2 ⟨b,2,none⟩ v2 fun m3=>StC B m3 ⟨b,3,none⟩ v3 K:=by
 match z,hz with
 | [z0,z1,z2,z3],_ =>
  refine StC_own p hB (by simp) (StC_own upd_get_same hB (by simp) (StC_own upd_get_same hB (by simp) (StC_own upd_get_same hB (by simp) ?_)))
  rw [upd_upd,upd_upd,upd_upd]
  exact hK
theorem top_of (w0:World) (m:AM) (A:Option Addr) (c:Nat) (l:List ByteArray) (mem:Int) (hl:l.length<=4611686018427387904) (rd:Reads m 1 A l.length (l.map Value.string)) (hsp:Sp m) (hlive:∀ M,Sp M->CallsA Tryz.prog w0 5 #[] M (oLives M)) :
  CallsA Tryz.prog w0 3 #[.slice A l.length c,.int .i64 mem] m (fun r _=>r=.bool true):=by
 refine cf3 w0 m A l.length c mem _ (CallsA.mono (short_c w0 m A c l hl rd) ?_)
 rintro r m1 ⟨rfl,rfl⟩
 refine ⟨_,rfl,?_⟩
 cases hs:shortP l with
 | false =>
  refine bcT (CallsA.mono (hlive m1 hsp) ?_)
  rintro r m2 ⟨rfl,l2⟩
  exact ⟨_,rfl,retP_of rfl⟩
 | true =>
  unfold shortP at hs
  rw [Bool.and_eq_true,List.all_eq_true] at hs
  have hs1:∀ x∈l,x.size<=400:=fun x hx=>by simpa using hs.1 x hx
  have hs2:l.length<=3:=by simpa using hs.2
  refine bcF (CallsA.mono (build_of w0 m1 A c l mem (fun s'=>s'.sz<=80009) (by omega) rd (fun s h=>by unfold CS.sz at h; exact ⟨by show s.code.length<=_; omega,by show s.exps.length<=_; omega,by show s.imps.length<=_; omega,by show s.pats.length<=_; omega⟩) fun x hx M hM=>compile_w w0 M x (hs1 x hx) (hsp.le hM)) ?_)
  rintro r m2 ⟨l2,A1,n1,c1,d,A2,n2,c2,mm,i,j,e,rfl,hres⟩
  refine ⟨_,_,_,_,_,_,_,_,_,_,_,rfl,?_⟩
  intro b hB hN M3
  refine fillB4 hB (z:=zBt) rfl upd_get_same _ _ _ _ ?_
  rw [upd_upd]
  have l3:m2.le (m2.upd b (.cells ([.slice A1 n1 c1,.int .i64 d,.slice A2 n2 c2,.int .i64 mm]:List Value).toArray 29)):=le_new hN _
  have p3:(m2.upd b (.cells ([.slice A1 n1 c1,.int .i64 d,.slice A2 n2 c2,.int .i64 mm]:List Value).toArray 29)) b=some (.cells ([.slice A1 n1 c1,.int .i64 d,.slice A2 n2 c2,.int .i64 mm]:List Value).toArray 29 (0,0)):=upd_get_same
  revert l3 p3
  generalize m2.upd b (.cells ([.slice A1 n1 c1,.int .i64 d,.slice A2 n2 c2,.int .i64 mm]:List Value).toArray 29)=m3
  intro l3 p3
  have s3:=hsp.le (AM.le_trans l2 l3)
  rcases hres with ⟨he,rfl,_⟩ | ⟨rfl,rfl,code,rfl,hlen,hz,rfl,hc2,r1,r2,_⟩
  .refine ⟨rfl,bcET (by simpa using he) ⟨_,_,_,cel p3 rfl,rfl,bcET rfl (CallsA.mono (hlive m3 s3) ?_)⟩⟩
   rintro r m4 ⟨rfl,_⟩
   exact ⟨_,rfl,retP_of rfl⟩
  .obtain ⟨h1,h2,h3⟩:=reorg_safe hz
   refine ⟨rfl,bcEF rfl ⟨_,_,_,cel p3 rfl,CallsA.mono (reorg_spec w0 m3 A2 c2 (reorgP code).1 (by omega) hc2 (r2.le l3)) ?_⟩⟩
   rintro r m5 ⟨A5,c5,A6,c6,rfl,o5,o6,_,_,l5⟩
   have p5:=l5 _ _ p3
   refine ⟨_,_,_,_,_,_,_,rfl,_,_,_,cel p5 rfl,CallsA.mono (safe_e w0 m5 A2 _ c2 _ rfl (by omega) ((r2.le l3).le l5)) ?_⟩
   rintro r m6 ⟨rfl,rfl⟩
   have s5:=s3.le l5
   have d1:decide ((((reorgP code).1.length:Nat):Int)<=4096)=true:=by simp; omega
   have d2:decide ((((reorgP code).1.length:Nat):Int)>=((code.length:Nat):Int))=true:=by simp; omega
   rw [h1]
   refine ⟨_,rfl,bcT ⟨_,_,_,cel p5 rfl,rfl,bcET d1 ⟨_,_,_,cel p5 rfl,_,_,_,cel p5 rfl,rfl,?_⟩⟩⟩
   rw [d1,d2]
   refine bcET rfl ⟨rfl,bcI (fun hf=>?_) fun hf=>?_⟩
   .refine ⟨hf,bcET rfl (CallsA.mono (hlive m6 s5) ?_)⟩
    rintro r m7 ⟨rfl,_⟩
    exact ⟨_,rfl,retP_of rfl⟩
   .have hf':(reorgP (reorgP code).1).2.2=0:=by simpa using hf
    obtain ⟨g1,g2,g3⟩:=reorg_safe hf'
    refine CallsA.mono (safe_e w0 m6 A5 _ c5 _ rfl (by omega) o5.reads) ?_
    rintro r m7 ⟨rfl,rfl⟩
    rw [g1]
    refine ⟨_,rfl,?_⟩
    try dsimp only
    rw [show (bif ((reorgP (reorgP code).1).2.2 != 0) then true else true)=true by cases ((reorgP (reorgP code).1).2.2 != 0) <;> rfl]
    refine bcET rfl (CallsA.mono (hlive m7 s5) ?_)
    rintro r m8 ⟨rfl,_⟩
    exact ⟨_,rfl,retP_of rfl⟩
end Go.Proofs.YtgjamnhjlaohaaaGreatDoor.S
namespace Go.Proofs.YtgjamnhjlaohaaaGreatDoor.V
open Go Go.Alog Go.Proofs.YtgjamnhjlaohaaaGreatDoor.T
variable (w0:World) (m:AM)
noncomputable abbrev cf80 (x0:Nat) (x1 x2:Int) (R:RT):Vn (C_ w0 80 #[pt_ x0,I_ x1,I_ x2] m R):=mkF (F:=F80) Tryz.func80 (by dsimp only [push_cast,↓u1,↓u2,↓u3,Nat.reduceAdd,Nat.reduceBEq,Nat.reduceDiv,Nat.reduceMod]) (by kernel_rfl)
noncomputable abbrev cf166 (x0:Bool) (R:RT):Vn (C_ w0 166 #[.bool x0] m R):=mkF (F:=F166) Tryz.func166 (by dsimp only [push_cast,↓u1,↓u2,↓u3,Nat.reduceAdd,Nat.reduceBEq,Nat.reduceDiv,Nat.reduceMod]) (by kernel_rfl)
noncomputable abbrev cf131 (x0_0 x0_1 x0_2 x0_3 x0_4 x1 x2:Int) (R:RT):Vn (C_ w0 131 #[.agg #[I_ x0_0,I_ x0_1,I_ x0_2,I_ x0_3,I_ x0_4],I_ x1,I_ x2] m R):=mkF (F:=F131) Tryz.func131 (by dsimp only [push_cast,↓u1,↓u2,↓u3,Nat.reduceAdd,Nat.reduceBEq,Nat.reduceDiv,Nat.reduceMod]) (by kernel_rfl)
noncomputable abbrev cf79 (x0_0 x0_1 x0_2 x0_3 x0_4 x1 x2:Int) (R:RT):Vn (C_ w0 79 #[.agg #[I_ x0_0,I_ x0_1,I_ x0_2,I_ x0_3,I_ x0_4],I_ x1,I_ x2] m R):=mkF (F:=F79) Tryz.func79 (by dsimp only [push_cast,↓u1,↓u2,↓u3,Nat.reduceAdd,Nat.reduceBEq,Nat.reduceDiv,Nat.reduceMod]) (by kernel_rfl)
noncomputable abbrev cf129 (x0:Nat) (x1:Int) (R:RT):Vn (C_ w0 129 #[pt_ x0,I_ x1] m R):=mkF (F:=F129) Tryz.func129 (by dsimp only [push_cast,↓u1,↓u2,↓u3,Nat.reduceAdd,Nat.reduceBEq,Nat.reduceDiv,Nat.reduceMod]) (by kernel_rfl)
noncomputable abbrev cf78 (x0:Nat) (x1_0 x1_1 x1_2 x1_3 x1_4:Int) (R:RT):Vn (C_ w0 78 #[pt_ x0,.agg #[I_ x1_0,I_ x1_1,I_ x1_2,I_ x1_3,I_ x1_4]] m R):=mkF (F:=F78) Tryz.func78 (by dsimp only [push_cast,↓u1,↓u2,↓u3,Nat.reduceAdd,Nat.reduceBEq,Nat.reduceDiv,Nat.reduceMod]) (by kernel_rfl)
noncomputable abbrev vr78_11010100 (σ:Sg) (R:RT) (x0 x3:Nat) (x6:Int) (K:Int->Bool->AM->Prop) (h0:σ 0=pt_ x0) (h3:σ 3=pt_ x3) (h6:σ 6=I_ x6):Vn (Vn (XV w0 F78 (Tz R) 468 σ m)):=mkR (.o 0 (.o 1 (.o 2 (.o 4 (.o 5 (.o 6 (.a (.o 3 (.o 7 (.o 8 (.o 9 (.o 10 (.o 11 (.o 12 (.o 13 .z)))))))) (.o 7 (.o 3 (.o 8 (.o 9 (.o 10 (.o 11 (.o 12 (.o 13 .z))))))))))))))) [0,3] (ks:=[(7,.i),(8,.b)]) K (cs h0 (cs h3 (cs h6 nl))) (by dsimp only [push_cast,↓u1,↓u2,↓u3,Nat.reduceAdd,Nat.reduceBEq,Nat.reduceDiv,Nat.reduceMod]) (by dsimp only [push_cast,↓u1,↓u2,↓u3,Nat.reduceAdd,Nat.reduceBEq,Nat.reduceDiv,Nat.reduceMod]) (by kernel_rfl)
noncomputable abbrev vr78_1101011100 (σ:Sg) (R:RT) (x0 x3:Nat) (x5 x6:Int) (K:Bool->AM->Prop) (h0:σ 0=pt_ x0) (h3:σ 3=pt_ x3) (h5:σ 5=I_ x5) (h6:σ 6=I_ x6):Vn (Vn (XV w0 F78 (Tz R) 1884 σ m)):=mkR (.o 0 (.o 1 (.o 2 (.o 4 (.o 5 (.o 6 (.o 8 (.a (.o 3 (.o 7 (.o 9 (.o 10 .z)))) (.o 7 (.o 3 (.o 9 (.o 10 .z)))))))))))) [] (ks:=[(58,.b)]) K (cs h0 (cs h3 (cs h5 (cs h6 nl)))) (by dsimp only [push_cast,↓u1,↓u2,↓u3,Nat.reduceAdd,Nat.reduceBEq,Nat.reduceDiv,Nat.reduceMod]) (by dsimp only [push_cast,↓u1,↓u2,↓u3,Nat.reduceAdd,Nat.reduceBEq,Nat.reduceDiv,Nat.reduceMod]) (by kernel_rfl)
noncomputable abbrev cf81 (x0:Nat) (x1_0 x1_1 x1_2 x1_3 x1_4:Int) (R:RT):Vn (C_ w0 81 #[pt_ x0,.agg #[I_ x1_0,I_ x1_1,I_ x1_2,I_ x1_3,I_ x1_4]] m R):=mkF (F:=F81) Tryz.func81 (by dsimp only [push_cast,↓u1,↓u2,↓u3,Nat.reduceAdd,Nat.reduceBEq,Nat.reduceDiv,Nat.reduceMod]) (by kernel_rfl)
noncomputable abbrev cf41 (x0:Nat) (R:RT):Vn (C_ w0 41 #[pt_ x0] m R):=mkF (F:=F41) Tryz.func41 (by dsimp only [push_cast,↓u1,↓u2,↓u3,Nat.reduceAdd,Nat.reduceBEq,Nat.reduceDiv,Nat.reduceMod]) (by kernel_rfl)
noncomputable abbrev cf18 (x0:Option Addr) (x0n x0c:Nat) (x1:Int) (x2:Option Addr) (x2n x2c:Nat) (x3:Int) (R:RT):Vn (C_ w0 18 #[.slice x0 x0n x0c,I_ x1,.slice x2 x2n x2c,I_ x3] m R):=mkF (F:=F18) Tryz.func18 (by dsimp only [push_cast,↓u1,↓u2,↓u3,Nat.reduceAdd,Nat.reduceBEq,Nat.reduceDiv,Nat.reduceMod]) (by kernel_rfl)
noncomputable abbrev vl18_1111100 (σ:Sg) (R:RT) (x3:Int) (x8:Nat) (x9:Option Addr) (x10 x11:Nat) (I0:Nat->AM->Prop) (E0_0:AM->Prop) (N:Nat) (h3:σ 3=I_ x3) (h8:σ 8=pt_ x8) (h9:σ 9=.pointer x9) (h10:σ 10=pt_ x10) (h11:σ 11=pt_ x11) (h_0:I0 N  m):Vn (Vn (XV w0 F18 (Tz R) 252 σ m)):=mkL1 (lq18_1111100 R x3 x8 x9 x10 x11 I0 E0_0) (fun _=>rfl) N (cs h3 (cs h8 (cs h9 (cs h10 (cs h11 nl))))) nl h_0 (by dsimp only [push_cast,↓u1,↓u2,↓u3,Nat.reduceAdd,Nat.reduceBEq,Nat.reduceDiv,Nat.reduceMod]) (by dsimp only [push_cast,↓u1,↓u2,↓u3,Nat.reduceAdd,Nat.reduceBEq,Nat.reduceDiv,Nat.reduceMod]) (by kernel_rfl)
noncomputable abbrev vr18_1111110 (σ:Sg) (R:RT) (x8:Nat) (x9:Option Addr) (x10 x11:Nat) (K:AM->Prop) (h8:σ 8=pt_ x8) (h9:σ 9=.pointer x9) (h10:σ 10=pt_ x10) (h11:σ 11=pt_ x11):Vn (Vn (XV w0 F18 (Tz R) 254 σ m)):=mkR (.o 0 (.o 1 (.o 2 (.o 4 (.a (.o 3 (.o 5 (.o 6 (.o 7 (.o 8 (.o 9 .z)))))) (.o 5 (.o 3 (.o 6 (.o 7 (.o 8 (.o 9 .z))))))))))) [8,11] (ks:=[]) K (cs h8 (cs h9 (cs h10 (cs h11 nl)))) (by dsimp only [push_cast,↓u1,↓u2,↓u3,Nat.reduceAdd,Nat.reduceBEq,Nat.reduceDiv,Nat.reduceMod]) (by dsimp only [push_cast,↓u1,↓u2,↓u3,Nat.reduceAdd,Nat.reduceBEq,Nat.reduceDiv,Nat.reduceMod]) (by kernel_rfl)
end Go.Proofs.YtgjamnhjlaohaaaGreatDoor.V
namespace Go.Proofs.YtgjamnhjlaohaaaGreatDoor.S
open Go Go.RowKit Go.Alog Go.Proofs.YtgjamnhjlaohaaaGreatDoor.T Go.Proofs.YtgjamnhjlaohaaaGreatDoor.V
def andI (a b:Int):Int:=IntKind.wrap .i64 ((BitVec.ofInt (IntKind.bits .i64) a &&& BitVec.ofInt (IntKind.bits .i64) b).toNat:Int)
def orI (a b:Int):Int:=IntKind.wrap .i64 ((BitVec.ofInt (IntKind.bits .i64) a ||| BitVec.ofInt (IntKind.bits .i64) b).toNat:Int)
def truthI (b:Bool):Int:=if b then 1 else 0
def reckP (i:Ins) (b c:Int):Option Int :=
 if i.op=1 then some (IntKind.wrap .i64 (b+c)) else if i.op=2 then some (IntKind.wrap .i64 (b-c)) else if i.op=3 then some (IntKind.wrap .i64 (b*c))
 else if i.op=6 then some (andI b c) else if i.op=7 then some (orI b c) else if i.op=8 then some (truthI (decide (b<c))) else if i.op=9 then some (truthI (b == c))
 else if i.op=10 then some (IntKind.wrap .i64 (b+i.imm)) else if i.op=11 then some (IntKind.wrap .i64 (i.imm*65536)) else none
theorem truth_spec (w0:World) (m:AM) (b:Bool):CallsA Tryz.prog w0 166 #[.bool b] m (fun r m'=>r=.int .i64 (truthI b)/\m'=m):=by
 refine cf166 w0 m b _ ?_
 dsimp only [cf166,mkF]
 cases b
 .simp only [bcase_f]; exact retP_of ⟨rfl,rfl⟩
 .simp only [bcase_t]; exact retP_of ⟨rfl,rfl⟩
theorem reckon_spec (w0:World) (m:AM) (i:Ins) (b c:Int):CallsA Tryz.prog w0 131 #[i.val,.int .i64 b,.int .i64 c] m (fun r m'=>r=.tuple #[.int .i64 ((reckP i b c).getD 0),.bool (reckP i b c).isSome]/\m.le m'):=by
 refine cf131 w0 m _ _ _ _ _ b c _ ?_
 intro b1 hb1 hm1 M
 have l1:m.le M:=le_new hm1 _
 have p1:M b1=some (.cells i.cells.toArray 57):=upd_get_same
 clear_value M
 have e0:∀ k:Int,(i.op == k)=decide (i.op=k):=fun k=>rfl
 simp only [cell_of p1,Ins.cells,std_all,sto_all,Nat.reduceAdd,Nat.reduceLT,LI_,LB_,LA_,SI_,pt_,KI_,I_,SJ_,S_,LT_,LS_,LC_,LU_,LV_,RB_,RI_,RS_,N_,T_,SE_,e0]
 unfold reckP
 by_cases c1:i.op=1
 .simp only [decide_eq_true c1,if_pos c1,bcase_t,Option.isSome_some,Option.getD_some]; exact retP_of ⟨rfl,l1⟩
 simp only [decide_eq_false c1,if_neg c1,bcase_f]
 by_cases c2:i.op=2
 .simp only [decide_eq_true c2,if_pos c2,bcase_t,Option.isSome_some,Option.getD_some]; exact retP_of ⟨rfl,l1⟩
 simp only [decide_eq_false c2,if_neg c2,bcase_f]
 by_cases c3:i.op=3
 .simp only [decide_eq_true c3,if_pos c3,bcase_t,Option.isSome_some,Option.getD_some]; exact retP_of ⟨rfl,l1⟩
 simp only [decide_eq_false c3,if_neg c3,bcase_f]
 by_cases c6:i.op=6
 .simp only [decide_eq_true c6,if_pos c6,bcase_t,Option.isSome_some,Option.getD_some]; exact retP_of ⟨rfl,l1⟩
 simp only [decide_eq_false c6,if_neg c6,bcase_f]
 by_cases c7:i.op=7
 .simp only [decide_eq_true c7,if_pos c7,bcase_t,Option.isSome_some,Option.getD_some]; exact retP_of ⟨rfl,l1⟩
 simp only [decide_eq_false c7,if_neg c7,bcase_f]
 by_cases c8:i.op=8
 .simp only [decide_eq_true c8,if_pos c8,bcase_t,Option.isSome_some,Option.getD_some]
  refine CallsA.mono (truth_spec w0 M _) ?_
  rintro r m' ⟨rfl,rfl⟩
  exact ⟨_,rfl,retP_of ⟨rfl,l1⟩⟩
 simp only [decide_eq_false c8,if_neg c8,bcase_f]
 by_cases c9:i.op=9
 .simp only [decide_eq_true c9,if_pos c9,bcase_t,Option.isSome_some,Option.getD_some]
  refine CallsA.mono (truth_spec w0 M _) ?_
  rintro r m' ⟨rfl,rfl⟩
  exact ⟨_,rfl,retP_of ⟨rfl,l1⟩⟩
 simp only [decide_eq_false c9,if_neg c9,bcase_f]
 by_cases c10:i.op=10
 .simp only [decide_eq_true c10,if_pos c10,bcase_t,Option.isSome_some,Option.getD_some]; exact retP_of ⟨rfl,l1⟩
 simp only [decide_eq_false c10,if_neg c10,bcase_f]
 by_cases c11:i.op=11
 .simp only [decide_eq_true c11,if_pos c11,bcase_t,Option.isSome_some,Option.getD_some]
  exact ⟨by decide,retP_of ⟨rfl,l1⟩⟩
 simp only [decide_eq_false c11,if_neg c11,bcase_f,Option.isSome_none,Option.getD_none]
 exact retP_of ⟨rfl,l1⟩
def reckonP (i:Ins) (b c:Int):Int × Int × Bool :=
 if rightR i=false then (0,0,false)
 else match reckP i (w32 b) (w32 c) with
  | some v=>(w32 v,0,true)
  | none=>if i.op≠4/\i.op≠5 then (0,0,false) else if w32 c=0 then (0,4,true) else if i.op=5 then ((w32 b).tmod (w32 c),0,true) else (w32 ((w32 b).tdiv (w32 c)),0,true)
theorem Reckon_spec (w0:World) (m:AM) (i:Ins) (b c:Int):CallsA Tryz.prog w0 79 #[i.val,.int .i64 b,.int .i64 c] m (fun r m'=>r=.tuple #[.int .i64 (reckonP i b c).1,.int .i64 (reckonP i b c).2.1,.bool (reckonP i b c).2.2]/\m.le m'):=by
 refine cf79 w0 m _ _ _ _ _ b c _ ?_
 intro b1 hb1 hm1 M
 have l1:m.le M:=le_new hm1 _
 have p1:M b1=some (.cells i.cells.toArray 57):=upd_get_same
 clear_value M
 refine CallsA.mono (wrapW w0 M b) ?_
 rintro r m1 ⟨rfl,rfl⟩
 refine ⟨_,rfl,CallsA.mono (wrapW w0 _ c) ?_⟩
 rintro r m1 ⟨rfl,rfl⟩
 refine ⟨_,rfl,?_⟩
 simp only [cell_of p1,Ins.cells,std_all,sto_all,Nat.reduceAdd,Nat.reduceLT,LI_,LB_,LA_,SI_,pt_,KI_,I_,SJ_,S_,LT_,LS_,LC_,LU_,LV_,RB_,RI_,RS_,N_,T_,SE_]
 refine CallsA.mono (reckon_spec w0 _ i _ _) ?_
 rintro r m2 ⟨rfl,l2⟩
 have p2:=l2 _ _ p1
 refine ⟨_,_,rfl,?_⟩
 simp only [cell_of p2,Ins.cells,std_all,sto_all,Nat.reduceAdd,Nat.reduceLT,LI_,LB_,LA_,SI_,pt_,KI_,I_,SJ_,S_,LT_,LS_,LC_,LU_,LV_,RB_,RI_,RS_,N_,T_,SE_]
 refine CallsA.mono (isaRight w0 _ i) ?_
 rintro r m3 ⟨rfl,l3⟩
 have p3:=l3 _ _ p2
 have L:=AM.le_trans (AM.le_trans l1 l2) l3
 unfold reckonP
 cases hr:rightR i
 .simp only [std_all,sto_all,Nat.reduceAdd,Nat.reduceLT,LI_,LB_,LA_,SI_,pt_,KI_,I_,SJ_,S_,LT_,LS_,LC_,LU_,LV_,RB_,RI_,RS_,N_,T_,SE_,Bool.not_false,if_true]
  exact retP_of ⟨rfl,L⟩
 simp only [std_all,sto_all,Nat.reduceAdd,Nat.reduceLT,LI_,LB_,LA_,SI_,pt_,KI_,I_,SJ_,S_,LT_,LS_,LC_,LU_,LV_,RB_,RI_,RS_,N_,T_,SE_,Bool.not_true,Bool.true_eq_false,if_false]
 cases hv:reckP i (w32 b) (w32 c) with
 | some v =>
  simp only [Option.isSome_some,Option.getD_some,std_all,sto_all,Nat.reduceAdd,Nat.reduceLT,LI_,LB_,LA_,SI_,pt_,KI_,I_,SJ_,S_,LT_,LS_,LC_,LU_,LV_,RB_,RI_,RS_,N_,T_,SE_]
  refine CallsA.mono (wrapW w0 m3 v) ?_
  rintro r m4 ⟨rfl,rfl⟩
  exact ⟨_,rfl,retP_of ⟨rfl,L⟩⟩
 | none =>
  have e0:∀ k:Int,(i.op != k) = !decide (i.op=k):=fun k=>rfl
  have e1:∀ k:Int,(i.op == k)=decide (i.op=k):=fun k=>rfl
  simp only [Option.isSome_none,Option.getD_none,std_all,sto_all,Nat.reduceAdd,Nat.reduceLT,LI_,LB_,LA_,SI_,pt_,KI_,I_,SJ_,S_,LT_,LS_,LC_,LU_,LV_,RB_,RI_,RS_,N_,T_,SE_,cell_of p3,Ins.cells,e0,e1]
  have dv:∀ (K:Value->AM->Prop),(w32 c=0->K (.tuple #[.int .i64 0,.int .i64 0,.bool false]) m3)->(w32 c≠0->K (.tuple #[.int .i64 (w32 ((w32 b).tdiv (w32 c))),.int .i64 ((w32 b).tmod (w32 c)),.bool true]) m3)->CallsA Tryz.prog w0 132 #[.int .i64 (w32 b),.int .i64 (w32 c)] m3 K:=by
   intro K h1 h2
   refine CallsA.mono (divW w0 m3 (w32 b) (w32 c)) ?_
   rintro r m4 ⟨h,rfl⟩
   rw [w32_w32,w32_w32] at h
   by_cases h0:w32 c=0
   .rw [if_pos h0] at h; subst h; exact h1 h0
   .rw [if_neg h0] at h; subst h; exact h2 h0
  by_cases c4:i.op=4
  .simp only [decide_eq_true c4,decide_eq_false (show ¬ i.op=5 by omega),if_neg (show ¬ (¬ i.op=4/\¬ i.op=5) by omega),if_neg (show ¬ i.op=5 by omega),Bool.not_true,Bool.not_false,std_all,sto_all,Nat.reduceAdd,Nat.reduceLT,LI_,LB_,LA_,SI_,pt_,KI_,I_,SJ_,S_,LT_,LS_,LC_,LU_,LV_,RB_,RI_,RS_,N_,T_,SE_]
   refine dv _ (fun h0=>?_) (fun h0=>?_)
   .refine ⟨_,_,_,rfl,?_⟩
    simp only [if_pos h0,Bool.not_false,std_all,sto_all,Nat.reduceAdd,Nat.reduceLT,LI_,LB_,LA_,SI_,pt_,KI_,I_,SJ_,S_,LT_,LS_,LC_,LU_,LV_,RB_,RI_,RS_,N_,T_,SE_]
    exact retP_of ⟨rfl,L⟩
   .refine ⟨_,_,_,rfl,?_⟩
    simp only [if_neg h0,Bool.not_true,std_all,sto_all,Nat.reduceAdd,Nat.reduceLT,LI_,LB_,LA_,SI_,pt_,KI_,I_,SJ_,S_,LT_,LS_,LC_,LU_,LV_,RB_,RI_,RS_,N_,T_,SE_,cell_of p3,Ins.cells,e1,decide_eq_false (show ¬ i.op=5 by omega)]
    exact retP_of ⟨rfl,L⟩
  .by_cases c5:i.op=5
   .simp only [decide_eq_false c4,decide_eq_true c5,if_neg (show ¬ (¬ i.op=4/\¬ i.op=5) by omega),if_pos c5,Bool.not_true,Bool.not_false,std_all,sto_all,Nat.reduceAdd,Nat.reduceLT,LI_,LB_,LA_,SI_,pt_,KI_,I_,SJ_,S_,LT_,LS_,LC_,LU_,LV_,RB_,RI_,RS_,N_,T_,SE_]
    refine dv _ (fun h0=>?_) (fun h0=>?_)
    .refine ⟨_,_,_,rfl,?_⟩
     simp only [if_pos h0,Bool.not_false,std_all,sto_all,Nat.reduceAdd,Nat.reduceLT,LI_,LB_,LA_,SI_,pt_,KI_,I_,SJ_,S_,LT_,LS_,LC_,LU_,LV_,RB_,RI_,RS_,N_,T_,SE_]
     exact retP_of ⟨rfl,L⟩
    .refine ⟨_,_,_,rfl,?_⟩
     simp only [if_neg h0,Bool.not_true,std_all,sto_all,Nat.reduceAdd,Nat.reduceLT,LI_,LB_,LA_,SI_,pt_,KI_,I_,SJ_,S_,LT_,LS_,LC_,LU_,LV_,RB_,RI_,RS_,N_,T_,SE_,cell_of p3,Ins.cells,e1,decide_eq_true c5]
     exact retP_of ⟨rfl,L⟩
   .simp only [decide_eq_false c4,decide_eq_false c5,if_pos (show (¬ i.op=4/\¬ i.op=5) from ⟨c4,c5⟩),Bool.not_true,Bool.not_false,std_all,sto_all,Nat.reduceAdd,Nat.reduceLT,LI_,LB_,LA_,SI_,pt_,KI_,I_,SJ_,S_,LT_,LS_,LC_,LU_,LV_,RB_,RI_,RS_,N_,T_,SE_]
    exact retP_of ⟨rfl,L⟩
theorem Reads_fr {m m':AM} {sz:Nat} {A:Option Addr} {n:Nat} {xs:List Value} {fp:List Nat} (h:Reads m sz A n xs) (hf:Fr m m' fp) (hd:0<n->∀ k∈obl A,k∉fp):Reads m' sz A n xs:=by
 obtain ⟨h1,h2 | ⟨ad,h2,h3⟩⟩:=h
 .exact ⟨h1,.inl h2⟩
 .refine ⟨h1,.inr ⟨ad,h2,fun j u hu=>?_⟩⟩
  have hc:=h3 j u hu
  have hn:0<n:=by
   have h4:=(List.getElem?_eq_some_iff.1 hu).1
   rw [h1] at h4
   rcases Nat.eq_zero_or_pos n with h5 | h5
   .rw [h5] at h4; simp at h4
   .exact h5
  unfold AM.cell at hc ⊢
  have hb:(ad.add j).block=ad.block:=add_block ad j
  rw [hb] at hc ⊢
  cases hm:m ad.block with
  | none=>rw [hm] at hc; cases hc
  | some o =>
   rw [hm] at hc
   rw [hf _ _ hm (hd hn _ (by rw [h2]; simp [obl]))]
   exact hc
theorem Reads_known {m:AM} {sz:Nat} {A:Option Addr} {n:Nat} {xs:List Value} (h:Reads m sz A n xs) (hn:0<n) (hs:0<sz):∀ k∈obl A,m k≠none:=by
 obtain ⟨h1,h2 | ⟨ad,h2,h3⟩⟩:=h
 .omega
 .intro k hk hm
  subst h2
  simp [obl] at hk; subst hk
  have hl:0<xs.length:=by rw [h1]; exact Nat.mul_pos hn hs
  have hc:=h3 0 xs[0] (List.getElem?_eq_getElem hl)
  unfold AM.cell at hc
  have hb:(ad.add 0).block=ad.block:=add_block ad 0
  rw [hb,hm] at hc; cases hc
structure MS where
  regs : List Int
  mem : List Int
  at_ : Int
  inp : List Int
  out : List Int
 deriving Inhabited
def machL (Ac:Option Addr) (nc cc gm:Nat) (regs:List Int) (at_:Int) (Ai:Option Addr) (ni ci:Nat) (Ao:Option Addr) (no co:Nat):List Value :=
 .slice Ac nc cc :: .pointer (some ⟨gm,0,none⟩) :: (intCells .i64 regs ++ [.int .i64 at_,.slice Ai ni ci,.slice Ao no co])
section
variable {Ac:Option Addr} {nc cc gm:Nat} {regs:List Int} {at_:Int} {Ai:Option Addr} {ni ci:Nat} {Ao:Option Addr} {no co:Nat}
theorem machL_len (h:regs.length=32):(machL Ac nc cc gm regs at_ Ai ni ci Ao no co).length=37:=by simp [machL,intCells,h]
theorem machL_reg {k:Nat} {v:Int} (hk:regs[k]?=some v):(machL Ac nc cc gm regs at_ Ai ni ci Ao no co)[2+k]?=some (.int .i64 v):=by
 have hl:k<regs.length:=(List.getElem?_eq_some_iff.1 hk).1
 rw [show 2+k=k+1+1 by omega]
 unfold machL
 rw [List.getElem?_cons_succ,List.getElem?_cons_succ,List.getElem?_append_left (by simp [intCells]; exact hl)]
 simp [intCells,hk]
theorem machL_hi (h:regs.length=32) (j:Nat):(machL Ac nc cc gm regs at_ Ai ni ci Ao no co)[34+j]?=([.int .i64 at_,.slice Ai ni ci,.slice Ao no co]:List Value)[j]?:=by
 rw [show 34+j=32+j+1+1 by omega]
 unfold machL
 rw [List.getElem?_cons_succ,List.getElem?_cons_succ,List.getElem?_append_right (by simp [intCells,h])]
 congr 1
 simp [intCells,h]
theorem machL_34 (h:regs.length=32):(machL Ac nc cc gm regs at_ Ai ni ci Ao no co)[34]?=some (.int .i64 at_):=machL_hi h 0
theorem machL_35 (h:regs.length=32):(machL Ac nc cc gm regs at_ Ai ni ci Ao no co)[35]?=some (.slice Ai ni ci):=machL_hi h 1
theorem machL_36 (h:regs.length=32):(machL Ac nc cc gm regs at_ Ai ni ci Ao no co)[36]?=some (.slice Ao no co):=machL_hi h 2
theorem machL_setreg {k:Nat} {v:Int} (h:regs.length=32) (hk:k<32):(machL Ac nc cc gm regs at_ Ai ni ci Ao no co).set (2+k) (.int .i64 v)=machL Ac nc cc gm (regs.set k v) at_ Ai ni ci Ao no co:=by
 rw [show 2+k=k+1+1 by omega]
 unfold machL
 rw [List.set_cons_succ,List.set_cons_succ,List.set_append_left _ _ (by simp [intCells,h]; exact hk)]
 simp [intCells,List.map_set]
theorem machL_setat {v:Int} (h:regs.length=32):(machL Ac nc cc gm regs at_ Ai ni ci Ao no co).set 34 (.int .i64 v)=machL Ac nc cc gm regs v Ai ni ci Ao no co:=by
 unfold machL
 rw [show 34=32+1+1 by omega,List.set_cons_succ,List.set_cons_succ,List.set_append_right _ _ (by simp [intCells,h])]
 simp [intCells,h]
theorem machL_setin {A:Option Addr} {n c:Nat} (h:regs.length=32):(machL Ac nc cc gm regs at_ Ai ni ci Ao no co).set 35 (.slice A n c)=machL Ac nc cc gm regs at_ A n c Ao no co:=by
 unfold machL
 rw [show 35=33+1+1 by omega,List.set_cons_succ,List.set_cons_succ,List.set_append_right _ _ (by simp [intCells,h])]
 simp [intCells,h]
theorem machL_setout {A:Option Addr} {n c:Nat} (h:regs.length=32):(machL Ac nc cc gm regs at_ Ai ni ci Ao no co).set 36 (.slice A n c)=machL Ac nc cc gm regs at_ Ai ni ci A n c:=by
 unfold machL
 rw [show 36=34+1+1 by omega,List.set_cons_succ,List.set_cons_succ,List.set_append_right _ _ (by simp [intCells,h])]
 simp [intCells,h]
end
structure SeqR (m:AM) (B g:Nat) (code:List Ins) (s:MS) (fp:List Nat) (Ac:Option Addr) (cc gm:Nat) (Ai:Option Addr) (ci:Nat) (Ao:Option Addr) (co:Nat) (Aw:Option Addr) (cw:Nat):Prop where
 hg:m g=some (.cells (machL Ac code.length cc gm s.regs s.at_ Ai s.inp.length ci Ao s.out.length co).toArray 110)
 hB:B<=g
 hr:s.regs.length=32
 hc:Reads m 5 Ac code.length (insCells code)
 hm:m gm=some (.cells #[.slice Aw s.mem.length cw] 149)
 hw:Alog.Own m B 3 1 Aw s.mem.length cw (intCells .i64 s.mem)
 hi:Reads m 1 Ai s.inp.length (intCells .i64 s.inp)
 hic:s.inp.length<=ci
 ho:Alog.Own m B 3 1 Ao s.out.length co (intCells .i64 s.out)
 hfp:fp=g :: (obl Aw ++ obl Ao)
 dwo:∀ k∈obl Aw,k∉obl Ao
 dc:0<code.length->∀ k∈obl Ac,k∉fp
 di:0<s.inp.length->∀ k∈obl Ai,k∉fp
 dm:gm∉fp
 ti:0<s.inp.length->∀ k∈obl Ai,∃ c,m k=some (.cells c 3)
def SeqM (m:AM) (B g gm:Nat) (code:List Ins) (s:MS) (fp:List Nat):Prop:=∃ Ac cc Ai ci Ao co Aw cw,SeqR m B g code s fp Ac cc gm Ai ci Ao co Aw cw
def SPost (w0:World) (m:AM) (g gm:Nat) (fp:List Nat) (code:List Ins) (s:MS) (m':AM):Prop :=
 ∃ fp',SeqM m' w0.heap.size g gm code s fp'/\Fr m m' fp/\∀ k∈fp',k∈fp\/m k=none
theorem SeqM.le {m m':AM} {B g gm:Nat} {code:List Ins} {s:MS} {fp:List Nat} (h:SeqM m B g gm code s fp) (hl:m.le m'):SeqM m' B g gm code s fp:=by
 obtain ⟨Ac,cc,Ai,ci,Ao,co,Aw,cw,h⟩:=h
 exact ⟨Ac,cc,Ai,ci,Ao,co,Aw,cw,hl _ _ h.hg,h.hB,h.hr,h.hc.le hl,hl _ _ h.hm,h.hw.le hl,h.hi.le hl,h.hic,h.ho.le hl,h.hfp,h.dwo,h.dc,h.di,h.dm,fun h0 k hk=>(h.ti h0 k hk).imp fun _ e=>hl _ _ e⟩
theorem SPost.of {w0:World} {m M m':AM} {g gm:Nat} {fp fpM:List Nat} {code:List Ins} {s:MS} (h:SPost w0 M g gm fpM code s m') (hf:Fr m M fp) (hs:∀ k∈fpM,k∈fp\/m k=none):SPost w0 m g gm fp code s m':=by
 obtain ⟨fp',hb,hr,hk⟩:=h
 refine ⟨fp',hb,hf.trans hr hs,fun k hk'=>?_⟩
 rcases hk k hk' with h | h
 .exact hs k h
 .by_cases hin:k∈fp
  .exact .inl hin
  .cases hm:m k with
   | none=>exact .inr rfl
   | some o=>rw [hf k o hm hin] at h; cases h
theorem SPost.pre {w0:World} {m M m':AM} {g gm:Nat} {fp:List Nat} {code:List Ins} {s:MS} (h:SPost w0 M g gm fp code s m') (hl:m.le M):SPost w0 m g gm fp code s m' :=
 h.of (Fr.of_le hl fp) fun _ hk=>.inl hk
theorem SPost.self {w0:World} {m m':AM} {g gm:Nat} {fp:List Nat} {code:List Ins} {s:MS} (h:SeqM m w0.heap.size g gm code s fp) (hl:m.le m'):SPost w0 m g gm fp code s m':=⟨fp,h.le hl,Fr.of_le hl fp,fun _ h=>.inl h⟩
theorem SeqR.put {m:AM} {B g:Nat} {code:List Ins} {s s':MS} {fp:List Nat} {Ac Ai Ao Aw:Option Addr} {cc gm ci co cw:Nat} (h:SeqR m B g code s fp Ac cc gm Ai ci Ao co Aw cw) (hr:s'.regs.length=32) (hm:s'.mem=s.mem) (hi:s'.inp=s.inp) (ho:s'.out=s.out) :
  SeqR (m.upd g (.cells (machL Ac code.length cc gm s'.regs s'.at_ Ai s.inp.length ci Ao s.out.length co).toArray 110)) B g code s' fp Ac cc gm Ai ci Ao co Aw cw:=by
 have hfr:Fr m (m.upd g (.cells (machL Ac code.length cc gm s'.regs s'.at_ Ai s.inp.length ci Ao s.out.length co).toArray 110)) [g]:=Fr.upd (Fr.refl _ _) (.inl (by simp)) _
 have hgf:g∈fp:=by rw [h.hfp]; simp
 refine ⟨by rw [upd_get_same,hi,ho],h.hB,hr,Reads_fr h.hc hfr fun h0 k hk hin=>h.dc h0 k hk (by simp at hin; rw [hin]; exact hgf),?_,?_,?_,by rw [hi]; exact h.hic,?_,h.hfp,h.dwo,h.dc,by rw [hi]; exact h.di,h.dm,?_⟩
 .rw [hm]; exact hfr _ _ h.hm (by intro hin; simp at hin; exact h.dm (by rw [hin]; exact hgf))
 .rw [hm]; exact h.hw.upd (h.hw.ne_type h.hg (by decide))
 .rw [hi]; exact Reads_fr h.hi hfr fun h0 k hk hin=>h.di h0 k hk (by simp at hin; rw [hin]; exact hgf)
 .rw [ho]; exact h.ho.upd (h.ho.ne_type h.hg (by decide))
 .rw [hi]; exact fun h0 k hk=>(h.ti h0 k hk).imp fun _ e=>hfr _ _ e fun hin=>h.di h0 k hk (by simp at hin; rw [hin]; exact hgf)
def setR (regs:List Int) (n v:Int):List Int:=if n=0 then regs else regs.set n.toNat (w32 v)
def regOf (regs:List Int) (n:Int):Int:=regs.getD n.toNat 0
theorem set_spec (w0:World) (m:AM) (g gm:Nat) (code:List Ins) (s:MS) (fp:List Nat) (n v:Int) (hn:0<=n/\n<32) (h:SeqM m w0.heap.size g gm code s fp) :
  CallsA Tryz.prog w0 80 #[.pointer (some ⟨g,0,none⟩),.int .i64 n,.int .i64 v] m (fun r m'=>r=.tuple #[]/\SPost w0 m g gm fp code { s with regs:=setR s.regs n v } m'):=by
 refine cf80 w0 m g n v _ ?_
 dsimp only [cf80,mkF]
 unfold setR
 by_cases h0:n=0
 .subst h0
  simp only [bne_self_eq_false,bcase_f,if_true,true_and]
  exact retP_of ⟨rfl,SPost.self h (AM.le_refl m)⟩
 .have hb:(n != 0)=true:=by simpa using h0
  simp only [hb,bcase_t,true_and,if_neg h0]
  refine CallsA.mono (wrapW w0 m v) ?_
  rintro r m1 ⟨rfl,rfl⟩
  refine ⟨_,rfl,⟨hn.1,hn.2⟩,?_⟩
  obtain ⟨Ac,cc,Ai,ci,Ao,co,Aw,cw,h⟩:=h
  rw [addn,Nat.mul_one]
  have hk:n.toNat<32:=by omega
  refine StC_own h.hg h.hB (by rw [List.size_toArray,machL_len h.hr]; omega) ?_
  rw [List.setIfInBounds_toArray,machL_setreg h.hr hk]
  have hp:=h.put (s':={ s with regs:=s.regs.set n.toNat (w32 v) }) (by simp [h.hr]) rfl rfl rfl
  refine retP_of ⟨rfl,fp,⟨Ac,cc,Ai,ci,Ao,co,Aw,cw,hp⟩,Fr.upd (Fr.refl _ _) (.inl (by rw [h.hfp]; simp)) _,fun _ h=>.inl h⟩
def nextP (s:MS) (i:Ins):MS × Int :=
 let here:=IntKind.wrap .i64 (s.at_+1)
 let a:=regOf s.regs i.a
 let b:=regOf s.regs i.b
 if i.op=15\/i.op=16 then (s,if (a == b) == (i.op == 15) then IntKind.wrap .i64 (here+i.imm) else here)
 else if i.op=18 then ({ s with regs:=setR s.regs 31 here },i.imm)
 else if i.op=17 then (s,i.imm)
 else if i.op=19 then (s,a)
 else (s,here)
theorem SeqR.cells {m:AM} {B g:Nat} {code:List Ins} {s:MS} {fp:List Nat} {Ac Ai Ao Aw:Option Addr} {cc gm ci co cw:Nat} (h:SeqR m B g code s fp Ac cc gm Ai ci Ao co Aw cw) :
  m.cell ⟨g,0,none⟩=some (.slice Ac code.length cc)/\m.cell ⟨g,1,none⟩=some (.pointer (some ⟨gm,0,none⟩))/\m.cell ⟨g,34,none⟩=some (.int .i64 s.at_)/\m.cell ⟨g,35,none⟩=some (.slice Ai s.inp.length ci)/\m.cell ⟨g,36,none⟩=some (.slice Ao s.out.length co):=by
 have:=cell_of (k:=0) h.hg
 refine ⟨?_,?_,?_,?_,?_⟩ <;> rw [cell_of h.hg,List.getElem?_toArray]
 .rfl
 .rfl
 .exact machL_34 h.hr
 .exact machL_35 h.hr
 .exact machL_36 h.hr
theorem SeqR.reg {m:AM} {B g:Nat} {code:List Ins} {s:MS} {fp:List Nat} {Ac Ai Ao Aw:Option Addr} {cc gm ci co cw:Nat} (h:SeqR m B g code s fp Ac cc gm Ai ci Ao co Aw cw) {n:Int} (hn:0<=n/\n<32) :
  m.cell ((⟨g,2,none⟩:Addr).add (n.toNat*1))=some (.int .i64 (regOf s.regs n)):=by
 rw [addn,Nat.mul_one,cell_of h.hg,List.getElem?_toArray]
 refine machL_reg ?_
 unfold regOf
 have:n.toNat<s.regs.length:=by rw [h.hr]; omega
 simp [List.getD,this]
def InR (i:Ins):Prop:=(0<=i.a/\i.a<32)/\(0<=i.b/\i.b<32)/\(0<=i.c/\i.c<32)
theorem right_regs {i:Ins} (h:rightR i=true):InR i:=by
 have hp:∀ s x:Int,partR s x=true->0<=x/\x<32:=by
  intro s x h
  unfold partR at h
  by_cases h1:x<0
  .simp [h1] at h
  .by_cases h2:x>31
   .simp [h2] at h
   .omega
 unfold rightR at h
 simp only [Bool.and_eq_true] at h
 obtain ⟨⟨⟨⟨⟨_,ha⟩,hb⟩,hc⟩,_⟩,_⟩:=h
 exact ⟨hp _ _ ha,hp _ _ hb,hp _ _ hc⟩
theorem next_spec (w0:World) (m:AM) (g gm:Nat) (code:List Ins) (s:MS) (fp:List Nat) (i:Ins) (hi:InR i) (h:SeqM m w0.heap.size g gm code s fp) :
  CallsA Tryz.prog w0 81 #[.pointer (some ⟨g,0,none⟩),i.val] m (fun r m'=>r=.int .i64 (nextP s i).2/\SPost w0 m g gm fp code (nextP s i).1 m'):=by
 refine cf81 w0 m g _ _ _ _ _ _ ?_
 intro b1 hb1 hm1 M
 have l1:m.le M:=le_new hm1 _
 have p1:M b1=some (.cells i.cells.toArray 57):=upd_get_same
 clear_value M
 have hM:=h.le l1
 obtain ⟨Ac,cc,Ai,ci,Ao,co,Aw,cw,hS⟩:=h.le l1
 obtain ⟨r0,r1,r34,r35,r36⟩:=hS.cells
 have e0:∀ k:Int,(i.op == k)=decide (i.op=k):=fun k=>rfl
 simp only [cell_of p1,Ins.cells,std_all,sto_all,Nat.reduceAdd,Nat.reduceLT,LI_,LB_,LA_,SI_,pt_,KI_,I_,SJ_,S_,LT_,LS_,LC_,LU_,LV_,RB_,RI_,RS_,N_,T_,SE_,r34,hS.reg hi.1,hS.reg hi.2.1]
 simp only [e0]
 refine ⟨hi.1.1,by have:=hi.1.2; omega,hi.2.1.1,by have:=hi.2.1.2; omega,?_⟩
 have self:∀ s',s'=s->SPost w0 m g gm fp code s' M:=fun s' e=>by rw [e]; exact (SPost.self hM (AM.le_refl _)).pre l1
 unfold nextP
 by_cases c15:i.op=15
 .simp only [decide_eq_true c15,bcase_t,if_pos (Or.inl c15:i.op=15\/i.op=16)]
  cases hab:(regOf s.regs i.a == regOf s.regs i.b)
  .simp only [show (false == true)=false from rfl,bcase_f]; exact retP_of ⟨by rw [beq_iff_eq.2 c15]; rfl,self _ rfl⟩
  .simp only [show (true == true)=true from rfl,bcase_t]; exact retP_of ⟨by rw [beq_iff_eq.2 c15]; rfl,self _ rfl⟩
 simp only [decide_eq_false c15,bcase_f]
 by_cases c16:i.op=16
 .simp only [decide_eq_true c16,bcase_t,if_pos (Or.inr c16:i.op=15\/i.op=16)]
  cases hab:(regOf s.regs i.a == regOf s.regs i.b)
  .simp only [show (false == false)=true from rfl,bcase_t]; exact retP_of ⟨by rw [beq_eq_false_iff_ne.2 c15]; rfl,self _ rfl⟩
  .simp only [show (true == false)=false from rfl,bcase_f]; exact retP_of ⟨by rw [beq_eq_false_iff_ne.2 c15]; rfl,self _ rfl⟩
 simp only [decide_eq_false c16,bcase_f,if_neg (show ¬ (i.op=15\/i.op=16) by omega)]
 by_cases c18:i.op=18
 .simp only [decide_eq_true c18,bcase_t,if_pos c18]
  refine CallsA.mono (set_spec w0 M g gm code s fp 31 _ (by decide) hM) ?_
  rintro r m2 ⟨rfl,hp⟩
  refine ⟨rfl,?_⟩
  have hb1':b1∉fp:=by
   rw [hS.hfp]
   intro hin
   simp only [List.mem_cons,List.mem_append] at hin
   rcases hin with rfl | hin | hin
   .have:=hS.hg; rw [p1] at this; injection this with this; injection this with _ h2; exact absurd h2 (by decide)
   .exact hS.hw.obl_ne p1 (by decide) hin
   .exact hS.ho.obl_ne p1 (by decide) hin
  have p2:m2 b1=some (.cells i.cells.toArray 57):=by
   obtain ⟨_,_,hf,_⟩:=hp
   exact hf _ _ p1 hb1'
  simp only [cell_of p2,Ins.cells,std_all,sto_all,Nat.reduceAdd,Nat.reduceLT,LI_,LB_,LA_,SI_,pt_,KI_,I_,SJ_,S_,LT_,LS_,LC_,LU_,LV_,RB_,RI_,RS_,N_,T_,SE_]
  exact retP_of ⟨rfl,hp.pre l1⟩
 simp only [decide_eq_false c18,bcase_f,if_neg c18]
 by_cases c17:i.op=17
 .simp only [decide_eq_true c17,bcase_t,if_pos c17]; exact retP_of ⟨rfl,self _ rfl⟩
 simp only [decide_eq_false c17,bcase_f,if_neg c17]
 by_cases c19:i.op=19
 .simp only [decide_eq_true c19,bcase_t,if_pos c19]; exact retP_of ⟨rfl,self _ rfl⟩
 simp only [decide_eq_false c19,bcase_f,if_neg c19]
 exact retP_of ⟨rfl,self _ rfl⟩
theorem there_spec (w0:World) (m:AM) (gm:Nat) (A:Option Addr) (n c:Nat) (hm:m gm=some (.cells #[.slice A n c] 149)) (a:Int) :
  CallsA Tryz.prog w0 165 #[.pointer (some ⟨gm,0,none⟩),.int .i64 a] m (fun r m'=>r=.bool (decide (0<=a/\a<n))/\m'=m):=by
 refine cf165 w0 m gm a _ ?_
 dsimp only [cf165,mkF]
 simp only [Option.isNone_some,Bool.not_false,std_all,sto_all,Nat.reduceAdd,Nat.reduceLT,LI_,LB_,LA_,SI_,pt_,KI_,I_,SJ_,S_,LT_,LS_,LC_,LU_,LV_,RB_,RI_,RS_,N_,T_,SE_,cell_of hm]
 by_cases h:a>=0
 .simp only [decide_eq_true h,std_all,sto_all,Nat.reduceAdd,Nat.reduceLT,LI_,LB_,LA_,SI_,pt_,KI_,I_,SJ_,S_,LT_,LS_,LC_,LU_,LV_,RB_,RI_,RS_,N_,T_,SE_]
  refine retP_of ⟨?_,rfl⟩
  by_cases h2:a<n <;> simp [h2] <;> omega
 .simp only [decide_eq_false h,std_all,sto_all,Nat.reduceAdd,Nat.reduceLT,LI_,LB_,LA_,SI_,pt_,KI_,I_,SJ_,S_,LT_,LS_,LC_,LU_,LV_,RB_,RI_,RS_,N_,T_,SE_]
  refine retP_of ⟨?_,rfl⟩
  simp
  omega
theorem load_mem (w0:World) (m:AM) (B gm:Nat) (A:Option Addr) (l:List Int) (c:Nat) (hm:m gm=some (.cells #[.slice A l.length c] 149)) (hw:Alog.Own m B 3 1 A l.length c (intCells .i64 l)) (a:Int) :
  CallsA Tryz.prog w0 126 #[.pointer (some ⟨gm,0,none⟩),.int .i64 a] m (fun r m'=>r=.tuple #[.int .i64 (if 0<=a/\a<l.length then l.getD a.toNat 0 else 0),.bool (decide (0<=a/\a<l.length))]/\m'=m):=by
 refine cf126 w0 m gm a _ ?_
 refine CallsA.mono (there_spec w0 m gm A _ c hm a) ?_
 rintro r m1 ⟨rfl,rfl⟩
 refine ⟨_,rfl,?_⟩
 by_cases h:0<=a/\a<l.length
 .simp only [decide_eq_true h,if_pos h,Bool.not_true,std_all,sto_all,Nat.reduceAdd,Nat.reduceLT,LI_,LB_,LA_,SI_,pt_,KI_,I_,SJ_,S_,LT_,LS_,LC_,LU_,LV_,RB_,RI_,RS_,N_,T_,SE_,cell_of hm]
  obtain ⟨ad,rfl,hc⟩:=hw.ex (by omega)
  have hlt:a.toNat<l.length:=by omega
  have hcell:m1.cell (ad.add (a.toNat*1))=some (.int .i64 (l.getD a.toNat 0)):=by
   refine hc _ _ ?_
   simp [intCells,hlt,List.getD]
  simp only [std_all,sto_all,Nat.reduceAdd,Nat.reduceLT,LI_,LB_,LA_,SI_,pt_,KI_,I_,SJ_,S_,LT_,LS_,LC_,LU_,LV_,RB_,RI_,RS_,N_,T_,SE_,hcell]
  exact ⟨h.1,h.2,retP_of ⟨rfl,rfl⟩⟩
 .simp only [decide_eq_false h,if_neg h,Bool.not_false,std_all,sto_all,Nat.reduceAdd,Nat.reduceLT,LI_,LB_,LA_,SI_,pt_,KI_,I_,SJ_,S_,LT_,LS_,LC_,LU_,LV_,RB_,RI_,RS_,N_,T_,SE_]
  exact retP_of ⟨rfl,rfl⟩
theorem intCells_flat (l:List Int):intCells .i64 l=l.flatMap (fun x=>[Value.int .i64 x]):=by
 induction l with
 | nil=>rfl
 | cons x l ih=>simp only [intCells,List.map_cons,List.flatMap_cons] at ih ⊢; rw [ih]; rfl
theorem SeqR.gfp {m:AM} {B g:Nat} {code:List Ins} {s:MS} {fp:List Nat} {Ac Ai Ao Aw:Option Addr} {cc gm ci co cw:Nat} (h:SeqR m B g code s fp Ac cc gm Ai ci Ao co Aw cw):g∈fp:=by rw [h.hfp]; simp
theorem SeqR.setMem {m:AM} {B g:Nat} {code:List Ins} {s:MS} {fp:List Nat} {Ac Ai Ao:Option Addr} {cc gm ci co cw:Nat} {ad:Addr} (h:SeqR m B g code s fp Ac cc gm Ai ci Ao co (some ad) cw) {k:Nat} (hk:k<s.mem.length) (v:Int) {K:AM->Prop}
  (hK:∀ m',SeqR m' B g code { s with mem:=s.mem.set k v } fp Ac cc gm Ai ci Ao co (some ad) cw->Fr m m' fp->K m'):StC B m (ad.add (k*1)) (.int .i64 v) K:=by
 have hw:=h.hw
 rw [intCells_flat] at hw
 have:=Own.storeRow (f:=fun x=>[Value.int .i64 x]) (sz:=1) (fun _=>rfl) hw hk v (K:=K) (fun gA cur hA ho=>?_)
 .exact this
 .subst hA
  have hgin:gA∈fp:=by rw [h.hfp]; simp [obl]
  have hgne:g≠gA:=fun e=>by subst e; exact h.hw.ne_type h.hg (by decide) 0 rfl
  have hfr:Fr m (m.upd gA (.cells cur 3)) fp:=Fr.upd (Fr.refl _ _) (.inl hgin) _
  refine hK _ ⟨by rw [upd_get_ne hgne]; exact h.hg,h.hB,h.hr,Reads_fr h.hc hfr h.dc,?_,?_,Reads_fr h.hi hfr h.di,h.hic,?_,h.hfp,h.dwo,h.dc,h.di,h.dm,fun h0 k hk=>(h.ti h0 k hk).imp fun _ e=>hfr _ _ e (h.di h0 k hk)⟩ hfr
  .rw [List.length_set]; exact hfr _ _ h.hm h.dm
  .rw [intCells_flat]; exact ho
  .refine h.ho.upd fun off hA=>?_
   refine h.dwo gA (by simp [obl]) ?_
   rw [hA]; simp [obl]
theorem store_mem (w0:World) (m:AM) (g gm:Nat) (code:List Ins) (s:MS) (fp:List Nat) {Ac Ai Ao Aw:Option Addr} {cc ci co cw:Nat} (h:SeqR m w0.heap.size g code s fp Ac cc gm Ai ci Ao co Aw cw) (a v:Int) :
  CallsA Tryz.prog w0 128 #[.pointer (some ⟨gm,0,none⟩),.int .i64 a,.int .i64 v] m (fun r m'=>r=.bool (decide (0<=a/\a<s.mem.length))/\SPost w0 m g gm fp code (if 0<=a/\a<s.mem.length then { s with mem:=s.mem.set a.toNat (w32 v) } else s) m'):=by
 refine cf128 w0 m gm a v _ ?_
 refine CallsA.mono (there_spec w0 m gm Aw _ cw h.hm a) ?_
 rintro r m1 ⟨rfl,rfl⟩
 refine ⟨_,rfl,?_⟩
 by_cases hin:0<=a/\a<s.mem.length
 .simp only [decide_eq_true hin,Bool.not_true,bcase_f,if_pos hin]
  obtain ⟨ad,rfl,_⟩:=h.hw.ex (by omega)
  have hlt:a.toNat<s.mem.length:=by omega
  refine vr128_110 w0 m1 _ _ gm a v (fun m'=>SPost w0 m1 g gm fp code { s with mem:=s.mem.set a.toNat (w32 v) } m') rfl rfl rfl ?_ ?_
  .have st:StC w0.heap.size m1 (ad.add (a.toNat*1)) (.int .i64 (w32 v)) (fun m'=>SPost w0 m1 g gm fp code { s with mem:=s.mem.set a.toNat (w32 v) } m') :=
    h.setMem hlt (w32 v) fun m' h' hf=>⟨fp,⟨_,_,_,_,_,_,_,_,h'⟩,hf,fun _ h=>.inl h⟩
   refine ⟨?_,?_⟩
   .simp only [cell_of h.hm,std_all,sto_all,Nat.reduceAdd,Nat.reduceLT,LI_,LB_,LA_,SI_,pt_,KI_,I_,SJ_,S_,LT_,LS_,LC_,LU_,LV_,RB_,RI_,RS_,N_,T_,SE_]
    refine CallsA.mono (wrapW w0 m1 v) ?_
    rintro r m2 ⟨rfl,rfl⟩
    exact ⟨_,rfl,hin.1,hin.2,st⟩
   .refine CallsA.mono (wrapW w0 m1 v) ?_
    rintro r m2 ⟨rfl,rfl⟩
    simp only [cell_of h.hm,std_all,sto_all,Nat.reduceAdd,Nat.reduceLT,LI_,LB_,LA_,SI_,pt_,KI_,I_,SJ_,S_,LT_,LS_,LC_,LU_,LV_,RB_,RI_,RS_,N_,T_,SE_]
    exact ⟨hin.1,hin.2,st⟩
  .intro σ m2 hp
   exact retP_of ⟨rfl,hp⟩
 .simp only [decide_eq_false hin,Bool.not_false,bcase_t,if_neg hin]
  exact retP_of ⟨rfl,SPost.self ⟨_,_,_,_,_,_,_,_,h⟩ (AM.le_refl _)⟩
theorem SeqR.putIn {m:AM} {B g:Nat} {code:List Ins} {s:MS} {fp:List Nat} {Ac Ai Ao Aw:Option Addr} {cc gm ci co cw:Nat} (h:SeqR m B g code s fp Ac cc gm Ai ci Ao co Aw cw) {x:Int} {r:List Int} (hin:s.inp=x :: r) {K:AM->Prop}
  (hK:∀ m',SeqM m' B g gm code { s with inp:=r } fp->Fr m m' fp->K m') :
  StC B m ⟨g,35,none⟩ (.slice (if ci=(1:Int).toNat then Ai else Option.map (fun x=>Addr.add x ((1:Int).toNat*1)) Ai) (s.inp.length-(1:Int).toNat) (ci-(1:Int).toNat)) K:=by
 refine StC_own h.hg h.hB (by rw [List.size_toArray,machL_len h.hr]; omega) ?_
 rw [List.setIfInBounds_toArray,machL_setin h.hr]
 have hl:s.inp.length=r.length+1:=by rw [hin]; rfl
 have e1:(1:Int).toNat=1:=rfl
 rw [e1,hl,Nat.add_sub_cancel]
 obtain ⟨ai,rfl,hc⟩:=h.hi.ex (by omega)
 have hfr:Fr m (m.upd g (.cells (machL Ac code.length cc gm s.regs s.at_ (if ci=1 then some ai else Option.map (fun x=>Addr.add x (1*1)) (some ai)) r.length (ci-1) Ao s.out.length co).toArray 110)) fp:=Fr.upd (Fr.refl _ _) (.inl h.gfp) _
 have hob:obl (if ci=1 then some ai else Option.map (fun x=>Addr.add x (1*1)) (some ai))=obl (some ai):=by
  split
  .rfl
  .simp [obl,add_block]
 refine hK _ ⟨Ac,cc,(if ci=1 then some ai else Option.map (fun x=>Addr.add x (1*1)) (some ai)),ci-1,Ao,co,Aw,cw,by rw [upd_get_same],h.hB,h.hr,Reads_fr h.hc hfr h.dc,hfr _ _ h.hm h.dm,h.hw.upd (h.hw.ne_type h.hg (by decide)),?_,?_,h.ho.upd (h.ho.ne_type h.hg (by decide)),h.hfp,h.dwo,h.dc,?_,h.dm,fun h0 k hk=>(h.ti (by omega) k (by rw [<- hob]; exact hk)).imp fun _ e=>hfr _ _ e (h.di (by omega) k (by rw [<- hob]; exact hk))⟩ hfr
 .refine Reads_fr (m:=m) ?_ hfr (fun _=>by rw [hob]; exact h.di (by omega))
  refine ⟨by simp [intCells],?_⟩
  by_cases h1:ci=1
  .have:r = []:=List.eq_nil_of_length_eq_zero (by have:=h.hic; omega)
   subst this
   exact .inr ⟨ai,by simp [h1],fun j u hu=>by simp [intCells] at hu⟩
  .refine .inr ⟨ai.add 1,by simp [h1],fun j u hu=>?_⟩
   rw [add_add]
   refine hc (1+j) u ?_
   rw [hin,Nat.add_comm]
   simpa [intCells] using hu
 .have:=h.hic; show r.length<=ci-1; omega
 .intro _; rw [hob]; exact h.di (by omega)
def sysP (s:MS) (n:Int):MS × Int :=
 if n=0 then (s,1)
 else if n=1 then match s.inp with
  | []=>(s,6)
  | x :: r=>({ s with regs:=setR s.regs 4 x,inp:=r },0)
 else if n=2 then (if s.out.length>=10000 then (s,9) else ({ s with out:=s.out ++ [regOf s.regs 4] },0))
 else (s,0)
theorem sys_spec (w0:World) (m:AM) (g gm:Nat) (code:List Ins) (s:MS) (fp:List Nat) (n:Int) (h:SeqM m w0.heap.size g gm code s fp) :
  CallsA Tryz.prog w0 129 #[.pointer (some ⟨g,0,none⟩),.int .i64 n] m (fun r m'=>r=.int .i64 (sysP s n).2/\SPost w0 m g gm fp code (sysP s n).1 m'):=by
 refine cf129 w0 m g n _ ?_
 dsimp only [cf129,mkF]
 have hM:=h
 obtain ⟨Ac,cc,Ai,ci,Ao,co,Aw,cw,h⟩:=h
 obtain ⟨r0,r1,r34,r35,r36⟩:=h.cells
 have e0:∀ k:Int,(n == k)=decide (n=k):=fun k=>rfl
 simp only [e0,r35,r36,std_all,sto_all,Nat.reduceAdd,Nat.reduceLT,LI_,LB_,LA_,SI_,pt_,KI_,I_,SJ_,S_,LT_,LS_,LC_,LU_,LV_,RB_,RI_,RS_,N_,T_,SE_]
 have self:SPost w0 m g gm fp code s m:=SPost.self hM (AM.le_refl _)
 unfold sysP
 by_cases c0:n=0
 .simp only [decide_eq_true c0,if_pos c0,std_all,sto_all,Nat.reduceAdd,Nat.reduceLT,LI_,LB_,LA_,SI_,pt_,KI_,I_,SJ_,S_,LT_,LS_,LC_,LU_,LV_,RB_,RI_,RS_,N_,T_,SE_]; exact retP_of ⟨rfl,self⟩
 simp only [decide_eq_false c0,if_neg c0,std_all,sto_all,Nat.reduceAdd,Nat.reduceLT,LI_,LB_,LA_,SI_,pt_,KI_,I_,SJ_,S_,LT_,LS_,LC_,LU_,LV_,RB_,RI_,RS_,N_,T_,SE_]
 by_cases c1:n=1
 .simp only [decide_eq_true c1,if_pos c1,std_all,sto_all,Nat.reduceAdd,Nat.reduceLT,LI_,LB_,LA_,SI_,pt_,KI_,I_,SJ_,S_,LT_,LS_,LC_,LU_,LV_,RB_,RI_,RS_,N_,T_,SE_]
  cases hin:s.inp with
  | nil =>
   simp only [List.length_nil,show (((0:Nat):Int) == 0)=true from rfl,std_all,sto_all,Nat.reduceAdd,Nat.reduceLT,LI_,LB_,LA_,SI_,pt_,KI_,I_,SJ_,S_,LT_,LS_,LC_,LU_,LV_,RB_,RI_,RS_,N_,T_,SE_]
   exact retP_of ⟨rfl,self⟩
  | cons x r =>
   have hl:s.inp.length=r.length+1:=by rw [hin]; rfl
   have hne:((((r.length+1:Nat)):Int) == 0)=false:=by simp; omega
   simp only [List.length_cons,hne,std_all,sto_all,Nat.reduceAdd,Nat.reduceLT,LI_,LB_,LA_,SI_,pt_,KI_,I_,SJ_,S_,LT_,LS_,LC_,LU_,LV_,RB_,RI_,RS_,N_,T_,SE_]
   obtain ⟨ai,rfl,hci⟩:=h.hi.ex (by omega)
   have hx:m.cell (ai.add 0)=some (.int .i64 x):=hci 0 _ (by rw [hin]; rfl)
   simp only [std_all,sto_all,Nat.reduceAdd,Nat.reduceLT,LI_,LB_,LA_,SI_,pt_,KI_,I_,SJ_,S_,LT_,LS_,LC_,LU_,LV_,RB_,RI_,RS_,N_,T_,SE_,Int.toNat_zero,Nat.zero_mul,hx]
   refine ⟨by decide,by omega,?_⟩
   refine CallsA.mono (set_spec w0 m g gm code s fp 4 x (by decide) hM) ?_
   rintro r' m2 ⟨rfl,fp2,h2,hf2,hk2⟩
   refine ⟨rfl,?_⟩
   obtain ⟨Ac',cc',Ai',ci',Ao',co',Aw',cw',h2⟩:=h2
   obtain ⟨_,_,_,q35,_⟩:=h2.cells
   simp only [q35,std_all,sto_all,Nat.reduceAdd,Nat.reduceLT,LI_,LB_,LA_,SI_,pt_,KI_,I_,SJ_,S_,LT_,LS_,LC_,LU_,LV_,RB_,RI_,RS_,N_,T_,SE_]
   refine ⟨by decide,h2.hic,by show 1<=s.inp.length; omega,?_⟩
   refine h2.putIn (x:=x) (r:=r) hin fun m3 h3 hf3=>?_
   exact retP_of ⟨rfl,SPost.of (fpM:=fp2) ⟨fp2,h3,hf3,fun _ h=>.inl h⟩ hf2 hk2⟩
 simp only [decide_eq_false c1,if_neg c1,std_all,sto_all,Nat.reduceAdd,Nat.reduceLT,LI_,LB_,LA_,SI_,pt_,KI_,I_,SJ_,S_,LT_,LS_,LC_,LU_,LV_,RB_,RI_,RS_,N_,T_,SE_]
 by_cases c2:n=2
 .simp only [decide_eq_true c2,if_pos c2,std_all,sto_all,Nat.reduceAdd,Nat.reduceLT,LI_,LB_,LA_,SI_,pt_,KI_,I_,SJ_,S_,LT_,LS_,LC_,LU_,LV_,RB_,RI_,RS_,N_,T_,SE_]
  by_cases hl:s.out.length>=10000
  .simp only [decide_eq_true (show ((s.out.length:Nat):Int)>=10000 by omega),if_pos hl,std_all,sto_all,Nat.reduceAdd,Nat.reduceLT,LI_,LB_,LA_,SI_,pt_,KI_,I_,SJ_,S_,LT_,LS_,LC_,LU_,LV_,RB_,RI_,RS_,N_,T_,SE_]
   exact retP_of ⟨rfl,self⟩
  .simp only [decide_eq_false (show ¬ ((s.out.length:Nat):Int)>=10000 by omega),if_neg hl,std_all,sto_all,Nat.reduceAdd,Nat.reduceLT,LI_,LB_,LA_,SI_,pt_,KI_,I_,SJ_,S_,LT_,LS_,LC_,LU_,LV_,RB_,RI_,RS_,N_,T_,SE_]
   have h4:m.cell ((⟨g,2,none⟩:Addr).add 4)=some (.int .i64 (regOf s.regs 4)):=h.reg (n:=4) (by decide)
   simp only [show Int.toNat 4*1=4 from rfl,h4,std_all,sto_all,Nat.reduceAdd,Nat.reduceLT,LI_,LB_,LA_,SI_,pt_,KI_,I_,SJ_,S_,LT_,LS_,LC_,LU_,LV_,RB_,RI_,RS_,N_,T_,SE_]
   refine ⟨by decide,by decide,?_⟩
   intro b hb hmb
   have lb:=le_new hmb (.cells [Value.int .i64 (regOf s.regs 4)].toArray 3)
   have pb:(m.upd b (.cells [Value.int .i64 (regOf s.regs 4)].toArray 3)) b=some (.cells [Value.int .i64 (regOf s.regs 4)].toArray 3):=upd_get_same
   have hbM:SeqR (m.upd b (.cells [Value.int .i64 (regOf s.regs 4)].toArray 3)) w0.heap.size g code s fp Ac cc gm Ai ci Ao co Aw cw :=
    ⟨lb _ _ h.hg,h.hB,h.hr,h.hc.le lb,lb _ _ h.hm,h.hw.le lb,h.hi.le lb,h.hic,h.ho.le lb,h.hfp,h.dwo,h.dc,h.di,h.dm,fun h0 k hk=>(h.ti h0 k hk).imp fun _ e=>lb _ _ e⟩
   have hrd:Reads (m.upd b (.cells [Value.int .i64 (regOf s.regs 4)].toArray 3)) 1 (some ⟨b,0,none⟩) 1 [Value.int .i64 (regOf s.regs 4)]:=Reads.lit rfl
   refine awp_append_own el33 hbM.ho hrd (by intro u hu; simp at hu; subst hu; rfl) (by omega) (by omega) (fun g2 cp' cur hor hB2 ho2=>?_) (fun h0=>by omega)
   simp only [std_all,sto_all,Nat.reduceAdd,Nat.reduceLT,LI_,LB_,LA_,SI_,pt_,KI_,I_,SJ_,S_,LT_,LS_,LC_,LU_,LV_,RB_,RI_,RS_,N_,T_,SE_]
   have hgg:g≠g2:=fun e=>by
    subst e
    rcases hor with h' | h'
    .exact hbM.ho.ne_type hbM.hg (by decide) 0 h'
    .rw [hbM.hg] at h'; cases h'
   have kn:∀ k,(∀ k'∈obl Ao,k≠k')->(m.upd b (.cells [Value.int .i64 (regOf s.regs 4)].toArray 3)) k≠none->k≠g2:=fun k h1 h2 e=>by
    subst e
    rcases hor with h' | h'
    .exact h1 k (by rw [h']; simp [obl]) rfl
    .exact h2 h'
   have hfr:Fr (m.upd b (.cells [Value.int .i64 (regOf s.regs 4)].toArray 3)) ((m.upd b (.cells [Value.int .i64 (regOf s.regs 4)].toArray 3)).upd g2 (.cells cur 3)) (obl Ao):=by
    refine Fr.upd (Fr.refl _ _) ?_ _
    rcases hor with h' | h'
    .left; rw [h']; simp [obl]
    .right; exact h'
   have hAoFp:∀ k∈obl Ao,k∈fp:=fun k hk=>by rw [h.hfp]; simp [hk]
   refine StC_own (c:=(machL Ac code.length cc gm s.regs s.at_ Ai s.inp.length ci Ao s.out.length co).toArray) (t:=110) (by rw [upd_get_ne hgg]; exact hbM.hg) h.hB (by rw [List.size_toArray,machL_len h.hr]; omega) ?_
   rw [List.setIfInBounds_toArray,machL_setout h.hr]
   generalize hm1:(m.upd b (.cells [Value.int .i64 (regOf s.regs 4)].toArray 3)).upd g2 (.cells cur 3)=m1 at hfr ho2
   have hfr2:Fr m1 (m1.upd g (.cells (machL Ac code.length cc gm s.regs s.at_ Ai s.inp.length ci (some ⟨g2,0,none⟩) (s.out.length+1) cp').toArray 110)) [g]:=Fr.upd (Fr.refl _ _) (.inl (by simp)) _
   have hg1:m1 g=some (.cells (machL Ac code.length cc gm s.regs s.at_ Ai s.inp.length ci Ao s.out.length co).toArray 110):=by rw [<- hm1,upd_get_ne hgg]; exact hbM.hg
   have gno:∀ k,k∈[g]->k∈fp:=fun k hk=>by simp at hk; rw [hk]; exact h.gfp
   refine retP_of ⟨rfl,g :: (obl Aw ++ [g2]),⟨Ac,cc,Ai,ci,some ⟨g2,0,none⟩,cp',Aw,cw,?_,h.hB,h.hr,?_,?_,?_,?_,h.hic,?_,rfl,?_,?_,?_,?_,fun h0 k hk=>(hbM.ti h0 k hk).imp fun _ e=>hfr2 _ _ (hfr _ _ e fun hin=>h.di h0 k hk (hAoFp k hin)) fun hin=>h.di h0 k hk (gno k hin)⟩,?_,?_⟩
   .rw [upd_get_same]; simp
   .exact Reads_fr (Reads_fr hbM.hc hfr fun h0 k hk hin=>h.dc h0 k hk (hAoFp k hin)) hfr2 fun h0 k hk hin=>h.dc h0 k hk (gno k hin)
   .exact hfr2 _ _ (hfr _ _ hbM.hm fun hin=>h.dm (hAoFp _ hin)) fun hin=>h.dm (gno _ hin)
   .exact (hbM.hw.fr hfr h.dwo).upd ((hbM.hw.fr hfr h.dwo).ne_type hg1 (by decide))
   .exact Reads_fr (Reads_fr hbM.hi hfr fun h0 k hk hin=>h.di h0 k hk (hAoFp k hin)) hfr2 fun h0 k hk hin=>h.di h0 k hk (gno k hin)
   .have:=ho2.upd (ho2.ne_type hg1 (by decide)) (o:=.cells (machL Ac code.length cc gm s.regs s.at_ Ai s.inp.length ci (some ⟨g2,0,none⟩) (s.out.length+1) cp').toArray 110)
    simpa [intCells] using this
   .intro k hk hin
    simp [obl] at hin
    obtain ⟨_,cur',hk'⟩:=hbM.hw.obl_some hk
    exact kn k (fun k' hk2 e=>h.dwo k hk (e ▸ hk2)) (by rw [hk']; simp) hin
   .intro h0 k hk hin
    simp only [List.mem_cons,List.mem_append,List.not_mem_nil,or_false] at hin
    rcases hin with rfl | hin | hin
    .exact h.dc h0 _ hk h.gfp
    .exact h.dc h0 k hk (by rw [h.hfp]; simp [hin])
    .exact kn k (fun k' hk2 e=>h.dc h0 k hk (hAoFp k (e ▸ hk2))) (Reads_known hbM.hc h0 (by decide) k hk) hin
   .intro h0 k hk hin
    simp only [List.mem_cons,List.mem_append,List.not_mem_nil,or_false] at hin
    rcases hin with rfl | hin | hin
    .exact h.di h0 _ hk h.gfp
    .exact h.di h0 k hk (by rw [h.hfp]; simp [hin])
    .exact kn k (fun k' hk2 e=>h.di h0 k hk (hAoFp k (e ▸ hk2))) (Reads_known hbM.hi h0 (by decide) k hk) hin
   .intro hin
    simp only [List.mem_cons,List.mem_append,List.not_mem_nil,or_false] at hin
    rcases hin with hin | hin | hin
    .exact h.dm (by rw [hin]; exact h.gfp)
    .exact h.dm (by rw [h.hfp]; simp [hin])
    .exact kn gm (fun k' hk2 e=>h.dm (hAoFp gm (e ▸ hk2))) (by rw [hbM.hm]; simp) hin
   .refine Fr.trans (Fr.of_le lb fp) (Fr.trans (hfr.mono hAoFp) (hfr2.mono gno) (fun k hk=>.inl hk)) (fun k hk=>.inl hk)
   .intro k hk
    simp only [List.mem_cons,List.mem_append,List.not_mem_nil,or_false] at hk
    rcases hk with rfl | hk | rfl
    .exact .inl h.gfp
    .exact .inl (by rw [h.hfp]; simp [hk])
    .rcases hor with h' | h'
     .exact .inl (hAoFp _ (by rw [h']; simp [obl]))
     .exact .inr (AM.le_none lb h')
 .simp only [decide_eq_false c2,if_neg c2,std_all,sto_all,Nat.reduceAdd,Nat.reduceLT,LI_,LB_,LA_,SI_,pt_,KI_,I_,SJ_,S_,LT_,LS_,LC_,LU_,LV_,RB_,RI_,RS_,N_,T_,SE_]
  exact retP_of ⟨rfl,self⟩
def actP (s:MS) (i:Ins):MS × Int :=
 let a:=regOf s.regs i.a
 let ad:=w32 (regOf s.regs i.b+i.imm)
 if i.op=12 then (if 0<=ad/\ad<s.mem.length then ({ s with regs:=setR s.regs i.a (s.mem.getD ad.toNat 0) },0) else (s,3))
 else if i.op=13 then (if 0<=ad/\ad<s.mem.length then ({ s with mem:=s.mem.set ad.toNat (w32 a) },0) else (s,3))
 else if i.op=14 then (if a<0\/a>=i.imm then (s,if i.b=0 then 5 else i.b) else (s,0))
 else if i.op=20 then sysP s i.imm
 else (s,0)
theorem SeqR.notin {m:AM} {B g:Nat} {code:List Ins} {s:MS} {fp:List Nat} {Ac Ai Ao Aw:Option Addr} {cc gm ci co cw:Nat} (h:SeqR m B g code s fp Ac cc gm Ai ci Ao co Aw cw) {b:Nat} {c:Array Value} (hb:m b=some (.cells c 57)):b∉fp:=by
 rw [h.hfp]
 intro hin
 simp only [List.mem_cons,List.mem_append] at hin
 rcases hin with rfl | hin | hin
 .have:=h.hg; rw [hb] at this; injection this with this; injection this with _ h2; exact absurd h2 (by decide)
 .exact h.hw.obl_ne hb (by decide) hin
 .exact h.ho.obl_ne hb (by decide) hin
theorem SPost.keep {w0:World} {m m':AM} {g gm:Nat} {fp:List Nat} {code:List Ins} {s:MS} (h:SPost w0 m g gm fp code s m') {b:Nat} {o:Obj} (hb:m b=some o) (hn:b∉fp):m' b=some o:=by
 obtain ⟨_,_,hf,_⟩:=h
 exact hf _ _ hb hn
theorem act_spec (w0:World) (m:AM) (g gm:Nat) (code:List Ins) (s:MS) (fp:List Nat) (i:Ins) (hi:InR i) (h:SeqM m w0.heap.size g gm code s fp) :
  CallsA Tryz.prog w0 78 #[.pointer (some ⟨g,0,none⟩),i.val] m (fun r m'=>r=.int .i64 (actP s i).2/\SPost w0 m g gm fp code (actP s i).1 m'):=by
 refine cf78 w0 m g _ _ _ _ _ _ ?_
 intro b1 hb1 hm1 M
 have l1:m.le M:=le_new hm1 _
 have p1:M b1=some (.cells i.cells.toArray 57):=upd_get_same
 clear_value M
 have hM:=h.le l1
 obtain ⟨Ac,cc,Ai,ci,Ao,co,Aw,cw,hS⟩:=h.le l1
 obtain ⟨r0,r1,r34,r35,r36⟩:=hS.cells
 have e0:∀ k:Int,(i.op == k)=decide (i.op=k):=fun k=>rfl
 simp only [cell_of p1,Ins.cells,std_all,sto_all,Nat.reduceAdd,Nat.reduceLT,LI_,LB_,LA_,SI_,pt_,KI_,I_,SJ_,S_,LT_,LS_,LC_,LU_,LV_,RB_,RI_,RS_,N_,T_,SE_,hS.reg hi.1,hS.reg hi.2.1]
 simp only [e0]
 refine ⟨hi.1.1,by have:=hi.1.2; omega,hi.2.1.1,by have:=hi.2.1.2; omega,?_⟩
 have self:∀ s',s'=s->SPost w0 m g gm fp code s' M:=fun s' e=>by rw [e]; exact (SPost.self hM (AM.le_refl _)).pre l1
 have hb1':=hS.notin p1
 unfold actP
 by_cases c12:i.op=12
 .simp only [decide_eq_true c12,bcase_t,if_pos c12]
  refine vr78_11010100 w0 M _ _ g b1 (regOf s.regs i.b) (fun v ok m'=>m'=M/\v=(if 0<=w32 (regOf s.regs i.b+i.imm)/\w32 (regOf s.regs i.b+i.imm)<s.mem.length then s.mem.getD (w32 (regOf s.regs i.b+i.imm)).toNat 0 else 0)/\ok=decide (0<=w32 (regOf s.regs i.b+i.imm)/\w32 (regOf s.regs i.b+i.imm)<s.mem.length)) rfl rfl rfl ?_ ?_
  .simp only [cell_of p1,Ins.cells,std_all,sto_all,Nat.reduceAdd,Nat.reduceLT,LI_,LB_,LA_,SI_,pt_,KI_,I_,SJ_,S_,LT_,LS_,LC_,LU_,LV_,RB_,RI_,RS_,N_,T_,SE_,r1]
   refine ⟨?_,?_⟩
   .refine CallsA.mono (addW w0 M _ _) ?_
    rintro r m2 ⟨rfl,rfl⟩
    refine ⟨_,rfl,CallsA.mono (load_mem w0 m2 w0.heap.size gm Aw s.mem cw hS.hm hS.hw _) ?_⟩
    rintro r m3 ⟨rfl,rfl⟩
    simp only [std_all,sto_all,Nat.reduceAdd,Nat.reduceLT,LI_,LB_,LA_,SI_,pt_,KI_,I_,SJ_,S_,LT_,LS_,LC_,LU_,LV_,RB_,RI_,RS_,N_,T_,SE_]
   .refine CallsA.mono (addW w0 M _ _) ?_
    rintro r m2 ⟨rfl,rfl⟩
    refine ⟨_,rfl,?_⟩
    simp only [r1,std_all,sto_all,Nat.reduceAdd,Nat.reduceLT,LI_,LB_,LA_,SI_,pt_,KI_,I_,SJ_,S_,LT_,LS_,LC_,LU_,LV_,RB_,RI_,RS_,N_,T_,SE_]
    refine CallsA.mono (load_mem w0 m2 w0.heap.size gm Aw s.mem cw hS.hm hS.hw _) ?_
    rintro r m3 ⟨rfl,rfl⟩
    simp only [std_all,sto_all,Nat.reduceAdd,Nat.reduceLT,LI_,LB_,LA_,SI_,pt_,KI_,I_,SJ_,S_,LT_,LS_,LC_,LU_,LV_,RB_,RI_,RS_,N_,T_,SE_]
  .rintro σ v ok m2 ⟨rfl,rfl,rfl⟩
   by_cases hin:0<=w32 (regOf s.regs i.b+i.imm)/\w32 (regOf s.regs i.b+i.imm)<s.mem.length
   .simp only [decide_eq_true hin,if_pos hin,Bool.not_true,std_all,sto_all,Nat.reduceAdd,Nat.reduceLT,LI_,LB_,LA_,SI_,pt_,KI_,I_,SJ_,S_,LT_,LS_,LC_,LU_,LV_,RB_,RI_,RS_,N_,T_,SE_,cell_of p1,Ins.cells]
    refine CallsA.mono (set_spec w0 m2 g gm code s fp i.a _ hi.1 hM) ?_
    rintro r m3 ⟨rfl,hp⟩
    exact ⟨rfl,retP_of ⟨rfl,hp.pre l1⟩⟩
   .simp only [decide_eq_false hin,if_neg hin,Bool.not_false,std_all,sto_all,Nat.reduceAdd,Nat.reduceLT,LI_,LB_,LA_,SI_,pt_,KI_,I_,SJ_,S_,LT_,LS_,LC_,LU_,LV_,RB_,RI_,RS_,N_,T_,SE_]
    exact retP_of ⟨rfl,self _ rfl⟩
 simp only [decide_eq_false c12,bcase_f,if_neg c12]
 by_cases c13:i.op=13
 .simp only [decide_eq_true c13,bcase_t,if_pos c13]
  refine vr78_1101011100 w0 M _ _ g b1 (regOf s.regs i.a) (regOf s.regs i.b) (fun nok m'=>nok = !decide (0<=w32 (regOf s.regs i.b+i.imm)/\w32 (regOf s.regs i.b+i.imm)<s.mem.length)/\SPost w0 M g gm fp code (if 0<=w32 (regOf s.regs i.b+i.imm)/\w32 (regOf s.regs i.b+i.imm)<s.mem.length then { s with mem:=s.mem.set (w32 (regOf s.regs i.b+i.imm)).toNat (w32 (regOf s.regs i.a)) } else s) m') rfl rfl rfl rfl ?_ ?_
  .simp only [cell_of p1,Ins.cells,std_all,sto_all,Nat.reduceAdd,Nat.reduceLT,LI_,LB_,LA_,SI_,pt_,KI_,I_,SJ_,S_,LT_,LS_,LC_,LU_,LV_,RB_,RI_,RS_,N_,T_,SE_,r1]
   refine ⟨?_,?_⟩
   .refine CallsA.mono (addW w0 M _ _) ?_
    rintro r m2 ⟨rfl,rfl⟩
    refine ⟨_,rfl,CallsA.mono (store_mem w0 m2 g gm code s fp hS _ _) ?_⟩
    rintro r m3 ⟨rfl,hp⟩
    simp only [std_all,sto_all,Nat.reduceAdd,Nat.reduceLT,LI_,LB_,LA_,SI_,pt_,KI_,I_,SJ_,S_,LT_,LS_,LC_,LU_,LV_,RB_,RI_,RS_,N_,T_,SE_]
    exact hp
   .refine CallsA.mono (addW w0 M _ _) ?_
    rintro r m2 ⟨rfl,rfl⟩
    refine ⟨_,rfl,?_⟩
    simp only [r1,std_all,sto_all,Nat.reduceAdd,Nat.reduceLT,LI_,LB_,LA_,SI_,pt_,KI_,I_,SJ_,S_,LT_,LS_,LC_,LU_,LV_,RB_,RI_,RS_,N_,T_,SE_]
    refine CallsA.mono (store_mem w0 m2 g gm code s fp hS _ _) ?_
    rintro r m3 ⟨rfl,hp⟩
    simp only [std_all,sto_all,Nat.reduceAdd,Nat.reduceLT,LI_,LB_,LA_,SI_,pt_,KI_,I_,SJ_,S_,LT_,LS_,LC_,LU_,LV_,RB_,RI_,RS_,N_,T_,SE_]
    exact hp
  .rintro σ nok m2 ⟨rfl,hp⟩
   by_cases hin:0<=w32 (regOf s.regs i.b+i.imm)/\w32 (regOf s.regs i.b+i.imm)<s.mem.length
   .simp only [decide_eq_true hin,if_pos hin,Bool.not_true,std_all,sto_all,Nat.reduceAdd,Nat.reduceLT,LI_,LB_,LA_,SI_,pt_,KI_,I_,SJ_,S_,LT_,LS_,LC_,LU_,LV_,RB_,RI_,RS_,N_,T_,SE_] at hp ⊢
    exact retP_of ⟨rfl,hp.pre l1⟩
   .simp only [decide_eq_false hin,if_neg hin,Bool.not_false,std_all,sto_all,Nat.reduceAdd,Nat.reduceLT,LI_,LB_,LA_,SI_,pt_,KI_,I_,SJ_,S_,LT_,LS_,LC_,LU_,LV_,RB_,RI_,RS_,N_,T_,SE_] at hp ⊢
    exact retP_of ⟨rfl,hp.pre l1⟩
 simp only [decide_eq_false c13,bcase_f,if_neg c13]
 by_cases c14:i.op=14
 .simp only [decide_eq_true c14,bcase_t,if_pos c14]
  have e1:∀ k:Int,(i.b == k)=decide (i.b=k):=fun k=>rfl
  by_cases ha:regOf s.regs i.a<0
  .simp only [decide_eq_true ha,std_all,sto_all,Nat.reduceAdd,Nat.reduceLT,LI_,LB_,LA_,SI_,pt_,KI_,I_,SJ_,S_,LT_,LS_,LC_,LU_,LV_,RB_,RI_,RS_,N_,T_,SE_,if_pos (Or.inl ha:regOf s.regs i.a<0\/regOf s.regs i.a>=i.imm),e1]
   by_cases hb:i.b=0
   .simp only [decide_eq_true hb,std_all,sto_all,Nat.reduceAdd,Nat.reduceLT,LI_,LB_,LA_,SI_,pt_,KI_,I_,SJ_,S_,LT_,LS_,LC_,LU_,LV_,RB_,RI_,RS_,N_,T_,SE_,if_pos hb]; exact retP_of ⟨rfl,self _ rfl⟩
   .simp only [decide_eq_false hb,std_all,sto_all,Nat.reduceAdd,Nat.reduceLT,LI_,LB_,LA_,SI_,pt_,KI_,I_,SJ_,S_,LT_,LS_,LC_,LU_,LV_,RB_,RI_,RS_,N_,T_,SE_,if_neg hb]; exact retP_of ⟨rfl,self _ rfl⟩
  .simp only [decide_eq_false ha,std_all,sto_all,Nat.reduceAdd,Nat.reduceLT,LI_,LB_,LA_,SI_,pt_,KI_,I_,SJ_,S_,LT_,LS_,LC_,LU_,LV_,RB_,RI_,RS_,N_,T_,SE_]
   by_cases ha2:regOf s.regs i.a>=i.imm
   .simp only [decide_eq_true ha2,std_all,sto_all,Nat.reduceAdd,Nat.reduceLT,LI_,LB_,LA_,SI_,pt_,KI_,I_,SJ_,S_,LT_,LS_,LC_,LU_,LV_,RB_,RI_,RS_,N_,T_,SE_,if_pos (Or.inr ha2:regOf s.regs i.a<0\/regOf s.regs i.a>=i.imm),e1]
    by_cases hb:i.b=0
    .simp only [decide_eq_true hb,std_all,sto_all,Nat.reduceAdd,Nat.reduceLT,LI_,LB_,LA_,SI_,pt_,KI_,I_,SJ_,S_,LT_,LS_,LC_,LU_,LV_,RB_,RI_,RS_,N_,T_,SE_,if_pos hb]; exact retP_of ⟨rfl,self _ rfl⟩
    .simp only [decide_eq_false hb,std_all,sto_all,Nat.reduceAdd,Nat.reduceLT,LI_,LB_,LA_,SI_,pt_,KI_,I_,SJ_,S_,LT_,LS_,LC_,LU_,LV_,RB_,RI_,RS_,N_,T_,SE_,if_neg hb]; exact retP_of ⟨rfl,self _ rfl⟩
   .simp only [decide_eq_false ha2,std_all,sto_all,Nat.reduceAdd,Nat.reduceLT,LI_,LB_,LA_,SI_,pt_,KI_,I_,SJ_,S_,LT_,LS_,LC_,LU_,LV_,RB_,RI_,RS_,N_,T_,SE_,if_neg (show ¬ (regOf s.regs i.a<0\/regOf s.regs i.a>=i.imm) from fun h=>h.elim ha ha2)]
    exact retP_of ⟨rfl,self _ rfl⟩
 simp only [decide_eq_false c14,bcase_f,if_neg c14]
 by_cases c20:i.op=20
 .simp only [decide_eq_true c20,bcase_t,if_pos c20]
  refine CallsA.mono (sys_spec w0 M g gm code s fp _ hM) ?_
  rintro r m2 ⟨rfl,hp⟩
  exact ⟨_,rfl,retP_of ⟨rfl,hp.pre l1⟩⟩
 simp only [decide_eq_false c20,bcase_f,if_neg c20]
 exact retP_of ⟨rfl,self _ rfl⟩
def stepP (code:List Ins) (s:MS):MS × Int :=
 if s.at_<0 then (s,2) else if s.at_>=code.length then (s,2) else
  let i:=code.getD s.at_.toNat default
  if rightR i=false then (s,8) else
   let s1:=(actP s i).1
   if (actP s i).2≠0 then (s1,(actP s i).2) else
    let r:=reckonP i (regOf s1.regs i.b) (regOf s1.regs i.c)
    if r.2.1≠0 then (s1,r.2.1) else
     let s2:=if r.2.2 then { s1 with regs:=setR s1.regs i.a r.1 } else s1
     ({ (nextP s2 i).1 with at_:=(nextP s2 i).2 },0)
theorem SPost.put_at {w0:World} {m:AM} {g gm:Nat} {code:List Ins} {s:MS} {fp:List Nat} (h:SeqM m w0.heap.size g gm code s fp) (v:Int) {K:AM->Prop} (hK:∀ m',SPost w0 m g gm fp code { s with at_:=v } m'->K m') :
  StC w0.heap.size m ⟨g,34,none⟩ (.int .i64 v) K:=by
 obtain ⟨Ac,cc,Ai,ci,Ao,co,Aw,cw,h⟩:=h
 refine StC_own h.hg h.hB (by rw [List.size_toArray,machL_len h.hr]; omega) ?_
 rw [List.setIfInBounds_toArray,machL_setat h.hr]
 have hp:=h.put (s':={ s with at_:=v }) h.hr rfl rfl rfl
 exact hK _ ⟨fp,⟨Ac,cc,Ai,ci,Ao,co,Aw,cw,hp⟩,Fr.upd (Fr.refl _ _) (.inl h.gfp) _,fun _ h=>.inl h⟩
theorem step_spec (w0:World) (m:AM) (g gm:Nat) (code:List Ins) (s:MS) (fp:List Nat) (h:SeqM m w0.heap.size g gm code s fp) :
  CallsA Tryz.prog w0 41 #[.pointer (some ⟨g,0,none⟩)] m (fun r m'=>r=.int .i64 (stepP code s).2/\SPost w0 m g gm fp code (stepP code s).1 m'):=by
 refine cf41 w0 m g _ ?_
 dsimp only [cf41,mkF]
 have hM:=h
 obtain ⟨Ac,cc,Ai,ci,Ao,co,Aw,cw,hS⟩:=h
 obtain ⟨r0,r1,r34,r35,r36⟩:=hS.cells
 simp only [r0,r34,std_all,sto_all,Nat.reduceAdd,Nat.reduceLT,LI_,LB_,LA_,SI_,pt_,KI_,I_,SJ_,S_,LT_,LS_,LC_,LU_,LV_,RB_,RI_,RS_,N_,T_,SE_]
 have self:SPost w0 m g gm fp code s m:=SPost.self hM (AM.le_refl _)
 unfold stepP
 by_cases h1:s.at_<0
 .simp only [decide_eq_true h1,if_pos h1,std_all,sto_all,Nat.reduceAdd,Nat.reduceLT,LI_,LB_,LA_,SI_,pt_,KI_,I_,SJ_,S_,LT_,LS_,LC_,LU_,LV_,RB_,RI_,RS_,N_,T_,SE_]; exact retP_of ⟨rfl,self⟩
 simp only [decide_eq_false h1,if_neg h1,std_all,sto_all,Nat.reduceAdd,Nat.reduceLT,LI_,LB_,LA_,SI_,pt_,KI_,I_,SJ_,S_,LT_,LS_,LC_,LU_,LV_,RB_,RI_,RS_,N_,T_,SE_]
 by_cases h2:s.at_>=code.length
 .simp only [decide_eq_true h2,if_pos h2,std_all,sto_all,Nat.reduceAdd,Nat.reduceLT,LI_,LB_,LA_,SI_,pt_,KI_,I_,SJ_,S_,LT_,LS_,LC_,LU_,LV_,RB_,RI_,RS_,N_,T_,SE_]; exact retP_of ⟨rfl,self⟩
 simp only [decide_eq_false h2,if_neg h2,std_all,sto_all,Nat.reduceAdd,Nat.reduceLT,LI_,LB_,LA_,SI_,pt_,KI_,I_,SJ_,S_,LT_,LS_,LC_,LU_,LV_,RB_,RI_,RS_,N_,T_,SE_]
 have hlt:s.at_.toNat<code.length:=by omega
 obtain ⟨ad,rfl,hc⟩:=hS.hc.ex (by omega)
 have hi:=hc.ins (List.getElem?_eq_getElem hlt)
 have hd:code.getD s.at_.toNat default=code[s.at_.toNat]:=by simp [List.getD,hlt]
 rw [hd]
 revert hi
 generalize code[s.at_.toNat]=i
 intro hi
 simp only [std_all,sto_all,Nat.reduceAdd,Nat.reduceLT,LI_,LB_,LA_,SI_,pt_,KI_,I_,SJ_,S_,LT_,LS_,LC_,LU_,LV_,RB_,RI_,RS_,N_,T_,SE_,hi]
 refine ⟨by omega,by omega,?_⟩
 intro b hb hmb
 have lb:=le_new hmb (.cells i.cells.toArray 57)
 simp only [std_all,sto_all,Nat.reduceAdd,Nat.reduceLT,LI_,LB_,LA_,SI_,pt_,KI_,I_,SJ_,S_,LT_,LS_,LC_,LU_,LV_,RB_,RI_,RS_,N_,T_,SE_,hb]
 have pb:(m.upd b (.cells i.cells.toArray 57)) b=some (.cells i.cells.toArray 57):=upd_get_same
 refine CallsA.mono (isaRight w0 _ i) ?_
 rintro r m2 ⟨rfl,l2⟩
 have L:=AM.le_trans lb l2
 have p2:=l2 _ _ pb
 cases hr:rightR i
 .simp only [Bool.not_false,std_all,sto_all,Nat.reduceAdd,Nat.reduceLT,LI_,LB_,LA_,SI_,pt_,KI_,I_,SJ_,S_,LT_,LS_,LC_,LU_,LV_,RB_,RI_,RS_,N_,T_,SE_,if_true]
  exact retP_of ⟨rfl,(SPost.self (hM.le L) (AM.le_refl _)).pre L⟩
 simp only [Bool.not_true,std_all,sto_all,Nat.reduceAdd,Nat.reduceLT,LI_,LB_,LA_,SI_,pt_,KI_,I_,SJ_,S_,LT_,LS_,LC_,LU_,LV_,RB_,RI_,RS_,N_,T_,SE_,Bool.true_eq_false,if_false,cell_of p2,Ins.cells]
 have hR:=right_regs hr
 refine CallsA.mono (act_spec w0 m2 g gm code s fp i hR (hM.le L)) ?_
 rintro r m3 ⟨rfl,hp3⟩
 have p3:=hp3.keep p2 (by
  obtain ⟨_,_,_,_,_,_,_,_,hS2⟩:=hM.le L
  exact hS2.notin p2)
 have nb:b∉fp:=by
  obtain ⟨_,_,_,_,_,_,_,_,hS2⟩:=hM.le L
  exact hS2.notin p2
 generalize hA:actP s i=A at hp3
 obtain ⟨s1,t1⟩:=A
 simp only at hp3 ⊢
 by_cases ht:t1=0
 .subst ht
  simp only [bne_self_eq_false,std_all,sto_all,Nat.reduceAdd,Nat.reduceLT,LI_,LB_,LA_,SI_,pt_,KI_,I_,SJ_,S_,LT_,LS_,LC_,LU_,LV_,RB_,RI_,RS_,N_,T_,SE_,ne_eq,not_true_eq_false,if_false,cell_of p3,Ins.cells]
  obtain ⟨fp3,hM3,hf3,hk3⟩:=hp3
  obtain ⟨Ac3,cc3,Ai3,ci3,Ao3,co3,Aw3,cw3,hS3⟩:=hM3
  have hM3:SeqM m3 w0.heap.size g gm code s1 fp3:=⟨Ac3,cc3,Ai3,ci3,Ao3,co3,Aw3,cw3,hS3⟩
  simp only [hS3.reg hR.2.1,hS3.reg hR.2.2,std_all,sto_all,Nat.reduceAdd,Nat.reduceLT,LI_,LB_,LA_,SI_,pt_,KI_,I_,SJ_,S_,LT_,LS_,LC_,LU_,LV_,RB_,RI_,RS_,N_,T_,SE_]
  refine ⟨hR.2.1.1,by have:=hR.2.1.2; omega,hR.2.2.1,by have:=hR.2.2.2; omega,?_⟩
  refine CallsA.mono (Reckon_spec w0 m3 i _ _) ?_
  rintro r m4 ⟨rfl,l4⟩
  have p4:=l4 _ _ p3
  have hM4:=hM3.le l4
  refine ⟨_,_,_,rfl,?_⟩
  have hf4:Fr m2 m4 fp:=hf3.trans (Fr.of_le l4 fp) (fun _ h=>.inl h)
  have out:∀ {s' m'},SPost w0 m4 g gm fp3 code s' m'->SPost w0 m g gm fp code s' m':=fun h=>(h.of hf4 hk3).pre L
  generalize reckonP i (regOf s1.regs i.b) (regOf s1.regs i.c)=rk
  obtain ⟨v,t2,ok⟩:=rk
  by_cases ht2:t2=0
  .subst ht2
   simp only [bne_self_eq_false,std_all,sto_all,Nat.reduceAdd,Nat.reduceLT,LI_,LB_,LA_,SI_,pt_,KI_,I_,SJ_,S_,LT_,LS_,LC_,LU_,LV_,RB_,RI_,RS_,N_,T_,SE_,ne_eq,not_true_eq_false,if_false,cell_of p4,Ins.cells]
   have tail:∀ (m5:AM) (s2:MS) (fp5:List Nat) (F:AM->Prop),SeqM m5 w0.heap.size g gm code s2 fp5->(∀ m7,SPost w0 m5 g gm fp5 code { (nextP s2 i).1 with at_:=(nextP s2 i).2 } m7->F m7)->CallsA Tryz.prog w0 81 #[.pointer (some ⟨g,0,none⟩),i.val] m5 (fun r m6=>∃ n,r=.int .i64 n/\StC w0.heap.size m6 ⟨g,34,none⟩ (.int .i64 n) F):=by
    intro m5 s2 fp5 F h5 hF
    refine CallsA.mono (next_spec w0 m5 g gm code s2 fp5 i hR h5) ?_
    rintro r m6 ⟨rfl,fp6,h6,hf6,hk6⟩
    exact ⟨_,rfl,SPost.put_at h6 _ fun m7 h7=>hF _ (h7.of hf6 hk6)⟩
   cases ok
   .simp only [std_all,sto_all,Nat.reduceAdd,Nat.reduceLT,LI_,LB_,LA_,SI_,pt_,KI_,I_,SJ_,S_,LT_,LS_,LC_,LU_,LV_,RB_,RI_,RS_,N_,T_,SE_,Bool.false_eq_true,if_false]
    exact tail m4 s1 fp3 _ hM4 fun m7 h7=>retP_of ⟨rfl,out h7⟩
   .simp only [std_all,sto_all,Nat.reduceAdd,Nat.reduceLT,LI_,LB_,LA_,SI_,pt_,KI_,I_,SJ_,S_,LT_,LS_,LC_,LU_,LV_,RB_,RI_,RS_,N_,T_,SE_,if_true]
    refine CallsA.mono (set_spec w0 m4 g gm code s1 fp3 i.a v hR.1 hM4) ?_
    rintro r m5 ⟨rfl,hp5⟩
    have p5:=hp5.keep p4 (by
     obtain ⟨_,_,_,_,_,_,_,_,hS4⟩:=hM4
     exact hS4.notin p4)
    obtain ⟨fp5,h5,hf5,hk5⟩:=hp5
    refine ⟨rfl,?_⟩
    simp only [cell_of p5,Ins.cells,std_all,sto_all,Nat.reduceAdd,Nat.reduceLT,LI_,LB_,LA_,SI_,pt_,KI_,I_,SJ_,S_,LT_,LS_,LC_,LU_,LV_,RB_,RI_,RS_,N_,T_,SE_]
    exact tail m5 _ fp5 _ h5 fun m7 h7=>retP_of ⟨rfl,out (h7.of hf5 hk5)⟩
  .have hb2:(t2 != 0)=true:=by simpa using ht2
   simp only [hb2,std_all,sto_all,Nat.reduceAdd,Nat.reduceLT,LI_,LB_,LA_,SI_,pt_,KI_,I_,SJ_,S_,LT_,LS_,LC_,LU_,LV_,RB_,RI_,RS_,N_,T_,SE_,ne_eq,ht2,not_false_eq_true,if_true]
   exact retP_of ⟨rfl,out (SPost.self hM4 (AM.le_refl _))⟩
 .have hb2:(t1 != 0)=true:=by simpa using ht
  simp only [hb2,std_all,sto_all,Nat.reduceAdd,Nat.reduceLT,LI_,LB_,LA_,SI_,pt_,KI_,I_,SJ_,S_,LT_,LS_,LC_,LU_,LV_,RB_,RI_,RS_,N_,T_,SE_,ne_eq,ht,not_false_eq_true,if_true]
  exact retP_of ⟨rfl,hp3.pre L⟩
theorem int_one (l:List Int):∀ u∈intCells .i64 l,u.oneCell'=true:=fun u hu=>by
 obtain ⟨x,_,rfl⟩:=List.mem_map.1 hu
 rfl
theorem clone_int (w0:World) (m:AM) (A:Option Addr) (n c:Nat) (l:List Int) (hr:Reads m 1 A n (intCells .i64 l)) (hn:n<=1000000) :
  CallsA Tryz.prog w0 40 #[.slice A n c] m (fun r m'=>m.le m'/\∃ A' c',r=.slice A' n c'/\Alog.Own m' w0.heap.size 3 1 A' n c' (intCells .i64 l)/\∀ k∈obl A',m k=none):=by
 refine cf40 w0 m A n c _ ?_
 dsimp only [cf40,mkF]
 cases A with
 | none =>
  obtain ⟨h1,⟨_,rfl⟩ | ⟨ad,h,_⟩⟩:=hr
  .simp only [Option.isNone_none,std_all,sto_all,Nat.reduceAdd,Nat.reduceLT,LI_,LB_,LA_,SI_,pt_,KI_,I_,SJ_,S_,LT_,LS_,LC_,LU_,LV_,RB_,RI_,RS_,N_,T_,SE_]
   have:intCells .i64 l = []:=List.eq_nil_of_length_eq_zero (by simpa using h1)
   rw [this]
   exact retP_of ⟨AM.le_refl m,none,0,rfl,Own.nil _ _ _ _,by simp [obl]⟩
  .cases h
 | some ad =>
  simp only [Option.isNone_some,std_all,sto_all,Nat.reduceAdd,Nat.reduceLT,LI_,LB_,LA_,SI_,pt_,KI_,I_,SJ_,S_,LT_,LS_,LC_,LU_,LV_,RB_,RI_,RS_,N_,T_,SE_]
  intro b1 hb1 hm1
  have l1:=le_new hm1 (.cells [].toArray 3)
  have hn0:Alog.Own (m.upd b1 (.cells [].toArray 3)) w0.heap.size 3 1 (some ⟨b1,0,none⟩) 0 0 []:=Own.new m hb1 3 1 0 [] rfl
  refine awp_append_loc (m0:=m) el33 l1 hn0 (fun k hk=>by simp [obl] at hk; subst hk; exact hm1) (hr.le l1) (int_one l) (by omega) (by omega) (fun A4 c4 m4 l4 f4 o4 n4 _=>?_)
  simp only [std_all,sto_all,Nat.reduceAdd,Nat.reduceLT,LI_,LB_,LA_,SI_,pt_,KI_,I_,SJ_,S_,LT_,LS_,LC_,LU_,LV_,RB_,RI_,RS_,N_,T_,SE_]
  rw [Nat.zero_add] at o4 ⊢
  exact retP_of ⟨l4,_,_,rfl,o4,n4⟩
def usedP (l:List Int):List Int:=(l.reverse.dropWhile (· == 0)).reverse
theorem usedP_snoc0 (l:List Int):usedP (l ++ [0])=usedP l:=by simp [usedP]
theorem usedP_snoc (l:List Int) (x:Int) (h:x≠0):usedP (l ++ [x])=l ++ [x]:=by
 have:(x == 0)=false:=by simpa using h
 simp [usedP,this]
theorem Own.shrink {m:AM} {B:Nat} {e:TypeId} {A:Option Addr} {n c:Nat} {xs:List Value} (h:Alog.Own m B e 1 A n c xs) {k:Nat} (hk:k<=n):Alog.Own m B e 1 A k c (xs.take k):=by
 obtain ⟨h1,h2,h3 | ⟨g,cur,h3,h4,h5,h6,h7⟩⟩:=h
 .have:k=0:=by omega
  subst this
  exact ⟨by simp,by omega,.inl h3⟩
 .refine ⟨by simp [h1]; omega,by omega,.inr ⟨g,cur,h3,h4,h5,h6,?_⟩⟩
  rw [<- h7,List.take_take]
  congr 1
  omega
theorem words_spec (w0:World) (m:AM) (B gm:Nat) (A:Option Addr) (l:List Int) (c:Nat) (hm:m gm=some (.cells #[.slice A l.length c] 149)) (hw:Alog.Own m B 3 1 A l.length c (intCells .i64 l)) (hl:l.length<=1000000) :
  CallsA Tryz.prog w0 82 #[.pointer (some ⟨gm,0,none⟩)] m (fun r m'=>m.le m'/\∃ A' c',r=.slice A' l.length c'/\Alog.Own m' w0.heap.size 3 1 A' l.length c' (intCells .i64 l)/\∀ k∈obl A',m k=none):=by
 refine cf82 w0 m gm _ ?_
 dsimp only [cf82,mkF]
 simp only [Option.isNone_some,std_all,sto_all,Nat.reduceAdd,Nat.reduceLT,LI_,LB_,LA_,SI_,pt_,KI_,I_,SJ_,S_,LT_,LS_,LC_,LU_,LV_,RB_,RI_,RS_,N_,T_,SE_,cell_of hm]
 refine CallsA.mono (clone_int w0 m A _ c l hw.reads hl) ?_
 rintro r m2 ⟨l2,A',c',rfl,ho,hn⟩
 exact ⟨_,_,_,rfl,retP_of ⟨l2,_,_,rfl,ho,hn⟩⟩
theorem used_spec (w0:World) (m:AM) (B gm:Nat) (A:Option Addr) (l:List Int) (c:Nat) (hm:m gm=some (.cells #[.slice A l.length c] 149)) (hw:Alog.Own m B 3 1 A l.length c (intCells .i64 l)) (hl:l.length<=1000000) :
  CallsA Tryz.prog w0 42 #[.pointer (some ⟨gm,0,none⟩)] m (fun r m'=>m.le m'/\∃ A' c',r=.slice A' (usedP l).length c'/\Alog.Own m' w0.heap.size 3 1 A' (usedP l).length c' (intCells .i64 (usedP l))/\∀ k∈obl A',m k=none):=by
 refine cf42 w0 m gm _ ?_
 refine CallsA.mono (words_spec w0 m B gm A l c hm hw hl) ?_
 rintro r m2 ⟨l2,A',c',rfl,ho,hn⟩
 refine ⟨_,_,_,rfl,?_⟩
 refine vl42_1100 w0 m2 _ _ A' l.length c' (fun k x n c2 m3=>k=n/\m3=m2/\x=A'/\c2=c'/\n<=l.length/\usedP (l.take n)=usedP l) (fun x n c2 m3=>m3=m2/\x=A'/\c2=c'/\n<=l.length/\usedP l=l.take n) l.length rfl ⟨rfl,rfl,rfl,rfl,Nat.le_refl _,by simp⟩ ?_ ?_
 .rintro k σ x n c2 m3 ⟨hkn,rfl,rfl,rfl,hnl,hu⟩
  by_cases h0:n=0
  .subst h0
   simp only [show decide (((0:Nat):Int)>0)=false from rfl,std_all,sto_all,Nat.reduceAdd,Nat.reduceLT,LI_,LB_,LA_,SI_,pt_,KI_,I_,SJ_,S_,LT_,LS_,LC_,LU_,LV_,RB_,RI_,RS_,N_,T_,SE_]
   refine ⟨by omega,?_⟩
   rw [<- hu]; rfl
  .have hpos:((n:Nat):Int)>0:=by omega
   obtain ⟨ad,rfl,hc⟩:=ho.ex (by omega)
   have w1:IntKind.wrap .i64 ((n:Int)-1)=n-1:=by rw [IntKind.wrap_i64]; omega
   have hlt:n-1<l.length:=by omega
   have e1:((n:Int)-1).toNat=n-1:=by omega
   have hcell:m3.cell (ad.add ((n-1)*1))=some (.int .i64 l[n-1]):=by
    refine hc _ _ ?_
    simp [intCells,hlt]
   have htake:l.take n=l.take (n-1) ++ [l[n-1]]:=by
    have:=List.take_succ_eq_append_getElem hlt
    rwa [show n-1+1=n by omega] at this
   simp only [decide_eq_true hpos,std_all,sto_all,Nat.reduceAdd,Nat.reduceLT,LI_,LB_,LA_,SI_,pt_,KI_,I_,SJ_,S_,LT_,LS_,LC_,LU_,LV_,RB_,RI_,RS_,N_,T_,SE_,w1,e1,hcell]
   have hcap:=ho.2.1
   by_cases hz:l[n-1]=0
   .simp only [hz,beq_self_eq_true,std_all,sto_all,Nat.reduceAdd,Nat.reduceLT,LI_,LB_,LA_,SI_,pt_,KI_,I_,SJ_,S_,LT_,LS_,LC_,LU_,LV_,RB_,RI_,RS_,N_,T_,SE_]
    refine ⟨by omega,by omega,by omega,by omega,by omega,n-1,by omega,?_⟩
    have hc0:¬ c2=0:=by omega
    simp only [if_neg hc0,Nat.sub_zero,Nat.zero_mul,Option.map_some,std_all,sto_all,Nat.reduceAdd,Nat.reduceLT,LI_,LB_,LA_,SI_,pt_,KI_,I_,SJ_,S_,LT_,LS_,LC_,LU_,LV_,RB_,RI_,RS_,N_,T_,SE_]
    refine ⟨by cases ad; rfl,by omega,?_⟩
    rw [<- hu,htake,hz,usedP_snoc0]
   .have hz2:(l[n-1] == 0)=false:=by simpa using hz
    simp only [hz2,std_all,sto_all,Nat.reduceAdd,Nat.reduceLT,LI_,LB_,LA_,SI_,pt_,KI_,I_,SJ_,S_,LT_,LS_,LC_,LU_,LV_,RB_,RI_,RS_,N_,T_,SE_]
    refine ⟨by omega,by omega,by omega,?_⟩
    rw [<- hu,htake,usedP_snoc _ _ hz]
 .rintro σ x n c2 m3 ⟨rfl,rfl,rfl,hnl,hu⟩
  refine retP_of ⟨l2,x,c2,?_,?_,hn⟩
  .rw [hu,List.length_take,Nat.min_eq_left hnl]
  .have:=Own.shrink ho hnl
   rw [hu,List.length_take,Nat.min_eq_left hnl]
   simpa [intCells] using this
end Go.Proofs.YtgjamnhjlaohaaaGreatDoor.S
