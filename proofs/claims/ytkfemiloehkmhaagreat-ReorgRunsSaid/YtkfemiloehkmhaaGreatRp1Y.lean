/- YtkfemiloehkmhaaGreat: a text of our own, by an AI agent: Rp1Y -/
import Derived.Test.YtkfemiloehkmhaaGreatCoreE
import Derived.Test.YtkfemiloehkmhaaGreatVbBY
import Derived.Test.YtkfemiloehkmhaaGreatBkBY
import Derived.Test.YtkfemiloehkmhaaGreatDpBY
set_option linter.unusedSimpArgs false
set_option linter.unusedVariables false
set_option maxRecDepth 100000
namespace Go.Proofs.YtkfemiloehkmhaaGreat.S
open Go Go.RowKit Go.Alog Go.Proofs.YtkfemiloehkmhaaGreat.T Go.Proofs.YtkfemiloehkmhaaGreat.V

theorem el30':elOf Tryz.prog 23=some (3,1,8,[.int .i64 0]):=by kernel_rfl

theorem and32 {n:Nat} (h:n≤1000000):(BitVec.ofInt (IntKind.bits .u64) (n:Int) &&& BitVec.ofInt (IntKind.bits .u64) 4294967295).toNat=n:=by
 rw [BitVec.toNat_and]
 have e1:(BitVec.ofInt (IntKind.bits .u64) 4294967295).toNat=2 ^ 32-1:=by decide
 have e2:(BitVec.ofInt (IntKind.bits .u64) (n:Int)).toNat=n:=by
  show (BitVec.ofInt 64 (n:Int)).toNat=n
  rw [BitVec.toNat_ofInt]
  omega
 rw [e1,e2,Nat.and_two_pow_sub_one_eq_mod]
 omega
theorem and32':(BitVec.ofInt (IntKind.bits .u64) 1 &&& BitVec.ofInt (IntKind.bits .u64) 4294967295).toNat=1:=by decide
theorem shr32 (n:Nat) (h:n≤1000000):Int.fdiv (n:Int) (2 ^ (min (32:Int).toNat (IntKind.bits .u64)))=0:=by
 have e:((2:Int) ^ (min (32:Int).toNat (IntKind.bits .u64)))=4294967296:=by decide
 rw [e,Int.fdiv_eq_ediv_of_nonneg _ (by decide)]
 omega
theorem wu64 (n:Nat) (h:n≤1000000):IntKind.wrap .u64 (n:Int)=n:=by
 have:IntKind.wrap .u64 (n:Int)=(n:Int) % 18446744073709551616:=rfl
 omega
theorem mul_spec (w0:World) (m:AM) {n:Nat} (h:n≤1000000):CallsA Tryz.prog w0 84 #[.int .u64 1,.int .u64 n] m (fun r m'=>r=.tuple #[.int .u64 0,.int .u64 n]∧m'=m):=by
 refine cf84 w0 m 1 n _ ?_
 refine cf100 w0 m 1 _ _ ?_
 refine ⟨rfl,by decide,rfl,by decide,rfl,rfl,by decide,rfl,rfl,by decide,rfl,rfl,rfl,rfl,by decide,rfl,rfl,?_⟩
 refine retP_of ⟨_,_,rfl,retP_of ⟨?_,rfl⟩⟩
 have s1:Int.fdiv (1:Int) (2 ^ (min (32:Int).toNat (IntKind.bits .u64)))=0:=by decide
 have w1:IntKind.wrap .u64 ((1:Nat):Int)=1:=by decide
 have w0:IntKind.wrap .u64 0=0:=by decide
 have s0:Int.fdiv (0:Int) (2 ^ (min (32:Int).toNat (IntKind.bits .u64)))=0:=by decide
 have a0:(BitVec.ofInt (IntKind.bits .u64) 0 &&& BitVec.ofInt (IntKind.bits .u64) 4294967295).toNat=0:=by decide
 simp only [s1,shr32 n h,and32 h,and32',wu64 n h,w1,w0,Int.one_mul,Int.zero_mul,Int.mul_zero,Int.zero_add,Int.add_zero,s0,a0,Int.natCast_zero,Int.ofNat_zero]

theorem rep_take {cur:Array Value} {n k c:Nat} (hs:cur.size=n) (ht:cur.toList.take k=List.replicate k (Value.int .i64 (-1))) (hk:k+c≤n) :
  (splice cur k (List.replicate c (Value.int .i64 (-1)))).toList.take (k+c)=List.replicate (k+c) (Value.int .i64 (-1)):=by
 unfold splice
 rw [List.toList_toArray,ht]
 have:List.replicate k (Value.int .i64 (-1)) ++ List.replicate c (Value.int .i64 (-1))=List.replicate (k+c) (Value.int .i64 (-1)):=by rw [List.replicate_append_replicate]
 rw [this]
 rw [List.take_append_of_le_length (by simp),List.take_of_length_le (by simp)]

theorem repeat_spec (w0:World) (m:AM) {b:Nat} {n:Nat} (hn:n≤1000000) (hb:Reads m 1 (some ⟨b,0,none⟩) 1 [.int .i64 (-1)]) {R:Value→AM→Prop}
  (hK:∀ A c m',m.le m'→(∀ k∈obl A,m k=none)→Alog.Own m' w0.heap.size 3 1 A n c (intCells .i64 (List.replicate n (-1)))→R (.slice A n c) m') :
  CallsA Tryz.prog w0 68 #[.slice (some ⟨b,0,none⟩) 1 1,.int .i64 n] m R:=by
 refine cf68 w0 m _ 1 1 n R ⟨rfl,?_⟩
 rw [show decide ((n:Int)<0)=false from decide_eq_false (by omega)]
 refine bcF ?_
 have e1:IntKind.wrap .u64 ((1:Nat):Int)=1:=by decide
 have e2:IntKind.wrap .u64 (n:Int)=n:=by
  have:IntKind.wrap .u64 (n:Int)=(n:Int) % 18446744073709551616:=rfl
  omega
 rw [e1,e2]
 refine CallsA.mono (mul_spec w0 m hn) ?_
 rintro r m1 ⟨rfl,h1⟩
 replace h1:=h1.symm; subst h1
 refine ⟨_,_,rfl,rfl,?_⟩
 rw [show decide ((0:Int)>0)=false from rfl]
 refine bcF ⟨rfl,?_⟩
 rw [show decide ((n:Int)>9223372036854775807)=false from decide_eq_false (by omega)]
 refine bcF ?_
 have e3:IntKind.wrap .i64 (n:Int)=n:=wrap_s (by omega) (by omega)
 rw [e3,show ((n:Nat):Int).toNat=n by omega]
 refine ⟨⟨by omega,by omega,by omega,by omega⟩,fun g hg hng=>?_⟩
 have lm:=le_new hng (.cells (zeros [.int .i64 0] n).toArray 3)
 have hz:(zeros [Value.int .i64 0] n).toArray.size=n:=by rw [zeros_int]; simp [intCells]
 have gb:g≠b:=fun e=>by
  obtain ⟨_,⟨h,_⟩ | ⟨ad,h,hc⟩⟩:=hb
  ·cases h
  ·injection h with h
   subst h
   have:=hc 0 _ rfl
   unfold AM.cell at this
   rw [addn] at this
   dsimp only at this
   rw [← e,hng] at this
   cases this
 obtain ⟨c1,hc1⟩:∃ c1,c1=Nat.min 1 n:=⟨_,rfl⟩
 have hc2:c1≤n∧c1≤1∧(n=0∨c1=1):=by
  have:c1=min 1 n:=hc1
  omega
 have one:∀ u∈List.replicate c1 (Value.int .i64 (-1)),u.oneCell'=true:=by intro u hu; rw [(List.mem_replicate.1 hu).2]; rfl
 have hb':=hb.le lm
 refine awp_copy (n:=c1) (xs:=List.replicate c1 (.int .i64 (-1))) el30' upd_get_same hg hc1 ?_ one (by rw [hz]; omega) ⟨_,rfl,?_⟩
 ·rcases hc2 with ⟨_,h1,h2⟩
  rcases Nat.le_one_iff_eq_zero_or_eq_one.1 h1 with e | e
  ·subst e
   obtain ⟨_,⟨h,_⟩ | ⟨ad,h,hc⟩⟩:=hb'
   ·cases h
   ·exact ⟨rfl,.inr ⟨ad,h,fun j u hu=>by simp at hu⟩⟩
  ·subst e; exact hb'
 rw [upd_upd]
 have t0:(splice (zeros [Value.int .i64 0] n).toArray 0 (List.replicate c1 (Value.int .i64 (-1)))).toList.take c1=List.replicate c1 (Value.int .i64 (-1)):=by
  have:=rep_take (cur:=(zeros [Value.int .i64 0] n).toArray) (n:=n) (k:=0) (c:=c1) hz rfl (by omega)
  rwa [Nat.zero_add] at this
 have s0:(splice (zeros [Value.int .i64 0] n).toArray 0 (List.replicate c1 (Value.int .i64 (-1)))).size=n:=by rw [splice_size _ _ _ (by rw [List.length_replicate,hz]; omega),hz]
 refine vl68_11111100 w0 _ _ _ (some ⟨g,0,none⟩) n n (c1:Int) (fun q k m'=>∃ cur,m'=m.upd g (.cells cur 3)∧cur.size=n∧0≤k∧k≤n∧(n=0∨1≤k)∧(q:Int)=n-k∧cur.toList.take k.toNat=List.replicate k.toNat (Value.int .i64 (-1))) (fun m'=>∃ cur,m'=m.upd g (.cells cur 3)∧cur.size=n∧cur.toList.take n=List.replicate n (Value.int .i64 (-1))) (n-c1) rfl rfl ⟨_,rfl,s0,by omega,by omega,by omega,by omega,by rw [show ((c1:Nat):Int).toNat=c1 by omega]; exact t0⟩ ?_ ?_
 ·rintro q σ k m1 ⟨cur,rfl,hs,k0,k1,kn,hq,ht⟩
  refine ⟨rfl,bcP (fun hlt=>?_) (fun hlt=>?_)⟩
  ·refine ⟨k0,Nat.le_refl _,by omega,k0,by omega,by omega,?_⟩
   rw [if_neg (by omega),if_neg (by omega),Option.map_some,Option.map_some,addn,addn]
   obtain ⟨c,hc⟩:∃ c,c=Nat.min (k.toNat-0) (n-k.toNat):=⟨_,rfl⟩
   have hc':c=min (k.toNat-0) (n-k.toNat):=hc
   have one:∀ u∈List.replicate c (Value.int .i64 (-1)),u.oneCell'=true:=by intro u hu; rw [(List.mem_replicate.1 hu).2]; rfl
   refine awp_copy (n:=c) (xs:=List.replicate c (.int .i64 (-1))) el30' upd_get_same hg hc ?_ one (by rw [hs]; omega) ⟨_,rfl,?_⟩
   ·refine ⟨by simp,.inr ⟨_,rfl,fun j u hu=>?_⟩⟩
    rw [addn,cell_of upd_get_same]
    have hj:j<c:=by
     rcases Nat.lt_or_ge j c with h | h
     ·exact h
     ·rw [List.getElem?_eq_none (by simp; omega)] at hu; cases hu
    have hu2:u=.int .i64 (-1):=by
     rw [List.getElem?_replicate,if_pos hj] at hu; injection hu with hu; exact hu.symm
    rw [hu2]
    have h3:=congrArg (fun l=>l[j]?) ht
    simp only [List.getElem?_take,List.getElem?_replicate] at h3
    rw [if_pos (by omega),if_pos (by omega)] at h3
    simpa using h3
   ·(repeat (refine And.intro (Eq.refl _) ?_))
    rw [upd_upd,wrap_s (i:=k+(c:Int)) (by omega) (by omega)]
    refine ⟨q-c,by omega,_,rfl,?_,by omega,by omega,by omega,by omega,?_⟩
    ·rw [splice_size _ _ _ (by rw [List.length_replicate,hs]; omega),hs]
    ·rw [show (k+(c:Int)).toNat=k.toNat+c by omega,show 0+k.toNat*1=k.toNat by omega]
     exact rep_take hs ht (by omega)
  ·(repeat (refine And.intro (Eq.refl _) ?_))
   refine ⟨cur,rfl,hs,?_⟩
   rw [show k.toNat=n by omega] at ht
   exact ht
 ·rintro σ m1 ⟨cur,rfl,hs,ht⟩
  refine retP_of (hK _ _ _ (fun k o hk=>?_) (by simpa [obl] using hng) ⟨by simp [intCells],Nat.le_refl _,.inr ⟨g,cur,rfl,hg,upd_get_same,by rw [hs,Nat.mul_one],?_⟩⟩)
  ·have e:k≠g:=fun e=>by rw [e,hng] at hk; cases hk
   rw [upd_get_ne e]; exact hk
  ·rw [Nat.mul_one,ht]; simp [intCells]
end Go.Proofs.YtkfemiloehkmhaaGreat.S

