/- YtkfemiloehkmhaaGreat: a text of our own, by an AI agent: P8BY -/
import Derived.Test.YtkfemiloehkmhaaGreatEfCY
import Derived.Test.YtkfemiloehkmhaaGreatMaBY
import Derived.Test.YtkfemiloehkmhaaGreatVPipeY
set_option linter.unusedSimpArgs false
set_option linter.unusedVariables false
set_option maxRecDepth 100000
namespace Go.Proofs.YtkfemiloehkmhaaGreat.S
open Go Go.RowKit Go.Alog Go.Proofs.YtkfemiloehkmhaaGreat.T Go.Proofs.YtkfemiloehkmhaaGreat.V

structure La where
 full:Bool
 i:Ins
 at_:Int
 reg:Int
 value:Int
 stored:Int
 where_:Int
 trap:Int
def La0:La:=⟨false,⟨0,0,0,0,0⟩,0,0,0,0,0,0⟩
abbrev La.vals (l:La):List Value:=[.bool l.full,.int .i64 l.i.op,.int .i64 l.i.a,.int .i64 l.i.b,.int .i64 l.i.c,.int .i64 l.i.imm,.int .i64 l.at_,.int .i64 l.reg,.int .i64 l.value,.int .i64 l.stored,.int .i64 l.where_,.int .i64 l.trap]
abbrev La.val (l:La):Value:=.agg #[.bool l.full,.int .i64 l.i.op,.int .i64 l.i.a,.int .i64 l.i.b,.int .i64 l.i.c,.int .i64 l.i.imm,.int .i64 l.at_,.int .i64 l.reg,.int .i64 l.value,.int .i64 l.stored,.int .i64 l.where_,.int .i64 l.trap]

theorem st12 {B g k:Nat} {m:AM} {c:Array Value} {t:TypeId} {K:AM→Prop} {v0 v1 v2 v3 v4 v5 v6 v7 v8 v9 v10 v11:Value} (hg:m g=some (.cells c t)) (hB:B≤g) (hs:k+12≤c.size) (hK:K (m.upd g (.cells (splice c k [v0,v1,v2,v3,v4,v5,v6,v7,v8,v9,v10,v11]) t))) :
  StC B m ⟨g,k,none⟩ (v0) fun y0=>StC B y0 ⟨g,k+1,none⟩ (v1) fun y1=>StC B y1 ⟨g,k+2,none⟩ (v2) fun y2=>StC B y2 ⟨g,k+3,none⟩ (v3) fun y3=>StC B y3 ⟨g,k+4,none⟩ (v4) fun y4=>StC B y4 ⟨g,k+5,none⟩ (v5) fun y5=>StC B y5 ⟨g,k+6,none⟩ (v6) fun y6=>StC B y6 ⟨g,k+7,none⟩ (v7) fun y7=>StC B y7 ⟨g,k+8,none⟩ (v8) fun y8=>StC B y8 ⟨g,k+9,none⟩ (v9) fun y9=>StC B y9 ⟨g,k+10,none⟩ (v10) fun y10=>StC B y10 ⟨g,k+11,none⟩ (v11) fun y11=>K y11:=by
 have h:=StL_cells (B:=B) (g:=g) (e:=t) (K:=K) [v0,v1,v2,v3,v4,v5,v6,v7,v8,v9,v10,v11] 0 k m c hg hB (by simp; omega) (by simpa using hK)
 simpa [StL,Addr.add] using h

theorem st12a {B g:Nat} {m:AM} {c:Array Value} {t:TypeId} {K:AM→Prop} {v0 v1 v2 v3 v4 v5 v6 v7 v8 v9 v10 v11:Value} (hg:m g=some (.cells c t)) (hB:B≤g) (hs:c.size=12) (hK:K (m.upd g (.cells (#[v0,v1,v2,v3,v4,v5,v6,v7,v8,v9,v10,v11]) t))) :
  StC B m ⟨g,0,none⟩ (v0) fun y0=>StC B y0 ⟨g,1,none⟩ (v1) fun y1=>StC B y1 ⟨g,2,none⟩ (v2) fun y2=>StC B y2 ⟨g,3,none⟩ (v3) fun y3=>StC B y3 ⟨g,4,none⟩ (v4) fun y4=>StC B y4 ⟨g,5,none⟩ (v5) fun y5=>StC B y5 ⟨g,6,none⟩ (v6) fun y6=>StC B y6 ⟨g,7,none⟩ (v7) fun y7=>StC B y7 ⟨g,8,none⟩ (v8) fun y8=>StC B y8 ⟨g,9,none⟩ (v9) fun y9=>StC B y9 ⟨g,10,none⟩ (v10) fun y10=>StC B y10 ⟨g,11,none⟩ (v11) fun y11=>K y11:=by
 refine st12 (k:=0) hg hB (by omega) ?_
 rw [show splice c 0 [v0,v1,v2,v3,v4,v5,v6,v7,v8,v9,v10,v11] = #[v0,v1,v2,v3,v4,v5,v6,v7,v8,v9,v10,v11] by unfold splice; rw [List.take_zero,List.nil_append,List.drop_of_length_le (by rw [Array.length_toList,hs]; exact Nat.le_refl _),List.append_nil]]
 exact hK

theorem st32 {B g k:Nat} {m:AM} {c:Array Value} {t:TypeId} {K:AM→Prop} {v0 v1 v2 v3 v4 v5 v6 v7 v8 v9 v10 v11 v12 v13 v14 v15 v16 v17 v18 v19 v20 v21 v22 v23 v24 v25 v26 v27 v28 v29 v30 v31:Value} (hg:m g=some (.cells c t)) (hB:B≤g) (hs:k+32≤c.size) (hK:K (m.upd g (.cells (splice c k [v0,v1,v2,v3,v4,v5,v6,v7,v8,v9,v10,v11,v12,v13,v14,v15,v16,v17,v18,v19,v20,v21,v22,v23,v24,v25,v26,v27,v28,v29,v30,v31]) t))) :
  StC B m ⟨g,k,none⟩ (v0) fun y0=>StC B y0 ⟨g,k+1,none⟩ (v1) fun y1=>StC B y1 ⟨g,k+2,none⟩ (v2) fun y2=>StC B y2 ⟨g,k+3,none⟩ (v3) fun y3=>StC B y3 ⟨g,k+4,none⟩ (v4) fun y4=>StC B y4 ⟨g,k+5,none⟩ (v5) fun y5=>StC B y5 ⟨g,k+6,none⟩ (v6) fun y6=>StC B y6 ⟨g,k+7,none⟩ (v7) fun y7=>StC B y7 ⟨g,k+8,none⟩ (v8) fun y8=>StC B y8 ⟨g,k+9,none⟩ (v9) fun y9=>StC B y9 ⟨g,k+10,none⟩ (v10) fun y10=>StC B y10 ⟨g,k+11,none⟩ (v11) fun y11=>StC B y11 ⟨g,k+12,none⟩ (v12) fun y12=>StC B y12 ⟨g,k+13,none⟩ (v13) fun y13=>StC B y13 ⟨g,k+14,none⟩ (v14) fun y14=>StC B y14 ⟨g,k+15,none⟩ (v15) fun y15=>StC B y15 ⟨g,k+16,none⟩ (v16) fun y16=>StC B y16 ⟨g,k+17,none⟩ (v17) fun y17=>StC B y17 ⟨g,k+18,none⟩ (v18) fun y18=>StC B y18 ⟨g,k+19,none⟩ (v19) fun y19=>StC B y19 ⟨g,k+20,none⟩ (v20) fun y20=>StC B y20 ⟨g,k+21,none⟩ (v21) fun y21=>StC B y21 ⟨g,k+22,none⟩ (v22) fun y22=>StC B y22 ⟨g,k+23,none⟩ (v23) fun y23=>StC B y23 ⟨g,k+24,none⟩ (v24) fun y24=>StC B y24 ⟨g,k+25,none⟩ (v25) fun y25=>StC B y25 ⟨g,k+26,none⟩ (v26) fun y26=>StC B y26 ⟨g,k+27,none⟩ (v27) fun y27=>StC B y27 ⟨g,k+28,none⟩ (v28) fun y28=>StC B y28 ⟨g,k+29,none⟩ (v29) fun y29=>StC B y29 ⟨g,k+30,none⟩ (v30) fun y30=>StC B y30 ⟨g,k+31,none⟩ (v31) fun y31=>K y31:=by
 have h:=StL_cells (B:=B) (g:=g) (e:=t) (K:=K) [v0,v1,v2,v3,v4,v5,v6,v7,v8,v9,v10,v11,v12,v13,v14,v15,v16,v17,v18,v19,v20,v21,v22,v23,v24,v25,v26,v27,v28,v29,v30,v31] 0 k m c hg hB (by simp; omega) (by simpa using hK)
 simpa [StL,Addr.add] using h

theorem st32a {B g:Nat} {m:AM} {c:Array Value} {t:TypeId} {K:AM→Prop} {v0 v1 v2 v3 v4 v5 v6 v7 v8 v9 v10 v11 v12 v13 v14 v15 v16 v17 v18 v19 v20 v21 v22 v23 v24 v25 v26 v27 v28 v29 v30 v31:Value} (hg:m g=some (.cells c t)) (hB:B≤g) (hs:c.size=32) (hK:K (m.upd g (.cells (#[v0,v1,v2,v3,v4,v5,v6,v7,v8,v9,v10,v11,v12,v13,v14,v15,v16,v17,v18,v19,v20,v21,v22,v23,v24,v25,v26,v27,v28,v29,v30,v31]) t))) :
  StC B m ⟨g,0,none⟩ (v0) fun y0=>StC B y0 ⟨g,1,none⟩ (v1) fun y1=>StC B y1 ⟨g,2,none⟩ (v2) fun y2=>StC B y2 ⟨g,3,none⟩ (v3) fun y3=>StC B y3 ⟨g,4,none⟩ (v4) fun y4=>StC B y4 ⟨g,5,none⟩ (v5) fun y5=>StC B y5 ⟨g,6,none⟩ (v6) fun y6=>StC B y6 ⟨g,7,none⟩ (v7) fun y7=>StC B y7 ⟨g,8,none⟩ (v8) fun y8=>StC B y8 ⟨g,9,none⟩ (v9) fun y9=>StC B y9 ⟨g,10,none⟩ (v10) fun y10=>StC B y10 ⟨g,11,none⟩ (v11) fun y11=>StC B y11 ⟨g,12,none⟩ (v12) fun y12=>StC B y12 ⟨g,13,none⟩ (v13) fun y13=>StC B y13 ⟨g,14,none⟩ (v14) fun y14=>StC B y14 ⟨g,15,none⟩ (v15) fun y15=>StC B y15 ⟨g,16,none⟩ (v16) fun y16=>StC B y16 ⟨g,17,none⟩ (v17) fun y17=>StC B y17 ⟨g,18,none⟩ (v18) fun y18=>StC B y18 ⟨g,19,none⟩ (v19) fun y19=>StC B y19 ⟨g,20,none⟩ (v20) fun y20=>StC B y20 ⟨g,21,none⟩ (v21) fun y21=>StC B y21 ⟨g,22,none⟩ (v22) fun y22=>StC B y22 ⟨g,23,none⟩ (v23) fun y23=>StC B y23 ⟨g,24,none⟩ (v24) fun y24=>StC B y24 ⟨g,25,none⟩ (v25) fun y25=>StC B y25 ⟨g,26,none⟩ (v26) fun y26=>StC B y26 ⟨g,27,none⟩ (v27) fun y27=>StC B y27 ⟨g,28,none⟩ (v28) fun y28=>StC B y28 ⟨g,29,none⟩ (v29) fun y29=>StC B y29 ⟨g,30,none⟩ (v30) fun y30=>StC B y30 ⟨g,31,none⟩ (v31) fun y31=>K y31:=by
 refine st32 (k:=0) hg hB (by omega) ?_
 rw [show splice c 0 [v0,v1,v2,v3,v4,v5,v6,v7,v8,v9,v10,v11,v12,v13,v14,v15,v16,v17,v18,v19,v20,v21,v22,v23,v24,v25,v26,v27,v28,v29,v30,v31] = #[v0,v1,v2,v3,v4,v5,v6,v7,v8,v9,v10,v11,v12,v13,v14,v15,v16,v17,v18,v19,v20,v21,v22,v23,v24,v25,v26,v27,v28,v29,v30,v31] by unfold splice; rw [List.take_zero,List.nil_append,List.drop_of_length_le (by rw [Array.length_toList,hs]; exact Nat.le_refl _),List.append_nil]]
 exact hK

theorem new12 {B:Nat} {m:AM} {T:TypeId} {K:Nat→AM→Prop} {v0 v1 v2 v3 v4 v5 v6 v7 v8 v9 v10 v11:Value} (h:∀ b m',B≤b→m b=none→m.le m'→m' b=some (.cells #[v0,v1,v2,v3,v4,v5,v6,v7,v8,v9,v10,v11] T)→K b m') :
  ∀ b:Nat,B≤b→m b=none→let m1:=AM.upd m b (.cells #[.bool false,.int .i64 0,.int .i64 0,.int .i64 0,.int .i64 0,.int .i64 0,.int .i64 0,.int .i64 0,.int .i64 0,.int .i64 0,.int .i64 0,.int .i64 0] T); StC B m1 ⟨b,0,none⟩ (v0) fun y0=>StC B y0 ⟨b,1,none⟩ (v1) fun y1=>StC B y1 ⟨b,2,none⟩ (v2) fun y2=>StC B y2 ⟨b,3,none⟩ (v3) fun y3=>StC B y3 ⟨b,4,none⟩ (v4) fun y4=>StC B y4 ⟨b,5,none⟩ (v5) fun y5=>StC B y5 ⟨b,6,none⟩ (v6) fun y6=>StC B y6 ⟨b,7,none⟩ (v7) fun y7=>StC B y7 ⟨b,8,none⟩ (v8) fun y8=>StC B y8 ⟨b,9,none⟩ (v9) fun y9=>StC B y9 ⟨b,10,none⟩ (v10) fun y10=>StC B y10 ⟨b,11,none⟩ (v11) fun y11=>K b y11:=by
 intro b hb hm m1
 refine st12 (c:=#[.bool false,.int .i64 0,.int .i64 0,.int .i64 0,.int .i64 0,.int .i64 0,.int .i64 0,.int .i64 0,.int .i64 0,.int .i64 0,.int .i64 0,.int .i64 0]) (t:=T) (k:=0) upd_get_same hb (by simp) ?_
 exact h b _ hb hm (fun x o' hx=>by
  have:x≠b:=fun e=>by subst e; rw [hm] at hx; cases hx
  rw [upd_get_ne this]; exact le_new hm _ x o' hx) upd_get_same

abbrev arr32 (l:List Int):Array Value:=#[.int .i64 (l.getD 0 0),.int .i64 (l.getD 1 0),.int .i64 (l.getD 2 0),.int .i64 (l.getD 3 0),.int .i64 (l.getD 4 0),.int .i64 (l.getD 5 0),.int .i64 (l.getD 6 0),.int .i64 (l.getD 7 0),.int .i64 (l.getD 8 0),.int .i64 (l.getD 9 0),.int .i64 (l.getD 10 0),.int .i64 (l.getD 11 0),.int .i64 (l.getD 12 0),.int .i64 (l.getD 13 0),.int .i64 (l.getD 14 0),.int .i64 (l.getD 15 0),.int .i64 (l.getD 16 0),.int .i64 (l.getD 17 0),.int .i64 (l.getD 18 0),.int .i64 (l.getD 19 0),.int .i64 (l.getD 20 0),.int .i64 (l.getD 21 0),.int .i64 (l.getD 22 0),.int .i64 (l.getD 23 0),.int .i64 (l.getD 24 0),.int .i64 (l.getD 25 0),.int .i64 (l.getD 26 0),.int .i64 (l.getD 27 0),.int .i64 (l.getD 28 0),.int .i64 (l.getD 29 0),.int .i64 (l.getD 30 0),.int .i64 (l.getD 31 0)]
theorem arr32_eq (l:List Int):arr32 l=((List.range 32).map fun k=>Value.int .i64 (l.getD k 0)).toArray:=rfl
theorem arr32_get (l:List Int) {n:Int} (hn:0≤n∧n<32):(arr32 l)[n.toNat]?=some (.int .i64 (regOf l n)):=by
 have:n.toNat<32:=by omega
 rw [arr32_eq]; simp [this,regOf]
theorem arr32_set (l:List Int) (hl:l.length=32) {n:Nat} (hn:n<32) (v:Int):(arr32 l).setIfInBounds n (.int .i64 v)=arr32 (l.set n v):=by
 rw [arr32_eq,arr32_eq,List.setIfInBounds_toArray]
 congr 1
 refine List.ext_getElem? fun k=>?_
 rw [List.getElem?_set]
 by_cases hk:k<32
 ·by_cases e:n=k
  ·subst e; simp [hn,hl,List.getD]
  ·simp [e,hk,List.getD,List.getElem?_set_ne e]
 ·by_cases e:n=k
  ·omega
  ·simp [e,hk]

structure PS where
 regs:List Int
 mem:List Int
 at_:Int
 inp:List Int
 out:List Int
 f:La
 r:La
 k:La
 a:La
structure PA where
 Ac:Option Addr
 cc:Nat
 gm:Nat
 Ai:Option Addr
 ci:Nat
 Ao:Option Addr
 co:Nat
 Aw:Option Addr
 cw:Nat
def PA.fp (q:PA) (g:Nat):List Nat:=g :: (obl q.Aw ++ obl q.Ao)
def pL (q:PA) (nc:Nat) (s:PS):List Value:=machL q.Ac nc q.cc q.gm s.regs s.at_ q.Ai s.inp.length q.ci q.Ao s.out.length q.co ++ (s.f.vals ++ (s.r.vals ++ (s.k.vals ++ s.a.vals)))

structure PipR (m:AM) (B g:Nat) (code:List Ins) (s:PS) (q:PA):Prop where
 hg:m g=some (.cells (pL q code.length s).toArray 60)
 hB:B≤g
 hr:s.regs.length=32
 hc:Reads m 5 q.Ac code.length (insCells code)
 hm:m q.gm=some (.cells #[.slice q.Aw s.mem.length q.cw] 75)
 hw:Own m B 3 1 q.Aw s.mem.length q.cw (intCells .i64 s.mem)
 hi:Reads m 1 q.Ai s.inp.length (intCells .i64 s.inp)
 hic:s.inp.length≤q.ci
 ho:Own m B 3 1 q.Ao s.out.length q.co (intCells .i64 s.out)
 dwo:∀ k∈obl q.Aw,k∉obl q.Ao
 dc:0<code.length→∀ k∈obl q.Ac,k∉q.fp g
 di:0<s.inp.length→∀ k∈obl q.Ai,k∉q.fp g
 dm:q.gm∉q.fp g
 ti:0<s.inp.length→∀ k∈obl q.Ai,∃ c,m k=some (.cells c 3)

theorem PipR.le {m m':AM} {B g:Nat} {code:List Ins} {s:PS} {q:PA} (h:PipR m B g code s q) (hl:m.le m'):PipR m' B g code s q :=
 ⟨hl _ _ h.hg,h.hB,h.hr,h.hc.le hl,hl _ _ h.hm,h.hw.le hl,h.hi.le hl,h.hic,h.ho.le hl,h.dwo,h.dc,h.di,h.dm,fun h0 k hk=>(h.ti h0 k hk).imp fun _ e=>hl _ _ e⟩
theorem PipR.gfp {m:AM} {B g:Nat} {code:List Ins} {s:PS} {q:PA} (h:PipR m B g code s q):g∈q.fp g:=by simp [PA.fp]

theorem PipR.put {m:AM} {B g:Nat} {code:List Ins} {s:PS} {q:PA} (h:PipR m B g code s q) (s':PS) (hr:s'.regs.length=32) (hm:s'.mem=s.mem) (hi:s'.inp=s.inp) (ho:s'.out=s.out) :
  PipR (m.upd g (.cells (pL q code.length s').toArray 60)) B g code s' q∧Fr m (m.upd g (.cells (pL q code.length s').toArray 60)) [g]:=by
 have hfr:Fr m (m.upd g (.cells (pL q code.length s').toArray 60)) [g]:=Fr.upd (Fr.refl _ _) (.inl (by simp)) _
 have hgf:=h.gfp
 refine ⟨⟨upd_get_same,h.hB,hr,Reads_fr h.hc hfr fun h0 k hk hin=>h.dc h0 k hk (by simp at hin; rw [hin]; exact hgf),?_,?_,?_,by rw [hi]; exact h.hic,?_,h.dwo,h.dc,by rw [hi]; exact h.di,h.dm,?_⟩,hfr⟩
 ·rw [hm]; exact hfr _ _ h.hm (by intro hin; simp at hin; exact h.dm (by rw [hin]; exact hgf))
 ·rw [hm]; exact h.hw.upd (h.hw.ne_type h.hg (by decide))
 ·rw [hi]; exact Reads_fr h.hi hfr fun h0 k hk hin=>h.di h0 k hk (by simp at hin; rw [hin]; exact hgf)
 ·rw [ho]; exact h.ho.upd (h.ho.ne_type h.hg (by decide))
 ·rw [hi]; exact fun h0 k hk=>(h.ti h0 k hk).imp fun _ e=>hfr _ _ e fun hin=>h.di h0 k hk (by simp at hin; rw [hin]; exact hgf)

theorem pL_lo {q:PA} {nc:Nat} {s:PS} (hr:s.regs.length=32) {j:Nat} (hj:j<37):(pL q nc s)[j]?=(machL q.Ac nc q.cc q.gm s.regs s.at_ q.Ai s.inp.length q.ci q.Ao s.out.length q.co)[j]?:=by
 unfold pL; rw [List.getElem?_append_left (by rw [machL_len hr]; exact hj)]
theorem pL_hi {q:PA} {nc:Nat} {s:PS} (hr:s.regs.length=32) (j:Nat):(pL q nc s)[37+j]?=(s.f.vals ++ (s.r.vals ++ (s.k.vals ++ s.a.vals)))[j]?:=by
 unfold pL; rw [List.getElem?_append_right (by rw [machL_len hr]; omega),machL_len hr,Nat.add_sub_cancel_left]
theorem PipR.hi' {m:AM} {B g:Nat} {code:List Ins} {s:PS} {q:PA} (h:PipR m B g code s q) (j:Nat):m.cell ⟨g,37+j,none⟩=(s.f.vals ++ (s.r.vals ++ (s.k.vals ++ s.a.vals)))[j]?:=by
 rw [cell_of h.hg,List.getElem?_toArray,pL_hi h.hr]
theorem PipR.reg' {m:AM} {B g:Nat} {code:List Ins} {s:PS} {q:PA} (h:PipR m B g code s q) (k:Nat) (hk:k<32):m.cell ⟨g,2+k,none⟩=some (.int .i64 (s.regs.getD k 0)):=by
 rw [cell_of h.hg,List.getElem?_toArray,pL_lo h.hr (by omega)]
 refine machL_reg ?_
 have:k<s.regs.length:=by rw [h.hr]; exact hk
 simp [List.getD,this]
theorem PipR.cells {m:AM} {B g:Nat} {code:List Ins} {s:PS} {q:PA} (h:PipR m B g code s q) :
  m.cell ⟨g,0,none⟩=some (.slice q.Ac code.length q.cc)∧m.cell ⟨g,1,none⟩=some (.pointer (some ⟨q.gm,0,none⟩))∧m.cell ⟨g,34,none⟩=some (.int .i64 s.at_)∧m.cell ⟨g,35,none⟩=some (.slice q.Ai s.inp.length q.ci)∧m.cell ⟨g,36,none⟩=some (.slice q.Ao s.out.length q.co):=by
 refine ⟨?_,?_,?_,?_,?_⟩ <;> rw [cell_of h.hg,List.getElem?_toArray,pL_lo h.hr (by omega)]
 ·rfl
 ·rfl
 ·exact machL_34 h.hr
 ·exact machL_35 h.hr
 ·exact machL_36 h.hr
theorem pL_size {q:PA} {nc:Nat} {s:PS} (hr:s.regs.length=32):(pL q nc s).toArray.size=85:=by
 unfold pL; rw [List.size_toArray,List.length_append,machL_len hr]; rfl
theorem pL_set {q:PA} {nc:Nat} {s s':PS} (hr:s.regs.length=32) {j:Nat} (hj:j<37) {v:Value} (hf:s'.f=s.f) (h2:s'.r=s.r) (hk:s'.k=s.k) (ha:s'.a=s.a)
  (h:(machL q.Ac nc q.cc q.gm s.regs s.at_ q.Ai s.inp.length q.ci q.Ao s.out.length q.co).set j v=machL q.Ac nc q.cc q.gm s'.regs s'.at_ q.Ai s'.inp.length q.ci q.Ao s'.out.length q.co):(pL q nc s).toArray.setIfInBounds j v=(pL q nc s').toArray:=by
 rw [List.setIfInBounds_toArray]; unfold pL
 rw [List.set_append_left _ _ (by rw [machL_len hr]; exact hj),h,hf,h2,hk,ha]
theorem splice_mid {P old new Q:List Value} (h:old.length=new.length):splice (P ++ (old ++ Q)).toArray P.length new=(P ++ (new ++ Q)).toArray:=by
 unfold splice
 congr 1
 rw [List.take_left,← h,show P.length+old.length=(P ++ old).length by simp,← List.append_assoc P old Q,List.drop_left,List.append_assoc]

structure PQ (m0:AM) (B g:Nat) (code:List Ins) (q0 q:PA) (m:AM) (s:PS):Prop where
 R:PipR m B g code s q
 fr:Fr m0 m (q0.fp g)
 kn:∀ k∈q.fp g,k∈q0.fp g∨m0 k=none
 gme:q.gm=q0.gm
 kc:0<code.length→∀ k∈obl q.Ac,m0 k≠none
theorem gfp {q:PA} {g:Nat}:g∈q.fp g:=by simp [PA.fp]
theorem PQ.of {m0:AM} {B g:Nat} {code:List Ins} {q:PA} {s:PS} (h:PipR m0 B g code s q):PQ m0 B g code q q m0 s:=⟨h,Fr.refl _ _,fun _ h=>.inl h,rfl,fun h0 k hk=>Reads_known h.hc h0 (by decide) k hk⟩
theorem PQ.le {m0 m m':AM} {B g:Nat} {code:List Ins} {s:PS} {q0 q:PA} (h:PQ m0 B g code q0 q m s) (hl:m.le m'):PQ m0 B g code q0 q m' s:=⟨h.R.le hl,h.fr.trans (Fr.of_le hl _) fun _ h=>.inl h,h.kn,h.gme,h.kc⟩
theorem PQ.trans {m0 m m':AM} {B g:Nat} {code:List Ins} {s s':PS} {q0 q q':PA} (h:PQ m0 B g code q0 q m s) (h':PQ m B g code q q' m' s') (hc:q'.Ac=q.Ac):PQ m0 B g code q0 q' m' s':=by
 refine ⟨h'.R,h.fr.trans h'.fr h.kn,fun k hk=>?_,h'.gme.trans h.gme,by rw [hc]; exact h.kc⟩
 rcases h'.kn k hk with h1 | h1
 ·exact h.kn k h1
 ·by_cases hin:k∈q0.fp g
  ·exact .inl hin
  ·cases hm:m0 k with
   | none=>exact .inr rfl
   | some o=>rw [h.fr k o hm hin] at h1; cases h1
def PPost (B:Nat) (m:AM) (g:Nat) (q:PA) (code:List Ins) (s:PS) (m':AM):Prop:=∃ q',q'.Ac=q.Ac∧PQ m B g code q q' m' s
theorem PQ.post {m0 m:AM} {B g:Nat} {code:List Ins} {s:PS} {q0 q:PA} (h:PQ m0 B g code q0 q m s) (hc:q.Ac=q0.Ac):PPost B m0 g q0 code s m:=⟨q,hc,h⟩
theorem PQ.upd {m0 m m':AM} {B g:Nat} {code:List Ins} {s s':PS} {q0 q:PA} (h:PQ m0 B g code q0 q m s) (hR:PipR m' B g code s' q) (hf:Fr m m' [g]):PQ m0 B g code q0 q m' s' :=
 ⟨hR,h.fr.trans hf fun k hk=>.inl (by simp at hk; rw [hk]; exact gfp),h.kn,h.gme,h.kc⟩
theorem PQ.foreign {m0 m:AM} {B g:Nat} {code:List Ins} {s:PS} {q0 q:PA} (h:PQ m0 B g code q0 q m s) {b:Nat} {c:Array Value} {t:TypeId} (hb:m b=some (.cells c t)) (h0:m0 b=none) (t1:t≠60) (t2:t≠75) (t3:t≠3) (o:Obj) :
  PQ m0 B g code q0 q (m.upd b o) s∧Fr m (m.upd b o) [b]:=by
 have hfr:Fr m (m.upd b o) [b]:=Fr.upd (Fr.refl _ _) (.inl (by simp)) _
 have hne:∀ {k:Nat} {c':Array Value} {t':TypeId},m k=some (.cells c' t')→t≠t'→k∉[b]:=fun {k c' t'} hk ht hin=>by
  simp at hin; subst hin; rw [hb] at hk; injection hk with hk; injection hk with _ h2; exact ht h2
 have hAc:0<code.length→∀ k∈obl q.Ac,k∉[b]:=fun h1 k hk hin=>by simp at hin; subst hin; exact h.kc h1 _ hk h0
 have hAi:0<s.inp.length→∀ k∈obl q.Ai,k∉[b]:=fun h1 k hk=>by
  obtain ⟨c',h'⟩:=h.R.ti h1 k hk
  exact hne h' t3
 have hOb:∀ {A:Option Addr} {n cp:Nat} {xs:List Value},Own m B 3 1 A n cp xs→∀ k∈obl A,k∉[b]:=fun ho k hk=>by
  obtain ⟨_,c',h'⟩:=ho.obl_some hk
  exact hne h' t3
 refine ⟨⟨⟨hfr _ _ h.R.hg (hne h.R.hg t1),h.R.hB,h.R.hr,Reads_fr h.R.hc hfr hAc,hfr _ _ h.R.hm (hne h.R.hm t2),h.R.hw.fr hfr (hOb h.R.hw),Reads_fr h.R.hi hfr hAi,h.R.hic,h.R.ho.fr hfr (hOb h.R.ho),h.R.dwo,h.R.dc,h.R.di,h.R.dm,fun h1 k hk=>(h.R.ti h1 k hk).imp fun _ e=>hfr _ _ e (hAi h1 k hk)⟩,?_,h.kn,h.gme,h.kc⟩,hfr⟩
 exact h.fr.trans hfr fun k hk=>.inr (by simp at hk; rw [hk]; exact h0)
theorem PQ.loc {m0 m:AM} {B g:Nat} {code:List Ins} {s:PS} {q0 q:PA} (h:PQ m0 B g code q0 q m s) {b k:Nat} {l:La} (l':La) (hp:m b=some (.cells l.vals.toArray 58)) (hB:B≤b) (h0:m0 b=none) {v:Value} (he:l.vals.set k v=l'.vals) (hk:k<12) {K:AM→Prop}
  (hK:∀ m',PQ m0 B g code q0 q m' s→m' b=some (.cells l'.vals.toArray 58)→Fr m m' [b]→K m'):StC B m ⟨b,k,none⟩ v K:=by
 refine StC_own hp hB (by simpa using hk) ?_
 rw [List.setIfInBounds_toArray,he]
 obtain ⟨h1,h2⟩:=h.foreign hp h0 (by decide) (by decide) (by decide) (.cells l'.vals.toArray 58)
 exact hK _ h1 upd_get_same h2
theorem PQ.putAt {m0 m:AM} {B g:Nat} {code:List Ins} {s:PS} {q0 q:PA} (h:PQ m0 B g code q0 q m s) (v:Int) {K:AM→Prop} (hK:∀ m',PQ m0 B g code q0 q m' { s with at_:=v }→Fr m m' [g]→K m'):StC B m ⟨g,34,none⟩ (.int .i64 v) K:=by
 refine StC_own h.R.hg h.R.hB (by rw [pL_size h.R.hr]; omega) ?_
 rw [pL_set (s':={ s with at_:=v }) h.R.hr (by omega) rfl rfl rfl rfl (machL_setat h.R.hr)]
 obtain ⟨h1,h2⟩:=h.R.put { s with at_:=v } h.R.hr rfl rfl rfl
 exact hK _ (h.upd h1 h2) h2
theorem PQ.putReg {m0 m:AM} {B g:Nat} {code:List Ins} {s:PS} {q0 q:PA} (h:PQ m0 B g code q0 q m s) {n:Int} (hn:0≤n∧n<32) (v:Int) {K:AM→Prop} (hK:∀ m',PQ m0 B g code q0 q m' { s with regs:=s.regs.set n.toNat v }→Fr m m' [g]→K m'):StC B m ((⟨g,2,none⟩:Addr).add (n.toNat*1)) (.int .i64 v) K:=by
 rw [addn,Nat.mul_one]
 refine StC_own h.R.hg h.R.hB (by rw [pL_size h.R.hr]; omega) ?_
 rw [pL_set (s':={ s with regs:=s.regs.set n.toNat v }) h.R.hr (by omega) rfl rfl rfl rfl (machL_setreg h.R.hr (by omega))]
 obtain ⟨h1,h2⟩:=h.R.put { s with regs:=s.regs.set n.toNat v } (by simp [h.R.hr]) rfl rfl rfl
 exact hK _ (h.upd h1 h2) h2

theorem PQ.put_f {m0 m:AM} {B g:Nat} {code:List Ins} {s:PS} {q0 q:PA} (h:PQ m0 B g code q0 q m s) (l:La) {K:AM→Prop} (hK:∀ m',PQ m0 B g code q0 q m' { s with f:=l }→Fr m m' [g]→K m') :
  StC B m ⟨g,37,none⟩ (.bool l.full) fun y0=>StC B y0 ⟨g,38,none⟩ (.int .i64 l.i.op) fun y1=>StC B y1 ⟨g,39,none⟩ (.int .i64 l.i.a) fun y2=>StC B y2 ⟨g,40,none⟩ (.int .i64 l.i.b) fun y3=>StC B y3 ⟨g,41,none⟩ (.int .i64 l.i.c) fun y4=>StC B y4 ⟨g,42,none⟩ (.int .i64 l.i.imm) fun y5=>StC B y5 ⟨g,43,none⟩ (.int .i64 l.at_) fun y6=>StC B y6 ⟨g,44,none⟩ (.int .i64 l.reg) fun y7=>StC B y7 ⟨g,45,none⟩ (.int .i64 l.value) fun y8=>StC B y8 ⟨g,46,none⟩ (.int .i64 l.stored) fun y9=>StC B y9 ⟨g,47,none⟩ (.int .i64 l.where_) fun y10=>StC B y10 ⟨g,48,none⟩ (.int .i64 l.trap) fun y11=>K y11:=by
 refine st12 (k:=37) h.R.hg h.R.hB (by rw [pL_size h.R.hr]; omega) ?_
 have e:splice (pL q code.length s).toArray 37 l.vals=(pL q code.length { s with f:=l }).toArray:=by
  have hP:(machL q.Ac code.length q.cc q.gm s.regs s.at_ q.Ai s.inp.length q.ci q.Ao s.out.length q.co ++ ([])).length=37:=by rw [List.length_append,machL_len h.R.hr]; rfl
  have:=splice_mid (P:=machL q.Ac code.length q.cc q.gm s.regs s.at_ q.Ai s.inp.length q.ci q.Ao s.out.length q.co ++ ([])) (old:=s.f.vals) (new:=l.vals) (Q:=s.r.vals ++ (s.k.vals ++ s.a.vals)) rfl
  rw [hP] at this
  unfold pL
  simpa only [List.append_assoc,List.append_nil,List.nil_append] using this
 rw [show splice (pL q code.length s).toArray 37 [.bool l.full,.int .i64 l.i.op,.int .i64 l.i.a,.int .i64 l.i.b,.int .i64 l.i.c,.int .i64 l.i.imm,.int .i64 l.at_,.int .i64 l.reg,.int .i64 l.value,.int .i64 l.stored,.int .i64 l.where_,.int .i64 l.trap]=(pL q code.length { s with f:=l }).toArray from e]
 obtain ⟨h1,h2⟩:=h.R.put { s with f:=l } h.R.hr rfl rfl rfl
 exact hK _ (h.upd h1 h2) h2

theorem PQ.put_r {m0 m:AM} {B g:Nat} {code:List Ins} {s:PS} {q0 q:PA} (h:PQ m0 B g code q0 q m s) (l:La) {K:AM→Prop} (hK:∀ m',PQ m0 B g code q0 q m' { s with r:=l }→Fr m m' [g]→K m') :
  StC B m ⟨g,49,none⟩ (.bool l.full) fun y0=>StC B y0 ⟨g,50,none⟩ (.int .i64 l.i.op) fun y1=>StC B y1 ⟨g,51,none⟩ (.int .i64 l.i.a) fun y2=>StC B y2 ⟨g,52,none⟩ (.int .i64 l.i.b) fun y3=>StC B y3 ⟨g,53,none⟩ (.int .i64 l.i.c) fun y4=>StC B y4 ⟨g,54,none⟩ (.int .i64 l.i.imm) fun y5=>StC B y5 ⟨g,55,none⟩ (.int .i64 l.at_) fun y6=>StC B y6 ⟨g,56,none⟩ (.int .i64 l.reg) fun y7=>StC B y7 ⟨g,57,none⟩ (.int .i64 l.value) fun y8=>StC B y8 ⟨g,58,none⟩ (.int .i64 l.stored) fun y9=>StC B y9 ⟨g,59,none⟩ (.int .i64 l.where_) fun y10=>StC B y10 ⟨g,60,none⟩ (.int .i64 l.trap) fun y11=>K y11:=by
 refine st12 (k:=49) h.R.hg h.R.hB (by rw [pL_size h.R.hr]; omega) ?_
 have e:splice (pL q code.length s).toArray 49 l.vals=(pL q code.length { s with r:=l }).toArray:=by
  have hP:(machL q.Ac code.length q.cc q.gm s.regs s.at_ q.Ai s.inp.length q.ci q.Ao s.out.length q.co ++ (s.f.vals)).length=49:=by rw [List.length_append,machL_len h.R.hr]; rfl
  have:=splice_mid (P:=machL q.Ac code.length q.cc q.gm s.regs s.at_ q.Ai s.inp.length q.ci q.Ao s.out.length q.co ++ (s.f.vals)) (old:=s.r.vals) (new:=l.vals) (Q:=s.k.vals ++ s.a.vals) rfl
  rw [hP] at this
  unfold pL
  simpa only [List.append_assoc,List.append_nil,List.nil_append] using this
 rw [show splice (pL q code.length s).toArray 49 [.bool l.full,.int .i64 l.i.op,.int .i64 l.i.a,.int .i64 l.i.b,.int .i64 l.i.c,.int .i64 l.i.imm,.int .i64 l.at_,.int .i64 l.reg,.int .i64 l.value,.int .i64 l.stored,.int .i64 l.where_,.int .i64 l.trap]=(pL q code.length { s with r:=l }).toArray from e]
 obtain ⟨h1,h2⟩:=h.R.put { s with r:=l } h.R.hr rfl rfl rfl
 exact hK _ (h.upd h1 h2) h2

theorem PQ.put_k {m0 m:AM} {B g:Nat} {code:List Ins} {s:PS} {q0 q:PA} (h:PQ m0 B g code q0 q m s) (l:La) {K:AM→Prop} (hK:∀ m',PQ m0 B g code q0 q m' { s with k:=l }→Fr m m' [g]→K m') :
  StC B m ⟨g,61,none⟩ (.bool l.full) fun y0=>StC B y0 ⟨g,62,none⟩ (.int .i64 l.i.op) fun y1=>StC B y1 ⟨g,63,none⟩ (.int .i64 l.i.a) fun y2=>StC B y2 ⟨g,64,none⟩ (.int .i64 l.i.b) fun y3=>StC B y3 ⟨g,65,none⟩ (.int .i64 l.i.c) fun y4=>StC B y4 ⟨g,66,none⟩ (.int .i64 l.i.imm) fun y5=>StC B y5 ⟨g,67,none⟩ (.int .i64 l.at_) fun y6=>StC B y6 ⟨g,68,none⟩ (.int .i64 l.reg) fun y7=>StC B y7 ⟨g,69,none⟩ (.int .i64 l.value) fun y8=>StC B y8 ⟨g,70,none⟩ (.int .i64 l.stored) fun y9=>StC B y9 ⟨g,71,none⟩ (.int .i64 l.where_) fun y10=>StC B y10 ⟨g,72,none⟩ (.int .i64 l.trap) fun y11=>K y11:=by
 refine st12 (k:=61) h.R.hg h.R.hB (by rw [pL_size h.R.hr]; omega) ?_
 have e:splice (pL q code.length s).toArray 61 l.vals=(pL q code.length { s with k:=l }).toArray:=by
  have hP:(machL q.Ac code.length q.cc q.gm s.regs s.at_ q.Ai s.inp.length q.ci q.Ao s.out.length q.co ++ (s.f.vals ++ s.r.vals)).length=61:=by rw [List.length_append,machL_len h.R.hr]; rfl
  have:=splice_mid (P:=machL q.Ac code.length q.cc q.gm s.regs s.at_ q.Ai s.inp.length q.ci q.Ao s.out.length q.co ++ (s.f.vals ++ s.r.vals)) (old:=s.k.vals) (new:=l.vals) (Q:=s.a.vals) rfl
  rw [hP] at this
  unfold pL
  simpa only [List.append_assoc,List.append_nil,List.nil_append] using this
 rw [show splice (pL q code.length s).toArray 61 [.bool l.full,.int .i64 l.i.op,.int .i64 l.i.a,.int .i64 l.i.b,.int .i64 l.i.c,.int .i64 l.i.imm,.int .i64 l.at_,.int .i64 l.reg,.int .i64 l.value,.int .i64 l.stored,.int .i64 l.where_,.int .i64 l.trap]=(pL q code.length { s with k:=l }).toArray from e]
 obtain ⟨h1,h2⟩:=h.R.put { s with k:=l } h.R.hr rfl rfl rfl
 exact hK _ (h.upd h1 h2) h2

theorem PQ.put_a {m0 m:AM} {B g:Nat} {code:List Ins} {s:PS} {q0 q:PA} (h:PQ m0 B g code q0 q m s) (l:La) {K:AM→Prop} (hK:∀ m',PQ m0 B g code q0 q m' { s with a:=l }→Fr m m' [g]→K m') :
  StC B m ⟨g,73,none⟩ (.bool l.full) fun y0=>StC B y0 ⟨g,74,none⟩ (.int .i64 l.i.op) fun y1=>StC B y1 ⟨g,75,none⟩ (.int .i64 l.i.a) fun y2=>StC B y2 ⟨g,76,none⟩ (.int .i64 l.i.b) fun y3=>StC B y3 ⟨g,77,none⟩ (.int .i64 l.i.c) fun y4=>StC B y4 ⟨g,78,none⟩ (.int .i64 l.i.imm) fun y5=>StC B y5 ⟨g,79,none⟩ (.int .i64 l.at_) fun y6=>StC B y6 ⟨g,80,none⟩ (.int .i64 l.reg) fun y7=>StC B y7 ⟨g,81,none⟩ (.int .i64 l.value) fun y8=>StC B y8 ⟨g,82,none⟩ (.int .i64 l.stored) fun y9=>StC B y9 ⟨g,83,none⟩ (.int .i64 l.where_) fun y10=>StC B y10 ⟨g,84,none⟩ (.int .i64 l.trap) fun y11=>K y11:=by
 refine st12 (k:=73) h.R.hg h.R.hB (by rw [pL_size h.R.hr]; omega) ?_
 have e:splice (pL q code.length s).toArray 73 l.vals=(pL q code.length { s with a:=l }).toArray:=by
  have hP:(machL q.Ac code.length q.cc q.gm s.regs s.at_ q.Ai s.inp.length q.ci q.Ao s.out.length q.co ++ (s.f.vals ++ s.r.vals ++ s.k.vals)).length=73:=by rw [List.length_append,machL_len h.R.hr]; rfl
  have:=splice_mid (P:=machL q.Ac code.length q.cc q.gm s.regs s.at_ q.Ai s.inp.length q.ci q.Ao s.out.length q.co ++ (s.f.vals ++ s.r.vals ++ s.k.vals)) (old:=s.a.vals) (new:=l.vals) (Q:=[]) rfl
  rw [hP] at this
  unfold pL
  simpa only [List.append_assoc,List.append_nil,List.nil_append] using this
 rw [show splice (pL q code.length s).toArray 73 [.bool l.full,.int .i64 l.i.op,.int .i64 l.i.a,.int .i64 l.i.b,.int .i64 l.i.c,.int .i64 l.i.imm,.int .i64 l.at_,.int .i64 l.reg,.int .i64 l.value,.int .i64 l.stored,.int .i64 l.where_,.int .i64 l.trap]=(pL q code.length { s with a:=l }).toArray from e]
 obtain ⟨h1,h2⟩:=h.R.put { s with a:=l } h.R.hr rfl rfl rfl
 exact hK _ (h.upd h1 h2) h2

theorem PQ.locAll {m0 m:AM} {B g:Nat} {code:List Ins} {s:PS} {q0 q:PA} (h:PQ m0 B g code q0 q m s) {b:Nat} {l:La} (l':La) (hp:m b=some (.cells l.vals.toArray 58)) (hB:B≤b) (h0:m0 b=none) {K:AM→Prop}
  (hK:∀ m',PQ m0 B g code q0 q m' s→m' b=some (.cells l'.vals.toArray 58)→Fr m m' [b]→K m') :
  StC B m ⟨b,0,none⟩ (.bool l'.full) fun y0=>StC B y0 ⟨b,1,none⟩ (.int .i64 l'.i.op) fun y1=>StC B y1 ⟨b,2,none⟩ (.int .i64 l'.i.a) fun y2=>StC B y2 ⟨b,3,none⟩ (.int .i64 l'.i.b) fun y3=>StC B y3 ⟨b,4,none⟩ (.int .i64 l'.i.c) fun y4=>StC B y4 ⟨b,5,none⟩ (.int .i64 l'.i.imm) fun y5=>StC B y5 ⟨b,6,none⟩ (.int .i64 l'.at_) fun y6=>StC B y6 ⟨b,7,none⟩ (.int .i64 l'.reg) fun y7=>StC B y7 ⟨b,8,none⟩ (.int .i64 l'.value) fun y8=>StC B y8 ⟨b,9,none⟩ (.int .i64 l'.stored) fun y9=>StC B y9 ⟨b,10,none⟩ (.int .i64 l'.where_) fun y10=>StC B y10 ⟨b,11,none⟩ (.int .i64 l'.trap) fun y11=>K y11:=by
 refine st12a hp hB (by simp) ?_
 obtain ⟨h1,h2⟩:=h.foreign hp h0 (by decide) (by decide) (by decide) (.cells l'.vals.toArray 58)
 exact hK _ h1 upd_get_same h2
theorem keepB {m m':AM} {b c:Nat} {o:Obj} (hf:Fr m m' [c]) (hp:m b=some o) (hne:b≠c):m' b=some o:=hf _ _ hp (by simpa using hne)
theorem PQ.notin {m0 m:AM} {B g:Nat} {code:List Ins} {s:PS} {q0 q:PA} (h:PQ m0 B g code q0 q m s) {b:Nat} {c:Array Value} (hb:m b=some (.cells c 58)):b∉q.fp g:=by
 intro hin
 simp only [PA.fp,List.mem_cons,List.mem_append] at hin
 rcases hin with rfl | hin | hin
 ·rw [h.R.hg] at hb; injection hb with hb; injection hb with _ h2; exact absurd h2 (by decide)
 ·exact h.R.hw.obl_ne hb (by decide) hin
 ·exact h.R.ho.obl_ne hb (by decide) hin
theorem PQ.neg {m0 m:AM} {B g:Nat} {code:List Ins} {s:PS} {q0 q:PA} (h:PQ m0 B g code q0 q m s) {b:Nat} {c:Array Value} (hb:m b=some (.cells c 58)):b≠g:=fun e=>h.notin hb (by rw [e]; exact gfp)
end Go.Proofs.YtkfemiloehkmhaaGreat.S

set_option linter.unusedSimpArgs false
set_option linter.unusedVariables false
set_option maxRecDepth 100000
namespace Go.Proofs.YtkfemiloehkmhaaGreat.S
open Go Go.RowKit Go.Alog Go.Proofs.YtkfemiloehkmhaaGreat.T Go.Proofs.YtkfemiloehkmhaaGreat.V

def earlyP (n:Int) (l:La) (regs:List Int):Int:=if n≠0∧l.full=true∧l.reg=n∧lateP l.i=false then l.value else regOf regs n

theorem early_spec (w0:World) (m:AM) (n:Int) (hn:0≤n∧n<32) (l:La) (regs:List Int) :
  CallsA Tryz.prog w0 58 #[.int .i64 n,l.val,.agg (arr32 regs)] m (fun r m'=>r=.int .i64 (earlyP n l regs)∧m'=m):=by
 refine cf58 w0 m _ _ _ _ _ _ _ _ _ _ _ _ _ _ _ _ _ _ _ _ _ _ _ _ _ _ _ _ _ _ _ _ _ _ _ _ _ _ _ _ _ _ _ _ _ _ ?_
 intro b1 hb1 hm1 m2
 have l1:m.le m2:=le_new hm1 _
 have p1:m2 b1=some (.cells l.vals.toArray 58):=upd_get_same
 clear_value m2
 intro b3 hb3 hm3 m4
 have l3:m2.le m4:=le_new hm3 _
 have p3:m4 b3=some (.cells (arr32 regs) 51):=upd_get_same
 have q1:=l3 _ _ p1
 clear_value m4
 have L:=AM.le_trans l1 l3
 have reg:∀ m',m4.le m'→∀ v,v=earlyP n l regs→∀ (R:Value→AM→Prop),R=(fun r m'=>r=.int .i64 (earlyP n l regs)∧m'=m)→RetP R (.int .i64 v) m':=by
  intro m' l' v hv R hR
  rw [hR]
  exact ⟨m,AM.le_trans L l',by rw [hv],rfl⟩
 have ld:∀ m',m4.le m'→m'.cell ((⟨b3,0,none⟩:Addr).add (n.toNat*1))=some (.int .i64 (regOf regs n)):=by
  intro m' l'
  rw [addn,Nat.mul_one,Nat.zero_add]
  exact cel (l' _ _ p3) (arr32_get regs hn)
 refine ⟨rfl,bcI (fun h0=>?_) fun h0=>?_⟩
 ·refine ⟨_,cel q1 rfl,bcI (fun hf=>?_) fun hf=>?_⟩
  ·refine ⟨_,cel q1 rfl,rfl,bcI (fun hr=>?_) fun hr=>?_⟩
   ·refine ⟨_,cel q1 rfl,_,cel q1 rfl,_,cel q1 rfl,_,cel q1 rfl,_,cel q1 rfl,?_⟩
    refine CallsA.mono (late_spec w0 m4 l.i) ?_
    rintro r m5 ⟨rfl,l5⟩
    refine ⟨_,rfl,bcI (fun ht=>?_) fun ht=>?_⟩
    ·refine ⟨_,cel (l5 _ _ q1) rfl,reg m5 l5 _ ?_ _ rfl⟩
     simp [h0,hf] at hr ht
     simp at h0
     unfold earlyP
     rw [if_pos]; simp_all
    ·refine ⟨⟨hn.1,hn.2⟩,_,ld m5 l5,reg m5 l5 _ ?_ _ rfl⟩
     simp [h0,hf] at hr ht
     simp at h0
     unfold earlyP
     rw [if_neg]; intro hh; simp_all
   ·refine ⟨hr,⟨hn.1,hn.2⟩,_,ld m4 (AM.le_refl _),reg m4 (AM.le_refl _) _ ?_ _ rfl⟩
    simp [h0,hf] at hr
    simp at h0
    unfold earlyP
    rw [if_neg]; intro hh; simp_all
  ·refine ⟨hf,rfl,⟨hn.1,hn.2⟩,_,ld m4 (AM.le_refl _),reg m4 (AM.le_refl _) _ ?_ _ rfl⟩
   simp [h0] at hf
   unfold earlyP
   rw [if_neg]; intro hh; simp_all
 ·refine ⟨h0,rfl,rfl,⟨hn.1,hn.2⟩,_,ld m4 (AM.le_refl _),reg m4 (AM.le_refl _) _ ?_ _ rfl⟩
  simp at h0
  unfold earlyP
  rw [if_neg]; intro hh; simp_all

theorem with_spec (w0:World) (m:AM) (g:Nat) (code:List Ins) (s:PS) (q:PA) (n v:Int) (hn:0≤n∧n<32) (h:PipR m w0.heap.size g code s q) :
  CallsA Tryz.prog w0 77 #[.pointer (some ⟨g,0,none⟩),.int .i64 n,.int .i64 v] m (fun r m'=>r=.agg (arr32 (s.regs.set n.toNat v))∧m'=m):=by
 refine cf77 w0 m g n v _ ?_
 intro b1 hb1 hm1 m2
 have l1:m.le m2:=le_new hm1 _
 have p1:m2 b1=some (.cells _ _):=upd_get_same
 clear_value m2
 have h2:=h.le l1
 refine ⟨_,h2.reg' 0 (by decide),_,h2.reg' 1 (by decide),_,h2.reg' 2 (by decide),_,h2.reg' 3 (by decide),_,h2.reg' 4 (by decide),_,h2.reg' 5 (by decide),_,h2.reg' 6 (by decide),_,h2.reg' 7 (by decide),_,h2.reg' 8 (by decide),_,h2.reg' 9 (by decide),_,h2.reg' 10 (by decide),_,h2.reg' 11 (by decide),_,h2.reg' 12 (by decide),_,h2.reg' 13 (by decide),_,h2.reg' 14 (by decide),_,h2.reg' 15 (by decide),_,h2.reg' 16 (by decide),_,h2.reg' 17 (by decide),_,h2.reg' 18 (by decide),_,h2.reg' 19 (by decide),_,h2.reg' 20 (by decide),_,h2.reg' 21 (by decide),_,h2.reg' 22 (by decide),_,h2.reg' 23 (by decide),_,h2.reg' 24 (by decide),_,h2.reg' 25 (by decide),_,h2.reg' 26 (by decide),_,h2.reg' 27 (by decide),_,h2.reg' 28 (by decide),_,h2.reg' 29 (by decide),_,h2.reg' 30 (by decide),_,h2.reg' 31 (by decide),?_⟩
 intro b35 hb35 hm35 m36
 have l3:m2.le m36:=le_new hm35 _
 have p35:m36 b35=some (.cells _ _):=upd_get_same
 have q1:=l3 _ _ p1
 clear_value m36
 have ne:b1≠b35:=fun e=>by subst e; rw [p1] at hm35; cases hm35
 refine st32a p35 hb35 (by simp) ?_
 have l4:m2.le (m36.upd b35 (.cells (arr32 s.regs) 51)):=fun x o hx=>by
  have:x≠b35:=fun e=>by subst e; rw [hm35] at hx; cases hx
  rw [upd_get_ne this]; exact l3 _ _ hx
 refine (show (fun m68=>(0≤n∧n<32)∧StC w0.heap.size m68 ((⟨b35,0,none⟩:Addr).add (n.toNat*1)) (.int .i64 v) _) (m36.upd b35 (.cells (arr32 s.regs) 51)) from ?_)
 refine ⟨hn,?_⟩
 rw [addn,Nat.mul_one,Nat.zero_add]
 refine StC_own upd_get_same hb35 (by simp; omega) ?_
 rw [arr32_set _ h.hr (by omega)]
 generalize hM:(m36.upd b35 (.cells (arr32 s.regs) 51)).upd b35 (.cells (arr32 (s.regs.set n.toNat v)) 51)=M
 have pM:M b35=some (.cells (arr32 (s.regs.set n.toNat v)) 51):=by rw [← hM]; exact upd_get_same
 have pM1:M b1=m36 b1:=by rw [← hM,upd_get_ne ne,upd_get_ne ne]
 rw [q1] at pM1
 have lM:m.le M:=fun x o hx=>by
  have:x≠b35:=fun e=>by subst e; rw [l1 _ _ hx] at hm35; cases hm35
  rw [← hM,upd_get_ne this,upd_get_ne this]; exact l3 _ _ (l1 _ _ hx)
 refine ⟨_,cel pM rfl,_,cel pM rfl,_,cel pM rfl,_,cel pM rfl,_,cel pM rfl,_,cel pM rfl,_,cel pM rfl,_,cel pM rfl,_,cel pM rfl,_,cel pM rfl,_,cel pM rfl,_,cel pM rfl,_,cel pM rfl,_,cel pM rfl,_,cel pM rfl,_,cel pM rfl,_,cel pM rfl,_,cel pM rfl,_,cel pM rfl,_,cel pM rfl,_,cel pM rfl,_,cel pM rfl,_,cel pM rfl,_,cel pM rfl,_,cel pM rfl,_,cel pM rfl,_,cel pM rfl,_,cel pM rfl,_,cel pM rfl,_,cel pM rfl,_,cel pM rfl,_,cel pM rfl,?_⟩
 refine st32a pM1 hb1 (by simp) ?_
 have pF:(M.upd b1 (.cells (arr32 (s.regs.set n.toNat v)) 51)) b1=some (.cells (arr32 (s.regs.set n.toNat v)) 51):=upd_get_same
 have lF:m.le (M.upd b1 (.cells (arr32 (s.regs.set n.toNat v)) 51)):=fun x o hx=>by
  have:x≠b1:=fun e=>by subst e; rw [hx] at hm1; cases hm1
  rw [upd_get_ne this]; exact lM _ _ hx
 generalize M.upd b1 (.cells (arr32 (s.regs.set n.toNat v)) 51)=MF at pF lF ⊢
 refine ⟨_,cel pF rfl,_,cel pF rfl,_,cel pF rfl,_,cel pF rfl,_,cel pF rfl,_,cel pF rfl,_,cel pF rfl,_,cel pF rfl,_,cel pF rfl,_,cel pF rfl,_,cel pF rfl,_,cel pF rfl,_,cel pF rfl,_,cel pF rfl,_,cel pF rfl,_,cel pF rfl,_,cel pF rfl,_,cel pF rfl,_,cel pF rfl,_,cel pF rfl,_,cel pF rfl,_,cel pF rfl,_,cel pF rfl,_,cel pF rfl,_,cel pF rfl,_,cel pF rfl,_,cel pF rfl,_,cel pF rfl,_,cel pF rfl,_,cel pF rfl,_,cel pF rfl,_,cel pF rfl,?_⟩
 exact ⟨m,lF,rfl,rfl⟩

def nowP (s:PS) (n:Int):Int:=if n≠0∧s.a.full=true∧s.a.reg=n then earlyP n s.k (s.regs.set n.toNat s.a.value) else earlyP n s.k s.regs
theorem now_spec (w0:World) (m:AM) (g:Nat) (code:List Ins) (s:PS) (q:PA) (n:Int) (hn:0≤n∧n<32) (h:PipR m w0.heap.size g code s q) :
  CallsA Tryz.prog w0 60 #[.pointer (some ⟨g,0,none⟩),.int .i64 n] m (fun r m'=>r=.int .i64 (nowP s n)∧m'=m):=by
 generalize hR:(fun (r:Value) (m':AM)=>r=.int .i64 (nowP s n)∧m'=m)=R
 refine cf60 w0 m g n _ ?_
 have low:∀ (m':AM) (σ:Sg),m'=m→σ 0=.pointer (some ⟨g,0,none⟩)→σ 1=.int .i64 n→¬ (n≠0∧s.a.full=true∧s.a.reg=n)→(∀ m,m=m'→(vcS Tryz.prog w0 qs60 (sub c60 [1,1]) σ m (retQ Tryz.prog Tryz.f60 R))):=by
  intro m' σ hm h0 h1 hno m hm2
  subst hm2
  subst hm
  refine vk60_11 w0 m σ R g n h0 h1 ?_
  refine ⟨_,h.hi' 24,_,h.hi' 25,_,h.hi' 26,_,h.hi' 27,_,h.hi' 28,_,h.hi' 29,_,h.hi' 30,_,h.hi' 31,_,h.hi' 32,_,h.hi' 33,_,h.hi' 34,_,h.hi' 35,_,h.reg' 0 (by decide),_,h.reg' 1 (by decide),_,h.reg' 2 (by decide),_,h.reg' 3 (by decide),_,h.reg' 4 (by decide),_,h.reg' 5 (by decide),_,h.reg' 6 (by decide),_,h.reg' 7 (by decide),_,h.reg' 8 (by decide),_,h.reg' 9 (by decide),_,h.reg' 10 (by decide),_,h.reg' 11 (by decide),_,h.reg' 12 (by decide),_,h.reg' 13 (by decide),_,h.reg' 14 (by decide),_,h.reg' 15 (by decide),_,h.reg' 16 (by decide),_,h.reg' 17 (by decide),_,h.reg' 18 (by decide),_,h.reg' 19 (by decide),_,h.reg' 20 (by decide),_,h.reg' 21 (by decide),_,h.reg' 22 (by decide),_,h.reg' 23 (by decide),_,h.reg' 24 (by decide),_,h.reg' 25 (by decide),_,h.reg' 26 (by decide),_,h.reg' 27 (by decide),_,h.reg' 28 (by decide),_,h.reg' 29 (by decide),_,h.reg' 30 (by decide),_,h.reg' 31 (by decide),?_⟩
  refine CallsA.mono (early_spec w0 m n hn s.k s.regs) ?_
  rintro r m2 ⟨rfl,h2⟩
  refine ⟨_,rfl,retP_of ?_⟩
  rw [← hR]
  refine ⟨?_,h2⟩
  unfold nowP
  rw [if_neg hno]
 refine ⟨rfl,bcI (fun c0=>?_) fun c0=>?_⟩
 ·refine ⟨_,h.hi' 36,bcI (fun cf=>?_) fun cf=>?_⟩
  ·refine ⟨_,h.hi' 43,rfl,bcI (fun cr=>?_) fun cr=>?_⟩
   ·refine ⟨_,h.hi' 24,_,h.hi' 25,_,h.hi' 26,_,h.hi' 27,_,h.hi' 28,_,h.hi' 29,_,h.hi' 30,_,h.hi' 31,_,h.hi' 32,_,h.hi' 33,_,h.hi' 34,_,h.hi' 35,_,h.hi' 44,?_⟩
    refine ⟨(s.regs.set n.toNat s.a.value).getD 0 0,(s.regs.set n.toNat s.a.value).getD 1 0,(s.regs.set n.toNat s.a.value).getD 2 0,(s.regs.set n.toNat s.a.value).getD 3 0,(s.regs.set n.toNat s.a.value).getD 4 0,(s.regs.set n.toNat s.a.value).getD 5 0,(s.regs.set n.toNat s.a.value).getD 6 0,(s.regs.set n.toNat s.a.value).getD 7 0,(s.regs.set n.toNat s.a.value).getD 8 0,(s.regs.set n.toNat s.a.value).getD 9 0,(s.regs.set n.toNat s.a.value).getD 10 0,(s.regs.set n.toNat s.a.value).getD 11 0,(s.regs.set n.toNat s.a.value).getD 12 0,(s.regs.set n.toNat s.a.value).getD 13 0,(s.regs.set n.toNat s.a.value).getD 14 0,(s.regs.set n.toNat s.a.value).getD 15 0,(s.regs.set n.toNat s.a.value).getD 16 0,(s.regs.set n.toNat s.a.value).getD 17 0,(s.regs.set n.toNat s.a.value).getD 18 0,(s.regs.set n.toNat s.a.value).getD 19 0,(s.regs.set n.toNat s.a.value).getD 20 0,(s.regs.set n.toNat s.a.value).getD 21 0,(s.regs.set n.toNat s.a.value).getD 22 0,(s.regs.set n.toNat s.a.value).getD 23 0,(s.regs.set n.toNat s.a.value).getD 24 0,(s.regs.set n.toNat s.a.value).getD 25 0,(s.regs.set n.toNat s.a.value).getD 26 0,(s.regs.set n.toNat s.a.value).getD 27 0,(s.regs.set n.toNat s.a.value).getD 28 0,(s.regs.set n.toNat s.a.value).getD 29 0,(s.regs.set n.toNat s.a.value).getD 30 0,(s.regs.set n.toNat s.a.value).getD 31 0,CallsA.mono (with_spec w0 m g code s q n s.a.value hn h) ?_,?_⟩
    ·rintro r m2 ⟨rfl,h2⟩
     exact ⟨rfl,h2⟩
    refine CallsA.mono (early_spec w0 m n hn s.k (s.regs.set n.toNat s.a.value)) ?_
    rintro r m2 ⟨rfl,h2⟩
    refine ⟨_,rfl,retP_of ?_⟩
    rw [← hR]
    refine ⟨?_,h2⟩
    unfold nowP
    rw [if_pos]
    simp at c0
    simp_all
   ·refine low _ _ rfl rfl rfl ?_ _ rfl
    simp at c0
    simp_all
  ·refine ⟨cf,?_⟩
   refine low _ _ rfl rfl rfl ?_ _ rfl
   simp at c0
   simp_all
 ·refine ⟨c0,rfl,?_⟩
  refine low _ _ rfl rfl rfl ?_ _ rfl
  simp at c0
  simp_all
end Go.Proofs.YtkfemiloehkmhaaGreat.S

set_option linter.unusedSimpArgs false
set_option linter.unusedVariables false
set_option maxRecDepth 100000
namespace Go.Proofs.YtkfemiloehkmhaaGreat.S
open Go Go.RowKit Go.Alog Go.Proofs.YtkfemiloehkmhaaGreat.T Go.Proofs.YtkfemiloehkmhaaGreat.V

theorem PQ.setMem {m0 m:AM} {B g:Nat} {code:List Ins} {s:PS} {q0 q:PA} (hQ:PQ m0 B g code q0 q m s) {ad:Addr} (hA:q.Aw=some ad) {k:Nat} (hk:k<s.mem.length) (v:Int) {K:AM→Prop}
  (hK:∀ m',PQ m0 B g code q0 q m' { s with mem:=s.mem.set k v }→Fr m m' (q.fp g)→K m'):StC B m (ad.add (k*1)) (.int .i64 v) K:=by
 have h:=hQ.R
 have hw:=h.hw
 rw [intCells_flat,hA] at hw
 refine Own.storeRow (f:=fun x=>[Value.int .i64 x]) (sz:=1) (fun _=>rfl) hw hk v (K:=K) (fun gA cur hA' ho=>?_)
 subst hA'
 have hw':=h.hw
 have hgin:gA∈q.fp g:=by simp [PA.fp,hA,obl]
 have hgne:g≠gA:=fun e=>by subst e; exact h.hw.ne_type h.hg (by decide) 0 hA
 have hfr:Fr m (m.upd gA (.cells cur 3)) (q.fp g):=Fr.upd (Fr.refl _ _) (.inl hgin) _
 refine hK _ ⟨⟨by rw [upd_get_ne hgne]; exact h.hg,h.hB,h.hr,Reads_fr h.hc hfr h.dc,?_,?_,Reads_fr h.hi hfr h.di,h.hic,?_,h.dwo,h.dc,h.di,h.dm,fun h0 k hk=>(h.ti h0 k hk).imp fun _ e=>hfr _ _ e (h.di h0 k hk)⟩,hQ.fr.trans hfr hQ.kn,hQ.kn,hQ.gme,hQ.kc⟩ hfr
 ·rw [List.length_set]; exact hfr _ _ h.hm h.dm
 ·rw [intCells_flat,hA]; exact ho
 ·refine h.ho.upd fun off hA'=>?_
  refine h.dwo gA (by simp [obl,hA]) ?_
  rw [hA']; simp [obl]

theorem store_pip (w0:World) (m:AM) (g:Nat) (code:List Ins) (s:PS) (q:PA) (h:PipR m w0.heap.size g code s q) (a v:Int) :
  CallsA Tryz.prog w0 52 #[.pointer (some ⟨q.gm,0,none⟩),.int .i64 a,.int .i64 v] m (fun r m'=>r=.bool (decide (0≤a∧a<s.mem.length))∧PQ m w0.heap.size g code q q m' (if 0≤a∧a<s.mem.length then { s with mem:=s.mem.set a.toNat (w32 v) } else s)):=by
 have hQ:=PQ.of h
 refine cf52 w0 m q.gm a v _ ?_
 refine CallsA.mono (there_spec w0 m q.gm q.Aw _ q.cw h.hm a) ?_
 rintro r m1 ⟨rfl,rfl⟩
 refine ⟨_,rfl,?_⟩
 by_cases hin:0≤a∧a<s.mem.length
 ·simp only [decide_eq_true hin,Bool.not_true,bcase_f,if_pos hin]
  obtain ⟨ad,hA,_⟩:=h.hw.ex (by omega)
  have hlt:a.toNat<s.mem.length:=by omega
  have st:StC w0.heap.size m1 (ad.add (a.toNat*1)) (.int .i64 (w32 v)) (fun m'=>PQ m1 w0.heap.size g code q q m' { s with mem:=s.mem.set a.toNat (w32 v) }):=hQ.setMem hA hlt (w32 v) fun m' h' hf=>h'
  refine vr52_110 w0 m1 _ _ q.gm a v (fun m'=>PQ m1 w0.heap.size g code q q m' { s with mem:=s.mem.set a.toNat (w32 v) }) rfl rfl rfl ?_ ?_
  ·refine ⟨?_,?_⟩
   ·simp only [cell_of h.hm,std_all,sto_all,Nat.reduceAdd,Nat.reduceLT,LI_,LB_,LA_,SI_,pt_,KI_,hA]
    refine CallsA.mono (wrapW w0 m1 v) ?_
    rintro r m2 ⟨rfl,rfl⟩
    exact ⟨_,rfl,hin.1,hin.2,st⟩
   ·refine CallsA.mono (wrapW w0 m1 v) ?_
    rintro r m2 ⟨rfl,rfl⟩
    simp only [cell_of h.hm,std_all,sto_all,Nat.reduceAdd,Nat.reduceLT,LI_,LB_,LA_,SI_,pt_,KI_,hA]
    exact ⟨hin.1,hin.2,st⟩
  ·intro σ m2 hp
   exact retP_of ⟨rfl,hp⟩
 ·simp only [decide_eq_false hin,Bool.not_false,bcase_t,if_neg hin]
  exact retP_of ⟨rfl,hQ⟩

theorem PQ.putIn {m0 m:AM} {B g:Nat} {code:List Ins} {s:PS} {q0 q:PA} (hQ:PQ m0 B g code q0 q m s) {x:Int} {r:List Int} (hin:s.inp=x :: r) {K:AM→Prop}
  (hK:∀ m' q',q'.Ac=q.Ac→PQ m0 B g code q0 q' m' { s with inp:=r }→Fr m m' [g]→K m') :
  StC B m ⟨g,35,none⟩ (.slice (if q.ci=(1:Int).toNat then q.Ai else Option.map (fun x=>Addr.add x ((1:Int).toNat*1)) q.Ai) (s.inp.length-(1:Int).toNat) (q.ci-(1:Int).toNat)) K:=by
 have h:=hQ.R
 have e1:(1:Int).toNat=1:=rfl
 rw [e1]
 refine StC_own h.hg h.hB (by rw [pL_size h.hr]; omega) ?_
 have hl:s.inp.length=r.length+1:=by rw [hin]; rfl
 rw [show s.inp.length-1=r.length by omega]
 have he:(pL q code.length s).toArray.setIfInBounds 35 (.slice (if q.ci=1 then q.Ai else Option.map (fun x=>Addr.add x (1*1)) q.Ai) r.length (q.ci-1))=(pL { q with Ai:=(if q.ci=1 then q.Ai else Option.map (fun x=>Addr.add x (1*1)) q.Ai),ci:=q.ci-1 } code.length { s with inp:=r }).toArray:=by
  rw [List.setIfInBounds_toArray]; unfold pL
  rw [List.set_append_left _ _ (by rw [machL_len h.hr]; omega),machL_setin h.hr]
 rw [he]
 obtain ⟨ai,hai,hc⟩:=h.hi.ex (by omega)
 have hob:obl (if q.ci=1 then q.Ai else Option.map (fun x=>Addr.add x (1*1)) q.Ai)=obl q.Ai:=by
  split
  ·rfl
  ·rw [hai]; simp [obl,add_block]
 generalize hAi':(if q.ci=1 then q.Ai else Option.map (fun x=>Addr.add x (1*1)) q.Ai)=Ai' at hob
 have hfr:Fr m (m.upd g (.cells (pL ({ q with Ai:=Ai',ci:=q.ci-1 }:PA) code.length { s with inp:=r }).toArray 60)) [g]:=Fr.upd (Fr.refl _ _) (.inl (by simp)) _
 have hfp:({ q with Ai:=Ai',ci:=q.ci-1 }:PA).fp g=q.fp g:=by rfl
 have gno:∀ k,k∈[g]→k∈q.fp g:=fun k hk=>by simp at hk; rw [hk]; exact gfp
 have hR:PipR (m.upd g (.cells (pL ({ q with Ai:=Ai',ci:=q.ci-1 }:PA) code.length { s with inp:=r }).toArray 60)) B g code { s with inp:=r } ({ q with Ai:=Ai',ci:=q.ci-1 }:PA):=by
  refine ⟨upd_get_same,h.hB,h.hr,?_,?_,?_,?_,?_,?_,?_,?_,?_,?_,?_⟩
  ·exact Reads_fr h.hc hfr fun h0 k hk hin=>h.dc h0 k hk (gno k hin)
  ·exact hfr _ _ h.hm fun hin=>h.dm (gno _ hin)
  ·exact (h.hw.fr hfr (fun k hk hin=>by
    simp at hin; subst hin; exact h.hw.obl_ne h.hg (by decide) hk))
  ·refine Reads_fr (m:=m) ?_ hfr (fun _=>by
    intro k hk hin2
    exact h.di (by omega) k (by rw [← hob]; exact hk) (gno k hin2))
   refine ⟨by simp [intCells],?_⟩
   by_cases h1:q.ci=1
   ·have:r = []:=List.eq_nil_of_length_eq_zero (by have:=h.hic; omega)
    subst this
    exact .inr ⟨ai,by rw [← hAi',if_pos h1,hai],fun j u hu=>by simp [intCells] at hu⟩
   ·refine .inr ⟨ai.add 1,by rw [← hAi',if_neg h1,hai]; rfl,fun j u hu=>?_⟩
    rw [add_add]
    refine hc (1+j) u ?_
    rw [hin,Nat.add_comm]
    simpa [intCells] using hu
  ·have:=h.hic; show r.length≤q.ci-1; omega
  ·exact (h.ho.fr hfr (fun k hk hin=>by
    simp at hin; subst hin; exact h.ho.obl_ne h.hg (by decide) hk))
  ·exact h.dwo
  ·rw [hfp]; exact h.dc
  ·intro _; rw [hfp,hob]; exact h.di (by omega)
  ·rw [hfp]; exact h.dm
  ·exact fun h0 k hk=>(h.ti (by omega) k (by rw [← hob]; exact hk)).imp fun _ e=>hfr _ _ e fun hin=>h.di (by omega) k (by rw [← hob]; exact hk) (gno k hin)
 refine hK _ ({ q with Ai:=Ai',ci:=q.ci-1 }:PA) (rfl) ⟨hR,hQ.fr.trans hfr fun k hk=>hQ.kn k (gno k hk),by rw [hfp]; exact hQ.kn,by exact hQ.gme,by exact hQ.kc⟩ hfr

theorem PQ.putOut {m0:AM} {g:Nat} {code:List Ins} {s:PS} {q0 q:PA} {w0:World} {m:AM} (hQ:PQ m0 w0.heap.size g code q0 q m s) (v:Int) (hlen:s.out.length<10000) {K:Nat→Option Addr→Nat→Nat→AM→Prop}
  (hK:∀ b A n c m' q',q'.Ac=q.Ac→PQ m0 w0.heap.size g code q0 q' m' { s with out:=s.out ++ [v] }→(∀ b c,m b=some (.cells c 58)→m' b=some (.cells c 58))→K b A n c m') :
  ∀ b:Nat,w0.heap.size≤b→m b=none→let m1:=AM.upd m b (.cells #[.int .i64 v] 3);
   awp Tryz.prog w0.heap.size (Builtin.append_ #[23,23] 23 #[.slice q.Ao s.out.length q.co,.slice (some ⟨b,0,none⟩) 1 1]) m1 fun v106 m107=>∃ (A:Option Addr) (n c:Nat),v106=.slice A n c∧StC w0.heap.size m107 ⟨g,36,none⟩ (.slice A n c) (K b A n c):=by
 intro b hb hmb
 have lb:=le_new hmb (.cells [Value.int .i64 v].toArray 3)
 have hbQ:=hQ.le lb
 have hbM:=hbQ.R
 have h:=hQ.R
 have hrd:Reads (m.upd b (.cells [Value.int .i64 v].toArray 3)) 1 (some ⟨b,0,none⟩) 1 [Value.int .i64 v]:=Reads.lit rfl
 refine awp_append_own el23 hbM.ho hrd (by intro u hu; simp at hu; subst hu; rfl) (by omega) (by omega) (fun g2 cp' cur hor hB2 ho2=>?_) (fun h0=>by omega)
 refine ⟨_,_,_,rfl,?_⟩
 have hgg:g≠g2:=fun e=>by
  subst e
  rcases hor with h' | h'
  ·exact hbM.ho.ne_type hbM.hg (by decide) 0 h'
  ·rw [hbM.hg] at h'; cases h'
 have kn:∀ k,(∀ k'∈obl q.Ao,k≠k')→(m.upd b (.cells [Value.int .i64 v].toArray 3)) k≠none→k≠g2:=fun k h1 h2 e=>by
  subst e
  rcases hor with h' | h'
  ·exact h1 k (by rw [h']; simp [obl]) rfl
  ·exact h2 h'
 have hfr:Fr (m.upd b (.cells [Value.int .i64 v].toArray 3)) ((m.upd b (.cells [Value.int .i64 v].toArray 3)).upd g2 (.cells cur 3)) (obl q.Ao):=by
  refine Fr.upd (Fr.refl _ _) ?_ _
  rcases hor with h' | h'
  ·left; rw [h']; simp [obl]
  ·right; exact h'
 have hAoFp:∀ k∈obl q.Ao,k∈q.fp g:=fun k hk=>by simp [PA.fp,hk]
 refine StC_own (c:=(pL q code.length s).toArray) (t:=60) (by rw [upd_get_ne hgg]; exact hbM.hg) h.hB (by rw [pL_size h.hr]; omega) ?_
 have he:(pL q code.length s).toArray.setIfInBounds 36 (.slice (some ⟨g2,0,none⟩) (s.out.length+1) cp')=(pL { q with Ao:=some ⟨g2,0,none⟩,co:=cp' } code.length { s with out:=s.out ++ [v] }).toArray:=by
  rw [List.setIfInBounds_toArray]; unfold pL
  rw [List.set_append_left _ _ (by rw [machL_len h.hr]; omega),machL_setout h.hr,List.length_append]; rfl
 rw [he]
 generalize hm1:(m.upd b (.cells [Value.int .i64 v].toArray 3)).upd g2 (.cells cur 3)=m1 at hfr ho2
 have hfr2:Fr m1 (m1.upd g (.cells (pL ({ q with Ao:=some ⟨g2,0,none⟩,co:=cp' }:PA) code.length { s with out:=s.out ++ [v] }).toArray 60)) [g]:=Fr.upd (Fr.refl _ _) (.inl (by simp)) _
 have hg1:m1 g=some (.cells (pL q code.length s).toArray 60):=by rw [← hm1,upd_get_ne hgg]; exact hbM.hg
 have gno:∀ k,k∈[g]→k∈q.fp g:=fun k hk=>by simp at hk; rw [hk]; exact gfp
 have hfp':({ q with Ao:=some ⟨g2,0,none⟩,co:=cp' }:PA).fp g=g :: (obl q.Aw ++ [g2]):=by rfl
 have sub:∀ {k},k∈({ q with Ao:=some ⟨g2,0,none⟩,co:=cp' }:PA).fp g→k∈q.fp g∨k=g2:=by
  intro k hk
  rw [hfp'] at hk
  simp only [List.mem_cons,List.mem_append,List.not_mem_nil,or_false] at hk
  rcases hk with rfl | hk | rfl
  ·exact .inl gfp
  ·exact .inl (by simp [PA.fp,hk])
  ·exact .inr rfl
 have hR:PipR (m1.upd g (.cells (pL ({ q with Ao:=some ⟨g2,0,none⟩,co:=cp' }:PA) code.length { s with out:=s.out ++ [v] }).toArray 60)) w0.heap.size g code { s with out:=s.out ++ [v] } ({ q with Ao:=some ⟨g2,0,none⟩,co:=cp' }:PA):=by
  refine ⟨upd_get_same,h.hB,h.hr,?_,?_,?_,?_,?_,?_,?_,?_,?_,?_,?_⟩
  ·exact Reads_fr (Reads_fr hbM.hc hfr fun h0 k hk hin=>h.dc h0 k hk (hAoFp k hin)) hfr2 fun h0 k hk hin=>h.dc h0 k hk (gno k hin)
  ·exact hfr2 _ _ (hfr _ _ hbM.hm fun hin=>h.dm (hAoFp _ hin)) fun hin=>h.dm (gno _ hin)
  ·exact (hbM.hw.fr hfr h.dwo).upd ((hbM.hw.fr hfr h.dwo).ne_type hg1 (by decide))
  ·exact Reads_fr (Reads_fr hbM.hi hfr fun h0 k hk hin=>h.di h0 k hk (hAoFp k hin)) hfr2 fun h0 k hk hin=>h.di h0 k hk (gno k hin)
  ·exact h.hic
  ·have h9:=ho2.upd (ho2.ne_type hg1 (by decide)) (o:=.cells (pL ({ q with Ao:=some ⟨g2,0,none⟩,co:=cp' }:PA) code.length { s with out:=s.out ++ [v] }).toArray 60)
   simpa [intCells] using h9
  ·intro k hk hin
   simp [obl] at hin
   obtain ⟨_,cur',hk'⟩:=hbM.hw.obl_some hk
   exact kn k (fun k' hk2 e=>h.dwo k hk (e ▸ hk2)) (by rw [hk']; simp) hin
  ·intro h0 k hk hin
   have hk:k∈obl q.Ac:=hk
   rcases sub hin with hin | hin
   ·exact h.dc h0 _ hk hin
   ·exact kn k (fun k' hk2 e=>h.dc h0 k hk (hAoFp k (e ▸ hk2))) (Reads_known hbM.hc h0 (by decide) k hk) hin
  ·intro h0 k hk hin
   have hk:k∈obl q.Ai:=hk
   rcases sub hin with hin | hin
   ·exact h.di h0 _ hk hin
   ·exact kn k (fun k' hk2 e=>h.di h0 k hk (hAoFp k (e ▸ hk2))) (Reads_known hbM.hi h0 (by decide) k hk) hin
  ·intro hin
   have e:({ q with Ao:=some ⟨g2,0,none⟩,co:=cp' }:PA).gm=q.gm:=rfl
   rw [e] at hin
   rcases sub hin with hin | hin
   ·exact h.dm hin
   ·exact kn q.gm (fun k' hk2 e=>h.dm (hAoFp q.gm (e ▸ hk2))) (by rw [hbM.hm]; simp) hin
  ·exact fun h0 k hk=>(hbM.ti h0 k hk).imp fun _ e=>hfr2 _ _ (hfr _ _ e fun hin=>h.di h0 k hk (hAoFp k hin)) fun hin=>h.di h0 k hk (gno k hin)
 refine hK _ _ _ _ _ ({ q with Ao:=some ⟨g2,0,none⟩,co:=cp' }:PA) (rfl) ⟨hR,?_,?_,by exact hQ.gme,by exact hQ.kc⟩ ?_
 ·exact (hbQ.fr.trans (hfr.mono hAoFp) hQ.kn).trans (hfr2.mono gno) hQ.kn
 ·intro k hk
  rcases sub hk with h' | h'
  ·exact hQ.kn k h'
  ·subst h'
   rcases hor with h' | h'
   ·exact hQ.kn _ (hAoFp _ (by rw [h']; simp [obl]))
   ·by_cases hin:k∈q0.fp g
    ·exact .inl hin
    ·right
     cases hm0:m0 k with
     | none=>rfl
     | some o=>rw [hbQ.fr k o hm0 hin] at h'; cases h'
 ·intro x c hx
  have hx':=lb _ _ hx
  have n1:x∉q.fp g:=hQ.notin hx
  exact hfr2 _ _ (hfr _ _ hx' fun hin=>n1 (hAoFp _ hin)) fun hin=>n1 (gno _ hin)
end Go.Proofs.YtkfemiloehkmhaaGreat.S

set_option linter.unusedSimpArgs false
set_option linter.unusedVariables false
set_option maxRecDepth 100000
namespace Go.Proofs.YtkfemiloehkmhaaGreat.S
open Go Go.RowKit Go.Alog Go.Proofs.YtkfemiloehkmhaaGreat.T Go.Proofs.YtkfemiloehkmhaaGreat.V

def writeP (s:PS):PS:={ s with regs:=if s.a.full=true∧s.a.reg≠0 then s.regs.set s.a.reg.toNat s.a.value else s.regs,a:=La0 }
theorem write_spec (w0:World) (m:AM) (g:Nat) (code:List Ins) (s:PS) (q:PA) (hn:0≤s.a.reg∧s.a.reg<32) (h:PipR m w0.heap.size g code s q) :
  CallsA Tryz.prog w0 37 #[.pointer (some ⟨g,0,none⟩)] m (fun r m'=>r=.tuple #[]∧PPost w0.heap.size m g q code (writeP s) m'):=by
 refine cf37 w0 m g _ ?_
 refine ⟨_,h.hi' 36,_,h.hi' 37,_,h.hi' 38,_,h.hi' 39,_,h.hi' 40,_,h.hi' 41,_,h.hi' 42,_,h.hi' 43,_,h.hi' 44,_,h.hi' 45,_,h.hi' 46,_,h.hi' 47,?_⟩
 refine new12 fun b m1 hb hm l1 p1=>?_
 have Q:PQ m w0.heap.size g code q q m1 s:=(PQ.of h).le l1
 unfold writeP
 refine ⟨_,cel p1 rfl,bcI (fun hf=>⟨_,cel p1 rfl,rfl,bcI (fun hr=>?_) fun hr=>?_⟩) fun hf=>?_⟩
 ·refine ⟨_,cel p1 rfl,_,cel p1 rfl,hn,Q.putReg hn _ fun m2 Q2 _=>⟨rfl,Q2.put_a La0 fun m3 Q3 _=>retP_of ⟨rfl,?_⟩⟩⟩
  rw [if_pos (by simp [hf] at hr; exact ⟨hf,hr⟩)]
  exact Q3.post rfl
 ·refine ⟨rfl,Q.put_a La0 fun m3 Q3 _=>retP_of ⟨rfl,?_⟩⟩
  rw [if_neg (by simp [hf] at hr; simp [hr])]
  exact Q3.post rfl
 ·refine ⟨hf,rfl,Q.put_a La0 fun m3 Q3 _=>retP_of ⟨rfl,?_⟩⟩
  rw [if_neg (by simp [hf])]
  exact Q3.post rfl

def sysL (s:PS) (l:La):PS × La :=
 if l.i.imm=0 then (s,{ l with trap:=1 })
 else if l.i.imm=1 then match s.inp with
  | []=>(s,{ l with trap:=6 })
  | x :: r=>({ s with inp:=r },{ l with value:=w32 x })
 else if l.i.imm=2 then (if s.out.length≥10000 then (s,{ l with trap:=9 }) else ({ s with out:=s.out ++ [l.stored] },l))
 else (s,l)

theorem psys_spec (w0:World) (m:AM) (g:Nat) (code:List Ins) (s:PS) (q:PA) (l:La) (h:PipR m w0.heap.size g code s q) :
  CallsA Tryz.prog w0 57 #[.pointer (some ⟨g,0,none⟩),l.val] m (fun r m'=>r=(sysL s l).2.val∧PPost w0.heap.size m g q code (sysL s l).1 m'):=by
 generalize hR:(fun (r:Value) (m':AM)=>r=(sysL s l).2.val∧PPost w0.heap.size m g q code (sysL s l).1 m')=R
 refine cf57 w0 m g _ _ _ _ _ _ _ _ _ _ _ _ R ?_
 intro b1 hb1 hm1 m2
 have l1:m.le m2:=le_new hm1 _
 have p1:m2 b1=some (.cells l.vals.toArray 58):=upd_get_same
 clear_value m2
 intro b3 hb3 hm3 m4
 have l3:m2.le m4:=le_new hm3 _
 have p3:m4 b3=some (.cells La0.vals.toArray 58):=upd_get_same
 have q1:=l3 _ _ p1
 clear_value m4
 have ne:b1≠b3:=fun e=>by subst e; rw [p1] at hm3; cases hm3
 have hm3':m b3=none:=AM.le_none l1 hm3
 have Q:PQ m w0.heap.size g code q q m4 s:=((PQ.of h).le l1).le l3

 have fin:∀ (m5:AM) (s':PS) (q':PA) (l':La) (σ:Sg),q'.Ac=q.Ac→PQ m w0.heap.size g code q q' m5 s'→m5 b1=some (.cells l'.vals.toArray 58)→m5 b3=some (.cells La0.vals.toArray 58)→sysL s l=(s',l') →
   StC w0.heap.size m5 ⟨b3,0,none⟩ (.bool l'.full) fun y0=>StC w0.heap.size y0 ⟨b3,1,none⟩ (.int .i64 l'.i.op) fun y1=>StC w0.heap.size y1 ⟨b3,2,none⟩ (.int .i64 l'.i.a) fun y2=>StC w0.heap.size y2 ⟨b3,3,none⟩ (.int .i64 l'.i.b) fun y3=>StC w0.heap.size y3 ⟨b3,4,none⟩ (.int .i64 l'.i.c) fun y4=>StC w0.heap.size y4 ⟨b3,5,none⟩ (.int .i64 l'.i.imm) fun y5=>StC w0.heap.size y5 ⟨b3,6,none⟩ (.int .i64 l'.at_) fun y6=>StC w0.heap.size y6 ⟨b3,7,none⟩ (.int .i64 l'.reg) fun y7=>StC w0.heap.size y7 ⟨b3,8,none⟩ (.int .i64 l'.value) fun y8=>StC w0.heap.size y8 ⟨b3,9,none⟩ (.int .i64 l'.stored) fun y9=>StC w0.heap.size y9 ⟨b3,10,none⟩ (.int .i64 l'.where_) fun y10=>StC w0.heap.size y10 ⟨b3,11,none⟩ (.int .i64 l'.trap) fun y11=>∃ t0:Bool,y11.cell ⟨b3,0,none⟩=some (.bool t0)∧∃ i1:Int,y11.cell ⟨b3,1,none⟩=some (.int .i64 i1)∧∃ i2:Int,y11.cell ⟨b3,2,none⟩=some (.int .i64 i2)∧∃ i3:Int,y11.cell ⟨b3,3,none⟩=some (.int .i64 i3)∧∃ i4:Int,y11.cell ⟨b3,4,none⟩=some (.int .i64 i4)∧∃ i5:Int,y11.cell ⟨b3,5,none⟩=some (.int .i64 i5)∧∃ i6:Int,y11.cell ⟨b3,6,none⟩=some (.int .i64 i6)∧∃ i7:Int,y11.cell ⟨b3,7,none⟩=some (.int .i64 i7)∧∃ i8:Int,y11.cell ⟨b3,8,none⟩=some (.int .i64 i8)∧∃ i9:Int,y11.cell ⟨b3,9,none⟩=some (.int .i64 i9)∧∃ i10:Int,y11.cell ⟨b3,10,none⟩=some (.int .i64 i10)∧∃ i11:Int,y11.cell ⟨b3,11,none⟩=some (.int .i64 i11)∧RetP R (.agg #[.bool t0,.int .i64 i1,.int .i64 i2,.int .i64 i3,.int .i64 i4,.int .i64 i5,.int .i64 i6,.int .i64 i7,.int .i64 i8,.int .i64 i9,.int .i64 i10,.int .i64 i11]) y11:=by
  intro m5 s' q' l' σ hc Q5 p15 p35 hs
  refine Q5.locAll l' p35 hb3 hm3' fun m6 Q6 p6 _=>?_
  refine ⟨_,cel p6 rfl,_,cel p6 rfl,_,cel p6 rfl,_,cel p6 rfl,_,cel p6 rfl,_,cel p6 rfl,_,cel p6 rfl,_,cel p6 rfl,_,cel p6 rfl,_,cel p6 rfl,_,cel p6 rfl,_,cel p6 rfl,retP_of ?_⟩
  rw [← hR,hs]
  exact ⟨rfl,Q6.post hc⟩
 have fin2:∀ (m5:AM) (s':PS) (q':PA) (l':La) (σ:Sg),q'.Ac=q.Ac→PQ m w0.heap.size g code q q' m5 s'→m5 b1=some (.cells l'.vals.toArray 58)→m5 b3=some (.cells La0.vals.toArray 58)→sysL s l=(s',l')→σ 3=.pointer (some ⟨b1,0,none⟩)→σ 4=.pointer (some ⟨b3,0,none⟩)→∀ m,m=m5→(vcS Tryz.prog w0 qs57 (sub c57 [1,1]) σ m (retQ Tryz.prog Tryz.f57 R)):=by
  intro m5 s' q' l' σ hc Q5 p15 p35 hs h3 h4 m hm
  subst hm
  refine vk57_11 w0 m σ R b1 b3 h3 h4 ?_
  refine ⟨_,cel p15 rfl,_,cel p15 rfl,_,cel p15 rfl,_,cel p15 rfl,_,cel p15 rfl,_,cel p15 rfl,_,cel p15 rfl,_,cel p15 rfl,_,cel p15 rfl,_,cel p15 rfl,_,cel p15 rfl,_,cel p15 rfl,?_⟩
  exact fin m s' q' l' σ hc Q5 p15 p35 hs
 refine ⟨_,cel q1 rfl,rfl,bcI (fun h0=>?_) fun h0=>⟨rfl,bcI (fun h1=>?_) fun h1=>⟨rfl,bcI (fun h2=>?_) fun h2=>?_⟩⟩⟩
 ·refine Q.loc { l with trap:=1 } q1 hb1 hm1 rfl (by omega) fun m5 Q5 p5 f5=>?_
  exact fin2 m5 _ q _ _ rfl Q5 p5 (keepB f5 p3 ne.symm) (by unfold sysL; rw [if_pos (by simpa using h0)]) rfl rfl _ rfl
 ·have n0:l.i.imm≠0:=by simpa using h0
  have e1:l.i.imm=1:=by simpa using h1
  refine ⟨_,_,_,Q.R.cells.2.2.2.1,rfl,bcI (fun hl=>?_) fun hl=>?_⟩
  ·refine Q.loc { l with trap:=6 } q1 hb1 hm1 rfl (by omega) fun m5 Q5 p5 f5=>?_
   have hi:s.inp = []:=List.eq_nil_of_length_eq_zero (by simpa using hl)
   refine ⟨_,cel p5 rfl,_,cel p5 rfl,_,cel p5 rfl,_,cel p5 rfl,_,cel p5 rfl,_,cel p5 rfl,_,cel p5 rfl,_,cel p5 rfl,_,cel p5 rfl,_,cel p5 rfl,_,cel p5 rfl,_,cel p5 rfl,?_⟩
   exact fin m5 s q { l with trap:=6 } (fun _=>.bool false) rfl Q5 p5 (keepB f5 p3 ne.symm) (by unfold sysL; rw [if_neg n0,if_pos e1,hi])
  ·obtain ⟨x,r,hi⟩:∃ x r,s.inp=x :: r:=by
    cases hs:s.inp with
    | nil=>rw [hs] at hl; exact absurd hl (by decide)
    | cons x r=>exact ⟨x,r,rfl⟩
   have hl2:1≤s.inp.length:=by rw [hi]; simp
   obtain ⟨ai,hai,hci⟩:=Q.R.hi.ex (by omega)
   have hx:m4.cell (ai.add 0)=some (.int .i64 x):=hci 0 _ (by rw [hi]; rfl)
   refine ⟨_,_,_,Q.R.cells.2.2.2.1,⟨by decide,by omega⟩,?_⟩
   rw [hai,nilO_some]
   refine ⟨_,hx,?_⟩
   refine CallsA.mono (wrapW w0 m4 x) ?_
   rintro r' m5 ⟨rfl,hm5⟩
   subst hm5
   refine ⟨_,rfl,?_⟩
   refine Q.loc { l with value:=w32 x } q1 hb1 hm1 rfl (by omega) fun m6 Q6 p6 f6=>?_
   refine ⟨_,_,_,Q6.R.cells.2.2.2.1,by decide,Q6.R.hic,hl2,?_⟩
   refine Q6.putIn hi fun m7 q7 hc7 Q7 f7=>?_
   exact fin2 m7 _ q7 _ _ hc7 Q7 (keepB f7 p6 (Q6.neg p6)) (keepB f7 (keepB f6 p3 ne.symm) (Q6.neg (keepB f6 p3 ne.symm))) (by unfold sysL; rw [if_neg n0,if_pos e1,hi]) rfl rfl _ rfl
 ·have n0:l.i.imm≠0:=by simpa using h0
  have n1:l.i.imm≠1:=by simpa using h1
  have e2:l.i.imm=2:=by simpa using h2
  refine ⟨_,_,_,Q.R.cells.2.2.2.2,rfl,bcI (fun hl=>?_) fun hl=>?_⟩
  ·refine Q.loc { l with trap:=9 } q1 hb1 hm1 rfl (by omega) fun m5 Q5 p5 f5=>?_
   have hl':s.out.length≥10000:=by have:=of_decide_eq_true hl; omega
   refine ⟨_,cel p5 rfl,_,cel p5 rfl,_,cel p5 rfl,_,cel p5 rfl,_,cel p5 rfl,_,cel p5 rfl,_,cel p5 rfl,_,cel p5 rfl,_,cel p5 rfl,_,cel p5 rfl,_,cel p5 rfl,_,cel p5 rfl,?_⟩
   exact fin m5 s q { l with trap:=9 } (fun _=>.bool false) rfl Q5 p5 (keepB f5 p3 ne.symm) (by unfold sysL; rw [if_neg n0,if_neg n1,if_pos e2,if_pos hl'])
  ·have hl':¬ s.out.length≥10000:=by have:=of_decide_eq_false hl; omega
   refine ⟨_,_,_,Q.R.cells.2.2.2.2,_,cel q1 rfl,rfl,?_⟩
   refine Q.putOut l.stored (by omega) fun _ _ _ _ m5 q5 hc5 Q5 k5=>?_
   exact fin2 m5 _ q5 _ _ hc5 Q5 (k5 _ _ q1) (k5 _ _ p3) (by unfold sysL; rw [if_neg n0,if_neg n1,if_pos e2,if_neg hl']) rfl rfl _ rfl
 ·have n0:l.i.imm≠0:=by simpa using h0
  have n1:l.i.imm≠1:=by simpa using h1
  have n2:l.i.imm≠2:=by simpa using h2
  exact fin2 m4 s q l _ rfl Q q1 p3 (by unfold sysL; rw [if_neg n0,if_neg n1,if_neg n2]) rfl rfl _ rfl
end Go.Proofs.YtkfemiloehkmhaaGreat.S

set_option linter.unusedSimpArgs false
set_option linter.unusedVariables false
set_option maxRecDepth 100000
namespace Go.Proofs.YtkfemiloehkmhaaGreat.S
open Go Go.RowKit Go.Alog Go.Proofs.YtkfemiloehkmhaaGreat.T Go.Proofs.YtkfemiloehkmhaaGreat.V

def pactP (s:PS):PS × Int :=
 let l:=s.k
 let s1:PS:={ s with k:=La0 }
 if l.full=false∨l.trap≠0 then (s1,l.trap)
 else if l.i.op=12 then (if 0≤l.where_∧l.where_<s.mem.length then ({ s1 with a:={ l with value:=s.mem.getD l.where_.toNat 0 } },l.trap) else (s1,3))
 else if l.i.op=13 then (if 0≤l.where_∧l.where_<s.mem.length then ({ s1 with mem:=s.mem.set l.where_.toNat (w32 l.stored),a:=l },l.trap) else (s1,3))
 else if l.i.op=20 then ({ (sysL s1 l).1 with a:=(sysL s1 l).2 },(sysL s1 l).2.trap)
 else ({ s1 with a:=l },l.trap)

theorem pact_spec (w0:World) (m:AM) (g:Nat) (code:List Ins) (s:PS) (q:PA) (h:PipR m w0.heap.size g code s q) :
  CallsA Tryz.prog w0 38 #[.pointer (some ⟨g,0,none⟩)] m (fun r m'=>r=.int .i64 (pactP s).2∧PPost w0.heap.size m g q code (pactP s).1 m'):=by
 generalize hR:(fun (r:Value) (m':AM)=>r=.int .i64 (pactP s).2∧PPost w0.heap.size m g q code (pactP s).1 m')=R
 refine cf38 w0 m g R ?_
 refine ⟨_,h.hi' 24,_,h.hi' 25,_,h.hi' 26,_,h.hi' 27,_,h.hi' 28,_,h.hi' 29,_,h.hi' 30,_,h.hi' 31,_,h.hi' 32,_,h.hi' 33,_,h.hi' 34,_,h.hi' 35,?_⟩
 refine new12 fun b m1 hb hm l1 p1=>?_
 have p1:m1 b=some (.cells s.k.vals.toArray 58):=p1
 have Q1:PQ m w0.heap.size g code q q m1 s:=(PQ.of h).le l1
 refine ⟨rfl,Q1.put_k La0 fun m2 Q2 f2=>?_⟩
 have p2:=keepB f2 p1 (Q1.neg p1)
 generalize hl:s.k=l at p2
 generalize hs1:({ s with k:=La0 }:PS)=s1 at Q2
 have fin:∀ (m5:AM) (s':PS) (q':PA) (l':La) (σ:Sg),q'.Ac=q.Ac→PQ m w0.heap.size g code q q' m5 s'→m5 b=some (.cells l'.vals.toArray 58)→pactP s=({ s' with a:=l' },l'.trap)→σ 0=.pointer (some ⟨g,0,none⟩)→σ 3=.pointer (some ⟨b,0,none⟩)→∀ m,m=m5→(vcS Tryz.prog w0 qs38 (sub c38 [1,1,1,1,1]) σ m (retQ Tryz.prog Tryz.f38 R)):=by
  intro m5 s' q' l' σ hc Q5 p5 hs h0 h3 m hm
  subst hm
  refine vk38_11111 w0 m σ R g b h0 h3 ?_
  refine ⟨_,cel p5 rfl,_,cel p5 rfl,_,cel p5 rfl,_,cel p5 rfl,_,cel p5 rfl,_,cel p5 rfl,_,cel p5 rfl,_,cel p5 rfl,_,cel p5 rfl,_,cel p5 rfl,_,cel p5 rfl,_,cel p5 rfl,?_⟩
  refine Q5.put_a l' fun m6 Q6 f6=>?_
  refine ⟨_,cel (keepB f6 p5 (Q5.neg p5)) rfl,retP_of ?_⟩
  rw [← hR,hs]
  exact ⟨rfl,Q6.post hc⟩
 have eP:¬ (l.full=false∨l.trap≠0)→pactP s=(if l.i.op=12 then (if 0≤l.where_∧l.where_<s.mem.length then ({ s1 with a:={ l with value:=s.mem.getD l.where_.toNat 0 } },l.trap) else (s1,3))
   else if l.i.op=13 then (if 0≤l.where_∧l.where_<s.mem.length then ({ s1 with mem:=s.mem.set l.where_.toNat (w32 l.stored),a:=l },l.trap) else (s1,3))
   else if l.i.op=20 then ({ (sysL s1 l).1 with a:=(sysL s1 l).2 },(sysL s1 l).2.trap)
   else ({ s1 with a:=l },l.trap)):=fun hh=>by
  unfold pactP
  simp only [hl,hs1]
  rw [if_neg hh,← hs1]
 have eN:(l.full=false∨l.trap≠0)→pactP s=(s1,l.trap):=fun hh=>by
  unfold pactP
  simp only [hl,hs1]
  rw [if_pos hh]
 have hmem:s1.mem=s.mem:=by rw [← hs1]
 refine ⟨_,cel p2 rfl,bcI (fun hf=>?_) fun hf=>⟨_,cel p2 rfl,rfl,bcI (fun ht=>?_) fun ht=>?_⟩⟩
 ·refine ⟨hf,_,cel p2 rfl,retP_of ?_⟩
  rw [← hR,eN (.inl (by simpa using hf))]
  exact ⟨rfl,Q2.post rfl⟩
 ·refine ⟨_,cel p2 rfl,retP_of ?_⟩
  rw [← hR,eN (.inr (by simp [hf] at ht; exact ht))]
  exact ⟨rfl,Q2.post rfl⟩
 have hgo:¬ (l.full=false∨l.trap≠0):=by
  simp at hf
  simp [hf] at ht
  simp [hf,ht]
 refine ⟨_,cel p2 rfl,rfl,bcI (fun h12=>?_) fun h12=>⟨rfl,bcI (fun h13=>?_) fun h13=>⟨rfl,bcI (fun h20=>?_) fun h20=>?_⟩⟩⟩
 ·have e12:l.i.op=12:=by simpa using h12
  refine ⟨_,Q2.R.cells.2.1,_,cel p2 rfl,?_⟩
  refine CallsA.mono (load_mem w0 m2 w0.heap.size q.gm q.Aw s1.mem q.cw Q2.R.hm Q2.R.hw l.where_) ?_
  rintro r m3 ⟨rfl,hm3⟩
  subst hm3
  refine ⟨_,_,rfl,?_⟩
  rw [hmem]
  by_cases hin:0≤l.where_∧l.where_<s.mem.length
  ·rw [decide_eq_true hin,if_pos hin]
   refine bcEF rfl ?_
   refine Q2.loc { l with value:=s.mem.getD l.where_.toNat 0 } p2 hb hm rfl (by omega) fun m4 Q4 p4 f4=>?_
   exact fin m4 s1 q _ _ rfl Q4 p4 (by rw [eP hgo,if_pos e12,if_pos hin]) rfl rfl _ rfl
  ·rw [decide_eq_false hin,if_neg hin]
   refine bcET rfl (retP_of ?_)
   rw [← hR,eP hgo,if_pos e12,if_neg hin]
   exact ⟨rfl,Q2.post rfl⟩
 ·have n12:l.i.op≠12:=by simpa using h12
  have e13:l.i.op=13:=by simpa using h13
  refine ⟨_,Q2.R.cells.2.1,_,cel p2 rfl,_,cel p2 rfl,?_⟩
  refine CallsA.mono (store_pip w0 m2 g code s1 q Q2.R l.where_ l.stored) ?_
  rintro r m3 ⟨rfl,Q3⟩
  refine ⟨_,rfl,?_⟩
  rw [hmem] at Q3 ⊢
  have Q23:=Q2.trans Q3 rfl
  have p3:=Q3.fr _ _ p2 (Q2.notin p2)
  by_cases hin:0≤l.where_∧l.where_<s.mem.length
  ·rw [decide_eq_true hin]
   rw [if_pos hin] at Q23
   refine bcEF rfl ?_
   exact fin m3 _ q l _ rfl Q23 p3 (by rw [eP hgo,if_neg n12,if_pos e13,if_pos hin]) rfl rfl _ rfl
  ·rw [decide_eq_false hin]
   rw [if_neg hin] at Q23
   refine bcET rfl (retP_of ?_)
   rw [← hR,eP hgo,if_neg n12,if_pos e13,if_neg hin]
   exact ⟨rfl,Q23.post rfl⟩
 ·have n12:l.i.op≠12:=by simpa using h12
  have n13:l.i.op≠13:=by simpa using h13
  have e20:l.i.op=20:=by simpa using h20
  refine ⟨_,cel p2 rfl,_,cel p2 rfl,_,cel p2 rfl,_,cel p2 rfl,_,cel p2 rfl,_,cel p2 rfl,_,cel p2 rfl,_,cel p2 rfl,_,cel p2 rfl,_,cel p2 rfl,_,cel p2 rfl,_,cel p2 rfl,?_⟩
  refine CallsA.mono (psys_spec w0 m2 g code s1 q l Q2.R) ?_
  rintro r m3 ⟨rfl,q3,hc3,Q3⟩
  have Q23:=Q2.trans Q3 hc3
  have p3:=Q3.fr _ _ p2 (Q2.notin p2)
  refine ⟨_,_,_,_,_,_,_,_,_,_,_,_,rfl,?_⟩
  refine Q23.locAll (sysL s1 l).2 p3 hb hm fun m4 Q4 p4 f4=>?_
  exact fin m4 _ q3 _ _ hc3 Q4 p4 (by rw [eP hgo,if_neg n12,if_neg n13,if_pos e20]) rfl rfl _ rfl
 ·have n12:l.i.op≠12:=by simpa using h12
  have n13:l.i.op≠13:=by simpa using h13
  have n20:l.i.op≠20:=by simpa using h20
  exact fin m2 s1 q l _ rfl Q2 p2 (by rw [eP hgo,if_neg n12,if_neg n13,if_neg n20]) rfl rfl _ rfl

def nextF (s:PS) (l:La):Int :=
 let n:=IntKind.wrap .i64 (s.at_+1)
 if l.full=false∨l.trap≠0 then n
 else if l.i.op=15∨l.i.op=16 then (if (nowP s l.i.a == nowP s l.i.b) == (l.i.op == 15) then IntKind.wrap .i64 (IntKind.wrap .i64 (l.at_+1)+l.i.imm) else n)
 else if l.i.op=17∨l.i.op=18 then l.i.imm
 else if l.i.op=19 then nowP s l.i.a
 else n
def decideP (s:PS):PS × Int :=
 let s1:PS:={ s with f:=La0,r:=s.f }
 (s1,nextF s1 s.f)

theorem decide_spec (w0:World) (m:AM) (g:Nat) (code:List Ins) (s:PS) (q:PA) (hw:s.f.full=true→s.f.trap=0→InR s.f.i) (h:PipR m w0.heap.size g code s q) :
  CallsA Tryz.prog w0 41 #[.pointer (some ⟨g,0,none⟩)] m (fun r m'=>r=.int .i64 (decideP s).2∧PPost w0.heap.size m g q code (decideP s).1 m'):=by
 generalize hR:(fun (r:Value) (m':AM)=>r=.int .i64 (decideP s).2∧PPost w0.heap.size m g q code (decideP s).1 m')=R
 refine cf41 w0 m g R ?_
 refine ⟨_,h.hi' 0,_,h.hi' 1,_,h.hi' 2,_,h.hi' 3,_,h.hi' 4,_,h.hi' 5,_,h.hi' 6,_,h.hi' 7,_,h.hi' 8,_,h.hi' 9,_,h.hi' 10,_,h.hi' 11,?_⟩
 refine new12 fun b m1 hb hm l1 p1=>?_
 have p1:m1 b=some (.cells s.f.vals.toArray 58):=p1
 have Q1:PQ m w0.heap.size g code q q m1 s:=(PQ.of h).le l1
 refine ⟨rfl,Q1.put_f La0 fun m2 Q2 f2=>?_⟩
 have p2:=keepB f2 p1 (Q1.neg p1)
 refine ⟨_,cel p2 rfl,_,cel p2 rfl,_,cel p2 rfl,_,cel p2 rfl,_,cel p2 rfl,_,cel p2 rfl,_,cel p2 rfl,_,cel p2 rfl,_,cel p2 rfl,_,cel p2 rfl,_,cel p2 rfl,_,cel p2 rfl,?_⟩
 refine Q2.put_r s.f fun m3 Q3 f3=>?_
 have p3:=keepB f3 p2 (Q2.neg p2)
 have eP:decideP s=(({ s with f:=La0,r:=s.f }:PS),nextF { s with f:=La0,r:=s.f } s.f):=rfl
 have Q3:PQ m w0.heap.size g code q q m3 { s with f:=La0,r:=s.f }:=Q3
 generalize hs1:({ s with f:=La0,r:=s.f }:PS)=s1 at Q3 eP
 generalize s.f=l at hw p3 eP
 have ret:∀ v,v=nextF s1 l→RetP R (.int .i64 v) m3:=fun v hv=>retP_of (by rw [← hR,eP,hv]; exact ⟨rfl,Q3.post rfl⟩)
 have hn:IntKind.wrap .i64 (s1.at_+1)=IntKind.wrap .i64 (s1.at_+1):=rfl
 refine ⟨_,Q3.R.cells.2.2.1,rfl,_,cel p3 rfl,bcI (fun hf=>?_) fun hf=>⟨_,cel p3 rfl,rfl,bcI (fun ht=>?_) fun ht=>?_⟩⟩
 ·exact ⟨hf,ret _ (by unfold nextF; simp only []; rw [if_pos (.inl (by simpa using hf))])⟩
 ·exact ret _ (by unfold nextF; simp only []; rw [if_pos (.inr (by simp [hf] at ht; exact ht))])
 have hgo:¬ (l.full=false∨l.trap≠0):=by
  simp at hf
  simp [hf] at ht
  simp [hf,ht]
 have hI:InR l.i:=hw (by simpa using hf) (by
  simp at hf
  simpa [hf] using ht)
 have eN:nextF s1 l=(if l.i.op=15∨l.i.op=16 then (if (nowP s1 l.i.a == nowP s1 l.i.b) == (l.i.op == 15) then IntKind.wrap .i64 (IntKind.wrap .i64 (l.at_+1)+l.i.imm) else IntKind.wrap .i64 (s1.at_+1))
   else if l.i.op=17∨l.i.op=18 then l.i.imm else if l.i.op=19 then nowP s1 l.i.a else IntKind.wrap .i64 (s1.at_+1)):=by
  unfold nextF; simp only []; rw [if_neg hgo]
 have now:∀ n,0≤n∧n<32→CallsA Tryz.prog w0 60 #[.pointer (some ⟨g,0,none⟩),.int .i64 n] m3 (fun r m'=>r=.int .i64 (nowP s1 n)∧m'=m3):=fun n hn=>now_spec w0 m3 g code s1 q n hn Q3.R
 refine ⟨_,cel p3 rfl,rfl,bcI (fun h15=>?_) fun h15=>⟨rfl,bcI (fun h16=>?_) fun h16=>⟨rfl,bcI (fun h17=>?_) fun h17=>⟨rfl,bcI (fun h18=>?_) fun h18=>⟨rfl,bcI (fun h19=>?_) fun h19=>?_⟩⟩⟩⟩⟩
 ·refine bcET h15 ⟨_,cel p3 rfl,_,now _ hI.1,_,cel p3 rfl,_,now _ hI.2.1,rfl,_,cel p3 rfl,rfl,bcI (fun hb=>?_) fun hb=>?_⟩
  ·exact ⟨_,cel p3 rfl,rfl,_,cel p3 rfl,rfl,ret _ (by rw [eN,if_pos (.inl (by simpa using h15)),if_pos hb])⟩
  ·exact ret _ (by rw [eN,if_pos (.inl (by simpa using h15)),if_neg (by rw [hb]; exact Bool.false_ne_true)])
 ·refine ⟨_,cel p3 rfl,_,now _ hI.1,_,cel p3 rfl,_,now _ hI.2.1,rfl,_,cel p3 rfl,rfl,bcI (fun hb=>?_) fun hb=>?_⟩
  ·exact ⟨_,cel p3 rfl,rfl,_,cel p3 rfl,rfl,ret _ (by rw [eN,if_pos (.inr (by simpa using h16)),if_pos hb])⟩
  ·exact ret _ (by rw [eN,if_pos (.inr (by simpa using h16)),if_neg (by rw [hb]; exact Bool.false_ne_true)])
 all_goals
  have n15:l.i.op≠15:=by simpa using h15
  have n16:l.i.op≠16:=by simpa using h16
  have n56:¬ (l.i.op=15∨l.i.op=16):=by rintro (e | e) <;> contradiction
 ·have e17:l.i.op=17:=by simpa using h17
  exact bcET h17 ⟨_,cel p3 rfl,ret _ (by rw [eN,if_neg n56,if_pos (.inl e17)])⟩
 ·have e18:l.i.op=18:=by simpa using h18
  exact ⟨_,cel p3 rfl,ret _ (by rw [eN,if_neg n56,if_pos (.inr e18)])⟩
 all_goals
  have n17:l.i.op≠17:=by simpa using h17
  have n18:l.i.op≠18:=by simpa using h18
  have n78:¬ (l.i.op=17∨l.i.op=18):=by rintro (e | e) <;> contradiction
 ·have e19:l.i.op=19:=by simpa using h19
  refine ⟨_,cel p3 rfl,CallsA.mono (now _ hI.1) ?_⟩
  rintro r m4 ⟨rfl,hm4⟩
  subst hm4
  exact ⟨_,rfl,ret _ (by rw [eN,if_neg n56,if_neg n78,if_pos e19])⟩
 ·have n19:l.i.op≠19:=by simpa using h19
  exact ret _ (by rw [eN,if_neg n56,if_neg n78,if_neg n19])
end Go.Proofs.YtkfemiloehkmhaaGreat.S

set_option linter.unusedSimpArgs false
set_option linter.unusedVariables false
set_option maxRecDepth 100000
namespace Go.Proofs.YtkfemiloehkmhaaGreat.S
open Go Go.RowKit Go.Alog Go.Proofs.YtkfemiloehkmhaaGreat.T Go.Proofs.YtkfemiloehkmhaaGreat.V

def stage3 (l ahead:La) (regs:List Int):La :=
 let a:=earlyP l.i.a ahead regs
 let b:=earlyP l.i.b ahead regs
 let c:=earlyP l.i.c ahead regs
 let l1:La:={ l with reg:=writesP l.i,where_:=w32 (b+l.i.imm),stored:=a }
 if l.i.op=14 then (if a<0∨a≥l.i.imm then { l1 with trap:=if l.i.b≠0 then l.i.b else 5 } else l1)
 else if l.i.op=18 then { l1 with value:=IntKind.wrap .i64 (l.at_+2) }
 else if l.i.op=20 then { l1 with stored:=earlyP 4 ahead regs }
 else { l1 with value:=(reckonP l.i b c).1,trap:=(reckonP l.i b c).2.1 }
def reckP3 (s:PS) (ahead:La):PS:={ s with r:=La0,k:=if s.r.full=true∧s.r.trap=0 then stage3 s.r ahead s.regs else s.r }

theorem reck3_spec (w0:World) (m:AM) (g:Nat) (code:List Ins) (s:PS) (q:PA) (ahead:La) (hw:s.r.full=true→s.r.trap=0→InR s.r.i) (h:PipR m w0.heap.size g code s q) :
  CallsA Tryz.prog w0 39 #[.pointer (some ⟨g,0,none⟩),ahead.val] m (fun r m'=>r=.tuple #[]∧PPost w0.heap.size m g q code (reckP3 s ahead) m'):=by
 generalize hR:(fun (r:Value) (m':AM)=>r=.tuple #[]∧PPost w0.heap.size m g q code (reckP3 s ahead) m')=R
 refine cf39 w0 m g _ _ _ _ _ _ _ _ _ _ _ _ R ?_
 intro b1 hb1 hm1 m2
 have l1:m.le m2:=le_new hm1 _
 have p1:m2 b1=some (.cells ahead.vals.toArray 58):=upd_get_same
 clear_value m2
 have h2:=h.le l1
 refine ⟨_,h2.hi' 12,_,h2.hi' 13,_,h2.hi' 14,_,h2.hi' 15,_,h2.hi' 16,_,h2.hi' 17,_,h2.hi' 18,_,h2.hi' 19,_,h2.hi' 20,_,h2.hi' 21,_,h2.hi' 22,_,h2.hi' 23,?_⟩
 refine new12 fun b m3 hb hm3 l3 p3=>?_
 have p3:m3 b=some (.cells s.r.vals.toArray 58):=p3
 have hm:m b=none:=AM.le_none l1 hm3
 have ne:b1≠b:=fun e=>by subst e; rw [p1] at hm3; cases hm3
 have Q3:PQ m w0.heap.size g code q q m3 s:=((PQ.of h).le l1).le l3
 have a3:=l3 _ _ p1
 refine ⟨rfl,Q3.put_r La0 fun m4 Q4 f4=>?_⟩
 have p4:=keepB f4 p3 (Q3.neg p3)
 have a4:=keepB f4 a3 (Q3.neg a3)
 have eP:reckP3 s ahead = { ({ s with r:=La0 }:PS) with k:=if s.r.full=true∧s.r.trap=0 then stage3 s.r ahead ({ s with r:=La0 }:PS).regs else s.r }:=rfl
 generalize hs1:({ s with r:=La0 }:PS)=s1 at Q4 eP
 generalize s.r=l at hw p4 eP
 have fin:∀ (m5:AM) (l':La) (σ:Sg),PQ m w0.heap.size g code q q m5 s1→m5 b=some (.cells l'.vals.toArray 58)→(if l.full=true∧l.trap=0 then stage3 l ahead s1.regs else l)=l'→σ 0=.pointer (some ⟨g,0,none⟩)→σ 4=.pointer (some ⟨b,0,none⟩)→∀ m,m=m5→(vcS Tryz.prog w0 qs39 (sub c39 [1,1,1,1]) σ m (retQ Tryz.prog Tryz.f39 R)):=by
  intro m5 l' σ Q5 p5 hs h0 h4 m hm
  subst hm
  refine vk39_1111 w0 m σ R g b h0 h4 ?_
  refine ⟨_,cel p5 rfl,_,cel p5 rfl,_,cel p5 rfl,_,cel p5 rfl,_,cel p5 rfl,_,cel p5 rfl,_,cel p5 rfl,_,cel p5 rfl,_,cel p5 rfl,_,cel p5 rfl,_,cel p5 rfl,_,cel p5 rfl,?_⟩
  refine Q5.put_k l' fun m6 Q6 f6=>?_
  refine retP_of ?_
  rw [← hR,eP,hs]
  exact ⟨rfl,Q6.post rfl⟩
 refine ⟨_,cel p4 rfl,bcI (fun hf=>⟨_,cel p4 rfl,rfl,bcI (fun ht=>?_) fun ht=>?_⟩) fun hf=>?_⟩
 ·have hgo:l.full=true∧l.trap=0:=by
   simp [hf] at ht
   exact ⟨hf,ht⟩
  have hI:=hw hgo.1 hgo.2
  rw [if_pos hgo] at fin
  have early:∀ n,0≤n∧n<32→∀ m5,PQ m w0.heap.size g code q q m5 s1→CallsA Tryz.prog w0 58 #[.int .i64 n,ahead.val,.agg (arr32 s1.regs)] m5 (fun r m'=>r=.int .i64 (earlyP n ahead s1.regs)∧m'=m5):=fun n hn m5 Q5=>early_spec w0 m5 n hn ahead s1.regs
  have hr:=Q4.R
  refine ⟨_,cel p4 rfl,_,cel a4 rfl,_,cel a4 rfl,_,cel a4 rfl,_,cel a4 rfl,_,cel a4 rfl,_,cel a4 rfl,_,cel a4 rfl,_,cel a4 rfl,_,cel a4 rfl,_,cel a4 rfl,_,cel a4 rfl,_,cel a4 rfl,_,hr.reg' 0 (by decide),_,hr.reg' 1 (by decide),_,hr.reg' 2 (by decide),_,hr.reg' 3 (by decide),_,hr.reg' 4 (by decide),_,hr.reg' 5 (by decide),_,hr.reg' 6 (by decide),_,hr.reg' 7 (by decide),_,hr.reg' 8 (by decide),_,hr.reg' 9 (by decide),_,hr.reg' 10 (by decide),_,hr.reg' 11 (by decide),_,hr.reg' 12 (by decide),_,hr.reg' 13 (by decide),_,hr.reg' 14 (by decide),_,hr.reg' 15 (by decide),_,hr.reg' 16 (by decide),_,hr.reg' 17 (by decide),_,hr.reg' 18 (by decide),_,hr.reg' 19 (by decide),_,hr.reg' 20 (by decide),_,hr.reg' 21 (by decide),_,hr.reg' 22 (by decide),_,hr.reg' 23 (by decide),_,hr.reg' 24 (by decide),_,hr.reg' 25 (by decide),_,hr.reg' 26 (by decide),_,hr.reg' 27 (by decide),_,hr.reg' 28 (by decide),_,hr.reg' 29 (by decide),_,hr.reg' 30 (by decide),_,hr.reg' 31 (by decide),_,early _ hI.1 _ Q4,_,cel p4 rfl,_,cel a4 rfl,_,cel a4 rfl,_,cel a4 rfl,_,cel a4 rfl,_,cel a4 rfl,_,cel a4 rfl,_,cel a4 rfl,_,cel a4 rfl,_,cel a4 rfl,_,cel a4 rfl,_,cel a4 rfl,_,cel a4 rfl,_,hr.reg' 0 (by decide),_,hr.reg' 1 (by decide),_,hr.reg' 2 (by decide),_,hr.reg' 3 (by decide),_,hr.reg' 4 (by decide),_,hr.reg' 5 (by decide),_,hr.reg' 6 (by decide),_,hr.reg' 7 (by decide),_,hr.reg' 8 (by decide),_,hr.reg' 9 (by decide),_,hr.reg' 10 (by decide),_,hr.reg' 11 (by decide),_,hr.reg' 12 (by decide),_,hr.reg' 13 (by decide),_,hr.reg' 14 (by decide),_,hr.reg' 15 (by decide),_,hr.reg' 16 (by decide),_,hr.reg' 17 (by decide),_,hr.reg' 18 (by decide),_,hr.reg' 19 (by decide),_,hr.reg' 20 (by decide),_,hr.reg' 21 (by decide),_,hr.reg' 22 (by decide),_,hr.reg' 23 (by decide),_,hr.reg' 24 (by decide),_,hr.reg' 25 (by decide),_,hr.reg' 26 (by decide),_,hr.reg' 27 (by decide),_,hr.reg' 28 (by decide),_,hr.reg' 29 (by decide),_,hr.reg' 30 (by decide),_,hr.reg' 31 (by decide),_,early _ hI.2.1 _ Q4,_,cel p4 rfl,_,cel a4 rfl,_,cel a4 rfl,_,cel a4 rfl,_,cel a4 rfl,_,cel a4 rfl,_,cel a4 rfl,_,cel a4 rfl,_,cel a4 rfl,_,cel a4 rfl,_,cel a4 rfl,_,cel a4 rfl,_,cel a4 rfl,_,hr.reg' 0 (by decide),_,hr.reg' 1 (by decide),_,hr.reg' 2 (by decide),_,hr.reg' 3 (by decide),_,hr.reg' 4 (by decide),_,hr.reg' 5 (by decide),_,hr.reg' 6 (by decide),_,hr.reg' 7 (by decide),_,hr.reg' 8 (by decide),_,hr.reg' 9 (by decide),_,hr.reg' 10 (by decide),_,hr.reg' 11 (by decide),_,hr.reg' 12 (by decide),_,hr.reg' 13 (by decide),_,hr.reg' 14 (by decide),_,hr.reg' 15 (by decide),_,hr.reg' 16 (by decide),_,hr.reg' 17 (by decide),_,hr.reg' 18 (by decide),_,hr.reg' 19 (by decide),_,hr.reg' 20 (by decide),_,hr.reg' 21 (by decide),_,hr.reg' 22 (by decide),_,hr.reg' 23 (by decide),_,hr.reg' 24 (by decide),_,hr.reg' 25 (by decide),_,hr.reg' 26 (by decide),_,hr.reg' 27 (by decide),_,hr.reg' 28 (by decide),_,hr.reg' 29 (by decide),_,hr.reg' 30 (by decide),_,hr.reg' 31 (by decide),_,early _ hI.2.2 _ Q4,_,cel p4 rfl,_,cel p4 rfl,_,cel p4 rfl,_,cel p4 rfl,_,cel p4 rfl,?_⟩
  generalize hx:earlyP l.i.a ahead s1.regs=xa
  generalize hy:earlyP l.i.b ahead s1.regs=xb
  generalize hz:earlyP l.i.c ahead s1.regs=xc
  refine CallsA.mono (writes_spec w0 m4 l.i) ?_
  rintro r m5 ⟨rfl,l5⟩
  refine ⟨_,rfl,?_⟩
  have p5:=l5 _ _ p4
  have a5:=l5 _ _ a4
  refine (Q4.le l5).loc { l with reg:=writesP l.i } p5 hb hm rfl (by omega) fun m6 Q6 p6 f6=>?_
  have a6:=keepB f6 a5 ne
  refine ⟨_,cel p6 rfl,?_⟩
  refine CallsA.mono (addW w0 m6 xb l.i.imm) ?_
  rintro r m7 ⟨rfl,hm7⟩
  subst hm7
  refine ⟨_,rfl,?_⟩
  refine Q6.loc { l with reg:=writesP l.i,where_:=w32 (xb+l.i.imm) } p6 hb hm rfl (by omega) fun m7 Q7 p7 f7=>?_
  have a7:=keepB f7 a6 ne
  refine Q7.loc { l with reg:=writesP l.i,where_:=w32 (xb+l.i.imm),stored:=xa } p7 hb hm rfl (by omega) fun m8 Q8 p8 f8=>?_
  have a8:=keepB f8 a7 ne
  generalize hl1:({ l with reg:=writesP l.i,where_:=w32 (xb+l.i.imm),stored:=xa }:La)=l1 at p8
  have hS:stage3 l ahead s1.regs=(if l.i.op=14 then (if xa<0∨xa≥l.i.imm then { l1 with trap:=if l.i.b≠0 then l.i.b else 5 } else l1)
   else if l.i.op=18 then { l1 with value:=IntKind.wrap .i64 (l.at_+2) }
   else if l.i.op=20 then { l1 with stored:=earlyP 4 ahead s1.regs }
   else { l1 with value:=(reckonP l.i xb xc).1,trap:=(reckonP l.i xb xc).2.1 }):=by
   rw [← hl1]; unfold stage3; simp only [hx,hy,hz]
  rw [hS] at fin
  have ei:l1.i=l.i:=by rw [← hl1]
  have ea:l1.at_=l.at_:=by rw [← hl1]
  have eop:l1.i.op=l.i.op:=by rw [ei]
  refine ⟨_,cel p8 rfl,rfl,bcI (fun h14=>?_) fun h14=>⟨rfl,bcI (fun h18=>?_) fun h18=>⟨rfl,bcI (fun h20=>?_) fun h20=>?_⟩⟩⟩
  ·have e14:l.i.op=14:=by rw [← eop]; simpa using h14
   rw [if_pos e14] at fin
   have K14:∀ (m5:AM) (σ:Sg) (x:Bool),m5=m8→x=decide (xa<0∨xa≥l.i.imm)→σ 0=.pointer (some ⟨g,0,none⟩)→σ 4=.pointer (some ⟨b,0,none⟩)→σ 86=.bool x→∀ m,m=m5→(vcS Tryz.prog w0 qs39 (sub c39 [1,1,1,0,1,0,1,1,1,1,0,1,0,1]) σ m (blockS 0 (thenS (fun σ m=>vcS Tryz.prog w0 qs39 (sub c39 [1,1,1,1]) σ m (retQ Tryz.prog Tryz.f39 R)) (retQ Tryz.prog Tryz.f39 R)))):=by
    intro m5 σ x he hx h0 h4 h86 m hm'
    subst hm'
    subst he
    refine vk39_11101011110101 w0 m σ R g b x h0 h4 h86 ?_
    refine bcI (fun hc=>?_) fun hc=>?_
    ·rw [hx] at hc
     rw [if_pos (of_decide_eq_true hc)] at fin
     refine Q8.loc { l1 with trap:=5 } p8 hb ‹_› rfl (by omega) fun m9 Q9 p9 f9=>?_
     refine ⟨_,cel p9 rfl,rfl,bcI (fun hb0=>?_) fun hb0=>?_⟩
     ·have nb:l.i.b≠0:=by rw [← ei]; simpa using hb0
      refine ⟨_,cel p9 rfl,?_⟩
      refine Q9.loc { l1 with trap:=l.i.b } p9 hb ‹_› (by rw [← ei]; rfl) (by omega) fun m10 Q10 p10 f10=>?_
      rw [if_pos nb] at fin
      exact fin m10 _ _ Q10 p10 rfl rfl rfl _ rfl
     ·have nb:¬ l.i.b≠0:=by rw [← ei]; simpa using hb0
      rw [if_neg nb] at fin
      exact fin m9 _ _ Q9 p9 rfl rfl rfl _ rfl
    ·rw [hx] at hc
     rw [if_neg (of_decide_eq_false hc)] at fin
     exact fin m _ _ Q8 p8 rfl rfl rfl _ rfl
   refine ⟨rfl,bcI (fun hn=>⟨hn,?_⟩) fun hn=>⟨_,cel p8 rfl,rfl,?_⟩⟩
   ·refine K14 _ _ _ rfl ?_ rfl rfl rfl _ rfl
    have h1:=of_decide_eq_true hn
    simp [h1]
   ·refine K14 _ _ _ rfl ?_ rfl rfl rfl _ rfl
    rw [hn,ei]
    have:=of_decide_eq_false hn
    exact (decide_eq_decide.2 ⟨fun h=>.inr h,fun h=>h.resolve_left this⟩)
  ·have n14:l.i.op≠14:=by rw [← eop]; simpa using h14
   have e18:l.i.op=18:=by rw [← eop]; simpa using h18
   rw [if_neg n14,if_pos e18] at fin
   refine ⟨_,cel p8 rfl,rfl,?_⟩
   refine Q8.loc { l1 with value:=IntKind.wrap .i64 (l.at_+2) } p8 hb hm (by rw [← ea]; rfl) (by omega) fun m9 Q9 p9 f9=>?_
   exact fin m9 _ _ Q9 p9 rfl rfl rfl _ rfl
  ·have n14:l.i.op≠14:=by rw [← eop]; simpa using h14
   have n18:l.i.op≠18:=by rw [← eop]; simpa using h18
   have e20:l.i.op=20:=by rw [← eop]; simpa using h20
   rw [if_neg n14,if_neg n18,if_pos e20] at fin
   have hr:=Q8.R
   refine ⟨_,cel a8 rfl,_,cel a8 rfl,_,cel a8 rfl,_,cel a8 rfl,_,cel a8 rfl,_,cel a8 rfl,_,cel a8 rfl,_,cel a8 rfl,_,cel a8 rfl,_,cel a8 rfl,_,cel a8 rfl,_,cel a8 rfl,_,hr.reg' 0 (by decide),_,hr.reg' 1 (by decide),_,hr.reg' 2 (by decide),_,hr.reg' 3 (by decide),_,hr.reg' 4 (by decide),_,hr.reg' 5 (by decide),_,hr.reg' 6 (by decide),_,hr.reg' 7 (by decide),_,hr.reg' 8 (by decide),_,hr.reg' 9 (by decide),_,hr.reg' 10 (by decide),_,hr.reg' 11 (by decide),_,hr.reg' 12 (by decide),_,hr.reg' 13 (by decide),_,hr.reg' 14 (by decide),_,hr.reg' 15 (by decide),_,hr.reg' 16 (by decide),_,hr.reg' 17 (by decide),_,hr.reg' 18 (by decide),_,hr.reg' 19 (by decide),_,hr.reg' 20 (by decide),_,hr.reg' 21 (by decide),_,hr.reg' 22 (by decide),_,hr.reg' 23 (by decide),_,hr.reg' 24 (by decide),_,hr.reg' 25 (by decide),_,hr.reg' 26 (by decide),_,hr.reg' 27 (by decide),_,hr.reg' 28 (by decide),_,hr.reg' 29 (by decide),_,hr.reg' 30 (by decide),_,hr.reg' 31 (by decide),?_⟩
   refine CallsA.mono (early 4 (by decide) _ Q8) ?_
   rintro r m9 ⟨rfl,hm9⟩
   subst hm9
   refine ⟨_,rfl,?_⟩
   refine Q8.loc { l1 with stored:=earlyP 4 ahead s1.regs } p8 hb hm rfl (by omega) fun m9 Q9 p9 f9=>?_
   exact fin m9 _ _ Q9 p9 rfl rfl rfl _ rfl
  ·have n14:l.i.op≠14:=by rw [← eop]; simpa using h14
   have n18:l.i.op≠18:=by rw [← eop]; simpa using h18
   have n20:l.i.op≠20:=by rw [← eop]; simpa using h20
   rw [if_neg n14,if_neg n18,if_neg n20] at fin
   refine ⟨_,cel p8 rfl,_,cel p8 rfl,_,cel p8 rfl,_,cel p8 rfl,_,cel p8 rfl,?_⟩
   refine CallsA.mono (Reckon_spec w0 m8 l1.i xb xc) ?_
   rintro r m9 ⟨rfl,l9⟩
   refine ⟨_,_,_,rfl,?_⟩
   rw [ei]
   refine (Q8.le l9).loc { l1 with value:=(reckonP l.i xb xc).1 } (l9 _ _ p8) hb hm rfl (by omega) fun m10 Q10 p10 f10=>?_
   refine Q10.loc { l1 with value:=(reckonP l.i xb xc).1,trap:=(reckonP l.i xb xc).2.1 } p10 hb hm rfl (by omega) fun m11 Q11 p11 f11=>?_
   exact fin m11 _ _ Q11 p11 rfl rfl rfl _ rfl
 ·have hno:¬ (l.full=true∧l.trap=0):=by
   rintro ⟨_,e⟩
   simp [hf,e] at ht
  exact fin m4 l _ Q4 p4 (by rw [if_neg hno]) rfl rfl _ rfl
 ·have hno:¬ (l.full=true∧l.trap=0):=by
   rintro ⟨e,_⟩
   rw [e] at hf; cases hf
  exact ⟨hf,fin m4 l _ Q4 p4 (by rw [if_neg hno]) rfl rfl _ rfl⟩

def fetchL (code:List Ins) (at_:Int):La :=
 if at_<0∨at_≥code.length then { La0 with full:=true,at_:=at_,trap:=2 }
 else if rightR (code.getD at_.toNat default)=true then { La0 with full:=true,at_:=at_,i:=code.getD at_.toNat default }
 else { La0 with full:=true,at_:=at_,trap:=8 }
def fetchP (code:List Ins) (s:PS) (next:Int):PS:={ s with f:=fetchL code s.at_,at_:=next }

theorem fetch_spec (w0:World) (m:AM) (g:Nat) (code:List Ins) (s:PS) (q:PA) (next:Int) (h:PipR m w0.heap.size g code s q) :
  CallsA Tryz.prog w0 40 #[.pointer (some ⟨g,0,none⟩),.int .i64 next] m (fun r m'=>r=.tuple #[]∧PPost w0.heap.size m g q code (fetchP code s next) m'):=by
 generalize hR:(fun (r:Value) (m':AM)=>r=.tuple #[]∧PPost w0.heap.size m g q code (fetchP code s next) m')=R
 refine cf40 w0 m g next R ?_
 refine ⟨_,h.cells.2.2.1,rfl,?_⟩
 refine new12 fun b m1 hb hm l1 p1=>?_
 have p1:m1 b=some (.cells ({ La0 with full:=true,at_:=s.at_ }:La).vals.toArray 58):=p1
 have Q1:PQ m w0.heap.size g code q q m1 s:=(PQ.of h).le l1
 have fin:∀ (m5:AM) (l':La) (σ:Sg),PQ m w0.heap.size g code q q m5 s→m5 b=some (.cells l'.vals.toArray 58)→fetchL code s.at_=l'→σ 0=.pointer (some ⟨g,0,none⟩)→σ 1=.int .i64 next→σ 4=.pointer (some ⟨b,0,none⟩)→∀ m,m=m5→(vcS Tryz.prog w0 qs40 (sub c40 [1,1]) σ m (retQ Tryz.prog Tryz.f40 R)):=by
  intro m5 l' σ Q5 p5 hs h0 h1 h4 m hm
  subst hm
  refine vk40_11 w0 m σ R g next b h0 h1 h4 ?_
  refine ⟨_,cel p5 rfl,_,cel p5 rfl,_,cel p5 rfl,_,cel p5 rfl,_,cel p5 rfl,_,cel p5 rfl,_,cel p5 rfl,_,cel p5 rfl,_,cel p5 rfl,_,cel p5 rfl,_,cel p5 rfl,_,cel p5 rfl,?_⟩
  refine Q5.put_f l' fun m6 Q6 f6=>?_
  refine Q6.putAt next fun m7 Q7 f7=>retP_of ?_
  rw [← hR]
  unfold fetchP
  rw [hs]
  exact ⟨rfl,Q7.post rfl⟩
 unfold fetchL at fin
 refine ⟨_,Q1.R.cells.2.2.1,rfl,bcI (fun h1=>⟨h1,?_⟩) fun h1=>⟨_,Q1.R.cells.2.2.1,_,_,_,Q1.R.cells.1,rfl,bcI (fun h2=>?_) fun h2=>?_⟩⟩
 ·have h1:=of_decide_eq_true h1
  rw [if_pos (.inl h1)] at fin
  refine Q1.loc { La0 with full:=true,at_:=s.at_,trap:=2 } p1 hb hm rfl (by omega) fun m2 Q2 p2 f2=>?_
  exact fin m2 _ _ Q2 p2 rfl rfl rfl rfl _ rfl
 ·rw [h1] at h2
  have h2:=of_decide_eq_true h2
  rw [if_pos (.inr h2)] at fin
  refine Q1.loc { La0 with full:=true,at_:=s.at_,trap:=2 } p1 hb hm rfl (by omega) fun m2 Q2 p2 f2=>?_
  exact fin m2 _ _ Q2 p2 rfl rfl rfl rfl _ rfl
 ·rw [h1] at h2
  have h1:=of_decide_eq_false h1
  have h2:=of_decide_eq_false h2
  rw [if_neg (show ¬ (s.at_<0∨s.at_≥code.length) from fun h=>h.elim h1 h2)] at fin
  have hlt:s.at_.toNat<code.length:=by omega
  have hd:code.getD s.at_.toNat default=code[s.at_.toNat]:=by simp [List.getD,hlt]
  rw [hd] at fin
  have get:∀ m5,PQ m w0.heap.size g code q q m5 s→∃ ad,q.Ac=some ad∧(m5.cell (ad.add (s.at_.toNat*5))=some (.int .i64 (code[s.at_.toNat]).op)∧m5.cell ((ad.add (s.at_.toNat*5)).add 1)=some (.int .i64 (code[s.at_.toNat]).a)∧m5.cell ((ad.add (s.at_.toNat*5)).add 2)=some (.int .i64 (code[s.at_.toNat]).b)∧m5.cell ((ad.add (s.at_.toNat*5)).add 3)=some (.int .i64 (code[s.at_.toNat]).c)∧m5.cell ((ad.add (s.at_.toNat*5)).add 4)=some (.int .i64 (code[s.at_.toNat]).imm)):=by
   intro m5 Q5
   obtain ⟨ad,ha,hc⟩:=Q5.R.hc.ex (by omega)
   exact ⟨ad,ha,hc.ins (List.getElem?_eq_getElem hlt)⟩
  generalize code[s.at_.toNat]=i at fin get
  obtain ⟨ad,ha,c0,c1,c2,c3,c4⟩:=get m1 Q1
  refine ⟨_,_,_,Q1.R.cells.1,_,Q1.R.cells.2.2.1,⟨by omega,by omega⟩,?_⟩
  rw [ha,nilO_some]
  refine ⟨_,c0,_,c1,_,c2,_,c3,_,c4,?_⟩
  refine CallsA.mono (isaRight w0 m1 i) ?_
  rintro r m2 ⟨rfl,l2⟩
  refine ⟨_,rfl,?_⟩
  have Q2:=Q1.le l2
  have p2:=l2 _ _ p1
  cases hr:rightR i
  ·rw [if_neg (by rw [hr]; exact Bool.false_ne_true)] at fin
   refine bcET rfl ?_
   refine Q2.loc { La0 with full:=true,at_:=s.at_,trap:=8 } p2 hb hm rfl (by omega) fun m3 Q3 p3 f3=>?_
   exact fin m3 _ _ Q3 p3 rfl rfl rfl rfl _ rfl
  ·rw [if_pos hr] at fin
   refine bcEF rfl ?_
   obtain ⟨ad2,ha2,d0,d1,d2,d3,d4⟩:=get m2 Q2
   rw [ha] at ha2; cases ha2
   refine ⟨_,_,_,Q2.R.cells.1,_,Q2.R.cells.2.2.1,⟨by omega,by omega⟩,?_⟩
   rw [ha,nilO_some]
   refine ⟨_,d0,_,d1,_,d2,_,d3,_,d4,?_⟩
   refine Q2.loc { La0 with full:=true,at_:=s.at_,i:=⟨i.op,0,0,0,0⟩ } p2 hb hm rfl (by omega) fun m3 Q3 p3 f3=>?_
   refine Q3.loc { La0 with full:=true,at_:=s.at_,i:=⟨i.op,i.a,0,0,0⟩ } p3 hb hm rfl (by omega) fun m4 Q4 p4 f4=>?_
   refine Q4.loc { La0 with full:=true,at_:=s.at_,i:=⟨i.op,i.a,i.b,0,0⟩ } p4 hb hm rfl (by omega) fun m5 Q5 p5 f5=>?_
   refine Q5.loc { La0 with full:=true,at_:=s.at_,i:=⟨i.op,i.a,i.b,i.c,0⟩ } p5 hb hm rfl (by omega) fun m6 Q6 p6 f6=>?_
   refine Q6.loc { La0 with full:=true,at_:=s.at_,i:=i } p6 hb hm rfl (by omega) fun m7 Q7 p7 f7=>?_
   exact fin m7 _ _ Q7 p7 rfl rfl rfl rfl _ rfl
end Go.Proofs.YtkfemiloehkmhaaGreat.S

