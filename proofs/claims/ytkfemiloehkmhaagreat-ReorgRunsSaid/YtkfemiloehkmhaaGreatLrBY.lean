/- YtkfemiloehkmhaaGreat: a text of our own, by an AI agent: LrBY -/
import Derived.Test.YtkfemiloehkmhaaGreatOeBY
import Derived.Test.YtkfemiloehkmhaaGreatLyBY
import Derived.Test.YtkfemiloehkmhaaGreatVbBY
import Derived.Test.YtkfemiloehkmhaaGreatPlBY
set_option linter.unusedSimpArgs false
set_option linter.unusedVariables false
set_option maxRecDepth 100000
namespace Go.Proofs.YtkfemiloehkmhaaGreat.S
open Go Go.RowKit Go.Alog Go.Proofs.YtkfemiloehkmhaaGreat.T Go.Proofs.YtkfemiloehkmhaaGreat.V

structure LS (m0 m:AM) (B s r:Nat) (cd:List Ins) (pl od:List Int) (kv:List (Int × Value)) (A:Option Addr) (c:Nat) (A1:Option Addr) (c1:Nat) (A2:Option Addr) (c2:Nat) (es:Array MapEntry) (clk:Nat):Prop where
 le:m0.le m
 ps:m s=some (.cells #[.slice A cd.length c,.slice A1 pl.length c1,.map (some r),.slice A2 od.length c2] 42 (0,0))
 oc:Alog.Own m B 36 5 A cd.length c (insCells cd)
 op:Alog.Own m B 3 1 A1 pl.length c1 (intCells .i64 pl)
 oo:Alog.Own m B 3 1 A2 od.length c2 (intCells .i64 od)
 dj:∀ k∈obl A1,k∉obl A2
 pr:m r=some (.map es clk)
 mi:MapI es kv
 hs:B≤s
 hr:B≤r
 ns:m0 s=none
 nr:m0 r=none
 nc:∀ k∈obl A,m0 k=none
 np:∀ k∈obl A1,m0 k=none
 no:∀ k∈obl A2,m0 k=none
def LSx (m0 m:AM) (B s r:Nat) (cd:List Ins) (pl od:List Int) (kv:List (Int × Value)):Prop:=∃ A c A1 c1 A2 c2 es clk,LS m0 m B s r cd pl od kv A c A1 c1 A2 c2 es clk

theorem obl_some' {m:AM} {B:Nat} {e:TypeId} {sz:Nat} {A:Option Addr} {n cp:Nat} {xs:List Value} (h:Alog.Own m B e sz A n cp xs) {k:Nat} (hk:k∈obl A):m k≠none:=fun e=>by
 obtain ⟨_,cur,h1⟩:=h.obl_some hk
 rw [e] at h1; cases h1

theorem LS.grow {m0 m m':AM} {B s r:Nat} {cd:List Ins} {pl od:List Int} {kv:List (Int × Value)} {A:Option Addr} {c:Nat} {A1:Option Addr} {c1:Nat} {A2:Option Addr} {c2:Nat} {es:Array MapEntry} {clk:Nat} (h:LS m0 m B s r cd pl od kv A c A1 c1 A2 c2 es clk) (l:m.le m') :
  ∃ m2,m0.le m2∧LS m2 m' B s r cd pl od kv A c A1 c1 A2 c2 es clk∧∀ k,m k=none→m2 k=m' k:=by
 obtain ⟨hle,ps,oc,op,oo,dj,pr,mi,hs,hr,ns,nr,nc,np,no⟩:=h
 refine ⟨fun k=>match m k with | none=>m' k | some _=>m0 k,?_,⟨?_,l _ _ ps,oc.le l,op.le l,oo.le l,dj,l _ _ pr,mi,hs,hr,?_,?_,?_,?_,?_⟩,?_⟩
 ·intro k o hk
  show (match m k with | none=>m' k | some _=>m0 k)=some o
  rw [hle k o hk]; exact hk
 ·intro k o hk
  have hk:(match m k with | none=>m' k | some _=>m0 k)=some o:=hk
  cases hm:m k with
  | none=>rw [hm] at hk; exact hk
  | some o2=>rw [hm] at hk; exact l _ _ (hle k o hk)
 ·show (match m s with | none=>m' s | some _=>m0 s)=none
  rw [ps]; exact ns
 ·show (match m r with | none=>m' r | some _=>m0 r)=none
  rw [pr]; exact nr
 ·intro k hk
  show (match m k with | none=>m' k | some _=>m0 k)=none
  cases hm:m k with
  | none=>exact absurd hm (obl_some' oc hk)
  | some o2=>exact nc k hk
 ·intro k hk
  show (match m k with | none=>m' k | some _=>m0 k)=none
  cases hm:m k with
  | none=>exact absurd hm (obl_some' op hk)
  | some o2=>exact np k hk
 ·intro k hk
  show (match m k with | none=>m' k | some _=>m0 k)=none
  cases hm:m k with
  | none=>exact absurd hm (obl_some' oo hk)
  | some o2=>exact no k hk
 ·intro k hk
  show (match m k with | none=>m' k | some _=>m0 k)=m' k
  rw [hk]
theorem LSx.grow {m0 m m':AM} {B s r:Nat} {cd:List Ins} {pl od:List Int} {kv:List (Int × Value)} (h:LSx m0 m B s r cd pl od kv) (l:m.le m') :
  ∃ m2,m0.le m2∧LSx m2 m' B s r cd pl od kv∧∀ k,m k=none→m2 k=m' k:=by
 obtain ⟨A,c,A1,c1,A2,c2,es,clk,h⟩:=h
 obtain ⟨m2,a,b,d⟩:=h.grow l
 exact ⟨m2,a,⟨A,c,A1,c1,A2,c2,es,clk,b⟩,d⟩
theorem LSx.le {m0 m:AM} {B s r:Nat} {cd:List Ins} {pl od:List Int} {kv:List (Int × Value)} (h:LSx m0 m B s r cd pl od kv):m0.le m:=by
 obtain ⟨A,c,A1,c1,A2,c2,es,clk,h⟩:=h
 exact h.le
theorem LSx.base {m0 m1 m:AM} {B s r:Nat} {cd:List Ins} {pl od:List Int} {kv:List (Int × Value)} (h:LSx m1 m B s r cd pl od kv) (l:m0.le m1):LSx m0 m B s r cd pl od kv:=by
 obtain ⟨A,c,A1,c1,A2,c2,es,clk,hle,ps,oc,op,oo,dj,pr,mi,hs,hr,ns,nr,nc,np,no⟩:=h
 exact ⟨A,c,A1,c1,A2,c2,es,clk,AM.le_trans l hle,ps,oc,op,oo,dj,pr,mi,hs,hr,AM.le_none l ns,AM.le_none l nr,fun k hk=>AM.le_none l (nc k hk),fun k hk=>AM.le_none l (np k hk),fun k hk=>AM.le_none l (no k hk)⟩

theorem uMap:Tryz.prog.underlying 40=some (.map 3 3):=by kernel_rfl
theorem uInt:Tryz.prog.underlying 3=some (.int .i64):=by kernel_rfl
theorem zInt:pval Tryz.prog (zeroValue 3)=some (.int .i64 0):=by kernel_rfl

theorem mem_obl {A:Option Addr} {g:Nat} {k:Nat} (hA:A=some ⟨g,0,none⟩):k∈obl A↔k=g:=by
 subst hA; simp [obl]

theorem LS.pushP {m0 m:AM} {B s r:Nat} {cd:List Ins} {pl od:List Int} {kv:List (Int × Value)} {A:Option Addr} {c:Nat} {A1:Option Addr} {c1:Nat} {A2:Option Addr} {c2:Nat} {es:Array MapEntry} {clk:Nat} (h:LS m0 m B s r cd pl od kv A c A1 c1 A2 c2 es clk) (x:Int) (hl:pl.length≤100000) {Q:AM→Prop}
  (hQ:∀ m',LSx m0 m' B s r cd (pl ++ [x]) od kv→Q m') :
  ∀ b:Nat,B≤b→m b=none→let m13:=AM.upd m b (.cells #[.int .i64 x] 3);
  awp Tryz.prog B (Builtin.append_ #[23,23] 23 #[.slice A1 pl.length c1,.slice (some ⟨b,0,none⟩) 1 1]) m13 fun v14 m15 =>
  ∃ (A16:Option Addr) (n17 c18:Nat),v14=.slice A16 n17 c18∧StC B m15 ⟨s,1,none⟩ (.slice A16 n17 c18) Q:=by
 intro b hb hn
 obtain ⟨hle,ps,oc,op,oo,dj,pr,mi,hs,hr,ns,nr,nc,np,no⟩:=h
 have hsb:s≠b:=fun e=>by rw [e,hn] at ps; cases ps
 have hrb:r≠b:=fun e=>by rw [e,hn] at pr; cases pr
 have hrs:r≠s:=fun e=>by rw [e,ps] at pr; cases pr
 have nb0:m0 b=none:=AM.le_none hle hn
 refine awp_append_field el30' (op.upd (op.ne_none hn)) (A2:=some ⟨b,0,none⟩) (k:=1) (news:=[.int .i64 x]) (Reads.lit rfl) (by simp [Value.oneCell']) (by omega) (by omega) (by omega) (g:=s) (C:=#[.slice A cd.length c,.slice A1 pl.length c1,.map (some r),.slice A2 od.length c2]) (T:=42) (by rw [upd_get_ne hsb]; exact ps) hs (by decide) (j:=1) (by simp) ?_
 intro g2 cp' cur hor hB2 hsg hown
 have ho2:g2∈obl A1∨m g2=none:=by
  rcases hor with h | h
  ·exact .inl ((mem_obl h).2 rfl)
  ·by_cases e:g2=b
   ·right; rw [e]; exact hn
   ·right; rwa [upd_get_ne e] at h
 have ng0:m0 g2=none:=by
  rcases ho2 with h | h
  ·exact np g2 h
  ·exact AM.le_none hle h
 have hrg:r≠g2:=fun e=>by
  rcases ho2 with h | h
  ·obtain ⟨_,cur',h1⟩:=op.obl_some h
   rw [← e,pr] at h1; cases h1
  ·rw [← e,pr] at h; cases h
 have hAg:∀ k∈obl A,k≠g2∧k≠b∧k≠s:=fun k hk=>by
  obtain ⟨_,cur',h1⟩:=oc.obl_some hk
  refine ⟨fun e=>?_,fun e=>?_,fun e=>?_⟩
  ·rcases ho2 with h | h
   ·obtain ⟨_,cur2,h2⟩:=op.obl_some h
    rw [← e,h1] at h2
    injection h2 with h2
    injection h2 with _ h2
    exact absurd h2 (by decide)
   ·rw [← e,h1] at h; cases h
  ·rw [e,hn] at h1; cases h1
  ·rw [e,ps] at h1
   injection h1 with h1
   injection h1 with _ h1
   exact absurd h1 (by decide)
 have h2g:∀ k∈obl A2,k≠g2∧k≠b∧k≠s:=fun k hk=>by
  obtain ⟨_,cur',h1⟩:=oo.obl_some hk
  refine ⟨fun e=>?_,fun e=>?_,fun e=>?_⟩
  ·rcases ho2 with h | h
   ·exact dj g2 h (e ▸ hk)
   ·rw [← e,h1] at h; cases h
  ·rw [e,hn] at h1; cases h1
  ·rw [e,ps] at h1
   injection h1 with h1
   injection h1 with _ h1
   exact absurd h1 (by decide)
 refine hQ _ ⟨A,c,some ⟨g2,0,none⟩,cp',A2,c2,es,clk,?_,?_,?_,?_,?_,?_,?_,mi,hs,hr,ns,nr,nc,?_,no⟩
 ·intro k o hk
  have e1:k≠s:=fun e=>by rw [e,ns] at hk; cases hk
  have e2:k≠g2:=fun e=>by rw [e,ng0] at hk; cases hk
  have e3:k≠b:=fun e=>by rw [e,nb0] at hk; cases hk
  rw [upd_get_ne e1,upd_get_ne e2,upd_get_ne e3]; exact hle k o hk
 ·rw [upd_get_same]; simp
 ·refine oc.keep fun g hg=>?_
  have hgo:=hAg g ((mem_obl hg).2 rfl)
  rw [upd_get_ne hgo.2.2,upd_get_ne hgo.1,upd_get_ne hgo.2.1]
 ·simpa [intCells] using hown
 ·refine oo.keep fun g hg=>?_
  have hgo:=h2g g ((mem_obl hg).2 rfl)
  rw [upd_get_ne hgo.2.2,upd_get_ne hgo.1,upd_get_ne hgo.2.1]
 ·intro k hk hk2
  simp [obl] at hk
  subst hk
  exact (h2g _ hk2).1 rfl
 ·rw [upd_get_ne hrs,upd_get_ne hrg,upd_get_ne hrb]; exact pr
 ·intro k hk
  simp [obl] at hk; subst hk; exact ng0

theorem LS.pushO {m0 m:AM} {B s r:Nat} {cd:List Ins} {pl od:List Int} {kv:List (Int × Value)} {A:Option Addr} {c:Nat} {A1:Option Addr} {c1:Nat} {A2:Option Addr} {c2:Nat} {es:Array MapEntry} {clk:Nat} (h:LS m0 m B s r cd pl od kv A c A1 c1 A2 c2 es clk) (x:Int) (hl:od.length≤100000) {Q:AM→Prop}
  (hQ:∀ m',LSx m0 m' B s r cd pl (od ++ [x]) kv→Q m') :
  ∀ b:Nat,B≤b→m b=none→let m13:=AM.upd m b (.cells #[.int .i64 x] 3);
  awp Tryz.prog B (Builtin.append_ #[23,23] 23 #[.slice A2 od.length c2,.slice (some ⟨b,0,none⟩) 1 1]) m13 fun v14 m15 =>
  ∃ (A16:Option Addr) (n17 c18:Nat),v14=.slice A16 n17 c18∧StC B m15 ⟨s,3,none⟩ (.slice A16 n17 c18) Q:=by
 intro b hb hn
 obtain ⟨hle,ps,oc,op,oo,dj,pr,mi,hs,hr,ns,nr,nc,np,no⟩:=h
 have hsb:s≠b:=fun e=>by rw [e,hn] at ps; cases ps
 have hrb:r≠b:=fun e=>by rw [e,hn] at pr; cases pr
 have hrs:r≠s:=fun e=>by rw [e,ps] at pr; cases pr
 have nb0:m0 b=none:=AM.le_none hle hn
 refine awp_append_field el30' (oo.upd (oo.ne_none hn)) (A2:=some ⟨b,0,none⟩) (k:=1) (news:=[.int .i64 x]) (Reads.lit rfl) (by simp [Value.oneCell']) (by omega) (by omega) (by omega) (g:=s) (C:=#[.slice A cd.length c,.slice A1 pl.length c1,.map (some r),.slice A2 od.length c2]) (T:=42) (by rw [upd_get_ne hsb]; exact ps) hs (by decide) (j:=3) (by simp) ?_
 intro g2 cp' cur hor hB2 hsg hown
 have ho2:g2∈obl A2∨m g2=none:=by
  rcases hor with h | h
  ·exact .inl ((mem_obl h).2 rfl)
  ·by_cases e:g2=b
   ·right; rw [e]; exact hn
   ·right; rwa [upd_get_ne e] at h
 have ng0:m0 g2=none:=by
  rcases ho2 with h | h
  ·exact no g2 h
  ·exact AM.le_none hle h
 have hrg:r≠g2:=fun e=>by
  rcases ho2 with h | h
  ·obtain ⟨_,cur',h1⟩:=oo.obl_some h
   rw [← e,pr] at h1; cases h1
  ·rw [← e,pr] at h; cases h
 have hAg:∀ k∈obl A,k≠g2∧k≠b∧k≠s:=fun k hk=>by
  obtain ⟨_,cur',h1⟩:=oc.obl_some hk
  refine ⟨fun e=>?_,fun e=>?_,fun e=>?_⟩
  ·rcases ho2 with h | h
   ·obtain ⟨_,cur2,h2⟩:=oo.obl_some h
    rw [← e,h1] at h2
    injection h2 with h2
    injection h2 with _ h2
    exact absurd h2 (by decide)
   ·rw [← e,h1] at h; cases h
  ·rw [e,hn] at h1; cases h1
  ·rw [e,ps] at h1
   injection h1 with h1
   injection h1 with _ h1
   exact absurd h1 (by decide)
 have h2g:∀ k∈obl A1,k≠g2∧k≠b∧k≠s:=fun k hk=>by
  obtain ⟨_,cur',h1⟩:=op.obl_some hk
  refine ⟨fun e=>?_,fun e=>?_,fun e=>?_⟩
  ·rcases ho2 with h | h
   ·exact dj k hk (e ▸ h)
   ·rw [← e,h1] at h; cases h
  ·rw [e,hn] at h1; cases h1
  ·rw [e,ps] at h1
   injection h1 with h1
   injection h1 with _ h1
   exact absurd h1 (by decide)
 refine hQ _ ⟨A,c,A1,c1,some ⟨g2,0,none⟩,cp',es,clk,?_,?_,?_,?_,?_,?_,?_,mi,hs,hr,ns,nr,nc,np,?_⟩
 ·intro k o hk
  have e1:k≠s:=fun e=>by rw [e,ns] at hk; cases hk
  have e2:k≠g2:=fun e=>by rw [e,ng0] at hk; cases hk
  have e3:k≠b:=fun e=>by rw [e,nb0] at hk; cases hk
  rw [upd_get_ne e1,upd_get_ne e2,upd_get_ne e3]; exact hle k o hk
 ·rw [upd_get_same]; simp
 ·refine oc.keep fun g hg=>?_
  have hgo:=hAg g ((mem_obl hg).2 rfl)
  rw [upd_get_ne hgo.2.2,upd_get_ne hgo.1,upd_get_ne hgo.2.1]
 ·refine op.keep fun g hg=>?_
  have hgo:=h2g g ((mem_obl hg).2 rfl)
  rw [upd_get_ne hgo.2.2,upd_get_ne hgo.1,upd_get_ne hgo.2.1]
 ·simpa [intCells] using hown
 ·intro k hk hk2
  simp [obl] at hk2
  subst hk2
  exact (h2g _ hk).1 rfl
 ·rw [upd_get_ne hrs,upd_get_ne hrg,upd_get_ne hrb]; exact pr
 ·intro k hk
  simp [obl] at hk; subst hk; exact ng0

theorem LS.pushC {m0 m:AM} {B s r:Nat} {cd:List Ins} {pl od:List Int} {kv:List (Int × Value)} {A:Option Addr} {c:Nat} {A1:Option Addr} {c1:Nat} {A2:Option Addr} {c2:Nat} {es:Array MapEntry} {clk:Nat} (h:LS m0 m B s r cd pl od kv A c A1 c1 A2 c2 es clk) {x:List Ins} {A3:Option Addr} {c3:Nat} (hx:Reads m 5 A3 x.length (insCells x)) (hpos:0<cd.length+x.length) (hl:cd.length+x.length≤100000) {Q:AM→Prop}
  (hQ:∀ m',LSx m0 m' B s r (cd ++ x) pl od kv→Q m') :
  awp Tryz.prog B (Builtin.append_ #[22,22] 22 #[.slice A cd.length c,.slice A3 x.length c3]) m fun v14 m15 =>
  ∃ (A16:Option Addr) (n17 c18:Nat),v14=.slice A16 n17 c18∧StC B m15 ⟨s,0,none⟩ (.slice A16 n17 c18) Q:=by
 obtain ⟨hle,ps,oc,op,oo,dj,pr,mi,hs,hr,ns,nr,nc,np,no⟩:=h
 have hrs:r≠s:=fun e=>by rw [e,ps] at pr; cases pr
 refine awp_append_field elIns oc (A2:=A3) (k:=x.length) (news:=insCells x) hx (insCells_one x) (by omega) (by omega) hpos (g:=s) (C:=#[.slice A cd.length c,.slice A1 pl.length c1,.map (some r),.slice A2 od.length c2]) (T:=42) ps hs (by decide) (j:=0) (by simp) ?_
 intro g2 cp' cur ho hB2 hsg hown
 have ho2:g2∈obl A∨m g2=none:=by
  rcases ho with h | h
  ·exact .inl ((mem_obl h).2 rfl)
  ·exact .inr h
 have ng0:m0 g2=none:=by
  rcases ho2 with h | h
  ·exact nc g2 h
  ·exact AM.le_none hle h
 have hrg:r≠g2:=fun e=>by
  rcases ho2 with h | h
  ·obtain ⟨_,cur',h1⟩:=oc.obl_some h
   rw [← e,pr] at h1; cases h1
  ·rw [← e,pr] at h; cases h
 have hint:∀ {A':Option Addr} {n c':Nat} {xs:List Value},Alog.Own m B 3 1 A' n c' xs→∀ k∈obl A',k≠g2∧k≠s:=fun {A' n c' xs} o k hk=>by
  obtain ⟨_,cur',h1⟩:=o.obl_some hk
  refine ⟨fun e=>?_,fun e=>?_⟩
  ·rcases ho2 with h | h
   ·obtain ⟨_,cur2,h2⟩:=oc.obl_some h
    rw [← e,h1] at h2
    injection h2 with h2
    injection h2 with _ h2
    exact absurd h2 (by decide)
   ·rw [← e,h1] at h; cases h
  ·rw [e,ps] at h1
   injection h1 with h1
   injection h1 with _ h1
   exact absurd h1 (by decide)
 refine hQ _ ⟨some ⟨g2,0,none⟩,cp',A1,c1,A2,c2,es,clk,?_,?_,?_,?_,?_,dj,?_,mi,hs,hr,ns,nr,?_,np,no⟩
 ·intro k o hk
  have e1:k≠s:=fun e=>by rw [e,ns] at hk; cases hk
  have e2:k≠g2:=fun e=>by rw [e,ng0] at hk; cases hk
  rw [upd_get_ne e1,upd_get_ne e2]; exact hle k o hk
 ·rw [upd_get_same,List.length_append]; simp
 ·rw [List.length_append,show insCells (cd ++ x)=insCells cd ++ insCells x by simp [insCells]]; exact hown
 ·refine op.keep fun g hg=>?_
  have hgo:=hint op g ((mem_obl hg).2 rfl)
  rw [upd_get_ne hgo.2,upd_get_ne hgo.1]
 ·refine oo.keep fun g hg=>?_
  have hgo:=hint oo g ((mem_obl hg).2 rfl)
  rw [upd_get_ne hgo.2,upd_get_ne hgo.1]
 ·rw [upd_get_ne hrs,upd_get_ne hrg]; exact pr
 ·intro k hk
  simp [obl] at hk; subst hk; exact ng0

theorem head_spec (w0:World) {m0 m:AM} {s r:Nat} {cd:List Ins} {pl od:List Int} {kv:List (Int × Value)} (h:LSx m0 m w0.heap.size s r cd pl od kv) (x:Int) (hx:x∉kv.map (·.1)) (hl:pl.length≤100000) {R:Value→AM→Prop}
  (hR:∀ m',LSx m0 m' w0.heap.size s r cd (pl ++ [(cd.length:Int)]) od (kv ++ [(x,.int .i64 cd.length)])→R (.tuple #[]) m') :
  CallsA Tryz.prog w0 25 #[.int .i64 x,.pointer (some ⟨s,0,none⟩)] m R:=by
 obtain ⟨A,c,A1,c1,A2,c2,es,clk,h⟩:=h
 obtain ⟨hle,ps,oc,op,oo,dj,pr,mi,hs,hr,ns,nr,nc,np,no⟩:=h
 refine cf25 w0 m x s R ⟨_,cel ps rfl,_,_,_,cel ps rfl,?_⟩
 refine mapUpdate_new uMap uInt hr pr mi (findI_none hx 0) fun es' clk' hes=>?_
 have hrs:r≠s:=fun e=>by rw [e,ps] at pr; cases pr
 have hne:∀ {e:TypeId} {sz:Nat} {A':Option Addr} {n c':Nat} {xs:List Value},Alog.Own m w0.heap.size e sz A' n c' xs→∀ g,A'=some ⟨g,0,none⟩→(m.upd r (.map es' clk')) g=m g:=fun {e sz A' n c' xs} o g hg=>by
  refine upd_get_ne fun e=>?_
  obtain ⟨_,cur',h1⟩:=o.obl_some ((mem_obl hg).2 rfl)
  rw [e,pr] at h1; cases h1
 have hS:LS m0 (m.upd r (.map es' clk')) w0.heap.size s r cd pl od (kv ++ [(x,.int .i64 cd.length)]) A c A1 c1 A2 c2 es' clk':=by
  refine ⟨le_upd_fresh hle nr,by rw [upd_get_ne hrs.symm]; exact ps,oc.keep (hne oc),op.keep (hne op),oo.keep (hne oo),dj,upd_get_same,hes,hs,hr,ns,nr,nc,np,no⟩
 generalize m.upd r (.map es' clk')=m5 at hS
 refine ⟨_,_,_,cel hS.ps rfl,_,_,_,cel hS.ps rfl,rfl,?_⟩
 refine hS.pushP (cd.length:Int) hl (Q:=fun m19=>RetP R (.tuple #[]) m19) fun m' h'=>?_
 exact retP_of (hR m' h')
end Go.Proofs.YtkfemiloehkmhaaGreat.S

set_option linter.unusedSimpArgs false
set_option linter.unusedVariables false
set_option maxRecDepth 100000
namespace Go.Proofs.YtkfemiloehkmhaaGreat.S
open Go Go.RowKit Go.Alog

def mB (code:List Ins):Nat:=(hsUp code code.length).length
def nx (code:List Ins) (j:Nat):Int:=nxt code code.length j
def blkI (code:List Ins) (j:Nat):List Ins:=(code.drop (nx code j).toNat).take ((nx code (j+1)).toNat-(nx code j).toNat)
def layB (l:List Ins):List Ins:=pickP l (layP l)
def outU (code:List Ins):Nat→List Ins
 | 0=>[]
 | j+1=>outU code j ++ layB (blkI code j)
def oldB (code:List Ins) (j:Nat):List Int:=(layP (blkI code j)).map (fun x=>if 0≤x then nx code j+x else -1)
def oldU (code:List Ins):Nat→List Int
 | 0=>[]
 | j+1=>oldU code j ++ oldB code j
def plU (code:List Ins) (j:Nat):List Int:=(List.range j).map (fun q=>((outU code q).length:Int))
def kvU (code:List Ins) (j:Nat):List (Int × Value):=(List.range j).map (fun q=>(nx code q,Value.int .i64 (outU code q).length))
theorem nx_in {code:List Ins} {j:Nat} (h:j<mB code):0≤nx code j∧nx code j<nx code (j+1)∧nx code (j+1)≤code.length:=nxt_lt code code.length j h
theorem nx_0 (code:List Ins):nx code 0=0:=nxt_0 code code.length
theorem nx_end (code:List Ins):nx code (mB code)=code.length:=nxt_end code code.length _ (Nat.le_refl _)
theorem nx_mono {code:List Ins}:∀ {i j:Nat},i<j→j≤mB code→nx code i<nx code j:=by
 intro i j hij
 induction j with
 | zero=>omega
 | succ j ih =>
  intro hj
  have h1:=(nx_in (code:=code) (j:=j) (by omega)).2.1
  by_cases e:i=j
  ·rw [e]; exact h1
  ·have:=ih (by omega) (by omega); omega
theorem mB_le (code:List Ins):mB code≤code.length:=by
 unfold mB hsUp
 exact Nat.le_trans (List.length_filter_le _ _) (by simp)
theorem blkI_len {code:List Ins} {j:Nat} (h:j<mB code):((blkI code j).length:Int)=nx code (j+1)-nx code j:=by
 have:=nx_in h
 unfold blkI
 rw [List.length_take,List.length_drop]
 omega
theorem blkI_at {code:List Ins} {j:Nat} (h:j<mB code) {x:Int} (h0:0≤x) (h1:x<(blkI code j).length):cAt (blkI code j) x=cAt code (nx code j+x):=by
 have h2:=nx_in h
 have h3:=blkI_len h
 unfold cAt blkI
 rw [show (nx code j+x).toNat=(nx code j).toNat+x.toNat by omega]
 simp only [List.getD]
 rw [List.getElem?_take,if_pos (by omega),List.getElem?_drop]
theorem layB_len (l:List Ins):(layB l).length=(layP l).length:=pickP_len _ _
theorem outU_len {code:List Ins}:∀ {j:Nat},j≤mB code→((outU code j).length:Int)≤2*nx code j+j:=by
 intro j
 induction j with
 | zero=>intro _; simp [outU,nx_0]
 | succ j ih =>
  intro h
  have h1:=ih (by omega)
  have h2:=blkI_len (code:=code) (j:=j) (by omega)
  have h3:=layP_len (blkI code j)
  unfold outU
  rw [List.length_append,layB_len]
  omega
theorem outU_le {code:List Ins} {j:Nat} (h:j≤mB code):(outU code j).length≤3*code.length:=by
 have h1:=outU_len h
 have h2:=mB_le code
 have h3:nx code j≤code.length:=by
  by_cases e:j<mB code
  ·have:=nx_in e; omega
  ·rw [show j=mB code by omega,nx_end]; omega
 omega
theorem oldU_len {code:List Ins} (j:Nat):(oldU code j).length=(outU code j).length:=by
 induction j with
 | zero=>rfl
 | succ j ih =>
  unfold oldU outU
  rw [List.length_append,List.length_append,ih,layB_len]
  simp [oldB]
theorem plU_len (code:List Ins) (j:Nat):(plU code j).length=j:=by simp [plU]
theorem plU_succ (code:List Ins) (j:Nat):plU code (j+1)=plU code j ++ [((outU code j).length:Int)]:=by unfold plU; rw [List.range_succ,List.map_append]; rfl
theorem kvU_succ (code:List Ins) (j:Nat):kvU code (j+1)=kvU code j ++ [(nx code j,Value.int .i64 (outU code j).length)]:=by unfold kvU; rw [List.range_succ,List.map_append]; rfl
theorem kvU_new {code:List Ins} {j:Nat} (h:j≤mB code):nx code j∉(kvU code j).map (·.1):=by
 intro hm
 unfold kvU at hm
 rw [List.map_map,List.mem_map] at hm
 obtain ⟨q,hq,e⟩:=hm
 rw [List.mem_range] at hq
 have:=nx_mono (code:=code) hq h
 simp at e; omega
theorem findI_kv {code:List Ins}:∀ {n q:Nat},q<n→n≤mB code+1→∃ j,findI (nx code q) (kvU code n) 0=some (j,Value.int .i64 (outU code q).length):=by
 intro n q hq hn
 have key:∀ (l:List Nat) (i:Nat),q∈l→(∀ x∈l,nx code x=nx code q→x=q)→∃ j,findI (nx code q) (l.map (fun q=>(nx code q,Value.int .i64 (outU code q).length))) i=some (j,Value.int .i64 (outU code q).length):=by
  intro l
  induction l with
  | nil=>intro i h; cases h
  | cons a l ih =>
   intro i h hu
   rw [List.map_cons]
   unfold findI
   by_cases e:nx code q=nx code a
   ·have:=hu a (by simp) e.symm
    subst this
    exact ⟨i,by simp⟩
   ·rw [if_neg (by simpa using e)]
    rcases List.mem_cons.1 h with h | h
    ·rw [h] at e; exact absurd rfl e
    ·exact ih (i+1) h fun x hx=>hu x (List.mem_cons_of_mem _ hx)
 refine key _ 0 (List.mem_range.2 hq) fun x hx e=>?_
 have hx:=List.mem_range.1 hx
 rcases Nat.lt_trichotomy x q with h | h | h
 ·have:=nx_mono (code:=code) h (by omega); omega
 ·exact h
 ·have:=nx_mono (code:=code) h (by omega); omega
end Go.Proofs.YtkfemiloehkmhaaGreat.S

set_option linter.unusedSimpArgs false
set_option linter.unusedVariables false
set_option maxRecDepth 100000
namespace Go.Proofs.YtkfemiloehkmhaaGreat.S
open Go Go.RowKit Go.Alog Go.Proofs.YtkfemiloehkmhaaGreat.T Go.Proofs.YtkfemiloehkmhaaGreat.V

structure LayR (m0 m:AM) (B:Nat) (cd:List Ins) (pl od:List Int) (kv:List (Int × Value)) (A:Option Addr) (c:Nat) (A1:Option Addr) (c1:Nat) (q:Nat) (A2:Option Addr) (c2:Nat):Prop where
 le:m0.le m
 oc:Alog.Own m B 36 5 A cd.length c (insCells cd)
 op:Alog.Own m B 3 1 A1 pl.length c1 (intCells .i64 pl)
 oo:Alog.Own m B 3 1 A2 od.length c2 (intCells .i64 od)
 pr:∃ es clk,m q=some (.map es clk)∧MapI es kv
 nc:∀ k∈obl A,m0 k=none
 np:∀ k∈obl A1,m0 k=none

theorem reoLay_spec (w0:World) (m:AM) (A0:Option Addr) (c0:Nat) (code:List Ins) (hl:code.length≤4096) (hc0:code.length≤c0) (rd0:Reads m 5 A0 code.length (insCells code)) (hf:fitP code=true) :
  CallsA Tryz.prog w0 15 #[.slice A0 code.length c0] m (fun v m'=>∃ A c A1 c1 q A2 c2,v=.agg #[.slice A (outU code (mB code)).length c,.slice A1 (plU code (mB code+1)).length c1,.map (some q),.slice A2 (oldU code (mB code)).length c2]∧LayR m m' w0.heap.size (outU code (mB code)) (plU code (mB code+1)) (oldU code (mB code)) (kvU code (mB code+1)) A c A1 c1 q A2 c2):=by
 generalize hR:(fun (v:Value) (m':AM)=>∃ A c A1 c1 q A2 c2,v=.agg #[.slice A (outU code (mB code)).length c,.slice A1 (plU code (mB code+1)).length c1,.map (some q),.slice A2 (oldU code (mB code)).length c2]∧LayR m m' w0.heap.size (outU code (mB code)) (plU code (mB code+1)) (oldU code (mB code)) (kvU code (mB code+1)) A c A1 c1 q A2 c2)=R
 refine cf15 w0 m A0 code.length c0 R ?_
 intro b1 hb1 hn1
 have l1:=le_new hn1 (.cells #[.slice none 0 0,.slice none 0 0,.map none,.slice none 0 0] 42)
 have p1:(m.upd b1 (.cells #[.slice none 0 0,.slice none 0 0,.map none,.slice none 0 0] 42)) b1=some (.cells #[.slice none 0 0,.slice none 0 0,.map none,.slice none 0 0] 42 (0,0)):=upd_get_same
 try dsimp only
 generalize m.upd b1 (.cells #[.slice none 0 0,.slice none 0 0,.map none,.slice none 0 0] 42)=m2 at l1 p1 ⊢
 intro b3 hb3 hn3
 have l3:=le_new hn3 (.map #[] 0)
 have p3:(m2.upd b3 (.map #[] 0)) b3=some (.map #[] 0):=upd_get_same
 try dsimp only
 generalize m2.upd b3 (.map #[] 0)=m4 at l3 p3 ⊢
 refine ⟨rfl,blk4 fun b5 M l5 hn5 hb5 p5=>?_⟩
 have hn52:=AM.le_none l3 hn5
 have hS:LS m2 M w0.heap.size b5 b3 [] [] [] [] none 0 none 0 none 0 #[] 0:=⟨AM.le_trans l3 l5,p5,Alog.Own.nil _ _ _ _,Alog.Own.nil _ _ _ _,Alog.Own.nil _ _ _ _,by simp [obl],l5 _ _ p3,rfl,hb5,hb3,hn52,hn3,by simp [obl],by simp [obl],by simp [obl]⟩
 have rdM:=(rd0.le l1).le hS.le
 refine CallsA.mono (blocks_spec w0 M A0 c0 code (by omega) rdM) ?_
 rintro r m15 ⟨⟨A11,c13,rfl,o11,n11⟩,l15⟩
 obtain ⟨mb,lb,hS,hg⟩:=hS.grow l15
 replace o11:=o11.keep (m':=mb) fun g hA=>hg g (n11 g ((mem_obl hA).2 rfl))
 rw [headsP_up hf] at o11 ⊢
 have hbl:=blkP_len (hsUp code code.length) code.length
 have hmB:(hsUp code code.length).length=mB code:=rfl
 have hmBle:=mB_le code
 have p1b:=lb _ _ p1
 have lmb:=AM.le_trans l1 lb
 have rdb:=rd0.le lmb
 have b1s:b1≠b5:=fun e=>by rw [e,hn52] at p1; cases p1
 clear p5 p3 hg n11 rdM
 refine ⟨_,_,_,rfl,?_⟩
 refine vl15_111010 w0 m15 _ R A0 code.length c0 b1 b5 b5 A11 (blkP (hsUp code code.length) code.length).length c13 (blkP (hsUp code code.length) code.length).length 0
  (fun q k m'=>LSx mb m' w0.heap.size b5 b3 (outU code k.toNat) (plU code k.toNat) (oldU code k.toNat) (kvU code k.toNat)∧0≤k∧k≤mB code∧(q:Int)=mB code-k)
  (fun m'=>LSx mb m' w0.heap.size b5 b3 (outU code (mB code)) (plU code (mB code)) (oldU code (mB code)) (kvU code (mB code))) (mB code) rfl rfl rfl rfl rfl rfl rfl ⟨⟨_,_,_,_,_,_,_,_,hS⟩,by omega,by omega,by omega⟩ ?_ ?_
 ·rintro q σ k m' ⟨hI,k0,k1,hq⟩
  refine ⟨rfl,bcP (fun hlt=>?_) (fun hlt=>?_)⟩
  ·have hkn:k.toNat<mB code:=by omega
   have wk:IntKind.wrap .i64 (k+1)=k+1:=wrap_s (by omega) (by omega)
   have ek:(k+1).toNat=k.toNat+1:=by omega
   have hnx:=nx_in hkn
   have hbk:=blkI_len hkn
   refine ⟨⟨k0,hlt⟩,?_⟩
   obtain ⟨ad,hA,hc⟩:=o11.ex (by omega)
   subst hA
   rw [nilO_some]
   have b9:=cell_blk hc (i:=k) k0 (by omega)
   rw [blkP_get _ _ (by omega),blkAt_nxt _ _ _ (by omega)] at b9
   refine ⟨_,AM.le_cell hI.le b9.1,_,AM.le_cell hI.le b9.2,blk2 fun b19 M2 l2 n19 hb19 p19=>?_⟩
   obtain ⟨mb2,lb2,hI2,hg2⟩:=hI.grow l2
   have p19b:mb2 b19=some (.cells #[.int .i64 (nx code k.toNat),.int .i64 (nx code (k.toNat+1))] 65):=by rw [hg2 b19 n19]; exact p19
   refine ⟨_,cel p19 rfl,?_⟩
   refine head_spec w0 hI2 (nx code k.toNat) (kvU_new (by omega)) (by rw [plU_len]; have:=mB_le code; omega) fun m25 hI3=>⟨rfl,?_⟩
   rw [← plU_succ,← kvU_succ,← ek] at hI3
   have p25:=hI3.le _ _ p19b
   refine ⟨_,cel p25 rfl,_,cel p25 rfl,by omega,hnx.1,by omega,by omega,?_⟩
   have rds:=(((rdb.le lb2).le hI3.le)).insSlice (nx code k.toNat).toNat (nx code (k.toNat+1)).toNat (by omega) (by omega) hc0
   have ebl:(nx code (k.toNat+1)).toNat-(nx code k.toNat).toNat=(blkI code k.toNat).length:=by omega
   change Reads m25 5 _ ((nx code (k.toNat+1)).toNat-(nx code k.toNat).toNat) (insCells (blkI code k.toNat)) at rds
   rw [ebl] at rds ⊢
   refine CallsA.mono (lay_spec w0 m25 _ _ (blkI code k.toNat) (by omega) (by omega) rds) ?_
   rintro r m32 ⟨⟨A28,c30,rfl,o28,n28⟩,l32⟩
   obtain ⟨mb3,lb3,hI4,hg3⟩:=hI3.grow l32
   replace o28:=o28.keep (m':=mb3) fun g hA=>hg3 g (n28 g ((mem_obl hA).2 rfl))
   have rdl:=rds
   replace rds:=rds.le l32
   have p19c:=lb3 _ _ p19b
   have rdm3:Reads mb3 5 A0 code.length (insCells code):=(rdb.le lb2).le lb3
   have rdbl:Reads mb3 5 (if c0=(nx code k.toNat).toNat then A0 else Option.map (fun x=>Addr.add x ((nx code k.toNat).toNat*5)) A0) (blkI code k.toNat).length (insCells (blkI code k.toNat)):=by
    have:=rdm3.insSlice (nx code k.toNat).toNat (nx code (k.toNat+1)).toNat (by omega) (by omega) hc0
    change Reads mb3 5 _ ((nx code (k.toNat+1)).toNat-(nx code k.toNat).toNat) (insCells (blkI code k.toNat)) at this
    rwa [ebl] at this
   have hll:=layP_len (blkI code k.toNat)
   have hlg:=layP_ge (blkI code k.toNat)
   have hlay:oldU code (k+1).toNat=oldU code k.toNat ++ (layP (blkI code k.toNat)).map (fun x=>if 0≤x then nx code k.toNat+x else -1):=by rw [ek]; rfl
   have hout:outU code (k+1).toNat=outU code k.toNat ++ pickP (blkI code k.toNat) (layP (blkI code k.toNat)):=by rw [ek]; rfl
   have hpl:(pickP (blkI code k.toNat) (layP (blkI code k.toNat))).length=(layP (blkI code k.toNat)).length:=pickP_len _ _
   have hul:=outU_le (code:=code) (j:=k.toNat) (by omega)
   have hoL:=oldU_len (code:=code) k.toNat
   have pk:=fun (M:AM) (l:mb3.le M)=>pick_spec w0 M _ (c0-(nx code k.toNat).toNat) (blkI code k.toNat) (by omega) (rdbl.le l) A28 c30 (layP (blkI code k.toNat)) (by omega) (o28.reads.le l)
   have lb03:mb.le mb3:=AM.le_trans lb2 lb3
   refine ⟨_,_,_,rfl,?_⟩
   refine vr15_1110100110011110 w0 m32 _ R q _ _ A0 code.length c0 b1 b5 b5 b19 _ (blkI code k.toNat).length _ A28 (layP (blkI code k.toNat)).length c30 (some ad) (blkP (hsUp code code.length) code.length).length c13 (blkP (hsUp code code.length) code.length).length k
    (fun m'=>LSx mb3 m' w0.heap.size b5 b3 (outU code (k+1).toNat) (plU code (k+1).toNat) (oldU code k.toNat) (kvU code (k+1).toNat)) rfl rfl rfl rfl rfl rfl rfl rfl rfl rfl ⟨?_,?_⟩ ?_
   ·obtain ⟨Ac,cc,Ap,cp,Ao,co,es,clk,h4⟩:=hI4
    refine ⟨_,_,_,cel h4.ps rfl,CallsA.mono (pk m32 h4.le) ?_⟩
    rintro r m66 ⟨⟨A62,c64,rfl,o62,n62⟩,l66⟩
    obtain ⟨mb4,lb4,h5,hg4⟩:=h4.grow l66
    refine ⟨_,_,_,rfl,?_⟩
    refine h5.pushC o62.reads (by omega) (by omega) (Q:=fun m72=>_) fun m72 h6=>?_
    (repeat (refine And.intro (Eq.refl _) ?_))
    rw [← hout] at h6
    exact h6.base lb4
   ·obtain ⟨Ac,cc,Ap,cp,Ao,co,es,clk,h4⟩:=hI4
    refine CallsA.mono (pk m32 h4.le) ?_
    rintro r m66 ⟨⟨A62,c64,rfl,o62,n62⟩,l66⟩
    obtain ⟨mb4,lb4,h5,hg4⟩:=h4.grow l66
    refine ⟨_,_,_,rfl,_,_,_,cel h5.ps rfl,?_⟩
    refine h5.pushC o62.reads (by omega) (by omega) (Q:=fun m72=>_) fun m72 h6=>?_
    (repeat (refine And.intro (Eq.refl _) ?_))
    rw [← hout] at h6
    exact h6.base lb4
   ·intro σ m41 hI5
    refine vl15_111010011001111110 w0 m41 _ R q _ _ A0 code.length c0 b1 b5 b5 b19 (some ad) (blkP (hsUp code code.length) code.length).length c13 (blkP (hsUp code code.length) code.length).length k A28 (layP (blkI code k.toNat)).length c30 (layP (blkI code k.toNat)).length 0
     (fun q2 j m'=>LSx mb3 m' w0.heap.size b5 b3 (outU code (k+1).toNat) (plU code (k+1).toNat) (oldU code k.toNat ++ ((layP (blkI code k.toNat)).take j.toNat).map (fun x=>if 0≤x then nx code k.toNat+x else -1)) (kvU code (k+1).toNat)∧0≤j∧j≤(layP (blkI code k.toNat)).length∧(q2:Int)=(layP (blkI code k.toNat)).length-j)
     (fun m'=>LSx mb3 m' w0.heap.size b5 b3 (outU code (k+1).toNat) (plU code (k+1).toNat) (oldU code (k+1).toNat) (kvU code (k+1).toNat)) (layP (blkI code k.toNat)).length rfl rfl rfl rfl rfl rfl rfl rfl rfl rfl rfl ⟨by simpa using hI5,by omega,by omega,by omega⟩ ?_ ?_
    ·rintro q2 σ j m6 ⟨hI6,j0,j1,hq2⟩
     refine ⟨rfl,bcP (fun hlt2=>⟨⟨j0,hlt2⟩,?_⟩) (fun hlt2=>?_)⟩
     ·obtain ⟨ad2,hA2,hc2⟩:=(o28.reads.le hI6.le).ex (by omega)
      rw [hA2,nilO_some]
      have wj:IntKind.wrap .i64 (j+1)=j+1:=wrap_s (by omega) (by omega)
      have htk:(layP (blkI code k.toNat)).take (j+1).toNat=(layP (blkI code k.toNat)).take j.toNat ++ [(layP (blkI code k.toNat)).getD j.toNat 0]:=take_stepI j0 hlt2
      have hin:=layP_in (blkI code k.toNat) ((layP (blkI code k.toNat)).getD j.toNat 0) (by simp [List.getD,show j.toNat<(layP (blkI code k.toNat)).length by omega])
      have hlen6:(oldU code k.toNat ++ ((layP (blkI code k.toNat)).take j.toNat).map (fun x=>if 0≤x then nx code k.toNat+x else -1)).length≤100000:=by
       rw [List.length_append,List.length_map,List.length_take]; omega
      refine ⟨_,cell_k hc2 j0 hlt2,rfl,?_⟩
      generalize (layP (blkI code k.toNat)).getD j.toNat 0=x at htk hin ⊢
      have fin:∀ (m':AM) (y:Int),y=(if 0≤x then nx code k.toNat+x else -1)→LSx mb3 m' w0.heap.size b5 b3 (outU code (k+1).toNat) (plU code (k+1).toNat) ((oldU code k.toNat ++ ((layP (blkI code k.toNat)).take j.toNat).map (fun x=>if 0≤x then nx code k.toNat+x else -1)) ++ [y]) (kvU code (k+1).toNat)→∃ n':Nat,n'<q2∧(LSx mb3 m' w0.heap.size b5 b3 (outU code (k+1).toNat) (plU code (k+1).toNat) (oldU code k.toNat ++ ((layP (blkI code k.toNat)).take (j+1).toNat).map (fun x=>if 0≤x then nx code k.toNat+x else -1)) (kvU code (k+1).toNat)∧0≤j+1∧j+1≤(layP (blkI code k.toNat)).length∧(n':Int)=(layP (blkI code k.toNat)).length-(j+1)):=by
       intro m' y hy h7
       refine ⟨q2-1,by omega,?_,by omega,by omega,by omega⟩
       rw [htk,List.map_append,← List.append_assoc]
       rw [hy] at h7
       exact h7
      rw [wj]
      obtain ⟨Ac,cc,Ap,cp,Ao,co,es,clk,h6⟩:=hI6
      have p6:=h6.le _ _ p19c
      refine bcP (fun h1=>?_) (fun h1=>?_)
      ·refine ⟨_,cel p6 rfl,rfl,_,_,_,cel h6.ps rfl,rfl,?_⟩
       rw [wrap_s (i:=nx code k.toNat+x) (by omega) (by omega)]
       refine h6.pushO (nx code k.toNat+x) hlen6 (Q:=fun m100=>_) fun m100 h7=>?_
       (repeat (refine And.intro (Eq.refl _) ?_))
       exact fin _ _ (by rw [if_pos h1]) h7
      ·refine ⟨_,_,_,cel h6.ps rfl,rfl,?_⟩
       refine h6.pushO (-1) hlen6 (Q:=fun m100=>_) fun m100 h7=>?_
       (repeat (refine And.intro (Eq.refl _) ?_))
       exact fin _ _ (by rw [if_neg h1]) h7
     ·(repeat (refine And.intro (Eq.refl _) ?_))
      rw [show j.toNat=(layP (blkI code k.toNat)).length by omega,List.take_of_length_le (Nat.le_refl _),← hlay] at hI6
      exact hI6
    ·intro σ m6 hI6
     (repeat (refine And.intro (Eq.refl _) ?_))
     rw [wk]
     exact ⟨q-1,by omega,hI6.base lb03,by omega,by omega,by omega⟩
  ·(repeat (refine And.intro (Eq.refl _) ?_))
   rw [show k.toNat=mB code by omega] at hI
   exact hI
 ·intro σ m33 hI
  have hnx:=nx_end code
  have hkv:=kvU_new (code:=code) (j:=mB code) (Nat.le_refl _)
  rw [hnx] at hkv
  refine head_spec w0 hI (code.length:Int) hkv (by rw [plU_len]; have:=mB_le code; omega) fun m34 hI2=>⟨rfl,?_⟩
  have ekv:kvU code (mB code+1)=kvU code (mB code) ++ [((code.length:Int),Value.int .i64 (outU code (mB code)).length)]:=by rw [kvU_succ,hnx]
  rw [← plU_succ,← ekv] at hI2
  obtain ⟨A,c,A1,c1,A2,c2,es,clk,hle,ps,oc,op,oo,dj,pr,mi,hs,hr,ns,nr,nc,np,no⟩:=hI2
  refine ⟨_,_,_,cel ps rfl,_,_,_,cel ps rfl,_,cel ps rfl,_,_,_,cel ps rfl,?_⟩
  have p34:=hle _ _ p1b
  refine StC_own p34 hb1 (by simp) (StC_upd.2 ⟨hb1,by simp,StC_upd.2 ⟨hb1,by simp,StC_upd.2 ⟨hb1,by simp,?_⟩⟩⟩)
  refine ⟨_,_,_,cel upd_get_same rfl,_,_,_,cel upd_get_same rfl,_,cel upd_get_same rfl,_,_,_,cel upd_get_same rfl,?_⟩
  rw [← hR]
  have keep:∀ {e:TypeId} {sz:Nat} {A':Option Addr} {n c':Nat} {xs:List Value} {o:Obj},e≠42→Alog.Own m34 w0.heap.size e sz A' n c' xs→Alog.Own (m34.upd b1 o) w0.heap.size e sz A' n c' xs:=fun {e sz A' n c' xs o} he ow=>by
   refine ow.keep fun g hg=>upd_get_ne fun e1=>?_
   obtain ⟨_,cur',h1⟩:=ow.obl_some ((mem_obl hg).2 rfl)
   rw [e1,p34] at h1
   injection h1 with h1
   injection h1 with _ h1
   exact he h1.symm
  have hrb:b3≠b1:=fun e=>by rw [← e,pr] at p34; cases p34
  refine retP_of ⟨A,c,A1,c1,b3,A2,c2,rfl,⟨?_,keep (by decide) oc,keep (by decide) op,keep (by decide) oo,⟨es,clk,by rw [upd_get_ne hrb]; exact pr,mi⟩,fun k hk=>AM.le_none lmb (nc k hk),fun k hk=>AM.le_none lmb (np k hk)⟩⟩
  exact le_upd_fresh (AM.le_trans lmb hle) hn1
end Go.Proofs.YtkfemiloehkmhaaGreat.S

set_option linter.unusedSimpArgs false
set_option linter.unusedVariables false
set_option maxRecDepth 100000
namespace Go.Proofs.YtkfemiloehkmhaaGreat.S
open Go Go.RowKit Go.Alog Go.Proofs.YtkfemiloehkmhaaGreat.T Go.Proofs.YtkfemiloehkmhaaGreat.V

def anewP (code:List Ins) (to:Int):Int:=((outU code (whP (hsUp code code.length ++ [(code.length:Int)]) to).toNat).length:Int)
def patI (code:List Ins) (at_:Int) (i:Ins) (to:Int):Ins:={ i with imm:=if i.op=15∨i.op=16 then w64 (anewP code to-w64 (at_+1)) else anewP code to }
def stepAt (code:List Ins) (k:Nat) (cur:List Ins):Option (List Ins) :=
 if (oldU code (mB code)).getD k 0<0∨tok (cAt code ((oldU code (mB code)).getD k 0))=false then some cur
 else if rightR (patI code k (cAt cur k) (tgt (cAt code ((oldU code (mB code)).getD k 0)) ((oldU code (mB code)).getD k 0)))=true
  then some (cur.set k (patI code k (cAt cur k) (tgt (cAt code ((oldU code (mB code)).getD k 0)) ((oldU code (mB code)).getD k 0)))) else none
def posF (code:List Ins):Nat→Option (List Ins)
 | 0=>some (outU code (mB code))
 | k+1=>(posF code k).bind (stepAt code k)
def reorgP (code:List Ins):List Ins × List Int × Int :=
 if fitP code=false then ([],[],1) else
 if (outU code (mB code)).length>4096 then ([],[],4) else
 match posF code (outU code (mB code)).length with
 | none=>([],[],3)
 | some out=>(out,plU code (mB code+1),0)

theorem hs_get {code:List Ins} {q:Nat} (h:q≤mB code):(hsUp code code.length ++ [(code.length:Int)]).getD q 0=nx code q:=by
 have hm:(hsUp code code.length).length=mB code:=rfl
 by_cases e:q<mB code
 ·have:nx code q=(hsUp code code.length).getD q 0:=by unfold nx nxt; rw [if_pos (by omega)]
  rw [this]
  unfold List.getD
  rw [List.getElem?_append_left (by omega)]
 ·have:q=mB code:=by omega
  subst this
  rw [nx_end,← hm]
  simp [List.getD]
theorem hs_wh {code:List Ins} {q:Nat} (h:q≤mB code):whP (hsUp code code.length ++ [(code.length:Int)]) (nx code q)=q:=by
 have hm:(hsUp code code.length ++ [(code.length:Int)]).length=mB code+1:=by rw [List.length_append]; rfl
 refine whP_at (by omega) (hs_get h) fun hin=>?_
 obtain ⟨r,hr,he⟩:=mem_at hin
 rw [List.length_take] at hr
 have h1:=hs_get (code:=code) (q:=r) (by omega)
 have h2:(List.take q (hsUp code code.length ++ [(code.length:Int)])).getD r 0=(hsUp code code.length ++ [(code.length:Int)]).getD r 0:=by
  unfold List.getD
  rw [List.getElem?_take,if_pos (by omega)]
 have h3:=nx_mono (code:=code) (i:=r) (j:=q) (by omega) h
 omega
theorem anewP_at {code:List Ins} {q:Nat} (h:q≤mB code):anewP code (nx code q)=(outU code q).length:=by
 unfold anewP
 rw [hs_wh h]; rfl
theorem to_nx {code:List Ins} (hf:fitP code=true) {k:Nat} (hk:k<code.length) (ht:tok (cAt code k)=true):∃ q,q≤mB code∧tgt (cAt code k) k=nx code q:=by
 rcases target_head hf hk ht with h | ⟨q,hq,h⟩
 ·exact ⟨mB code,Nat.le_refl _,by rw [h,nx_end]⟩
 ·exact ⟨q,Nat.le_of_lt hq,h.symm⟩
theorem look_kv {code:List Ins} {q:Nat} (h:q≤mB code):(match findI (nx code q) (kvU code (mB code+1)) 0 with | some p=>p.2 | none=>Value.int .i64 0)=.int .i64 (anewP code (nx code q)):=by
 obtain ⟨j,hj⟩:=findI_kv (code:=code) (n:=mB code+1) (q:=q) (by omega) (Nat.le_refl _)
 rw [hj,anewP_at h]
theorem oldU_in (code:List Ins):∀ {j:Nat},j≤mB code→∀ x∈oldU code j,x = -1∨(0≤x∧x<code.length):=by
 intro j
 induction j with
 | zero=>intro _ x hx; simp [oldU] at hx
 | succ j ih =>
  intro h x hx
  unfold oldU at hx
  rw [List.mem_append] at hx
  rcases hx with hx | hx
  ·exact ih (by omega) x hx
  ·unfold oldB at hx
   obtain ⟨y,hy,rfl⟩:=List.mem_map.1 hx
   have h1:=layP_in (blkI code j) y hy
   have h2:=blkI_len (code:=code) (j:=j) (by omega)
   have h3:=nx_in (code:=code) (j:=j) (by omega)
   split <;> omega
theorem posF_len {code:List Ins}:∀ {k:Nat} {out:List Ins},posF code k=some out→out.length=(outU code (mB code)).length:=by
 intro k
 induction k with
 | zero=>intro out h; injection h with h; rw [← h]
 | succ k ih =>
  intro out h
  unfold posF at h
  obtain ⟨cur,hc,hs⟩:=Option.bind_eq_some_iff.1 h
  have:=ih hc
  unfold stepAt at hs
  split at hs
  ·injection hs with hs; rw [← hs]; exact this
  ·split at hs
   ·injection hs with hs; rw [← hs,List.length_set]; exact this
   ·cases hs
theorem posF_none {code:List Ins} {k:Nat} (h:posF code k=none):∀ d,posF code (k+d)=none
 | 0=>h
 | d+1=>by
  show (posF code (k+d)).bind (stepAt code (k+d))=none
  rw [posF_none h d]; rfl

def oRe (w0:World) (m0:AM) (p:List Ins × List Int × Int) (v:Value) (m':AM):Prop:=∃ A c A1 c1,v=.tuple #[.slice A p.1.length c,.slice A1 p.2.1.length c1,.int .i64 p.2.2]∧Alog.Own m' w0.heap.size 36 5 A p.1.length c (insCells p.1)∧Alog.Own m' w0.heap.size 3 1 A1 p.2.1.length c1 (intCells .i64 p.2.1)∧(∀ k∈obl A,m0 k=none)∧(∀ k∈obl A1,m0 k=none)∧m0.le m'

set_option maxHeartbeats 1000000 in
theorem reorg_spec (w0:World) (m:AM) (A0:Option Addr) (c0:Nat) (code:List Ins) (hl:code.length≤1000000) (hc0:code.length≤c0) (rd0:Reads m 5 A0 code.length (insCells code)) :
  CallsA Tryz.prog w0 6 #[.slice A0 code.length c0] m (oRe w0 m (reorgP code)):=by
 generalize hR:oRe w0 m (reorgP code)=R
 refine cf6 w0 m A0 code.length c0 R (callB (fit_e w0 m A0 c0 code hl rd0) ?_)
 have bad:∀ (M:AM) (e:Int),m.le M→reorgP code=([],[],e)→RetP R (.tuple #[.slice none 0 0,.slice none 0 0,.int .i64 e]) M:=fun M e hM he=>by
  rw [← hR,he]
  exact retP_of ⟨none,0,none,0,rfl,Alog.Own.nil _ _ _ _,Alog.Own.nil _ _ _ _,by simp [obl],by simp [obl],hM⟩
 cases hf:fitP code with
 | false=>exact bcT (bad m 1 (AM.le_refl _) (by unfold reorgP; rw [if_pos hf]))
 | true =>
  have hl':code.length≤4096:=by
   refine Classical.byContradiction fun h=>?_
   rw [fitP_len (by omega)] at hf; cases hf
  refine bcF (CallsA.mono (reoLay_spec w0 m A0 c0 code hl' hc0 rd0 hf) ?_)
  rintro r m15 ⟨A,c,A1,c1,q,A2,c2,rfl,le15,oc,op,oo,⟨es,clk,pr,mi⟩,nc,np⟩
  refine ⟨_,_,_,_,_,_,_,_,_,_,rfl,?_⟩
  refine blk4 fun b16 M lM n16 hb16 p16=>?_
  refine ⟨_,_,_,cel p16 rfl,rfl,?_⟩
  have hoL:=oldU_len (code:=code) (mB code)
  have hre:reorgP code=if (outU code (mB code)).length>4096 then ([],[],4) else match posF code (outU code (mB code)).length with
    | none=>([],[],(3:Int))
    | some out=>(out,plU code (mB code+1),0):=by unfold reorgP; rw [if_neg (by rw [hf]; simp)]
  have hul:=outU_le (code:=code) (j:=mB code) (Nat.le_refl _)
  refine bcP (fun h=>bad M 4 (AM.le_trans le15 lM) (by rw [hre,if_pos (by omega)])) fun h=>?_
  rw [if_neg (by omega)] at hre
  have hin:=oldU_in code (Nat.le_refl (mB code))
  have hpos:=fun k out=>posF_len (code:=code) (k:=k) (out:=out)
  have hinit:posF code 0=some (outU code (mB code)):=rfl
  have hsucc:∀ k,posF code (k+1)=(posF code k).bind (stepAt code k):=fun k=>rfl
  have hnone:=fun k=>posF_none (code:=code) (k:=k)
  have hstep:∀ (k:Nat) (cur:List Ins),stepAt code k cur=if (oldU code (mB code)).getD k 0<0∨tok (cAt code ((oldU code (mB code)).getD k 0))=false then some cur
   else if rightR (patI code k (cAt cur k) (tgt (cAt code ((oldU code (mB code)).getD k 0)) ((oldU code (mB code)).getD k 0)))=true
    then some (cur.set k (patI code k (cAt cur k) (tgt (cAt code ((oldU code (mB code)).getD k 0)) ((oldU code (mB code)).getD k 0)))) else none:=fun k cur=>rfl
  have hpl:=plU_len code (mB code+1)
  refine ⟨_,_,_,cel p16 rfl,?_⟩
  generalize hout:outU code (mB code)=out0 at *
  generalize hold:oldU code (mB code)=od at *
  generalize hplu:plU code (mB code+1)=pl at *

  obtain ⟨mb,hmb⟩:∃ mb:AM,mb=fun k=>if k∈obl A then none else M k:=⟨_,rfl⟩
  have lb:mb.le M:=fun k o hk=>by
   rw [hmb] at hk
   dsimp only at hk
   split at hk
   ·cases hk
   ·exact hk
  have mbM:∀ k,k∉obl A→mb k=M k:=fun k hk=>by rw [hmb]; exact if_neg hk
  have ncb:∀ k∈obl A,mb k=none:=fun k hk=>by rw [hmb]; exact if_pos hk
  have ocM:=oc.le lM
  have notA:∀ {k:Nat} {cs:Array Value} {T:TypeId} {f:Nat × Nat},M k=some (.cells cs T f)→T≠36→k∉obl A:=fun {k cs T f} hk hT hm=>by
   obtain ⟨_,cur',h1⟩:=ocM.obl_some hm
   rw [hk] at h1
   injection h1 with h1
   injection h1 with _ h1
   exact hT h1
  have p16b:mb b16=some (.cells #[.slice A out0.length c,.slice A1 pl.length c1,.map (some q),.slice A2 od.length c2] 42 (0,0)):=by rw [mbM _ (notA p16 (by decide))]; exact p16
  have oob:Alog.Own mb w0.heap.size 3 1 A2 od.length c2 (intCells .i64 od):=(oo.le lM).keep fun g hg=>mbM g fun hm=>by
   obtain ⟨_,cur',h1⟩:=(oo.le lM).obl_some ((mem_obl hg).2 rfl)
   exact notA h1 (by decide) hm
  have opb:Alog.Own mb w0.heap.size 3 1 A1 pl.length c1 (intCells .i64 pl):=(op.le lM).keep fun g hg=>mbM g fun hm=>by
   obtain ⟨_,cur',h1⟩:=(op.le lM).obl_some ((mem_obl hg).2 rfl)
   exact notA h1 (by decide) hm
  have prb:mb q=some (.map es clk):=by
   rw [mbM _ fun hm=>?_]
   ·exact lM _ _ pr
   ·obtain ⟨_,cur',h1⟩:=ocM.obl_some hm
    rw [lM _ _ pr] at h1; cases h1
  have rdb:m.le mb:=fun k o hk=>by
   rw [mbM k fun hm=>?_]
   ·exact lM _ _ (le15 _ _ hk)
   ·rw [nc k hm] at hk; cases hk
  have rd:=rd0.le rdb
  clear p16 ocM notA mbM pr oo op rd0
  have oc0:=oc.le lM
  clear oc
  obtain ⟨I,hI⟩:∃ I:Nat→Int→AM→Prop,I=fun (n:Nat) (k:Int) (m':AM)=>∃ cur,mb.le m'∧posF code k.toNat=some cur∧Alog.Own m' w0.heap.size 36 5 A cur.length c (insCells cur)∧0≤k∧k≤od.length∧(n:Int)=od.length-k:=⟨_,rfl⟩
  obtain ⟨E,hE⟩:∃ E:AM→Prop,E=fun (m':AM)=>∃ cur,mb.le m'∧posF code od.length=some cur∧Alog.Own m' w0.heap.size 36 5 A cur.length c (insCells cur):=⟨_,rfl⟩
  refine vl6_1111010 w0 M _ R A0 code.length c0 b16 A2 od.length c2 od.length 0 I E od.length rfl rfl rfl rfl rfl (by rw [hI]; exact ⟨out0,lb,hinit,oc0,by omega,by omega,by omega⟩) ?_ ?_
  ·intro n σ k m' hh
   rw [hI] at hh
   obtain ⟨cur,l',hp,ow,k0,k1,hn⟩:=hh
   have hcl:=hpos _ _ hp
   have wk:IntKind.wrap .i64 (k+1)=k+1:=wrap_s (by omega) (by omega)
   refine ⟨rfl,bcP (fun hlt=>⟨⟨k0,hlt⟩,?_⟩) (fun hlt=>?_)⟩
   ·obtain ⟨ad,hA2,hc⟩:=(oob.reads.le l').ex (by omega)
    subst hA2
    rw [nilO_some,wk]
    have hx:=hin (od.getD k.toNat 0) (by simp [List.getD,show k.toNat<od.length by omega])
    have hst:=hstep k.toNat cur
    refine ⟨_,cell_k hc k0 hlt,rfl,?_⟩
    generalize od.getD k.toNat 0=x at hx hst ⊢
    have ek:(k+1).toNat=k.toNat+1:=by omega
    have hsk:=hsucc k.toNat
    rw [hp] at hsk
    have go:∀ (M2:AM) (cur2:List Ins),mb.le M2→stepAt code k.toNat cur=some cur2→Alog.Own M2 w0.heap.size 36 5 A cur2.length c (insCells cur2)→∃ n':Nat,n'<n∧I n' (k+1) M2:=by
     intro M2 cur2 h1 h2 h3
     rw [hI]
     refine ⟨n-1,by omega,cur2,h1,?_,h3,by omega,by omega,by omega⟩
     rw [ek,hsk]; exact h2
    refine bcP (fun h1=>?_) (fun h1=>?_)
    ·(repeat (refine And.intro (Eq.refl _) ?_))
     exact go m' cur l' (by rw [hst,if_pos (.inl h1)]) ow
    ·have hx0:0≤x:=by omega
     have hxl:x<code.length:=by omega
     have rd':=rd.le l'
     have hrd:code.length=code.length:=rfl
     refine ldAt rd' rfl hx0 hxl fun a=>?_
     refine CallsA.mono (target_e w0 m' (cAt code x) x) ?_
     rintro r m39 ⟨rfl,hm39⟩
     replace hm39:=hm39.symm; subst hm39
     refine ⟨_,_,rfl,?_⟩
     cases ht:tok (cAt code x) with
     | false =>
      refine bcT ?_
      (repeat (refine And.intro (Eq.refl _) ?_))
      exact go m' cur l' (by rw [hst,if_pos (.inr ht)]) ow
     | true =>
      obtain ⟨qq,hqq,htq⟩:=to_nx hf (k:=x.toNat) (by omega) (by rw [show ((x.toNat:Nat):Int)=x by omega]; exact ht)
      rw [show ((x.toNat:Nat):Int)=x by omega] at htq
      rw [if_neg (by rw [ht]; simp; omega)] at hst
      refine bcF ⟨_,_,_,cel (l' _ _ p16b) rfl,?_⟩
      rw [← hcl]
      refine ldAt ow.reads rfl k0 (by omega) fun a=>blk5 fun b51 M2 l2 n51 hb51 p51=>?_
      generalize hci:cAt cur k=ci at p51 ⊢
      have hci':cAt cur ((k.toNat:Nat):Int)=ci:=by rw [show ((k.toNat:Nat):Int)=k by omega]; exact hci
      rw [hci',show ((k.toNat:Nat):Int)=k by omega] at hst
      replace p51:M2 b51=some (.cells (Ins.cells ci).toArray 36 (0,0)):=p51
      have lb2:=AM.le_trans l' l2
      refine ⟨_,cel (lb2 _ _ p16b) rfl,anewP code (tgt (cAt code x) x),?_,?_⟩
      ·rw [htq,← look_kv hqq]
       exact lookup_int uMap uInt zInt (.inr ⟨q,es,clk,rfl,lb2 _ _ prb,mi⟩) _
      have nb51:mb b51=none:=AM.le_none l' n51
      have ow2:=ow.le l2
      have nA51:b51∉obl A:=fun hm=>obl_some' ow hm n51

      have K:∀ (M5:AM) (σ:Sg) (i2:Ins),i2=patI code k ci (tgt (cAt code x) x)→mb.le M5→Alog.Own M5 w0.heap.size 36 5 A cur.length c (insCells cur)→M5 b51=some (.cells (Ins.cells i2).toArray 36 (0,0))→σ 0=.slice A0 code.length c0→σ 5=.pointer (some ⟨b16,0,none⟩)→σ 6=.int .i64 k→σ 10=.pointer (some ⟨b51,0,none⟩)→σ 21=.slice (some ad) od.length c2→σ 22=.int .i64 od.length→σ 23=.int .i64 k→(vcS Tryz.prog w0 qs6 (sub V.c6 [1,1,1,1,0,1,0,0,1,1,0,0,1,1,1,1,1,1,1]) σ M5 (blockS 1 (thenS (fun σ M5=>vcS Tryz.prog w0 qs6 (sub V.c6 [1,1,1,1,0,1,0,0,1,1,1]) σ M5 (lq6_1111010 R A0 code.length c0 b16 (some ad) od.length c2 (od.length:Int) I E n)) (lq6_1111010 R A0 code.length c0 b16 (some ad) od.length c2 (od.length:Int) I E n)))):=by
       intro M5 σ i2 hi2 l5 o5 p5 h0 h5 h6 h10 h21 h22 h23
       rw [← hi2] at hst
       refine vk6_1111010011001111111 w0 M5 σ R n _ _ A0 code.length c0 b16 k b51 (some ad) od.length c2 od.length k h0 h5 h6 h10 h21 h22 h23 ?_
       refine ldIns p5 (callB (right_e w0 M5 i2) ?_)
       cases hr:rightR i2 with
       | false =>
        rw [hr,if_neg (by simp)] at hst
        refine bcT (bad M5 3 (AM.le_trans rdb l5) ?_)
        have hn1:posF code (k.toNat+1)=none:=by rw [hsk]; exact hst
        have hn2:=hnone _ hn1 (out0.length-(k.toNat+1))
        rw [show k.toNat+1+(out0.length-(k.toNat+1))=out0.length by omega] at hn2
        rw [hre,hn2]
       | true =>
        rw [hr,if_pos rfl] at hst
        refine bcF ⟨_,_,_,cel (l5 _ _ p16b) rfl,?_⟩
        refine ldIns p5 ⟨⟨k0,by omega⟩,?_⟩
        obtain ⟨aA,hA,_⟩:=o5.ex (by omega)
        subst hA
        rw [nilO_some,wk]
        refine o5.storeRow (f:=Ins.cells) Ins.len (k:=k.toNat) (by omega) i2 (K:=fun m94=>_) fun gA cur' hA ho=>?_
        (repeat (refine And.intro (Eq.refl _) ?_))
        subst hA
        exact go _ _ (le_upd_fresh l5 (ncb gA (by simp [obl]))) hst ho
      have set4:∀ v:Int,((Ins.cells ci).toArray.setIfInBounds 4 (.int .i64 v))=(Ins.cells { ci with imm:=v }).toArray:=fun v=>by simp [Ins.cells]
      have stp:∀ (M4:AM) (i4:Ins),mb.le M4→Alog.Own M4 w0.heap.size 36 5 A cur.length c (insCells cur)→mb.le (M4.upd b51 (.cells (Ins.cells i4).toArray 36))∧Alog.Own (M4.upd b51 (.cells (Ins.cells i4).toArray 36)) w0.heap.size 36 5 A cur.length c (insCells cur):=fun M4 i4 h1 h2=>⟨le_upd_fresh h1 nb51,h2.keep fun g hg=>upd_get_ne fun e=>nA51 ((mem_obl hg).2 e.symm)⟩
      refine StC_own p51 hb51 (by simp [Ins.cells]) ?_
      rw [set4]
      obtain ⟨l6,o6⟩:=stp M2 { ci with imm:=anewP code (tgt (cAt code x) x) } lb2 ow2
      have p6:(M2.upd b51 (.cells (Ins.cells { ci with imm:=anewP code (tgt (cAt code x) x) }).toArray 36)) b51=some (.cells (Ins.cells { ci with imm:=anewP code (tgt (cAt code x) x) }).toArray 36 (0,0)):=upd_get_same
      generalize M2.upd b51 (.cells (Ins.cells { ci with imm:=anewP code (tgt (cAt code x) x) }).toArray 36)=M6 at l6 o6 p6 ⊢
      have br:∀ (h15:ci.op=15∨ci.op=16),∃ i62:Int,M6.cell ⟨b51,4,none⟩=some (.int .i64 i62)∧IntKind.i64=IntKind.i64∧IntKind.i64=IntKind.i64∧StC w0.heap.size M6 ⟨b51,4,none⟩ (.int .i64 (IntKind.wrap .i64 (i62-(IntKind.wrap .i64 (k+1))))) fun m63=>(∃ i2:Ins,i2=patI code k ci (tgt (cAt code x) x)∧mb.le m63∧Alog.Own m63 w0.heap.size 36 5 A cur.length c (insCells cur)∧m63 b51=some (.cells (Ins.cells i2).toArray 36 (0,0))):=by
       intro h15
       refine ⟨_,cel p6 rfl,rfl,rfl,StC_own p6 hb51 (by simp [Ins.cells]) ?_⟩
       have set42:∀ v:Int,((Ins.cells { ci with imm:=anewP code (tgt (cAt code x) x) }).toArray.setIfInBounds 4 (.int .i64 v))=(Ins.cells { ci with imm:=v }).toArray:=fun v=>by simp [Ins.cells]
       rw [set42]
       obtain ⟨l7,o7⟩:=stp M6 { ci with imm:=IntKind.wrap .i64 (anewP code (tgt (cAt code x) x)-IntKind.wrap .i64 (k+1)) } l6 o6
       refine ⟨_,?_,l7,o7,upd_get_same⟩
       unfold patI w64
       rw [if_pos h15]
      rw [wk] at br
      refine ⟨_,cel p6 rfl,rfl,?_⟩
      have stmono:∀ {v:Value} {P Q:AM→Prop},StC w0.heap.size M6 ⟨b51,4,none⟩ v P→(∀ m,P m→Q m)→StC w0.heap.size M6 ⟨b51,4,none⟩ v Q:=fun {v P Q} h hPQ=>by
       unfold StC at h ⊢
       exact ⟨h.1,h.2.1,h.2.2.1,hPQ _ h.2.2.2⟩
      refine bcI (fun h15=>⟨h15,?_⟩) (fun h15=>⟨_,cel p6 rfl,rfl,?_⟩)
      ·obtain ⟨i62,hc62,e1,e2,hst62⟩:=br (.inl (by simpa using h15))
       refine ⟨i62,hc62,e1,e2,stmono hst62 fun m63 ⟨i2,hi2,l7,o7,p7⟩=>?_⟩
       exact K m63 _ i2 hi2 l7 o7 p7 rfl rfl rfl rfl rfl rfl rfl
      ·rw [h15]
       refine bcI (fun h16=>?_) (fun h16=>?_)
       ·obtain ⟨i62,hc62,e1,e2,hst62⟩:=br (.inr (by simpa using h16))
        refine ⟨i62,hc62,e1,e2,stmono hst62 fun m63 ⟨i2,hi2,l7,o7,p7⟩=>?_⟩
        exact K m63 _ i2 hi2 l7 o7 p7 rfl rfl rfl rfl rfl rfl rfl
       ·refine K M6 _ _ ?_ l6 o6 p6 rfl rfl rfl rfl rfl rfl rfl
        have h15':ci.op≠15:=by simpa using h15
        have h16':ci.op≠16:=by simpa using h16
        unfold patI
        rw [if_neg (by omega)]
   ·(repeat (refine And.intro (Eq.refl _) ?_))
    rw [show k.toNat=od.length by omega] at hp
    rw [hE]
    exact ⟨cur,l',hp,ow⟩
  ·intro σ m' hh
   rw [hE] at hh
   obtain ⟨cur,l',hp,ow⟩:=hh
   have hcl:=hpos _ _ hp
   refine ⟨_,_,_,cel (l' _ _ p16b) rfl,_,_,_,cel (l' _ _ p16b) rfl,?_⟩
   rw [hoL] at hp
   rw [hp] at hre
   rw [← hR,hre,← hcl]
   exact retP_of ⟨A,c,A1,c1,rfl,ow,opb.le l',nc,np,AM.le_trans rdb l'⟩
end Go.Proofs.YtkfemiloehkmhaaGreat.S

