/- YtkfemiloehkmhaaGreat: a text of our own, by an AI agent: CoreE -/
import Derived.Test.YtkfemiloehkmhaaGreatCoreC
set_option linter.unusedSimpArgs false
set_option linter.unusedVariables false
namespace Go.Alog
open Go Go.RowKit

def MapI (es:Array MapEntry) (kv:List (Int × Value)):Prop:=es.toList.map (fun e=>(e.key,e.val))=kv.map (fun p=>(Value.int .i64 p.1,p.2))

def findI (k:Int):List (Int × Value)→Nat→Option (Nat × Value)
 | [],_=>none
 | p :: l,i=>if k == p.1 then some (i,p.2) else findI k l (i+1)

theorem findNow_int (k:Int):∀ (l:List MapEntry) (kv:List (Int × Value)) (i:Nat),l.map (fun e=>(e.key,e.val))=kv.map (fun p=>(Value.int .i64 p.1,p.2))→Instr.findNow (.int .i64) (.int .i64 k) l i=some (findI k kv i):=by
 intro l
 induction l with
 | nil=>intro kv i h; cases kv with
  | nil=>rfl
  | cons p kv=>cases h
 | cons e l ih =>
  intro kv i h
  cases kv with
  | nil=>cases h
  | cons p kv =>
   simp only [List.map_cons,List.cons.injEq,Prod.mk.injEq] at h
   obtain ⟨⟨h1,h2⟩,h3⟩:=h
   unfold Instr.findNow findI
   rw [h1]
   simp only [Instr.sameNow,if_true]
   cases hk:(k == p.1) with
   | true=>simp [h2]
   | false=>simp [ih kv (i+1) h3]

theorem checkKey_int {P:Program} {kt:TypeId} (hk:P.underlying kt=some (.int .i64)) (b:Bool) (k:Int):pval P (Instr.checkKey b 10000 kt (.int .i64 k))=some ():=by
 show pval P (Instr.checkKey b (9999+1) kt (.int .i64 k))=some ()
 unfold Instr.checkKey
 rw [pval_bind',pv_underlying hk]
 rfl

theorem findKey_int {P:Program} {kt:TypeId} (hk:P.underlying kt=some (.int .i64)) (k:Int) {es:Array MapEntry} {kv:List (Int × Value)} (h:MapI es kv):pval P (Instr.findKey kt (.int .i64 k) es.toList)=some (findI k kv 0):=by
 unfold Instr.findKey
 rw [pval_bind',pv_underlying hk]
 simp only [Option.bind_some]
 rw [findNow_int k _ _ 0 h]
 rfl

theorem lookup_int {P:Program} {m:AM} {t kt et:TypeId} {z:Value} (ht:P.underlying t=some (.map kt et)) (hk:P.underlying kt=some (.int .i64)) (hz:pval P (zeroValue et)=some z) {x:Option Nat} {kv:List (Int × Value)}
  (hx:(x=none∧kv = [])∨∃ r es clk,x=some r∧m r=some (.map es clk)∧MapI es kv) (k:Int) :
  rval P m (Instr.lookup t (.map x) (.int .i64 k) false)=some (match findI k kv 0 with | some p=>p.2 | none=>z):=by
 have fin:∀ es:Array MapEntry,MapI es kv→rval P m (do
   Instr.checkKey es.isEmpty 10000 kt (.int .i64 k)
   let (v,ok) ← match ← Instr.findKey kt (.int .i64 k) es.toList with
    | some (_,v)=>pure (v,true)
    | none=>pure (← zeroValue et,false)
   pure (if false then Value.tuple #[v,.bool ok] else v))=some (match findI k kv 0 with | some p=>p.2 | none=>z):=by
  intro es he
  rw [rval_bind',rval_of_pval _ (checkKey_int hk _ k)]
  simp only [Option.bind_some]
  rw [rval_bind',rval_of_pval _ (findKey_int hk k he)]
  simp only [Option.bind_some]
  cases findI k kv 0 with
  | none =>
   simp only []
   rw [rval_bind',rval_of_pval _ hz]
   rfl
  | some p=>rfl
 unfold Instr.lookup
 rw [rval_bind',rval_of_pval _ (pv_underlying ht)]
 simp only [Option.bind_some]
 rcases hx with ⟨rfl,rfl⟩ | ⟨r,es,clk,rfl,hm,he⟩
 ·rw [rval_bind']
  exact fin #[] rfl
 ·rw [rval_bind']
  have hg:rval P m (getObj r)=some (.map es clk):=by simp [getObj,rval,hm]
  rw [hg]
  simp only [Option.bind_some]
  rw [rval_bind']
  exact fin es he

theorem awp_pv {P:Program} {B:Nat} {α:Type} (s:Sem α):∀ {x:α} {m:AM} {K:α→AM→Prop},pval P s=some x→K x m→awp P B s m K:=by
 induction s with
 | pure x=>intro y m K h hk; injection h with h; subst h; exact hk
 | program k ih=>intro y m K h hk; exact ih _ h hk
 | mark mk k ih=>intro y m K h hk; exact ih h hk
 | _=>intros; simp_all [pval]

theorem awp_pv_bind {P:Program} {B:Nat} {α β:Type} {s:Sem α} {f:α→Sem β} {x:α} {m:AM} {K:β→AM→Prop} (h:pval P s=some x) (hk:awp P B (f x) m K):awp P B (s >>= f) m K:=by
 show awp P B (s.bind f) m K
 rw [awp_bind]
 exact awp_pv s h hk

theorem mapUpdate_new {P:Program} {B:Nat} {m:AM} {t kt et:TypeId} (ht:P.underlying t=some (.map kt et)) (hk:P.underlying kt=some (.int .i64)) {r:Nat} {es:Array MapEntry} {clk:Nat} {kv:List (Int × Value)} (hB:B≤r)
  (hm:m r=some (.map es clk)) (he:MapI es kv) {k:Int} {v:Value} (hn:findI k kv 0=none) {K:Unit→AM→Prop} (h:∀ es' clk',MapI es' (kv ++ [(k,v)])→K () (m.upd r (.map es' clk'))) :
  awp P B (Instr.mapUpdate t (.map (some r)) (.int .i64 k) v) m K:=by
 unfold Instr.mapUpdate
 refine awp_pv_bind (pv_underlying ht) ?_
 simp only []
 show awp P B ((getObj r).bind _) m K
 rw [awp_bind]
 refine ⟨_,hm,trivial,?_⟩
 simp only [awp]
 refine awp_pv_bind (checkKey_int hk _ k) ?_
 refine awp_pv_bind (findKey_int hk k he) ?_
 rw [hn]
 refine ⟨hB,⟨_,hm,trivial⟩,?_⟩
 refine h _ _ ?_
 unfold MapI at he ⊢
 simp [he]

theorem findI_none {k:Int} {kv:List (Int × Value)} (h:k∉kv.map (·.1)) (i:Nat):findI k kv i=none:=by
 induction kv generalizing i with
 | nil=>rfl
 | cons p l ih =>
  simp only [List.map_cons,List.mem_cons,not_or] at h
  unfold findI
  rw [if_neg (by simpa using h.1)]
  exact ih h.2 _

theorem findI_map {k:Int} {f:Int→Value} {l:List Int} (h:k∈l) (i:Nat):∃ j,findI k (l.map fun x=>(x,f x)) i=some (j,f k):=by
 induction l generalizing i with
 | nil=>cases h
 | cons p l ih =>
  simp only [List.map_cons]
  unfold findI
  by_cases e:k=p
  ·subst e; exact ⟨i,by simp⟩
  ·rw [if_neg (by simpa using e)]
   exact ih ((List.mem_cons.1 h).resolve_left e) _
end Go.Alog

set_option linter.unusedSimpArgs false
set_option linter.unusedVariables false
namespace Go.Alog
open Go Go.RowKit

theorem awp_copy {P:Program} {B:Nat} {t ty e:TypeId} {sz bs:Nat} {z:List Value} (hel:elOf P t=some (e,sz,bs,z)) {m:AM} {g o dn dc:Nat} {cur:Array Value} (hg:m g=some (.cells cur e (0,0))) (hB:B≤g)
  {A2:Option Addr} {k c2 n:Nat} {xs:List Value} (hn:n=Nat.min k dn) (hr:Reads m sz A2 n xs) (h1:∀ u∈xs,u.oneCell'=true) (hfit:o+n*sz≤cur.size) {K:Value→AM→Prop}
  (h:K (.int .i64 n) (m.upd g (.cells (splice cur o xs) e))) :
  awp P B (Builtin.copy_ #[t,t] ty #[.slice (some ⟨g,o,none⟩) dn dc,.slice A2 k c2]) m K:=by
 obtain ⟨i,zv,hu,hi,hz,hzs,hsz,hbs,hzl⟩:=elOf_spec hel
 subst hsz
 show awp P B (underlying t >>= _) m K
 rw [awp_bind']
 refine awp_p (pv_underlying hu) ?_
 simp only [List.getElem_toArray,List.getElem_cons_zero,List.getElem_cons_succ]
 rw [awp_bind']
 refine awp_p (x:=k) rfl ?_
 rw [awp_bind']
 refine awp_p (pv_sizeOf hi) ?_
 rw [awp_bind',← hn]
 have hf:rval P m (Builtin.firstCells i.size n (.slice A2 k c2))=some xs.toArray:=by
  have:=hr.first (P:=P) (c:=c2)
  obtain ⟨hl,⟨rfl,rfl⟩ | ⟨ad,rfl,hc⟩⟩:=hr
  ·have:xs = []:=List.eq_nil_of_length_eq_zero (by simpa using hl)
   subst this
   rfl
  ·exact this
 refine awp_of_rval _ hf ?_
 simp only
 rw [awp_bind']
 refine store_list xs 0 o m cur _ hg hB h1 (by rw [hr.1]; omega) ?_
 exact h
end Go.Alog

