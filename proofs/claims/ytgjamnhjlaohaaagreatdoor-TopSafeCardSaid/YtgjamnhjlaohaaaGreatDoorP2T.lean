/- YtgjamnhjlaohaaaGreatDoor: a text of our own, by an AI agent -/
import Derived.Test.YtgjamnhjlaohaaaGreatDoorP1T
set_option maxRecDepth 100000
set_option maxHeartbeats 400000
set_option linter.unusedSectionVars false
set_option linter.unusedVariables false
set_option linter.unusedSimpArgs false
namespace Go.Proofs.YtgjamnhjlaohaaaGreatDoor.S
open Go Go.RowKit Go.Alog Go.Proofs.YtgjamnhjlaohaaaGreatDoor.T Go.Proofs.YtgjamnhjlaohaaaGreatDoor.V
def CS.sz (s:CS):Nat:=s.code.length+s.pats.length+s.ents.length+s.begs.length+s.exps.length+s.imps.length+200*s.toks.length
def CS.ok (s:CS):Prop:=s.begs.Pairwise (·<=·)/\∀ b∈s.begs,0<=b/\b<=s.ents.length
def WI (mt m0 m:AM) (B c N:Nat):Prop:=∃ s,CIx mt m0 m B c s/\s.sz<=N/\s.ok
section
variable {mt m0 m m':AM} {B c N N':Nat}
theorem WI.mono (h:WI mt m0 m B c N) (l:N<=N'):WI mt m0 m B c N':=by
 obtain ⟨s,h1,h2,h3⟩:=h
 exact ⟨s,h1,by omega,h3⟩
theorem WI.grow (h:WI mt m0 m B c N) (l:m.le m'):WI mt m0 m' B c N:=by
 obtain ⟨s,h1,h2⟩:=h
 exact ⟨s,h1.grow l,h2⟩
theorem WI.base {m1:AM} (h:WI mt m1 m B c N) (l:m0.le m1) (lt:mt.le m0):WI mt m0 m B c N:=by
 obtain ⟨s,h1,h2⟩:=h
 exact ⟨s,h1.base l lt,h2⟩
theorem WI.le (h:WI mt m0 m B c N):m0.le m:=by
 obtain ⟨s,h1,h2⟩:=h
 exact h1.le
theorem WI.lt (h:WI mt m0 m B c N):mt.le m0:=by
 obtain ⟨s,h1,h2⟩:=h
 exact h1.lt
theorem WI.box (h:WI mt m0 m B c N) {b:Nat} (hb:m b=none) (o:Obj):WI mt (m0.upd b o) (m.upd b o) B c N/\m0 b=none:=by
 obtain ⟨s,h1,h2⟩:=h
 exact ⟨⟨s,(h1.box hb o).1,h2⟩,AM.le_none h1.le hb⟩
theorem WI.stT {b k:Nat} {C:Array Value} {T:TypeId} {v:Value} (h:WI mt (m0.upd b (.cells C T)) m B c N) (hb0:m0 b=none) (l:mt.le m0) (hB:B<=b) (hk:k<C.size) {K:AM->Prop}
  (hK:∀ m',WI mt (m0.upd b (.cells (C.setIfInBounds k v) T)) m' B c N->K m'):StC B m ⟨b,k,none⟩ v K:=by
 obtain ⟨s,h1,h2⟩:=h
 exact h1.stT hb0 l hB hk fun m' h'=>hK m' ⟨s,h',h2⟩
theorem WI.num (h:WI mt m0 m B c N):(∃ i,m.cell ⟨c,9,none⟩=some (.int .i64 i))/\(∃ i,m.cell ⟨c,13,none⟩=some (.int .i64 i))/\(∃ i,m.cell ⟨c,15,none⟩=some (.int .i64 i))/\∃ i,m.cell ⟨c,16,none⟩=some (.int .i64 i):=by
 obtain ⟨s,⟨_,_,_,h⟩,_⟩:=h
 exact ⟨⟨_,cel h.ps rfl⟩,⟨_,cel h.ps rfl⟩,⟨_,cel h.ps rfl⟩,⟨_,cel h.ps rfl⟩⟩
theorem WI.st (h:WI mt m0 m B c N) {k:Nat} {x:Int} (hk:k=9\/k=13\/k=15\/k=16) {K:AM->Prop} (hK:∀ m',WI mt m0 m' B c N->K m'):StC B m ⟨c,k,none⟩ (.int .i64 x) K:=by
 obtain ⟨s,⟨_,_,_,h⟩,h2⟩:=h
 rcases hk with rfl | rfl | rfl | rfl
 .exact h.st' (s':={ s with data:=x }) rfl (by omega) (fun _=>by rfl) (fun _=>by rfl) rfl fun m' h'=>hK m' ⟨_,h',h2⟩
 .exact h.st' (s':={ s with e:=x }) rfl (by omega) (fun _=>by rfl) (fun _=>by rfl) rfl fun m' h'=>hK m' ⟨_,h',h2⟩
 .exact h.st' (s':={ s with factors:=x }) rfl (by omega) (fun _=>by rfl) (fun _=>by rfl) rfl fun m' h'=>hK m' ⟨_,h',h2⟩
 .exact h.st' (s':={ s with nested:=x }) rfl (by omega) (fun _=>by rfl) (fun _=>by rfl) rfl fun m' h'=>hK m' ⟨_,h',h2⟩
end
theorem CS.ok_same {s s':CS} (h:s.ok) (h1:s'.begs=s.begs) (h2:s.ents.length<=s'.ents.length):s'.ok:=by
 unfold CS.ok
 rw [h1]
 exact ⟨h.1,fun b hb=>by have:=h.2 b hb; omega⟩
section
variable (w0:World) (mt m0 m:AM) (c N:Nat)
theorem put_w (i:Ins) (h:WI mt m0 m w0.heap.size c N) (hN:N<=1000000) :
  CallsA Tryz.prog w0 55 #[.pointer (some ⟨c,2,none⟩),i.val] m (fun r m'=>∃ x,r=.int .i64 x/\WI mt m0 m' w0.heap.size c (N+1)):=by
 obtain ⟨s,h1,h2,h3⟩:=h
 unfold CS.sz at h2
 refine CallsA.mono (put_c w0 mt m0 m c s i h1 (by omega)) ?_
 rintro r m' ⟨rfl,h'⟩
 exact ⟨_,rfl,_,h',by simp [CS.sz,CS.put]; omega,CS.ok_same h3 rfl (Nat.le_refl _)⟩
theorem mark_w (i:Ins) (k n:Int) (h:WI mt m0 m w0.heap.size c N) (hN:N<=1000000) :
  CallsA Tryz.prog w0 53 #[.pointer (some ⟨c,2,none⟩),i.val,.int .i64 k,.int .i64 n] m (fun r m'=>∃ x,r=.int .i64 x/\WI mt m0 m' w0.heap.size c (N+2)):=by
 obtain ⟨s,h1,h2,h3⟩:=h
 unfold CS.sz at h2
 refine CallsA.mono (mark_c w0 mt m0 m c s i k n h1 (by omega) (by omega)) ?_
 rintro r m' ⟨rfl,h'⟩
 exact ⟨_,rfl,_,h',by simp [CS.sz,CS.mark]; omega,CS.ok_same h3 rfl (Nat.le_refl _)⟩
theorem jump_w (i:Ins) (h:WI mt m0 m w0.heap.size c N) (hN:N<=1000000) :
  CallsA Tryz.prog w0 50 #[.pointer (some ⟨c,2,none⟩),i.val] m (fun r m'=>∃ x,r=.int .i64 x/\WI mt m0 m' w0.heap.size c (N+2)):=by
 obtain ⟨s,h1,h2,h3⟩:=h
 unfold CS.sz at h2
 refine CallsA.mono (jump_c w0 mt m0 m c s i h1 (by omega) (by omega)) ?_
 rintro r m' ⟨rfl,h'⟩
 refine ⟨_,rfl,_,h',?_,?_⟩
 .unfold CS.jump
  cases farB i <;> simp [CS.sz,CS.mark,CS.put] <;> omega
 .unfold CS.jump
  cases farB i <;> exact CS.ok_same h3 rfl (Nat.le_refl _)
theorem land_w (x:Int) (h:WI mt m0 m w0.heap.size c N) :
  CallsA Tryz.prog w0 52 #[.pointer (some ⟨c,2,none⟩),.int .i64 x] m (fun r m'=>∃ b,r=.bool b/\WI mt m0 m' w0.heap.size c N):=by
 obtain ⟨s,h1,h2,h3⟩:=h
 refine CallsA.mono (land_c w0 mt m0 m c s x h1) ?_
 rintro r m' ⟨rfl,h'⟩
 exact ⟨_,rfl,_,h',by simpa [CS.sz,CS.aim,setC_len] using h2,CS.ok_same h3 rfl (Nat.le_refl _)⟩
theorem back_w (i:Ins) (x:Int) (h:WI mt m0 m w0.heap.size c N) (hN:N<=1000000) :
  CallsA Tryz.prog w0 175 #[.pointer (some ⟨c,2,none⟩),i.val,.int .i64 x] m (fun r m'=>∃ x,r=.int .i64 x/\WI mt m0 m' w0.heap.size c (N+2)):=by
 obtain ⟨s,h1,h2,h3⟩:=h
 unfold CS.sz at h2
 refine CallsA.mono (back_c w0 mt m0 m c s i x h1 (by omega) (by omega)) ?_
 rintro r m' ⟨rfl,h'⟩
 refine ⟨_,rfl,_,h',?_,?_⟩
 .unfold CS.jump
  cases farB i <;> simp [CS.sz,CS.aim,setC_len,CS.mark,CS.put] <;> omega
 .unfold CS.jump
  cases farB i <;> exact CS.ok_same h3 rfl (Nat.le_refl _)
theorem here_w (h:WI mt m0 m w0.heap.size c N) :
  CallsA Tryz.prog w0 145 #[.pointer (some ⟨c,2,none⟩)] m (fun r m'=>∃ x,r=.int .i64 x/\WI mt m0 m' w0.heap.size c N):=by
 obtain ⟨s,h1,h2⟩:=h
 refine CallsA.mono (here_c w0 mt m0 m c s h1) ?_
 rintro r m' ⟨rfl,h'⟩
 exact ⟨_,rfl,_,h',h2⟩
theorem give_w (h:WI mt m0 m w0.heap.size c N) :
  CallsA Tryz.prog w0 153 #[.pointer (some ⟨c,2,none⟩)] m (fun r m'=>∃ b,r=.bool b/\WI mt m0 m' w0.heap.size c N):=by
 obtain ⟨s,h1,h2,h3⟩:=h
 refine CallsA.mono (give_c w0 mt m0 m c s h1) ?_
 rintro r m' ⟨b,rfl,h'⟩
 refine ⟨_,rfl,_,h',?_,?_⟩ <;> (unfold CS.give; cases s.taken == 0)
 .exact h2
 .exact h2
 .exact h3
 .exact h3
theorem stop_ok {s:CS} (e x:Int) (h3:s.ok):(s.stop e x).ok/\(s.stop e x).sz<=s.sz:=by
 unfold CS.stop
 cases s.e == 0
 .exact ⟨h3,by simp [CS.sz]⟩
 .exact ⟨h3,by simp [CS.sz]⟩
theorem stop_w (e x:Int) (h:WI mt m0 m w0.heap.size c N) :
  CallsA Tryz.prog w0 24 #[.pointer (some ⟨c,0,none⟩),.int .i64 e,.int .i64 x] m (fun r m'=>r=.tuple #[]/\WI mt m0 m' w0.heap.size c N):=by
 obtain ⟨s,h1,h2,h3⟩:=h
 refine CallsA.mono (stop_c w0 mt m0 m c s e x h1) ?_
 rintro r m' ⟨rfl,h'⟩
 exact ⟨rfl,_,h',Nat.le_trans (stop_ok e x h3).2 h2,(stop_ok e x h3).1⟩
theorem where_w (h:WI mt m0 m w0.heap.size c N) :
  CallsA Tryz.prog w0 56 #[.pointer (some ⟨c,0,none⟩)] m (fun r m'=>∃ x,r=.int .i64 x/\WI mt m0 m' w0.heap.size c N):=by
 obtain ⟨s,h1,h2⟩:=h
 refine CallsA.mono (where_c w0 mt m0 m c s h1) ?_
 rintro r m' ⟨rfl,h'⟩
 exact ⟨_,rfl,_,h',h2⟩
theorem nxt_ok {s:CS} (h3:s.ok):s.nxt.ok:=CS.ok_same h3 rfl (Nat.le_refl _)
theorem nxt_sz (s:CS):s.nxt.sz<=s.sz:=by simp [CS.sz,CS.nxt]; omega
theorem nxt_sz' {s:CS} (h:s.toks≠[]):s.nxt.sz+200<=s.sz:=by
 have:s.toks.length≠0:=fun e=>h (List.length_eq_zero_iff.1 e)
 simp [CS.sz,CS.nxt]; omega
theorem sees_ne {s:CS} {x:ByteArray} (h:s.sees x=true):s.toks≠[]:=fun e=>by
 unfold CS.sees at h
 rw [e] at h; cases h
theorem isName_ne {s:CS} (h:s.isName=true):s.toks≠[]:=fun e=>by
 unfold CS.isName at h
 rw [e] at h; cases h
theorem has_w (x:ByteArray) (h:WI mt m0 m w0.heap.size c N) :
  CallsA Tryz.prog w0 46 #[.pointer (some ⟨c,0,none⟩),.string x] m (fun r m'=>∃ b,r=.bool b/\WI mt m0 m' w0.heap.size c N/\(b=true->200<=N/\WI mt m0 m' w0.heap.size c (N-200))):=by
 obtain ⟨s,h1,h2,h3⟩:=h
 refine CallsA.mono (has_c w0 mt m0 m c s x h1) ?_
 rintro r m' ⟨rfl,h'⟩
 unfold CS.has at h'
 refine ⟨_,rfl,?_⟩
 cases hs:s.sees x
 .rw [hs] at h'
  exact ⟨⟨_,h',h2,h3⟩,fun e=>by cases e⟩
 .rw [hs] at h'
  have:=nxt_sz' (sees_ne hs)
  exact ⟨⟨_,h',by have:=nxt_sz s; exact Nat.le_trans this h2,nxt_ok h3⟩,fun _=>⟨by omega,_,h',by show s.nxt.sz<=_; omega,nxt_ok h3⟩⟩
theorem must_w (x:ByteArray) (h:WI mt m0 m w0.heap.size c N) :
  CallsA Tryz.prog w0 47 #[.pointer (some ⟨c,0,none⟩),.string x] m (fun r m'=>r=.tuple #[]/\WI mt m0 m' w0.heap.size c N):=by
 obtain ⟨s,h1,h2,h3⟩:=h
 refine CallsA.mono (must_c w0 mt m0 m c s x h1) ?_
 rintro r m' ⟨rfl,h'⟩
 unfold CS.must at h'
 cases hs:s.sees x
 .rw [hs] at h'
  exact ⟨rfl,_,h',Nat.le_trans (stop_ok _ _ h3).2 h2,(stop_ok _ _ h3).1⟩
 .rw [hs] at h'
  exact ⟨rfl,_,h',Nat.le_trans (nxt_sz s) h2,nxt_ok h3⟩
theorem named_w (h:WI mt m0 m w0.heap.size c N) :
  CallsA Tryz.prog w0 97 #[.pointer (some ⟨c,0,none⟩)] m (fun r m'=>∃ b,r=.bool b/\WI mt m0 m' w0.heap.size c N):=by
 obtain ⟨s,h1,h2⟩:=h
 refine CallsA.mono (named_c w0 mt m0 m c s h1) ?_
 rintro r m' ⟨rfl,h'⟩
 exact ⟨_,rfl,_,h',h2⟩
theorem name_w (h:WI mt m0 m w0.heap.size c N) :
  CallsA Tryz.prog w0 48 #[.pointer (some ⟨c,0,none⟩)] m (fun r m'=>∃ x i,r=.tuple #[.string x,.int .i64 i]/\WI mt m0 m' w0.heap.size c N):=by
 obtain ⟨s,h1,h2,h3⟩:=h
 refine CallsA.mono (name_c w0 mt m0 m c s h1) ?_
 rintro r m' ⟨rfl,h'⟩
 refine ⟨_,_,rfl,?_⟩
 unfold CS.aname at h'
 cases hs:s.isName
 .rw [hs] at h'
  exact ⟨_,h',Nat.le_trans (stop_ok _ _ h3).2 h2,(stop_ok _ _ h3).1⟩
 .rw [hs] at h'
  exact ⟨_,h',Nat.le_trans (nxt_sz s) h2,nxt_ok h3⟩
theorem number_w (h:WI mt m0 m w0.heap.size c N) :
  CallsA Tryz.prog w0 141 #[.pointer (some ⟨c,0,none⟩)] m (fun r m'=>∃ x i,r=.tuple #[.int .i64 x,.int .i64 i]/\WI mt m0 m' w0.heap.size c N):=by
 obtain ⟨s,h1,h2,h3⟩:=h
 refine CallsA.mono (number_c w0 mt m0 m c s h1) ?_
 rintro r m' ⟨rfl,h'⟩
 refine ⟨_,_,rfl,?_⟩
 unfold CS.anum at h'
 cases hs:s.isNum
 .rw [hs] at h'
  exact ⟨_,h',Nat.le_trans (stop_ok _ _ h3).2 h2,(stop_ok _ _ h3).1⟩
 .rw [hs] at h'
  exact ⟨_,h',Nat.le_trans (nxt_sz s) h2,nxt_ok h3⟩
theorem reg_w (x:Int) (h:WI mt m0 m w0.heap.size c N) :
  CallsA Tryz.prog w0 214 #[.pointer (some ⟨c,0,none⟩),.int .i64 x] m (fun r m'=>∃ x,r=.int .i64 x/\WI mt m0 m' w0.heap.size c N):=by
 obtain ⟨s,h1,h2,h3⟩:=h
 refine CallsA.mono (reg_c w0 mt m0 m c s x h1) ?_
 rintro r m' ⟨rfl,h'⟩
 refine ⟨_,rfl,_,h',?_,?_⟩ <;> (unfold CS.areg; cases hs:s.taken == 8)
 .unfold CS.take; rw [hs]; exact h2
 .exact Nat.le_trans (stop_ok _ _ h3).2 h2
 .unfold CS.take; rw [hs]; exact h3
 .exact (stop_ok _ _ h3).1
theorem findN_w (x:ByteArray) (h:WI mt m0 m w0.heap.size c N) (hN:N<=1000000) :
  CallsA Tryz.prog w0 173 #[.pointer (some ⟨c,5,none⟩),.string x] m (fun r m'=>∃ (t:Thg) (d:Int) (ok:Bool),r=.tuple #[t.val,.int .i64 d,.bool ok]/\WI mt m0 m' w0.heap.size c N):=by
 obtain ⟨s,h1,h2,h3⟩:=h
 have hz:=h2
 unfold CS.sz at hz
 refine CallsA.mono (find_c w0 mt m0 m c s x h1 (by omega) (by omega)) ?_
 rintro r m' ⟨t,d,ok,rfl,h'⟩
 exact ⟨t,d,ok,rfl,_,h',h2,h3⟩
end
theorem elE:elOf Tryz.prog 68=some (fT 2,fS 2,48,Ent.cells ⟨ByteArray.empty,⟨0,0,0,false⟩⟩):=by kernel_rfl
def CS.opn (s:CS):CS:={ s with begs:=s.begs ++ [(s.ents.length:Int)] }
theorem open_c (w0:World) (mt m0 m:AM) (c:Nat) (s:CS) (h:CIx mt m0 m w0.heap.size c s) (hl:s.begs.length<=1000000) :
  CallsA Tryz.prog w0 49 #[.pointer (some ⟨c,5,none⟩)] m (fun r m'=>r=.tuple #[]/\CIx mt m0 m' w0.heap.size c s.opn):=by
 obtain ⟨At,ct,L,h⟩:=h
 refine cf49 w0 m c _ ?_
 refine ⟨_,_,_,cel h.ps rfl,_,_,_,cel h.ps rfl,rfl,?_⟩
 intro b2 hB2 hN2 M2
 have l2:AM.le m M2:=le_new hN2 _
 have p2:M2 b2=some (.cells ([.int .i64 (s.ents.length:Int)]:List Value).toArray 3):=upd_get_same
 clear_value M2
 have h1:=h.grow l2
 refine CI.app h1 (j:=3) (p:=6) (s':=s.opn) (by omega) elN (by omega) hl (by omega) (rd_of p2 rfl) (by simp [Value.oneCell']) (fun g cp'=>by simp [Blk,CS.len,CS.opn]) (by simp [CS.len,CS.opn]) (by simp [CS.xs,CS.opn,intCells]) (fun i hi h6=>?_) rfl (fun m' h'=>retP_of ⟨rfl,h'⟩)
 rcases i with _ | _ | _ | _ | _ | _ | _ <;> first | omega | exact ⟨rfl,rfl⟩
section
variable (w0:World) (mt m0 m:AM) (c N:Nat)
theorem open_w (h:WI mt m0 m w0.heap.size c N) (hN:N<=1000000) :
  CallsA Tryz.prog w0 49 #[.pointer (some ⟨c,5,none⟩)] m (fun r m'=>r=.tuple #[]/\WI mt m0 m' w0.heap.size c (N+1)):=by
 obtain ⟨s,h1,h2,h3⟩:=h
 have hz:=h2
 unfold CS.sz at hz
 refine CallsA.mono (open_c w0 mt m0 m c s h1 (by omega)) ?_
 rintro r m' ⟨rfl,h'⟩
 refine ⟨rfl,_,h',by simp [CS.sz,CS.opn]; omega,?_,?_⟩
 .show (s.begs ++ [(s.ents.length:Int)]).Pairwise (·<=·)
  rw [List.pairwise_append]
  exact ⟨h3.1,List.pairwise_singleton _ _,fun a ha b hb=>by simp at hb; have:=(h3.2 a ha).2; omega⟩
 .intro b hb
  simp only [CS.opn,List.mem_append,List.mem_singleton] at hb
  rcases hb with hb | rfl
  .exact h3.2 b hb
  .exact ⟨by omega,Int.le_refl _⟩
theorem pushE (s:CS) (x:ByteArray) (t:Thg) {m m1:AM} (h:CIx mt m0 m1 w0.heap.size c s) (hl:s.ents.length<=1000000) {R:Value->AM->Prop} (hR:∀ m',CIx mt m0 m' w0.heap.size c { s with ents:=s.ents ++ [⟨x,t⟩] }->R (.bool true) m') :
  ∃ (A26:Option Addr) (n27 c28:Nat),m1.cell ⟨c,5,none⟩=some (.slice A26 n27 c28) /\
  ∀ b33:Nat,w0.heap.size<=b33->m1 b33=none->let m34:=AM.upd m1 b33 (.cells #[.string x,.int .i64 t.kind,.int .i64 t.pos,.int .i64 t.size,.bool t.takes] 243);
  awp Tryz.prog w0.heap.size (Builtin.append_ #[68,68] 68 #[.slice A26 n27 c28,.slice (some ⟨b33,0,none⟩) 1 1]) m34 fun v35 m36 =>
  ∃ (A37:Option Addr) (n38 c39:Nat),v35=.slice A37 n38 c39/\StC w0.heap.size m36 ⟨c,5,none⟩ (.slice A37 n38 c39) fun m40 =>
  RetP R (.bool true) m40:=by
 obtain ⟨At,ct,L,h⟩:=h
 refine ⟨_,_,_,cel h.ps rfl,?_⟩
 intro b2 hB2 hN2 M2
 have l2:AM.le m1 M2:=le_new hN2 _
 have p2:M2 b2=some (.cells (Ent.cells ⟨x,t⟩).toArray 243):=upd_get_same
 clear_value M2
 have h1:=h.grow l2
 refine CI.app h1 (j:=2) (p:=5) (s':={ s with ents:=s.ents ++ [⟨x,t⟩] }) (by omega) elE (by omega) hl (by omega) (rd_of p2 rfl) (by simp [Ent.cells,Thg.cells,Value.oneCell']) (fun g cp'=>by simp [Blk,CS.len]) (by simp [CS.len]) (by simp [CS.xs]) (fun i hi h6=>?_) rfl (fun m' h'=>retP_of (hR _ h'))
 rcases i with _ | _ | _ | _ | _ | _ | _ <;> first | omega | exact ⟨rfl,rfl⟩
theorem defineN_w (x:ByteArray) (t:Thg) (h:WI mt m0 m w0.heap.size c N) (hN:N<=1000000) :
  CallsA Tryz.prog w0 171 #[.pointer (some ⟨c,5,none⟩),.string x,t.val] m (fun r m'=>∃ b,r=.bool b/\WI mt m0 m' w0.heap.size c (N+1)):=by
 obtain ⟨s,h1,h2,h3⟩:=h
 have hz:=h2
 unfold CS.sz at hz
 have lt:=h1.lt
 refine cf171 w0 m c x _ _ _ _ _ ?_
 intro b hB hN1 M
 have hb0:m0 b=none:=AM.le_none h1.le hN1
 have k1:CIx mt (m0.upd b (.cells (Thg.cells t).toArray 128)) M w0.heap.size c s:=(h1.box hN1 _).1
 have lX:m0.le (m0.upd b (.cells (Thg.cells t).toArray 128)):=le_new hb0 _
 have hXb:(m0.upd b (.cells (Thg.cells t).toArray 128)) b=some (.cells (Thg.cells t).toArray 128 (0,0)):=upd_get_same
 clear_value M
 revert k1 lX hXb
 generalize m0.upd b (.cells (Thg.cells t).toArray 128)=X
 intro k1 lX hXb
 have hsame:∀ M2,CIx mt X M2 w0.heap.size c s->WI mt m0 M2 w0.heap.size c (N+1):=fun M2 h=>⟨s,h.base lX lt,by omega,h3⟩
 have hpush:∀ M2,CIx mt X M2 w0.heap.size c s->_:=fun M2 h=>pushE w0 mt X c s x t (m:=M2) h (by omega) (R:=fun r m'=>∃ b,r=.bool b/\WI mt m0 m' w0.heap.size c (N+1)) fun m' h' =>
  ⟨true,rfl,_,h'.base lX lt,by simp [CS.sz]; omega,CS.ok_same h3 rfl (by simp)⟩
 refine CallsA.mono (depth_c w0 _ _ M c s k1) ?_
 rintro r m1 ⟨rfl,k2⟩
 refine ⟨_,rfl,rfl,?_⟩
 unfold bcase
 split
 .exact retP_of ⟨_,rfl,hsame _ k2⟩
 .refine CallsA.mono (find_c w0 _ _ m1 c s x k2 (by omega) (by omega)) ?_
  rintro r m2 ⟨t2,d,ok,rfl,k3⟩
  refine ⟨_,_,_,_,_,_,rfl,?_⟩
  intro b2 hB2 hN2 M2
  have hX2:X b2=none:=AM.le_none k3.le hN2
  have k4:CIx mt (X.upd b2 (.cells (Thg.cells ⟨0,0,0,false⟩).toArray 128)) M2 w0.heap.size c s:=(k3.box hN2 _).1
  clear_value M2
  refine k4.stT hX2 (AM.le_trans lt lX) hB2 (by simp [Thg.cells]) fun m4 h4=>h4.stT hX2 (AM.le_trans lt lX) hB2 (by simp [Thg.cells]) fun m5 h5=>h5.stT hX2 (AM.le_trans lt lX) hB2 (by simp [Thg.cells]) fun m6 h6=>h6.stT hX2 (AM.le_trans lt lX) hB2 (by simp [Thg.cells]) fun m7 h7=>?_
  have k5:CIx mt X m7 w0.heap.size c s:=h7.base (le_new hX2 _) (AM.le_trans lt lX)
  cases ok
  .obtain ⟨A,n,c',e,hp⟩:=hpush _ k5
   have hb:=k5.le _ _ hXb
   exact ⟨rfl,A,n,c',e,_,cel hb rfl,_,cel hb rfl,_,cel hb rfl,_,cel hb rfl,rfl,rfl,hp⟩
  .refine CallsA.mono (depth_c w0 _ _ m7 c s k5) ?_
   rintro r m8 ⟨rfl,k6⟩
   refine ⟨_,rfl,rfl,?_⟩
   split
   .exact retP_of ⟨_,rfl,hsame _ k6⟩
   .obtain ⟨A,n,c',e,hp⟩:=hpush _ k6
    have hb:=k6.le _ _ hXb
    exact ⟨A,n,c',e,_,cel hb rfl,_,cel hb rfl,_,cel hb rfl,_,cel hb rfl,rfl,rfl,hp⟩
theorem define_w (x:ByteArray) (pos:Int) (t:Thg) (h:WI mt m0 m w0.heap.size c N) (hN:N<=1000000) :
  CallsA Tryz.prog w0 140 #[.pointer (some ⟨c,0,none⟩),.string x,.int .i64 pos,t.val] m (fun r m'=>r=.tuple #[]/\WI mt m0 m' w0.heap.size c (N+1)):=by
 have lt:=h.lt
 refine cf140 w0 m c x _ _ _ _ _ _ ?_
 intro b hB hN1 M
 obtain ⟨k1,hb0⟩:=h.box hN1 (.cells (Thg.cells t).toArray 128)
 replace k1:WI mt (m0.upd b (.cells (Thg.cells t).toArray 128)) M w0.heap.size c N:=k1
 have lX:m0.le (m0.upd b (.cells (Thg.cells t).toArray 128)):=le_new hb0 _
 have hb:=k1.le _ _ upd_get_same
 clear_value M
 obtain ⟨i,hi⟩:=k1.num.2.1
 refine ⟨_,hi,rfl,?_⟩
 cases (i == 0)
 .exact ⟨rfl,retP_of ⟨rfl,(k1.base lX lt).mono (by omega)⟩⟩
 .refine ⟨_,cel hb rfl,_,cel hb rfl,_,cel hb rfl,_,cel hb rfl,?_⟩
  refine CallsA.mono (defineN_w w0 mt _ M c N x t k1 hN) ?_
  rintro r m1 ⟨ok,rfl,k2⟩
  refine ⟨_,rfl,?_⟩
  try dsimp only
  unfold bcase
  split
  .refine CallsA.mono (stop_w w0 mt _ m1 c _ 6 pos k2) ?_
   rintro r m2 ⟨rfl,k3⟩
   exact ⟨rfl,retP_of ⟨rfl,k3.base lX lt⟩⟩
  .exact retP_of ⟨rfl,k2.base lX lt⟩
theorem load_w (t:Thg) (n:Int) (h:WI mt m0 m w0.heap.size c N) (hN:N<=1000000) :
  CallsA Tryz.prog w0 216 #[.pointer (some ⟨c,0,none⟩),t.val,.int .i64 n] m (fun r m'=>r=.tuple #[]/\WI mt m0 m' w0.heap.size c (N+2)):=by
 refine cf216 w0 m c _ _ _ _ _ _ ?_
 intro b hB hN1 M
 have k1:=h.grow (m':=M) (le_new hN1 _)
 have hb:M b=some (.cells (Thg.cells t).toArray 128):=upd_get_same
 clear_value M
 refine ⟨_,cel hb rfl,rfl,?_⟩
 cases (t.kind == 2)
 .refine ⟨_,cel hb rfl,rfl,?_⟩
  refine CallsA.mono (mark_w w0 mt _ M c N ⟨12,n,0,0,t.pos⟩ 1 0 k1 hN) ?_
  rintro r m1 ⟨y,rfl,k2⟩
  exact ⟨_,rfl,retP_of ⟨rfl,k2⟩⟩
 .refine ⟨_,cel hb rfl,rfl,?_⟩
  refine CallsA.mono (put_w w0 mt _ M c N ⟨12,n,30,0,t.pos⟩ k1 hN) ?_
  rintro r m1 ⟨y,rfl,k2⟩
  exact ⟨_,rfl,retP_of ⟨rfl,k2.mono (by omega)⟩⟩
theorem store_w (t:Thg) (n:Int) (h:WI mt m0 m w0.heap.size c N) (hN:N<=1000000) :
  CallsA Tryz.prog w0 178 #[.pointer (some ⟨c,0,none⟩),t.val,.int .i64 n] m (fun r m'=>r=.tuple #[]/\WI mt m0 m' w0.heap.size c (N+2)):=by
 refine cf178 w0 m c _ _ _ _ _ _ ?_
 intro b hB hN1 M
 have k1:=h.grow (m':=M) (le_new hN1 _)
 have hb:M b=some (.cells (Thg.cells t).toArray 128):=upd_get_same
 clear_value M
 refine ⟨_,cel hb rfl,rfl,?_⟩
 cases (t.kind == 2)
 .refine ⟨_,cel hb rfl,rfl,?_⟩
  refine CallsA.mono (mark_w w0 mt _ M c N ⟨13,n,0,0,t.pos⟩ 1 0 k1 hN) ?_
  rintro r m1 ⟨y,rfl,k2⟩
  exact ⟨_,rfl,retP_of ⟨rfl,k2⟩⟩
 .refine ⟨_,cel hb rfl,rfl,?_⟩
  refine CallsA.mono (put_w w0 mt _ M c N ⟨13,n,30,0,t.pos⟩ k1 hN) ?_
  rintro r m1 ⟨y,rfl,k2⟩
  exact ⟨_,rfl,retP_of ⟨rfl,k2.mono (by omega)⟩⟩
theorem fnd_w (x:ByteArray) (pos:Int) (h:WI mt m0 m w0.heap.size c N) (hN:N<=1000000) :
  CallsA Tryz.prog w0 177 #[.pointer (some ⟨c,0,none⟩),.string x,.int .i64 pos] m (fun r m'=>∃ t:Thg,r=t.val/\WI mt m0 m' w0.heap.size c N):=by
 have lt:=h.lt
 refine cf177 w0 m c x _ _ ?_
 intro b hB hN1 M
 obtain ⟨k1,hb0⟩:=h.box hN1 (.cells (Thg.cells ⟨0,0,0,false⟩).toArray 128)
 replace k1:WI mt (m0.upd b (.cells (Thg.cells ⟨0,0,0,false⟩).toArray 128)) M w0.heap.size c N:=k1
 have lX:m0.le (m0.upd b (.cells (Thg.cells ⟨0,0,0,false⟩).toArray 128)):=le_new hb0 _
 clear_value M
 refine CallsA.mono (findN_w w0 mt _ M c N x k1 hN) ?_
 rintro r m1 ⟨t,d,ok,rfl,k2⟩
 refine ⟨_,_,_,_,_,_,rfl,?_⟩
 intro b2 hB2 hN2 M2
 obtain ⟨k3,hb2⟩:=k2.box hN2 (.cells (Thg.cells ⟨0,0,0,false⟩).toArray 128)
 have l2:AM.le m1 M2:=le_new hN2 _
 have p2:M2 b2=some (.cells (Thg.cells ⟨0,0,0,false⟩).toArray 128):=upd_get_same
 replace k3:WI mt ((m0.upd b (.cells (Thg.cells ⟨0,0,0,false⟩).toArray 128)).upd b2 (.cells (Thg.cells ⟨0,0,0,false⟩).toArray 128)) M2 w0.heap.size c N:=k3
 clear_value M2
 have hne:b≠b2:=fun e=>by rw [<- e,upd_get_same] at hb2; cases hb2
 refine k3.stT hb2 (AM.le_trans lt lX) hB2 (by simp [Thg.cells]) fun m4 h4=>h4.stT hb2 (AM.le_trans lt lX) hB2 (by simp [Thg.cells]) fun m5 h5=>h5.stT hb2 (AM.le_trans lt lX) hB2 (by simp [Thg.cells]) fun m6 h6=>h6.stT hb2 (AM.le_trans lt lX) hB2 (by simp [Thg.cells]) fun m7 h7=>?_
 have fin:∀ M,WI mt ((m0.upd b (.cells (Thg.cells ⟨0,0,0,false⟩).toArray 128)).upd b2 (.cells (Thg.cells t).toArray 128)) M w0.heap.size c N ->
   ∃ i22,M.cell ⟨b2,0,none⟩=some (.int .i64 i22)/\∃ i23,M.cell ⟨b2,1,none⟩=some (.int .i64 i23)/\∃ i24,M.cell ⟨b2,2,none⟩=some (.int .i64 i24)/\∃ t25,M.cell ⟨b2,3,none⟩=some (.bool t25) /\
   StC w0.heap.size M ⟨b,0,none⟩ (.int .i64 i22) fun m26=>StC w0.heap.size m26 ⟨b,1,none⟩ (.int .i64 i23) fun m27=>StC w0.heap.size m27 ⟨b,2,none⟩ (.int .i64 i24) fun m28=>StC w0.heap.size m28 ⟨b,3,none⟩ (.bool t25) fun m29 =>
   ∃ i30,m29.cell ⟨b,0,none⟩=some (.int .i64 i30)/\∃ i31,m29.cell ⟨b,1,none⟩=some (.int .i64 i31)/\∃ i32,m29.cell ⟨b,2,none⟩=some (.int .i64 i32)/\∃ t33,m29.cell ⟨b,3,none⟩=some (.bool t33) /\
   RetP (fun r m'=>∃ t:Thg,r=t.val/\WI mt m0 m' w0.heap.size c N) (.agg #[.int .i64 i30,.int .i64 i31,.int .i64 i32,.bool t33]) m29:=fun M k=>by
  have p:=k.le _ _ upd_get_same
  refine ⟨_,cel p rfl,_,cel p rfl,_,cel p rfl,_,cel p rfl,?_⟩
  have k':WI mt (m0.upd b (.cells (Thg.cells ⟨0,0,0,false⟩).toArray 128)) M w0.heap.size c N:=k.base (le_new hb2 _) (AM.le_trans lt lX)
  refine k'.stT hb0 lt hB (by simp [Thg.cells]) fun m4 h4=>h4.stT hb0 lt hB (by simp [Thg.cells]) fun m5 h5=>h5.stT hb0 lt hB (by simp [Thg.cells]) fun m6 h6=>h6.stT hb0 lt hB (by simp [Thg.cells]) fun m7 h7=>?_
  have q:=h7.le _ _ upd_get_same
  exact ⟨_,cel q rfl,_,cel q rfl,_,cel q rfl,_,cel q rfl,retP_of ⟨⟨_,_,_,_⟩,rfl,h7.base (le_new hb0 _) lt⟩⟩
 cases ok
 .refine CallsA.mono (stop_w w0 mt _ m7 c _ 5 pos h7) ?_
  rintro r m8 ⟨rfl,k8⟩
  exact ⟨rfl,fin _ k8⟩
 .exact fin _ h7
end
def WE (mt m0 m:AM) (B c N:Nat):Prop:=∃ s,CIx mt m0 m B c s/\s.sz<=N/\s.ok/\(s.e=0->s.sz+200<=N)
theorem WE.wi {mt m0 m:AM} {B c N:Nat} (h:WE mt m0 m B c N):WI mt m0 m B c N:=by
 obtain ⟨s,h1,h2,h3,_⟩:=h
 exact ⟨s,h1,h2,h3⟩
theorem WE.err {mt m0 m:AM} {B c N:Nat} (h:WE mt m0 m B c N):∃ i,m.cell ⟨c,13,none⟩=some (.int .i64 i)/\WI mt m0 m B c N/\(i=0->200<=N/\WI mt m0 m B c (N-200)):=by
 have hw:=h.wi
 obtain ⟨s,⟨At,ct,L,h1⟩,h2,h3,h4⟩:=h
 exact ⟨_,cel h1.ps rfl,hw,fun e=>⟨by have:=h4 e; omega,s,⟨At,ct,L,h1⟩,by have:=h4 e; omega,h3⟩⟩
theorem stop_e0 {s:CS} {e x:Int} (he:e≠0):(s.stop e x).e≠0:=by
 unfold CS.stop
 cases h:s.e == 0
 .exact fun h'=>by simp at h; exact h h'
 .exact he
section
variable (w0:World) (mt m0 m:AM) (c N:Nat)
theorem must_e (x:ByteArray) (h:WI mt m0 m w0.heap.size c N) :
  CallsA Tryz.prog w0 47 #[.pointer (some ⟨c,0,none⟩),.string x] m (fun r m'=>r=.tuple #[]/\WE mt m0 m' w0.heap.size c N):=by
 obtain ⟨s,h1,h2,h3⟩:=h
 refine CallsA.mono (must_c w0 mt m0 m c s x h1) ?_
 rintro r m' ⟨rfl,h'⟩
 unfold CS.must at h'
 cases hs:s.sees x
 .rw [hs] at h'
  exact ⟨rfl,_,h',Nat.le_trans (stop_ok _ _ h3).2 h2,(stop_ok _ _ h3).1,fun e=>absurd e (stop_e0 (by decide))⟩
 .rw [hs] at h'
  have:=nxt_sz' (sees_ne hs)
  exact ⟨rfl,_,h',Nat.le_trans (nxt_sz s) h2,nxt_ok h3,fun _=>by show s.nxt.sz+200<=N; omega⟩
theorem name_e (h:WI mt m0 m w0.heap.size c N) :
  CallsA Tryz.prog w0 48 #[.pointer (some ⟨c,0,none⟩)] m (fun r m'=>∃ x i,r=.tuple #[.string x,.int .i64 i]/\WE mt m0 m' w0.heap.size c N):=by
 obtain ⟨s,h1,h2,h3⟩:=h
 refine CallsA.mono (name_c w0 mt m0 m c s h1) ?_
 rintro r m' ⟨rfl,h'⟩
 refine ⟨_,_,rfl,?_⟩
 unfold CS.aname at h'
 cases hs:s.isName
 .rw [hs] at h'
  exact ⟨_,h',Nat.le_trans (stop_ok _ _ h3).2 h2,(stop_ok _ _ h3).1,fun e=>absurd e (stop_e0 (by decide))⟩
 .rw [hs] at h'
  have:=nxt_sz' (isName_ne hs)
  exact ⟨_,h',Nat.le_trans (nxt_sz s) h2,nxt_ok h3,fun _=>by show s.nxt.sz+200<=N; omega⟩
theorem number_e (h:WI mt m0 m w0.heap.size c N) :
  CallsA Tryz.prog w0 141 #[.pointer (some ⟨c,0,none⟩)] m (fun r m'=>∃ x i,r=.tuple #[.int .i64 x,.int .i64 i]/\WE mt m0 m' w0.heap.size c N):=by
 obtain ⟨s,h1,h2,h3⟩:=h
 refine CallsA.mono (number_c w0 mt m0 m c s h1) ?_
 rintro r m' ⟨rfl,h'⟩
 refine ⟨_,_,rfl,?_⟩
 unfold CS.anum at h'
 cases hs:s.isNum
 .rw [hs] at h'
  exact ⟨_,h',Nat.le_trans (stop_ok _ _ h3).2 h2,(stop_ok _ _ h3).1,fun e=>absurd e (stop_e0 (by decide))⟩
 .rw [hs] at h'
  have hne:s.toks≠[]:=fun e=>by unfold CS.isNum at hs; rw [e] at hs; cases hs
  have:=nxt_sz' hne
  exact ⟨_,h',Nat.le_trans (nxt_sz s) h2,nxt_ok h3,fun _=>by show s.nxt.sz+200<=N; omega⟩
end
theorem const_w (w0:World) (mt m0 m:AM) (c N:Nat) (r n:Int) (h:WI mt m0 m w0.heap.size c N) (hN:N<=999999) (hf:∀ m,CallsA Tryz.prog w0 74 #[.int .i64 n,.int .i64 16] m (fun r m'=>(∃ b,r=.bool b)/\m'=m))
  (hw:∀ m,CallsA Tryz.prog w0 130 #[.int .i64 n] m (fun r m'=>(∃ b,r=.int .i64 b)/\m'=m)) (he:∀ m n,CallsA Tryz.prog w0 218 #[.int .i64 n,.int .i64 16] m (fun r m'=>(∃ b,r=.int .i64 b)/\m'=m)) :
  CallsA Tryz.prog w0 215 #[.pointer (some ⟨c,2,none⟩),.int .i64 r,.int .i64 n] m (fun r m'=>r=.tuple #[]/\WI mt m0 m' w0.heap.size c (N+2)):=by
 refine cf215 w0 m c _ _ _ ?_
 refine CallsA.mono (hf m) ?_
 rintro r1 m1 ⟨⟨b,rfl⟩,rfl⟩
 refine ⟨_,rfl,?_⟩
 cases b
 .refine CallsA.mono (hw _) ?_
  rintro r2 m2 ⟨⟨b,rfl⟩,rfl⟩
  refine ⟨_,rfl,rfl,by omega,?_⟩
  refine CallsA.mono (he _ _) ?_
  rintro r3 m3 ⟨⟨b3,rfl⟩,rfl⟩
  refine ⟨_,rfl,rfl,?_⟩
  refine CallsA.mono (put_w w0 mt _ _ c N ⟨11,r,0,0,b3⟩ h (by omega)) ?_
  rintro r4 m4 ⟨y,rfl,k4⟩
  refine ⟨_,rfl,?_⟩
  refine CallsA.mono (he _ _) ?_
  rintro r5 m5 ⟨⟨b5,rfl⟩,rfl⟩
  refine ⟨_,rfl,rfl,?_⟩
  refine CallsA.mono (put_w w0 mt _ _ c _ ⟨10,r,r,0,b5⟩ k4 (by omega)) ?_
  rintro r6 m6 ⟨y,rfl,k6⟩
  exact ⟨_,rfl,retP_of ⟨rfl,k6⟩⟩
 .refine ⟨rfl,?_⟩
  refine CallsA.mono (put_w w0 mt _ _ c N ⟨10,r,0,0,n⟩ h (by omega)) ?_
  rintro r4 m4 ⟨y,rfl,k4⟩
  exact ⟨_,rfl,retP_of ⟨rfl,k4.mono (by omega)⟩⟩
theorem extend_c (w0:World) (m:AM) (n:Int):CallsA Tryz.prog w0 218 #[.int .i64 n,.int .i64 16] m (fun r m'=>(∃ b,r=.int .i64 b)/\m'=m):=by
 refine cf218 w0 m n 16 _ ?_
 exact ⟨rfl,rfl,rfl,by decide,by decide,retP_of ⟨⟨_,rfl⟩,rfl⟩⟩
theorem cst_w (w0:World) (mt m0 m:AM) (c N:Nat) (r n:Int) (h:WI mt m0 m w0.heap.size c N) (hN:N<=999999) :
  CallsA Tryz.prog w0 215 #[.pointer (some ⟨c,2,none⟩),.int .i64 r,.int .i64 n] m (fun r m'=>r=.tuple #[]/\WI mt m0 m' w0.heap.size c (N+2)) :=
 const_w w0 mt m0 m c N r n h hN (fun m=>(fitsW w0 m n).mono fun _ _ h=>⟨⟨_,h.1⟩,h.2⟩) (fun m=>(wrapW w0 m n).mono fun _ _ h=>⟨⟨_,h.1⟩,h.2⟩) (fun m n=>extend_c w0 m n)
def Gives (w0:World) (f c N:Nat):Prop:=∀ mt m0 m,WI mt m0 m w0.heap.size c N->CallsA Tryz.prog w0 f #[.pointer (some ⟨c,0,none⟩)] m (fun r m'=>∃ x,r=.int .i64 x/\WI mt m0 m' w0.heap.size c N)
section
variable (w0:World) (mt m0 m:AM) (c N:Nat)
theorem innerE_w (x:Int) (h:WI mt m0 m w0.heap.size c N) (hg:Gives w0 152 c N) :
  CallsA Tryz.prog w0 209 #[.pointer (some ⟨c,0,none⟩),.int .i64 x,.func (.func 152) #[.pointer (some ⟨c,0,none⟩)] #[]] m (fun r m'=>∃ x,r=.int .i64 x/\WI mt m0 m' w0.heap.size c N):=by
 refine cf209 w0 m c _ _ ?_
 dsimp only [cf209,mkF]
 obtain ⟨i,hi⟩:=h.num.2.2.1
 refine ⟨_,hi,rfl,h.st (by omega) fun m1 h1=>?_⟩
 obtain ⟨i1,hi1⟩:=h1.num.2.2.1
 refine ⟨_,hi1,rfl,?_⟩
 unfold bcase
 split
 .refine CallsA.mono (stop_w w0 mt m0 m1 c N 8 x h1) ?_
  rintro r m2 ⟨rfl,h2⟩
  exact ⟨rfl,retP_of ⟨_,rfl,h2⟩⟩
 .refine CallsA.mono (hg mt m0 m1 h1) ?_
  rintro r m2 ⟨y,rfl,h2⟩
  obtain ⟨i2,hi2⟩:=h2.num.2.2.1
  exact ⟨_,rfl,_,hi2,rfl,h2.st (by omega) fun m3 h3=>retP_of ⟨_,rfl,h3⟩⟩
theorem innerF_w (x:Int) (h:WI mt m0 m w0.heap.size c N) (hg:Gives w0 208 c N) :
  CallsA Tryz.prog w0 209 #[.pointer (some ⟨c,0,none⟩),.int .i64 x,.func (.func 208) #[.pointer (some ⟨c,0,none⟩)] #[]] m (fun r m'=>∃ x,r=.int .i64 x/\WI mt m0 m' w0.heap.size c N):=by
 refine fcf209 w0 m c _ _ ?_
 dsimp only [fcf209,mkF]
 obtain ⟨i,hi⟩:=h.num.2.2.1
 refine ⟨_,hi,rfl,h.st (by omega) fun m1 h1=>?_⟩
 obtain ⟨i1,hi1⟩:=h1.num.2.2.1
 refine ⟨_,hi1,rfl,?_⟩
 unfold bcase
 split
 .refine CallsA.mono (stop_w w0 mt m0 m1 c N 8 x h1) ?_
  rintro r m2 ⟨rfl,h2⟩
  exact ⟨rfl,retP_of ⟨_,rfl,h2⟩⟩
 .refine CallsA.mono (hg mt m0 m1 h1) ?_
  rintro r m2 ⟨y,rfl,h2⟩
  obtain ⟨i2,hi2⟩:=h2.num.2.2.1
  exact ⟨_,rfl,_,hi2,rfl,h2.st (by omega) fun m3 h3=>retP_of ⟨_,rfl,h3⟩⟩
theorem index_w (t:Thg) (h:WI mt m0 m w0.heap.size c N) (hN:N<=900000) (hg:200<=N->Gives w0 152 c (N-200)) :
  CallsA Tryz.prog w0 200 #[.pointer (some ⟨c,0,none⟩),t.val] m (fun r m'=>∃ x,r=.int .i64 x/\WI mt m0 m' w0.heap.size c N):=by
 have lt:=h.lt
 refine cf200 w0 m c _ _ _ _ _ ?_
 intro b hB hN1 M
 obtain ⟨k1,hb0⟩:=h.box hN1 (.cells (Thg.cells t).toArray 128)
 replace k1:WI mt (m0.upd b (.cells (Thg.cells t).toArray 128)) M w0.heap.size c N:=k1
 have lX:m0.le (m0.upd b (.cells (Thg.cells t).toArray 128)):=le_new hb0 _
 clear_value M
 refine CallsA.mono (where_w w0 mt _ M c N k1) ?_
 rintro r m1 ⟨i,rfl,k2⟩
 refine ⟨_,rfl,?_⟩
 refine CallsA.mono (must_e w0 mt _ m1 c N _ k2) ?_
 rintro r m2 ⟨rfl,k3⟩
 refine ⟨rfl,?_⟩
 obtain ⟨e,he,k4,k5⟩:=k3.err
 refine ⟨_,he,rfl,?_⟩
 cases h0:(e != 0)
 .obtain ⟨hn,k6⟩:=k5 (by simpa using h0)
  refine CallsA.mono (innerE_w w0 mt _ m2 c _ i k6 (hg hn)) ?_
  rintro r m3 ⟨y,rfl,k7⟩
  refine ⟨_,rfl,?_⟩
  refine CallsA.mono (must_w w0 mt _ m3 c _ _ k7) ?_
  rintro r m4 ⟨rfl,k8⟩
  have p:=k8.le _ _ upd_get_same
  refine ⟨rfl,_,cel p rfl,rfl,?_⟩
  refine CallsA.mono (put_w w0 mt _ m4 c _ ⟨14,y,0,0,t.size⟩ k8 (by omega)) ?_
  rintro r m5 ⟨z,rfl,k9⟩
  exact ⟨_,rfl,retP_of ⟨_,rfl,(k9.mono (by omega)).base lX lt⟩⟩
 .rw [bcase_t]; exact retP_of ⟨_,rfl,k4.base lX lt⟩
end
section
variable (w0:World) (c N:Nat)
theorem value_w (hN:N<=900000) (hg:400<=N->Gives w0 152 c (N-200-200)):Gives w0 213 c N:=by
 intro mt m0 m h
 have lt:=h.lt
 refine cf213 w0 m c _ ?_
 refine CallsA.mono (name_e w0 mt m0 m c N h) ?_
 rintro r m1 ⟨x,i,rfl,k1⟩
 refine ⟨_,_,rfl,?_⟩
 obtain ⟨e,he,k2,k3⟩:=k1.err
 refine ⟨_,he,rfl,?_⟩
 cases h0:(e != 0)
 case true=>rw [bcase_t]; exact retP_of ⟨_,rfl,k2⟩
 obtain ⟨hn,k4⟩:=k3 (by simpa using h0)
 refine CallsA.mono (fnd_w w0 mt m0 m1 c _ x i k4 (by omega)) ?_
 rintro r m2 ⟨t,rfl,k5⟩
 refine ⟨_,_,_,_,rfl,?_⟩
 intro b2 hB2 hN2 M2
 obtain ⟨k6,hb2⟩:=k5.box hN2 (.cells (Thg.cells ⟨0,0,0,false⟩).toArray 128)
 replace k6:WI mt (m0.upd b2 (.cells (Thg.cells ⟨0,0,0,false⟩).toArray 128)) M2 w0.heap.size c (N-200):=k6
 clear_value M2
 refine k6.stT hb2 lt hB2 (by simp [Thg.cells]) fun m4 h4=>h4.stT hb2 lt hB2 (by simp [Thg.cells]) fun m5 h5=>h5.stT hb2 lt hB2 (by simp [Thg.cells]) fun m6 h6=>h6.stT hb2 lt hB2 (by simp [Thg.cells]) fun m7 h7=>?_
 have l2:m0.le (m0.upd b2 (.cells (Thg.cells t).toArray 128)):=le_new hb2 _
 replace h7:WI mt (m0.upd b2 (.cells (Thg.cells t).toArray 128)) m7 w0.heap.size c (N-200):=h7
 have p:∀ {M K},WI mt (m0.upd b2 (.cells (Thg.cells t).toArray 128)) M w0.heap.size c K->M b2=some (.cells (Thg.cells t).toArray 128 (0,0)):=fun k=>k.le _ _ upd_get_same
 have done:∀ {M K y},WI mt (m0.upd b2 (.cells (Thg.cells t).toArray 128)) M w0.heap.size c K->K<=N->RetP (fun r m'=>∃ x,r=.int .i64 x/\WI mt m0 m' w0.heap.size c N) (.int .i64 y) M:=fun k l=>retP_of ⟨_,rfl,(k.mono l).base l2 lt⟩
 obtain ⟨e2,he2⟩:=h7.num.2.1
 refine ⟨_,he2,rfl,?_⟩
 cases (e2 != 0)
 case true=>rw [bcase_t]; exact done h7 (by omega)
 refine ⟨_,cel (p h7) rfl,rfl,?_⟩
 have stp:CallsA Tryz.prog w0 24 #[.pointer (some ⟨c,0,none⟩),.int .i64 7,.int .i64 i] m7 (fun r m'=>r=.tuple #[]/\RetP (fun r m'=>∃ x,r=.int .i64 x/\WI mt m0 m' w0.heap.size c N) (.int .i64 8) m'):=by
  refine CallsA.mono (stop_w w0 mt _ m7 c _ 7 i h7) ?_
  rintro r m8 ⟨rfl,k8⟩
  exact ⟨rfl,done k8 (by omega)⟩
 cases (t.kind == 3)
 case true=>exact ⟨rfl,stp⟩
 refine ⟨_,cel (p h7) rfl,rfl,?_⟩
 cases (t.kind == 4)
 case true=>exact stp
 refine ⟨_,cel (p h7) rfl,rfl,?_⟩
 cases (t.kind == 1)
 .refine CallsA.mono (reg_w w0 mt _ m7 c _ i h7) ?_
  rintro r m8 ⟨y,rfl,k8⟩
  refine ⟨_,rfl,_,cel (p k8) rfl,_,cel (p k8) rfl,_,cel (p k8) rfl,_,cel (p k8) rfl,?_⟩
  refine CallsA.mono (load_w w0 mt _ m8 c _ t y k8 (by omega)) ?_
  rintro r m9 ⟨rfl,k9⟩
  exact ⟨rfl,done k9 (by omega)⟩
 .refine ⟨_,cel (p h7) rfl,_,cel (p h7) rfl,_,cel (p h7) rfl,_,cel (p h7) rfl,?_⟩
  refine CallsA.mono (index_w w0 mt _ m7 c _ t h7 (by omega) fun h=>hg (by omega)) ?_
  rintro r m8 ⟨y,rfl,k8⟩
  refine ⟨_,rfl,_,cel (p k8) rfl,rfl,?_⟩
  refine CallsA.mono (mark_w w0 mt _ m8 c _ ⟨12,y,y,0,t.pos⟩ 1 0 k8 (by omega)) ?_
  rintro r m9 ⟨z,rfl,k9⟩
  exact ⟨_,rfl,done k9 (by omega)⟩
theorem factor_w (hN:N<=900000) (hg:200<=N->Gives w0 152 c (N-200)) (hf:200<=N->Gives w0 208 c (N-200)) (hv:Gives w0 213 c N) :
  Gives w0 208 c N:=by
 intro mt m0 m h
 refine cf208 w0 m c _ ?_
 refine CallsA.mono (where_w w0 mt m0 m c N h) ?_
 rintro r m1 ⟨i,rfl,k1⟩
 refine ⟨_,rfl,?_⟩
 refine CallsA.mono (has_w w0 mt m0 m1 c N _ k1) ?_
 rintro r m2 ⟨b,rfl,k2,k2'⟩
 refine ⟨_,rfl,?_⟩
 cases b
 case true =>
  obtain ⟨hn,k3⟩:=k2' rfl
  refine CallsA.mono (innerE_w w0 mt m0 m2 c _ i k3 (hg hn)) ?_
  rintro r m3 ⟨y,rfl,k4⟩
  refine ⟨_,rfl,?_⟩
  refine CallsA.mono (must_w w0 mt m0 m3 c _ _ k4) ?_
  rintro r m4 ⟨rfl,k5⟩
  exact ⟨rfl,retP_of ⟨_,rfl,k5.mono (by omega)⟩⟩
 refine CallsA.mono (has_w w0 mt m0 m2 c N _ k2) ?_
 rintro r m3 ⟨b,rfl,k3,k3'⟩
 refine ⟨_,rfl,?_⟩
 cases b
 case true =>
  obtain ⟨hn,k4⟩:=k3' rfl
  refine CallsA.mono (innerF_w w0 mt m0 m3 c _ i k4 (hf hn)) ?_
  rintro r m4 ⟨y,rfl,k5⟩
  refine ⟨_,rfl,rfl,?_⟩
  refine CallsA.mono (put_w w0 mt m0 m4 c _ ⟨2,y,0,y,0⟩ k5 (by omega)) ?_
  rintro r m5 ⟨z,rfl,k6⟩
  exact ⟨_,rfl,retP_of ⟨_,rfl,k6.mono (by omega)⟩⟩
 refine CallsA.mono (has_w w0 mt m0 m3 c N _ k3) ?_
 rintro r m4 ⟨b,rfl,k4,k4'⟩
 refine ⟨_,rfl,?_⟩
 cases b
 case true =>
  obtain ⟨hn,k5⟩:=k4' rfl
  refine CallsA.mono (innerF_w w0 mt m0 m4 c _ i k5 (hf hn)) ?_
  rintro r m5 ⟨y,rfl,k6⟩
  refine ⟨_,rfl,rfl,?_⟩
  refine CallsA.mono (put_w w0 mt m0 m5 c _ ⟨9,y,y,0,0⟩ k6 (by omega)) ?_
  rintro r m6 ⟨z,rfl,k7⟩
  exact ⟨_,rfl,retP_of ⟨_,rfl,k7.mono (by omega)⟩⟩
 refine CallsA.mono (named_w w0 mt m0 m4 c N k4) ?_
 rintro r m5 ⟨b,rfl,k5⟩
 refine ⟨_,rfl,?_⟩
 cases b
 case true =>
  refine CallsA.mono (hv mt m0 m5 k5) ?_
  rintro r m6 ⟨y,rfl,k6⟩
  exact ⟨_,rfl,retP_of ⟨_,rfl,k6⟩⟩
 refine CallsA.mono (number_e w0 mt m0 m5 c N k5) ?_
 rintro r m6 ⟨x,j,rfl,k6⟩
 refine ⟨_,_,rfl,?_⟩
 obtain ⟨e,he,k7,k8⟩:=k6.err
 refine ⟨_,he,rfl,?_⟩
 cases h0:(e != 0)
 case true=>rw [bcase_t]; exact retP_of ⟨_,rfl,k7⟩
 obtain ⟨hn,k9⟩:=k8 (by simpa using h0)
 refine CallsA.mono (reg_w w0 mt m0 m6 c _ j k9) ?_
 rintro r m7 ⟨y,rfl,k10⟩
 refine ⟨_,rfl,?_⟩
 refine CallsA.mono (cst_w w0 mt m0 m7 c _ y x k10 (by omega)) ?_
 rintro r m8 ⟨rfl,k11⟩
 exact ⟨rfl,retP_of ⟨_,rfl,k11.mono (by omega)⟩⟩
end
end Go.Proofs.YtgjamnhjlaohaaaGreatDoor.S
namespace Go.Alog
open Go Go.RowKit
def MapS (es:Array MapEntry) (kv:List (ByteArray × Value)):Prop:=es.toList.map (fun e=>(e.key,e.val))=kv.map (fun p=>(Value.string p.1,p.2))
def findS (k:ByteArray):List (ByteArray × Value)->Nat->Option (Nat × Value)
 | [],_=>none
 | p :: l,i=>if k == p.1 then some (i,p.2) else findS k l (i+1)
theorem findNow_str (k:ByteArray):∀ (l:List MapEntry) (kv:List (ByteArray × Value)) (i:Nat),l.map (fun e=>(e.key,e.val))=kv.map (fun p=>(Value.string p.1,p.2))->Instr.findNow .string (.string k) l i=some (findS k kv i):=by
 intro l
 induction l with
 | nil=>intro kv i h; cases kv with
  | nil=>rfl
  | cons p kv=>cases h
 | cons e l ih =>
  intro kv i h
  cases kv with
  | nil=>cases h
  | cons p kv =>
   simp only [List.map_cons,List.cons.injEq,Prod.mk.injEq] at h
   obtain ⟨⟨h1,h2⟩,h3⟩:=h
   unfold Instr.findNow findS
   rw [h1]
   simp only [Instr.sameNow]
   cases hk:(k == p.1) with
   | true=>simp [h2]
   | false=>simp [ih kv (i+1) h3]
theorem checkKey_str {P:Program} {kt:TypeId} (hk:P.underlying kt=some .string) (b:Bool) (k:ByteArray):pval P (Instr.checkKey b 10000 kt (.string k))=some ():=by
 show pval P (Instr.checkKey b (9999+1) kt (.string k))=some ()
 unfold Instr.checkKey
 rw [pval_bind',pv_underlying hk]
 rfl
theorem findKey_str {P:Program} {kt:TypeId} (hk:P.underlying kt=some .string) (k:ByteArray) {es:Array MapEntry} {kv:List (ByteArray × Value)} (h:MapS es kv):pval P (Instr.findKey kt (.string k) es.toList)=some (findS k kv 0):=by
 unfold Instr.findKey
 rw [pval_bind',pv_underlying hk]
 simp only [Option.bind_some]
 rw [findNow_str k _ _ 0 h]
 rfl
def gotS (z:Value) (o:Option (Nat × Value)):Value:=match o with
 | some p=>.tuple #[p.2,.bool true]
 | none=>.tuple #[z,.bool false]
theorem lookup_str {P:Program} {m:AM} {t kt et:TypeId} {z:Value} (ht:P.underlying t=some (.map kt et)) (hk:P.underlying kt=some .string) (hz:pval P (zeroValue et)=some z) {r:Nat} {es:Array MapEntry} {clk:Nat} {kv:List (ByteArray × Value)}
  (hm:m r=some (.map es clk)) (he:MapS es kv) (k:ByteArray) :
  rval P m (Instr.lookup t (.map (some r)) (.string k) true)=some (gotS z (findS k kv 0)):=by
 unfold Instr.lookup
 rw [rval_bind',rval_of_pval _ (pv_underlying ht)]
 simp only [Option.bind_some]
 rw [rval_bind']
 have hg:rval P m (getObj r)=some (.map es clk):=by simp [getObj,rval,hm]
 rw [hg]
 simp only [Option.bind_some]
 rw [rval_bind']
 show (rval P m (pure es)).bind _=_
 show rval P m (do
   Instr.checkKey es.isEmpty 10000 kt (.string k)
   let (v,ok) <- match <- Instr.findKey kt (.string k) es.toList with
    | some (_,v)=>pure (v,true)
    | none=>pure (<- zeroValue et,false)
   pure (if true then Value.tuple #[v,.bool ok] else v))=_
 rw [rval_bind',rval_of_pval _ (checkKey_str hk _ k)]
 simp only [Option.bind_some]
 rw [rval_bind',rval_of_pval _ (findKey_str hk k he)]
 simp only [Option.bind_some]
 cases findS k kv 0 with
 | none =>
  simp only []
  rw [rval_bind',rval_of_pval _ hz]
  rfl
 | some p=>rfl
theorem mapUpdate_newS {P:Program} {B:Nat} {m:AM} {t kt et:TypeId} (ht:P.underlying t=some (.map kt et)) (hk:P.underlying kt=some .string) {r:Nat} {es:Array MapEntry} {clk:Nat} {kv:List (ByteArray × Value)} (hB:B<=r)
  (hm:m r=some (.map es clk)) (he:MapS es kv) {k:ByteArray} {v:Value} (hn:findS k kv 0=none) {K:Unit->AM->Prop} (h:∀ es' clk',MapS es' (kv ++ [(k,v)])->K () (m.upd r (.map es' clk'))) :
  awp P B (Instr.mapUpdate t (.map (some r)) (.string k) v) m K:=by
 unfold Instr.mapUpdate
 refine awp_pv_bind (pv_underlying ht) ?_
 simp only []
 show awp P B ((getObj r).bind _) m K
 rw [awp_bind]
 refine ⟨_,hm,trivial,?_⟩
 simp only [awp]
 refine awp_pv_bind (checkKey_str hk _ k) ?_
 refine awp_pv_bind (findKey_str hk k he) ?_
 rw [hn]
 refine ⟨hB,⟨_,hm,trivial⟩,?_⟩
 refine h _ _ ?_
 unfold MapS at he ⊢
 simp [he]
end Go.Alog
namespace Go.Proofs.YtgjamnhjlaohaaaGreatDoor.S
open Go Go.RowKit Go.Alog Go.Proofs.YtgjamnhjlaohaaaGreatDoor.T Go.Proofs.YtgjamnhjlaohaaaGreatDoor.V
theorem CIx.poke {mt m0 m:AM} {B c b:Nat} {s:CS} {o o':Obj} (h:CIx mt (m0.upd b o) m B c s) (hb0:m0 b=none) (l:mt.le m0):CIx mt (m0.upd b o') (m.upd b o') B c s:=by
 obtain ⟨At,ct,L,h⟩:=h
 have hn:∀ k:Nat,(m0.upd b o) k=none->k≠b/\m0 k=none:=fun k hk=>by
  by_cases e:k=b
  .rw [e,upd_get_same] at hk; cases hk
  .exact ⟨e,by rwa [upd_get_ne e] at hk⟩
 refine ⟨At,ct,L,h.sp,AM.le_trans l (le_new hb0 _),?_,h.hc,?_,?_,h.rt,h.tc,fun j hj=>?_,fun j hj k hk=>?_⟩
 .intro k o hk
  by_cases e:k=b
  .subst e; rw [upd_get_same] at hk ⊢; exact hk
  .rw [upd_get_ne e] at hk ⊢; exact h.le _ _ (by rw [upd_get_ne e]; exact hk)
 .obtain ⟨h1,h2⟩:=hn _ h.nc
  rw [upd_get_ne h1]; exact h2
 .obtain ⟨h1,h2⟩:=hn _ h.nc
  rw [upd_get_ne h1]; exact h.ps
 .refine (h.ow j hj).upd fun off e=>?_
  obtain ⟨h1,_⟩:=hn b (h.nw j hj b (by rw [e]; simp [obl]))
  exact h1 rfl
 .obtain ⟨h1,h2⟩:=hn _ (h.nw j hj k hk)
  rw [upd_get_ne h1]; exact h2
theorem WI.poke {mt m0 m:AM} {B c N b:Nat} {o o':Obj} (h:WI mt (m0.upd b o) m B c N) (hb0:m0 b=none) (l:mt.le m0):WI mt (m0.upd b o') (m.upd b o') B c N:=by
 obtain ⟨s,h,h2⟩:=h
 exact ⟨s,h.poke hb0 l,h2⟩
def opsK (l:List (ByteArray × Int)):List (ByteArray × Value):=l.map fun p=>(p.1,.int .i64 p.2)
theorem gotK (l:List (ByteArray × Int)) (k:ByteArray):∀ i,∃ x b,gotS (.int .i64 0) (findS k (opsK l) i)=.tuple #[.int .i64 x,.bool b]:=by
 induction l with
 | nil=>intro i; exact ⟨_,_,rfl⟩
 | cons p l ih =>
  intro i
  unfold opsK at ih ⊢
  simp only [List.map_cons,findS]
  split
  .exact ⟨_,_,rfl⟩
  .exact ih _
theorem uMS:Tryz.prog.underlying 79=some (.map 9 3):=by kernel_rfl
theorem uS:Tryz.prog.underlying 9=some .string:=by kernel_rfl
theorem zI:pval Tryz.prog (zeroValue 3)=some (.int .i64 0):=by kernel_rfl
def Ops (m:AM) (r:Nat):Prop:=∃ es clk l,m r=some (.map es clk)/\MapS es (opsK l)
theorem Ops.le {m m':AM} {r:Nat} (h:Ops m r) (l:m.le m'):Ops m' r:=by
 obtain ⟨es,clk,k,h1,h2⟩:=h
 exact ⟨es,clk,k,l _ _ h1,h2⟩
section
variable (w0:World) (c N:Nat)
theorem joined_w (hN:N<=900000) (hf:∀ K,K<=N->Gives w0 208 c K) (mt m0 m:AM) (r:Nat) (h:WI mt m0 m w0.heap.size c N) (ho:Ops m0 r) :
  CallsA Tryz.prog w0 198 #[.pointer (some ⟨c,0,none⟩),.func (.func 208) #[.pointer (some ⟨c,0,none⟩)] #[],.map (some r)] m (fun r m'=>∃ x,r=.int .i64 x/\WI mt m0 m' w0.heap.size c N):=by
 refine cf198 w0 m c _ _ ?_
 refine CallsA.mono (hf N (Nat.le_refl _) mt m0 m h) ?_
 rintro r1 m1 ⟨x,rfl,k1⟩
 refine ⟨_,rfl,?_⟩
 refine vl198_1100 w0 m1 _ _ c _ x (fun n m'=>n<=N/\WI mt m0 m' w0.heap.size c n) (fun m'=>WI mt m0 m' w0.heap.size c N) N rfl rfl rfl rfl ⟨Nat.le_refl _,k1⟩ ?_ ?_
 .rintro n σ m2 ⟨hn,k2⟩
  obtain ⟨e,he⟩:=k2.num.2.1
  have kN:=k2.mono hn
  have k2x:=k2
  obtain ⟨s,⟨At,ct,L,h2⟩,_⟩:=k2
  refine ⟨_,he,rfl,?_⟩
  cases (e == 0)
  .exact ⟨rfl,rfl,rfl,rfl,rfl,kN⟩
  refine ⟨_,_,_,cel h2.ps rfl,rfl,?_⟩
  cases ht:s.toks with
  | nil =>
   have e:decide (((([]:List Tok).length:Nat):Int)>0)=false:=by simp
   rw [e,cond_true,bcase_f]
   exact ⟨rfl,rfl,rfl,rfl,kN⟩
  | cons t ts =>
   obtain ⟨ad,rfl,q0,q1,q2,q3⟩:=h2.tok ht (AM.le_refl _)
   have e:decide ((((t :: ts).length:Nat):Int)>0)=true:=by simp
   rw [e,cond_true,bcase_t]
   refine ⟨_,_,_,cel h2.ps rfl,⟨by simp,by rw [ht]; simp⟩,?_⟩
   refine ⟨_,q1,?_⟩
   obtain ⟨es,clk,l,o1,o2⟩:=ho.le k2x.le
   obtain ⟨v,ok,hv⟩:=gotK l t.text 0
   refine ⟨v,ok,by rw [lookup_str uMS uS zI o1 o2,hv],?_⟩
   cases ok
   .exact ⟨rfl,rfl,rfl,rfl,rfl,kN⟩
   rw [show (!true)=false from rfl,bcase_f]
   refine CallsA.mono (has_w w0 mt m0 m2 c n _ k2x) ?_
   rintro r3 m3 ⟨b,rfl,k3,k3'⟩
   refine ⟨_,rfl,?_⟩
   cases b
   .exact ⟨rfl,rfl,rfl,rfl,k3.mono hn⟩
   obtain ⟨h200,k4⟩:=k3' rfl
   refine CallsA.mono (hf (n-200) (by omega) mt m0 m3 k4) ?_
   rintro r4 m4 ⟨y,rfl,k5⟩
   refine ⟨_,rfl,rfl,?_⟩
   refine CallsA.mono (put_w w0 mt m0 m4 c _ ⟨v,x,x,y,0⟩ k5 (by omega)) ?_
   rintro r5 m5 ⟨z,rfl,k6⟩
   refine ⟨_,rfl,?_⟩
   refine CallsA.mono (give_w w0 mt m0 m5 c _ k6) ?_
   rintro r6 m6 ⟨z,rfl,k7⟩
   exact ⟨_,rfl,rfl,rfl,rfl,rfl,n-200+1,by omega,by omega,k7⟩
 .rintro σ m2 k2
  exact retP_of ⟨_,rfl,k2⟩
end
theorem ins_w {mt m0 m:AM} {B c N r:Nat} {es:Array MapEntry} {clk:Nat} {l:List (ByteArray × Int)} {k:ByteArray} {v:Int} (h:WI mt (m0.upd r (.map es clk)) m B c N) (hr0:m0 r=none) (lt:mt.le m0) (hB:B<=r) (he:MapS es (opsK l))
  (hn:findS k (opsK l) 0=none) {K:Unit->AM->Prop} (hK:∀ m' es' clk',WI mt (m0.upd r (.map es' clk')) m' B c N->MapS es' (opsK (l ++ [(k,v)]))->K () m'):awp Tryz.prog B (Instr.mapUpdate 79 (.map (some r)) (.string k) (.int .i64 v)) m K:=by
 refine mapUpdate_newS uMS uS hB (h.le _ _ upd_get_same) he hn fun es' clk' he'=>hK _ es' clk' (h.poke hr0 lt) ?_
 simpa [opsK] using he'
section
variable (w0:World) (c N:Nat)
theorem joinedT_w (hN:N<=900000) (hf:∀ K,K<=N->Gives w0 199 c K) (mt m0 m:AM) (r:Nat) (h:WI mt m0 m w0.heap.size c N) (ho:Ops m0 r) :
  CallsA Tryz.prog w0 198 #[.pointer (some ⟨c,0,none⟩),.func (.func 199) #[.pointer (some ⟨c,0,none⟩)] #[],.map (some r)] m (fun r m'=>∃ x,r=.int .i64 x/\WI mt m0 m' w0.heap.size c N):=by
 refine tcf198 w0 m c _ _ ?_
 refine CallsA.mono (hf N (Nat.le_refl _) mt m0 m h) ?_
 rintro r1 m1 ⟨x,rfl,k1⟩
 refine ⟨_,rfl,?_⟩
 refine tvl198_1100 w0 m1 _ _ c _ x (fun n m'=>n<=N/\WI mt m0 m' w0.heap.size c n) (fun m'=>WI mt m0 m' w0.heap.size c N) N rfl rfl rfl rfl ⟨Nat.le_refl _,k1⟩ ?_ ?_
 .rintro n σ m2 ⟨hn,k2⟩
  obtain ⟨e,he⟩:=k2.num.2.1
  have kN:=k2.mono hn
  have k2x:=k2
  obtain ⟨s,⟨At,ct,L,h2⟩,_⟩:=k2
  refine ⟨_,he,rfl,?_⟩
  cases (e == 0)
  .exact ⟨rfl,rfl,rfl,rfl,rfl,kN⟩
  refine ⟨_,_,_,cel h2.ps rfl,rfl,?_⟩
  cases ht:s.toks with
  | nil =>
   have e:decide (((([]:List Tok).length:Nat):Int)>0)=false:=by simp
   rw [e,cond_true,bcase_f]
   exact ⟨rfl,rfl,rfl,rfl,kN⟩
  | cons t ts =>
   obtain ⟨ad,rfl,q0,q1,q2,q3⟩:=h2.tok ht (AM.le_refl _)
   have e:decide ((((t :: ts).length:Nat):Int)>0)=true:=by simp
   rw [e,cond_true,bcase_t]
   refine ⟨_,_,_,cel h2.ps rfl,⟨by simp,by rw [ht]; simp⟩,?_⟩
   refine ⟨_,q1,?_⟩
   obtain ⟨es,clk,l,o1,o2⟩:=ho.le k2x.le
   obtain ⟨v,ok,hv⟩:=gotK l t.text 0
   refine ⟨v,ok,by rw [lookup_str uMS uS zI o1 o2,hv],?_⟩
   cases ok
   .exact ⟨rfl,rfl,rfl,rfl,rfl,kN⟩
   rw [show (!true)=false from rfl,bcase_f]
   refine CallsA.mono (has_w w0 mt m0 m2 c n _ k2x) ?_
   rintro r3 m3 ⟨b,rfl,k3,k3'⟩
   refine ⟨_,rfl,?_⟩
   cases b
   .exact ⟨rfl,rfl,rfl,rfl,k3.mono hn⟩
   obtain ⟨h200,k4⟩:=k3' rfl
   refine CallsA.mono (hf (n-200) (by omega) mt m0 m3 k4) ?_
   rintro r4 m4 ⟨y,rfl,k5⟩
   refine ⟨_,rfl,rfl,?_⟩
   refine CallsA.mono (put_w w0 mt m0 m4 c _ ⟨v,x,x,y,0⟩ k5 (by omega)) ?_
   rintro r5 m5 ⟨z,rfl,k6⟩
   refine ⟨_,rfl,?_⟩
   refine CallsA.mono (give_w w0 mt m0 m5 c _ k6) ?_
   rintro r6 m6 ⟨z,rfl,k7⟩
   exact ⟨_,rfl,rfl,rfl,rfl,rfl,n-200+1,by omega,by omega,k7⟩
 .rintro σ m2 k2
  exact retP_of ⟨_,rfl,k2⟩
theorem term_w (hN:N<=900000) (hf:∀ K,K<=N->Gives w0 208 c K):Gives w0 199 c N:=by
 intro mt m0 m h
 have lt:=h.lt
 refine cf199 w0 m c _ ?_
 intro r hB hN1 M
 obtain ⟨k1,hr0⟩:=h.box hN1 (.map #[] 0)
 replace k1:WI mt (m0.upd r (.map #[] 0)) M w0.heap.size c N:=k1
 clear_value M
 refine ins_w (l:=[]) k1 hr0 lt hB rfl rfl fun m1 e1 c1 k2 g2=>ins_w k2 hr0 lt hB g2 rfl fun m2 e2 c2 k3 g3=>ins_w k3 hr0 lt hB g3 rfl fun m3 e3 c3 k4 g4=>ins_w k4 hr0 lt hB g4 rfl fun m4 e4 c4 k5 g5=>?_
 refine CallsA.mono (joined_w w0 c N hN hf mt _ m4 r k5 ⟨_,_,_,upd_get_same,g5⟩) ?_
 rintro r1 m5 ⟨x,rfl,k6⟩
 exact ⟨_,rfl,retP_of ⟨_,rfl,k6.base (le_new hr0 _) lt⟩⟩
theorem sum_w (hN:N<=900000) (hf:∀ K,K<=N->Gives w0 199 c K):Gives w0 176 c N:=by
 intro mt m0 m h
 have lt:=h.lt
 refine cf176 w0 m c _ ?_
 intro r hB hN1 M
 obtain ⟨k1,hr0⟩:=h.box hN1 (.map #[] 0)
 replace k1:WI mt (m0.upd r (.map #[] 0)) M w0.heap.size c N:=k1
 clear_value M
 refine ins_w (l:=[]) k1 hr0 lt hB rfl rfl fun m1 e1 c1 k2 g2=>ins_w k2 hr0 lt hB g2 rfl fun m2 e2 c2 k3 g3=>ins_w k3 hr0 lt hB g3 rfl fun m3 e3 c3 k4 g4=>?_
 refine CallsA.mono (joinedT_w w0 c N hN hf mt _ m3 r k4 ⟨_,_,_,upd_get_same,g4⟩) ?_
 rintro r1 m5 ⟨x,rfl,k6⟩
 exact ⟨_,rfl,retP_of ⟨_,rfl,k6.base (le_new hr0 _) lt⟩⟩
end
section
variable {w0:World} {mt m0:AM} {c K:Nat} {R:Value->AM->Prop} {n0:Nat} {I0:Nat->Int->AM->Prop} {E0_0:AM->Prop} {x3:Int} {x5:ByteArray} {x6:Int} {x7:Nat} {x10:Option Addr} {x10n x10c:Nat} {x11 x12:Int} {σ:Sg} {m:AM}
theorem expr2 (i:Ins) (h:WI mt (m0.upd x7 (.cells (Ins.cells i).toArray 57)) m w0.heap.size c K) (hb:m0 x7=none) (lt:mt.le m0) (hK:K<=900000) (hE:∀ m',WI mt m0 m' w0.heap.size c (K+2)->E0_0 m')
  (h0:σ 0=.pointer (some ⟨c,0,none⟩)) (h3:σ 3=.int .i64 x3) (h5:σ 5=.string x5) (h7:σ 7=.pointer (some ⟨x7,0,none⟩)) (h10:σ 10=.slice x10 x10n x10c) (h11:σ 11=.int .i64 x11) (h12:σ 12=.int .i64 x12) :
  (XV w0 F152 (lq152_11010 R c x3 x10 x10n x10c x11 I0 E0_0 n0) 119615 σ m):=by
 refine vk152_1101001100111111 w0 m σ R n0 I0 E0_0 c x3 x5 x7 x10 x10n x10c x11 x12 h0 h3 h5 h7 h10 h11 h12 ?_
 dsimp only [vk152_1101001100111111,mkK]
 have p:=h.le _ _ upd_get_same
 refine ⟨_,cel p rfl,_,cel p rfl,_,cel p rfl,_,cel p rfl,_,cel p rfl,?_⟩
 refine CallsA.mono (put_w w0 mt _ m c K i h (by omega)) ?_
 rintro r m1 ⟨y,rfl,k1⟩
 refine ⟨_,rfl,?_⟩
 have gv:∀ M K',WI mt (m0.upd x7 (.cells (Ins.cells i).toArray 57)) M w0.heap.size c K'->K'<=K+2->CallsA Tryz.prog w0 153 #[.pointer (some ⟨c,2,none⟩)] M (fun r m'=>∃ t:Bool,r=.bool t/\E0_0 m'):=fun M K' k l=>by
  refine CallsA.mono (give_w w0 mt _ M c K' k) ?_
  rintro r m' ⟨b,rfl,k'⟩
  exact ⟨_,rfl,hE _ ((k'.mono l).base (le_new hb _) lt)⟩
 have pg:CallsA Tryz.prog w0 55 #[.pointer (some ⟨c,2,none⟩),Ins.val ⟨9,x3,x3,0,0⟩] m1 (fun r m'=>∃ i:Int,r=.int .i64 i/\CallsA Tryz.prog w0 153 #[.pointer (some ⟨c,2,none⟩)] m' (fun r m'=>∃ t:Bool,r=.bool t/\E0_0 m')):=by
  refine CallsA.mono (put_w w0 mt _ m1 c _ ⟨9,x3,x3,0,0⟩ k1 (by omega)) ?_
  rintro r m2 ⟨y,rfl,k2⟩
  exact ⟨_,rfl,gv _ _ k2 (by omega)⟩
 have leaf:∀ M,CallsA Tryz.prog w0 153 #[.pointer (some ⟨c,2,none⟩)] M (fun r m'=>∃ t:Bool,r=.bool t/\E0_0 m')->CallsA Tryz.prog w0 153 #[.pointer (some ⟨c,2,none⟩)] M (fun r m'=>∃ t:Bool,r=.bool t/\(.pointer (some ⟨c,0,none⟩):Value)=.pointer (some ⟨c,0,none⟩)/\(.int .i64 x3:Value)=.int .i64 x3/\(.slice x10 x10n x10c:Value)=.slice x10 x10n x10c/\(.int .i64 x11:Value)=.int .i64 x11/\E0_0 m'):=fun M h=>h.mono fun r m' ⟨t,e,k⟩=>⟨t,e,rfl,rfl,rfl,rfl,k⟩
 unfold bcase
 split
 .exact ⟨by assumption,rfl,rfl,pg.mono fun r m' ⟨i,e,k⟩=>⟨i,e,leaf _ k⟩⟩
 .split
  .exact ⟨by assumption,rfl,pg.mono fun r m' ⟨i,e,k⟩=>⟨i,e,leaf _ k⟩⟩
  .split
   .exact ⟨rfl,pg.mono fun r m' ⟨i,e,k⟩=>⟨i,e,leaf _ k⟩⟩
   .exact leaf _ (gv _ _ k1 (by omega))
theorem expr1 (i:Ins) (h:WI mt (m0.upd x7 (.cells (Ins.cells i).toArray 57)) m w0.heap.size c K) (hb:m0 x7=none) (hB:w0.heap.size<=x7) (lt:mt.le m0) (hK:K<=900000) (hE:∀ m',WI mt m0 m' w0.heap.size c (K+2)->E0_0 m')
  (h0:σ 0=.pointer (some ⟨c,0,none⟩)) (h3:σ 3=.int .i64 x3) (h5:σ 5=.string x5) (h6:σ 6=.int .i64 x6) (h7:σ 7=.pointer (some ⟨x7,0,none⟩)) (h10:σ 10=.slice x10 x10n x10c) (h11:σ 11=.int .i64 x11) (h12:σ 12=.int .i64 x12) :
  (XV w0 F152 (lq152_11010 R c x3 x10 x10n x10c x11 I0 E0_0 n0) 59807 σ m):=by
 refine vk152_110100110011111 w0 m σ R n0 I0 E0_0 c x3 x5 x6 x7 x10 x10n x10c x11 x12 h0 h3 h5 h6 h7 h10 h11 h12 ?_
 dsimp only [vk152_110100110011111,mkK]
 unfold bcase
 split
 .refine ⟨by assumption,h.stT hb lt hB (by simp [Ins.cells]) fun m1 h1=>h1.stT hb lt hB (by simp [Ins.cells]) fun m2 h2=>?_⟩
  exact expr2 ⟨i.op,i.a,x6,x3,i.imm⟩ h2 hb lt hK hE rfl rfl rfl rfl rfl rfl rfl
 .split
  .refine h.stT hb lt hB (by simp [Ins.cells]) fun m1 h1=>h1.stT hb lt hB (by simp [Ins.cells]) fun m2 h2=>?_
   exact expr2 ⟨i.op,i.a,x6,x3,i.imm⟩ h2 hb lt hK hE rfl rfl rfl rfl rfl rfl rfl
  .exact expr2 i h hb lt hK hE rfl rfl rfl rfl rfl rfl rfl
end
def signs:List ByteArray:=[ByteArray.mk #[61],ByteArray.mk #[60,62],ByteArray.mk #[60,61],ByteArray.mk #[62,61],ByteArray.mk #[60],ByteArray.mk #[62]]
theorem expression_w (w0:World) (c N:Nat) (hN:N<=900000) (hs:∀ K,K<=N->Gives w0 176 c K):Gives w0 152 c N:=by
 intro mt m0 m h
 have lt:=h.lt
 refine cf152 w0 m c _ ?_
 refine CallsA.mono (hs N (Nat.le_refl _) mt m0 m h) ?_
 rintro r1 m1 ⟨x,rfl,k1⟩
 refine ⟨_,rfl,rfl,?_⟩
 intro b hB hN1 M
 obtain ⟨k2,hb0⟩:=k1.box hN1 (.cells (signs.map Value.string).toArray 9)
 replace k2:WI mt (m0.upd b (.cells (signs.map Value.string).toArray 9)) M w0.heap.size c N:=k2
 have lX:m0.le (m0.upd b (.cells (signs.map Value.string).toArray 9)):=le_new hb0 _
 have hXb:(m0.upd b (.cells (signs.map Value.string).toArray 9)) b=some (.cells (signs.map Value.string).toArray 9 (0,0)):=upd_get_same
 clear_value M
 revert k2 lX hXb
 generalize m0.upd b (.cells (signs.map Value.string).toArray 9)=X
 intro k2 lX hXb
 have lt':=AM.le_trans lt lX
 refine vl152_11010 w0 M _ _ c x (some ⟨b,0,none⟩) 6 6 6 0 (fun n i m'=>0<=i/\i<=6/\n=(6-i).toNat/\WI mt X m' w0.heap.size c N) (fun m'=>WI mt X m' w0.heap.size c N) 6 rfl rfl rfl rfl rfl ⟨by omega,by omega,rfl,k2⟩ ?_ ?_
 .rintro n σ i m2 ⟨i0,i1,rfl,k3⟩
  refine ⟨rfl,?_⟩
  by_cases hi:i<6
  case neg=>rw [decide_eq_false hi,bcase_f]; exact ⟨rfl,rfl,rfl,rfl,k3⟩
  rw [decide_eq_true hi,bcase_t]
  obtain ⟨sg,hsg⟩:∃ sg,signs[i.toNat]?=some sg:=⟨_,List.getElem?_eq_getElem (by simp [signs]; omega)⟩
  have hw:IntKind.wrap .i64 (i+1)=i+1:=by rw [IntKind.wrap_i64]; omega
  refine ⟨⟨i0,by omega⟩,nilO_at rfl ?_⟩
  refine ⟨sg,?_,?_⟩
  .rw [addn,cell_of (k3.le _ _ hXb)]
   simp [hsg]
  obtain ⟨e,he⟩:=k3.num.2.1
  refine ⟨_,he,rfl,?_⟩
  have nxt:∀ M,WI mt X M w0.heap.size c N->∃ n':Nat,n'<(6-i).toNat/\0<=i+1/\i+1<=6/\n'=(6-(i+1)).toNat/\WI mt X M w0.heap.size c N:=fun M k=>⟨_,by omega,by omega,by omega,rfl,k⟩
  rw [hw]
  cases (e != 0)
  case true=>exact ⟨rfl,rfl,rfl,rfl,rfl,rfl,rfl,nxt _ k3⟩
  refine CallsA.mono (has_w w0 mt X m2 c N _ k3) ?_
  rintro r3 m3 ⟨t,rfl,k4,k4'⟩
  refine ⟨_,rfl,?_⟩
  cases t
  case false=>exact ⟨rfl,rfl,rfl,rfl,rfl,rfl,nxt _ k4⟩
  obtain ⟨h200,k5⟩:=k4' rfl
  refine CallsA.mono (hs (N-200) (by omega) mt X m3 k5) ?_
  rintro r4 m4 ⟨y,rfl,k6⟩
  refine ⟨_,rfl,rfl,?_⟩
  intro b2 hB2 hN2 M2
  obtain ⟨k7,hb2⟩:=k6.box hN2 (.cells (Ins.cells ⟨0,0,0,0,0⟩).toArray 57)
  replace k7:WI mt (X.upd b2 (.cells (Ins.cells ⟨0,0,0,0,0⟩).toArray 57)) M2 w0.heap.size c (N-200):=k7
  clear_value M2
  refine k7.stT hb2 lt' hB2 (by simp [Ins.cells]) fun m5 h5=>h5.stT hb2 lt' hB2 (by simp [Ins.cells]) fun m6 h6=>h6.stT hb2 lt' hB2 (by simp [Ins.cells]) fun m7 h7=>h7.stT hb2 lt' hB2 (by simp [Ins.cells]) fun m8 h8=>h8.stT hb2 lt' hB2 (by simp [Ins.cells]) fun m9 h9=>?_
  have hE:∀ m',WI mt X m' w0.heap.size c (N-200+2)->WI mt X m' w0.heap.size c N:=fun m' k=>k.mono (by omega)
  unfold bcase
  split
  .refine ⟨by assumption,h9.stT hb2 lt' hB2 (by simp [Ins.cells]) fun m10 h10=>?_⟩
   exact expr1 ⟨9,x,x,y,0⟩ h10 hb2 hB2 lt' (by omega) hE rfl rfl rfl rfl rfl rfl rfl rfl
  .split
   .refine h9.stT hb2 lt' hB2 (by simp [Ins.cells]) fun m10 h10=>?_
    exact expr1 ⟨9,x,x,y,0⟩ h10 hb2 hB2 lt' (by omega) hE rfl rfl rfl rfl rfl rfl rfl rfl
   .exact expr1 ⟨8,x,x,y,0⟩ h9 hb2 hB2 lt' (by omega) hE rfl rfl rfl rfl rfl rfl rfl rfl
 .rintro σ m2 k3
  exact retP_of ⟨_,rfl,k3.base lX lt⟩
theorem exprs (w0:World) (c:Nat):∀ N,N<=900000->Gives w0 208 c N/\Gives w0 152 c N:=by
 intro N
 induction N using Nat.strongRecOn with
 | ind N ih =>
  intro hN
  have hf:Gives w0 208 c N :=
   factor_w w0 c N hN (fun h=>(ih (N-200) (by omega) (by omega)).2) (fun h=>(ih (N-200) (by omega) (by omega)).1) (value_w w0 c N hN fun h=>(ih (N-200-200) (by omega) (by omega)).2)
  have hfs:∀ K,K<=N->Gives w0 208 c K:=fun K hK=>by
   rcases Nat.lt_or_ge K N with h | h
   .exact (ih K h (by omega)).1
   .rw [show K=N by omega]; exact hf
  have hts:∀ K,K<=N->Gives w0 199 c K:=fun K hK=>term_w w0 c K (by omega) fun J hJ=>hfs J (by omega)
  have hss:∀ K,K<=N->Gives w0 176 c K:=fun K hK=>sum_w w0 c K (by omega) fun J hJ=>hts J (by omega)
  exact ⟨hf,expression_w w0 c N hN hss⟩
theorem expr_w (w0:World) (c N:Nat) (hN:N<=900000):Gives w0 152 c N:=(exprs w0 c N hN).2
def Does (w0:World) (f c N a:Nat):Prop:=∀ mt m0 m,WI mt m0 m w0.heap.size c N->CallsA Tryz.prog w0 f #[.pointer (some ⟨c,0,none⟩)] m (fun r m'=>r=.tuple #[]/\WI mt m0 m' w0.heap.size c (N+a))
section
variable (w0:World) (mt m0 m:AM) (c N:Nat)
theorem assign_w (t:Thg) (h:WI mt m0 m w0.heap.size c N) (hN:N<=800000) :
  CallsA Tryz.prog w0 180 #[.pointer (some ⟨c,0,none⟩),t.val] m (fun r m'=>r=.tuple #[]/\WI mt m0 m' w0.heap.size c (N+2)):=by
 have lt:=h.lt
 refine cf180 w0 m c _ _ _ _ _ ?_
 intro b hB hN1 M
 obtain ⟨k1,hb0⟩:=h.box hN1 (.cells (Thg.cells t).toArray 128)
 replace k1:WI mt (m0.upd b (.cells (Thg.cells t).toArray 128)) M w0.heap.size c N:=k1
 have lX:m0.le (m0.upd b (.cells (Thg.cells t).toArray 128)):=le_new hb0 _
 clear_value M
 have p:∀ {M K},WI mt (m0.upd b (.cells (Thg.cells t).toArray 128)) M w0.heap.size c K->M b=some (.cells (Thg.cells t).toArray 128 (0,0)):=fun k=>k.le _ _ upd_get_same
 refine ⟨_,cel (p k1) rfl,rfl,?_⟩
 cases (t.kind == 1)
 .refine CallsA.mono (must_w w0 mt _ M c N _ k1) ?_
  rintro r m1 ⟨rfl,k2⟩
  refine ⟨rfl,?_⟩
  refine vr180_1110 w0 m1 _ _ c b (fun m'=>WI mt (m0.upd b (.cells (Thg.cells t).toArray 128)) m' w0.heap.size c (N+2)) rfl rfl ⟨?_,?_⟩ ?_
  .refine ⟨_,cel (p k2) rfl,_,cel (p k2) rfl,_,cel (p k2) rfl,_,cel (p k2) rfl,?_⟩
   refine CallsA.mono (expr_w w0 c N (by omega) mt _ m1 k2) ?_
   rintro r m2 ⟨x,rfl,k3⟩
   refine ⟨_,rfl,?_⟩
   refine CallsA.mono (store_w w0 mt _ m2 c N t x k3 (by omega)) ?_
   rintro r m3 ⟨rfl,k4⟩
   exact ⟨rfl,rfl,rfl,k4⟩
  .refine CallsA.mono (expr_w w0 c N (by omega) mt _ m1 k2) ?_
   rintro r m2 ⟨x,rfl,k3⟩
   refine ⟨_,rfl,_,cel (p k3) rfl,_,cel (p k3) rfl,_,cel (p k3) rfl,_,cel (p k3) rfl,?_⟩
   refine CallsA.mono (store_w w0 mt _ m2 c N t x k3 (by omega)) ?_
   rintro r m3 ⟨rfl,k4⟩
   exact ⟨rfl,rfl,rfl,k4⟩
  .rintro σ m3 k4
   refine CallsA.mono (give_w w0 mt _ m3 c _ k4) ?_
   rintro r m4 ⟨z,rfl,k5⟩
   exact ⟨_,rfl,retP_of ⟨rfl,k5.base lX lt⟩⟩
 .refine ⟨_,cel (p k1) rfl,_,cel (p k1) rfl,_,cel (p k1) rfl,_,cel (p k1) rfl,?_⟩
  refine CallsA.mono (index_w w0 mt _ M c N t k1 (by omega) fun h=>expr_w w0 c _ (by omega)) ?_
  rintro r m1 ⟨x,rfl,k2⟩
  refine ⟨_,rfl,?_⟩
  refine CallsA.mono (must_w w0 mt _ m1 c N _ k2) ?_
  rintro r m2 ⟨rfl,k3⟩
  refine ⟨rfl,?_⟩
  refine CallsA.mono (expr_w w0 c N (by omega) mt _ m2 k3) ?_
  rintro r m3 ⟨y,rfl,k4⟩
  refine ⟨_,rfl,_,cel (p k4) rfl,rfl,?_⟩
  refine CallsA.mono (mark_w w0 mt _ m3 c N ⟨13,y,x,0,t.pos⟩ 1 0 k4 (by omega)) ?_
  rintro r m4 ⟨z,rfl,k5⟩
  refine ⟨_,rfl,?_⟩
  refine CallsA.mono (give_w w0 mt _ m4 c _ k5) ?_
  rintro r m5 ⟨z,rfl,k6⟩
  refine ⟨_,rfl,?_⟩
  refine CallsA.mono (give_w w0 mt _ m5 c _ k6) ?_
  rintro r m6 ⟨z,rfl,k7⟩
  exact ⟨_,rfl,retP_of ⟨rfl,k7.base lX lt⟩⟩
theorem within_w (x:Int) (h:WI mt m0 m w0.heap.size c N) (hg:Does w0 54 c N 3) :
  CallsA Tryz.prog w0 174 #[.pointer (some ⟨c,0,none⟩),.int .i64 x] m (fun r m'=>r=.tuple #[]/\WI mt m0 m' w0.heap.size c (N+3)):=by
 refine cf174 w0 m c _ _ ?_
 dsimp only [cf174,mkF]
 obtain ⟨i,hi⟩:=h.num.2.2.2
 refine ⟨_,hi,rfl,h.st (by omega) fun m1 h1=>?_⟩
 obtain ⟨i1,hi1⟩:=h1.num.2.2.2
 refine ⟨_,hi1,rfl,?_⟩
 unfold bcase
 split
 .refine CallsA.mono (stop_w w0 mt m0 m1 c N 8 x h1) ?_
  rintro r m2 ⟨rfl,h2⟩
  exact ⟨rfl,retP_of ⟨rfl,h2.mono (by omega)⟩⟩
 .refine CallsA.mono (hg mt m0 m1 h1) ?_
  rintro r m2 ⟨rfl,h2⟩
  obtain ⟨i2,hi2⟩:=h2.num.2.2.2
  exact ⟨rfl,_,hi2,rfl,h2.st (by omega) fun m3 h3=>retP_of ⟨rfl,h3⟩⟩
end
section
variable (w0:World) (mt m0 m:AM) (c N:Nat)
theorem choice_w (x:Int) (h:WI mt m0 m w0.heap.size c N) (hN:N<=800000) (hg:∀ K,K<=N+10->Does w0 54 c K 3) :
  CallsA Tryz.prog w0 150 #[.pointer (some ⟨c,0,none⟩),.int .i64 x] m (fun r m'=>r=.tuple #[]/\WI mt m0 m' w0.heap.size c (N+10)):=by
 refine cf150 w0 m c _ _ ?_
 refine CallsA.mono (expr_w w0 c N (by omega) mt m0 m h) ?_
 rintro r m1 ⟨y,rfl,k1⟩
 refine ⟨_,rfl,?_⟩
 refine CallsA.mono (must_w w0 mt m0 m1 c N _ k1) ?_
 rintro r m2 ⟨rfl,k2⟩
 refine ⟨rfl,rfl,?_⟩
 refine CallsA.mono (jump_w w0 mt m0 m2 c N ⟨15,y,0,0,0⟩ k2 (by omega)) ?_
 rintro r m3 ⟨z,rfl,k3⟩
 refine ⟨_,rfl,?_⟩
 refine CallsA.mono (give_w w0 mt m0 m3 c _ k3) ?_
 rintro r m4 ⟨g,rfl,k4⟩
 refine ⟨_,rfl,?_⟩
 refine CallsA.mono (within_w w0 mt m0 m4 c _ x k4 (hg _ (by omega))) ?_
 rintro r m5 ⟨rfl,k5⟩
 refine ⟨rfl,?_⟩
 refine CallsA.mono (has_w w0 mt m0 m5 c _ _ k5) ?_
 rintro r m6 ⟨b,rfl,k6,_⟩
 refine ⟨_,rfl,?_⟩
 cases b
 .refine CallsA.mono (must_w w0 mt m0 m6 c _ _ k6) ?_
  rintro r m7 ⟨rfl,k7⟩
  refine ⟨rfl,?_⟩
  refine CallsA.mono (land_w w0 mt m0 m7 c _ z k7) ?_
  rintro r m8 ⟨b,rfl,k8⟩
  exact ⟨_,rfl,retP_of ⟨rfl,k8.mono (by omega)⟩⟩
 .refine ⟨rfl,?_⟩
  refine CallsA.mono (jump_w w0 mt m0 m6 c _ ⟨17,0,0,0,0⟩ k6 (by omega)) ?_
  rintro r m7 ⟨z2,rfl,k7⟩
  refine ⟨_,rfl,?_⟩
  refine CallsA.mono (land_w w0 mt m0 m7 c _ z k7) ?_
  rintro r m8 ⟨b,rfl,k8⟩
  refine ⟨_,rfl,?_⟩
  refine CallsA.mono (within_w w0 mt m0 m8 c _ x k8 (hg _ (by omega))) ?_
  rintro r m9 ⟨rfl,k9⟩
  refine ⟨rfl,?_⟩
  refine CallsA.mono (must_w w0 mt m0 m9 c _ _ k9) ?_
  rintro r m10 ⟨rfl,k10⟩
  refine ⟨rfl,?_⟩
  refine CallsA.mono (land_w w0 mt m0 m10 c _ z2 k10) ?_
  rintro r m11 ⟨b,rfl,k11⟩
  exact ⟨_,rfl,retP_of ⟨rfl,k11.mono (by omega)⟩⟩
theorem call_w (t:Thg) (h:WI mt m0 m w0.heap.size c N) (hN:N<=800000) :
  CallsA Tryz.prog w0 179 #[.pointer (some ⟨c,0,none⟩),t.val] m (fun r m'=>r=.tuple #[]/\WI mt m0 m' w0.heap.size c (N+3)):=by
 have lt:=h.lt
 refine cf179 w0 m c _ _ _ _ _ ?_
 intro b hB hN1 M
 obtain ⟨k1,hb0⟩:=h.box hN1 (.cells (Thg.cells t).toArray 128)
 replace k1:WI mt (m0.upd b (.cells (Thg.cells t).toArray 128)) M w0.heap.size c N:=k1
 have lX:m0.le (m0.upd b (.cells (Thg.cells t).toArray 128)):=le_new hb0 _
 clear_value M
 have p:∀ {M K},WI mt (m0.upd b (.cells (Thg.cells t).toArray 128)) M w0.heap.size c K->M b=some (.cells (Thg.cells t).toArray 128 (0,0)):=fun k=>k.le _ _ upd_get_same
 refine ⟨_,cel (p k1) rfl,?_⟩
 cases t.takes
 .refine ⟨_,cel (p k1) rfl,rfl,?_⟩
  cases (t.kind == 4)
  .refine ⟨rfl,_,cel (p k1) rfl,?_⟩
   refine CallsA.mono (back_w w0 mt _ M c N ⟨18,0,0,0,0⟩ t.pos k1 (by omega)) ?_
   rintro r m1 ⟨z,rfl,k2⟩
   exact ⟨_,rfl,retP_of ⟨rfl,(k2.mono (by omega)).base lX lt⟩⟩
  .refine ⟨rfl,_,cel (p k1) rfl,?_⟩
   refine CallsA.mono (mark_w w0 mt _ M c N ⟨18,0,0,0,0⟩ 2 t.pos k1 (by omega)) ?_
   rintro r m1 ⟨z,rfl,k2⟩
   exact ⟨_,rfl,retP_of ⟨rfl,(k2.mono (by omega)).base lX lt⟩⟩
 .refine CallsA.mono (must_w w0 mt _ M c N _ k1) ?_
  rintro r m1 ⟨rfl,k2⟩
  refine ⟨rfl,?_⟩
  refine CallsA.mono (expr_w w0 c N (by omega) mt _ m1 k2) ?_
  rintro r m2 ⟨y,rfl,k3⟩
  refine ⟨_,rfl,?_⟩
  refine CallsA.mono (must_w w0 mt _ m2 c N _ k3) ?_
  rintro r m3 ⟨rfl,k4⟩
  refine ⟨rfl,rfl,?_⟩
  refine CallsA.mono (put_w w0 mt _ m3 c N ⟨1,4,y,0,0⟩ k4 (by omega)) ?_
  rintro r m4 ⟨z,rfl,k5⟩
  refine ⟨_,rfl,?_⟩
  refine CallsA.mono (give_w w0 mt _ m4 c _ k5) ?_
  rintro r m5 ⟨z,rfl,k6⟩
  refine ⟨_,rfl,_,cel (p k6) rfl,rfl,?_⟩
  cases (t.kind == 4)
  .refine ⟨rfl,_,cel (p k6) rfl,?_⟩
   refine CallsA.mono (back_w w0 mt _ m5 c _ ⟨18,0,0,0,0⟩ t.pos k6 (by omega)) ?_
   rintro r m1 ⟨z,rfl,k2⟩
   exact ⟨_,rfl,retP_of ⟨rfl,(k2.mono (by omega)).base lX lt⟩⟩
  .refine ⟨rfl,_,cel (p k6) rfl,?_⟩
   refine CallsA.mono (mark_w w0 mt _ m5 c _ ⟨18,0,0,0,0⟩ 2 t.pos k6 (by omega)) ?_
   rintro r m1 ⟨z,rfl,k2⟩
   exact ⟨_,rfl,retP_of ⟨rfl,(k2.mono (by omega)).base lX lt⟩⟩
end
section
variable (w0:World) (c N:Nat)
theorem loop_w (mt m0 m:AM) (x:Int) (h:WI mt m0 m w0.heap.size c N) (hN:N<=800000) (hg:∀ K,K<=N+10->Does w0 54 c K 3) :
  CallsA Tryz.prog w0 151 #[.pointer (some ⟨c,0,none⟩),.int .i64 x] m (fun r m'=>r=.tuple #[]/\WI mt m0 m' w0.heap.size c (N+10)):=by
 refine cf151 w0 m c _ _ ?_
 refine CallsA.mono (here_w w0 mt m0 m c N h) ?_
 rintro r m1 ⟨a,rfl,k1⟩
 refine ⟨_,rfl,?_⟩
 refine CallsA.mono (expr_w w0 c N (by omega) mt m0 m1 k1) ?_
 rintro r m2 ⟨y,rfl,k2⟩
 refine ⟨_,rfl,?_⟩
 refine CallsA.mono (must_w w0 mt m0 m2 c N _ k2) ?_
 rintro r m3 ⟨rfl,k3⟩
 refine ⟨rfl,rfl,?_⟩
 refine CallsA.mono (jump_w w0 mt m0 m3 c N ⟨15,y,0,0,0⟩ k3 (by omega)) ?_
 rintro r m4 ⟨z,rfl,k4⟩
 refine ⟨_,rfl,?_⟩
 refine CallsA.mono (give_w w0 mt m0 m4 c _ k4) ?_
 rintro r m5 ⟨g,rfl,k5⟩
 refine ⟨_,rfl,?_⟩
 refine CallsA.mono (within_w w0 mt m0 m5 c _ x k5 (hg _ (by omega))) ?_
 rintro r m6 ⟨rfl,k6⟩
 refine ⟨rfl,?_⟩
 refine CallsA.mono (must_w w0 mt m0 m6 c _ _ k6) ?_
 rintro r m7 ⟨rfl,k7⟩
 refine ⟨rfl,rfl,?_⟩
 refine CallsA.mono (back_w w0 mt m0 m7 c _ ⟨17,0,0,0,0⟩ a k7 (by omega)) ?_
 rintro r m8 ⟨z2,rfl,k8⟩
 refine ⟨_,rfl,?_⟩
 refine CallsA.mono (land_w w0 mt m0 m8 c _ z k8) ?_
 rintro r m9 ⟨b,rfl,k9⟩
 exact ⟨_,rfl,retP_of ⟨rfl,k9.mono (by omega)⟩⟩
theorem begun_w (hN:N<=800000):Does w0 155 c N 3:=by
 intro mt m0 m h
 have lt:=h.lt
 refine cf155 w0 m c _ ?_
 refine CallsA.mono (name_w w0 mt m0 m c N h) ?_
 rintro r m1 ⟨x,i,rfl,k1⟩
 refine ⟨_,_,rfl,?_⟩
 refine CallsA.mono (fnd_w w0 mt m0 m1 c _ x i k1 (by omega)) ?_
 rintro r m2 ⟨t,rfl,k2⟩
 refine ⟨_,_,_,_,rfl,?_⟩
 intro b hB hN1 M
 obtain ⟨k3,hb⟩:=k2.box hN1 (.cells (Thg.cells ⟨0,0,0,false⟩).toArray 128)
 replace k3:WI mt (m0.upd b (.cells (Thg.cells ⟨0,0,0,false⟩).toArray 128)) M w0.heap.size c N:=k3
 clear_value M
 refine k3.stT hb lt hB (by simp [Thg.cells]) fun m4 h4=>h4.stT hb lt hB (by simp [Thg.cells]) fun m5 h5=>h5.stT hb lt hB (by simp [Thg.cells]) fun m6 h6=>h6.stT hb lt hB (by simp [Thg.cells]) fun m7 h7=>?_
 have l2:m0.le (m0.upd b (.cells (Thg.cells t).toArray 128)):=le_new hb _
 replace h7:WI mt (m0.upd b (.cells (Thg.cells t).toArray 128)) m7 w0.heap.size c N:=h7
 have p:=h7.le _ _ upd_get_same
 obtain ⟨e,he⟩:=h7.num.2.1
 refine ⟨_,he,rfl,?_⟩
 cases (e != 0)
 case true=>rw [bcase_t]; exact retP_of ⟨rfl,(h7.mono (by omega)).base l2 lt⟩
 have cl:CallsA Tryz.prog w0 179 #[.pointer (some ⟨c,0,none⟩),t.val] m7 (fun r m'=>r=.tuple #[]/\RetP (fun r m'=>r=.tuple #[]/\WI mt m0 m' w0.heap.size c (N+3)) (.tuple #[]) m'):=by
  refine CallsA.mono (call_w w0 mt _ m7 c N t h7 hN) ?_
  rintro r m8 ⟨rfl,k8⟩
  exact ⟨rfl,retP_of ⟨rfl,k8.base l2 lt⟩⟩
 refine ⟨_,cel p rfl,rfl,?_⟩
 cases (t.kind == 3)
 case true=>exact ⟨rfl,_,cel p rfl,_,cel p rfl,_,cel p rfl,_,cel p rfl,cl⟩
 refine ⟨_,cel p rfl,rfl,?_⟩
 cases (t.kind == 4)
 case true=>exact ⟨_,cel p rfl,_,cel p rfl,_,cel p rfl,_,cel p rfl,cl⟩
 refine ⟨_,cel p rfl,_,cel p rfl,_,cel p rfl,_,cel p rfl,?_⟩
 refine CallsA.mono (assign_w w0 mt _ m7 c N t h7 hN) ?_
 rintro r m8 ⟨rfl,k8⟩
 exact ⟨rfl,retP_of ⟨rfl,(k8.mono (by omega)).base l2 lt⟩⟩
end
section
variable (w0:World) (c N:Nat)
theorem statement_w (hN:N<=700000) (hr:Does w0 154 c N 3) (hg:∀ K,K+200<=N+10->Does w0 54 c K 3):Does w0 103 c N 3:=by
 intro mt m0 m h
 refine cf103 w0 m c _ ?_
 refine CallsA.mono (where_w w0 mt m0 m c N h) ?_
 rintro r m1 ⟨i,rfl,k1⟩
 refine ⟨_,rfl,?_⟩
 refine CallsA.mono (has_w w0 mt m0 m1 c N _ k1) ?_
 rintro r m2 ⟨b,rfl,k2,k2'⟩
 refine ⟨_,rfl,?_⟩
 cases b
 case true =>
  obtain ⟨hn,k3⟩:=k2' rfl
  refine CallsA.mono (choice_w w0 mt m0 m2 c _ i k3 (by omega) fun K hK=>hg K (by omega)) ?_
  rintro r m3 ⟨rfl,k4⟩
  exact ⟨rfl,retP_of ⟨rfl,k4.mono (by omega)⟩⟩
 refine CallsA.mono (has_w w0 mt m0 m2 c N _ k2) ?_
 rintro r m3 ⟨b,rfl,k3,k3'⟩
 refine ⟨_,rfl,?_⟩
 cases b
 case true =>
  obtain ⟨hn,k4⟩:=k3' rfl
  refine CallsA.mono (loop_w w0 c _ mt m0 m3 i k4 (by omega) fun K hK=>hg K (by omega)) ?_
  rintro r m4 ⟨rfl,k5⟩
  exact ⟨rfl,retP_of ⟨rfl,k5.mono (by omega)⟩⟩
 refine CallsA.mono (has_w w0 mt m0 m3 c N _ k3) ?_
 rintro r m4 ⟨b,rfl,k4,k4'⟩
 refine ⟨_,rfl,?_⟩
 cases b
 case true =>
  obtain ⟨hn,k5⟩:=k4' rfl
  refine CallsA.mono (expr_w w0 c _ (by omega) mt m0 m4 k5) ?_
  rintro r m5 ⟨y,rfl,k6⟩
  refine ⟨_,rfl,rfl,?_⟩
  refine CallsA.mono (put_w w0 mt m0 m5 c _ ⟨1,4,y,0,0⟩ k6 (by omega)) ?_
  rintro r m6 ⟨z,rfl,k7⟩
  refine ⟨_,rfl,rfl,?_⟩
  refine CallsA.mono (put_w w0 mt m0 m6 c _ ⟨20,0,0,0,2⟩ k7 (by omega)) ?_
  rintro r m7 ⟨z,rfl,k8⟩
  refine ⟨_,rfl,?_⟩
  refine CallsA.mono (give_w w0 mt m0 m7 c _ k8) ?_
  rintro r m8 ⟨z,rfl,k9⟩
  exact ⟨_,rfl,retP_of ⟨rfl,k9.mono (by omega)⟩⟩
 refine CallsA.mono (has_w w0 mt m0 m4 c N _ k4) ?_
 rintro r m5 ⟨b,rfl,k5,k5'⟩
 refine ⟨_,rfl,?_⟩
 cases b
 case true =>
  refine CallsA.mono (hr mt m0 m5 k5) ?_
  rintro r m6 ⟨rfl,k6⟩
  exact ⟨rfl,retP_of ⟨rfl,k6⟩⟩
 refine CallsA.mono (named_w w0 mt m0 m5 c N k5) ?_
 rintro r m6 ⟨b,rfl,k6⟩
 refine ⟨_,rfl,?_⟩
 cases b
 case true =>
  refine CallsA.mono (begun_w w0 c N (by omega) mt m0 m6 k6) ?_
  rintro r m7 ⟨rfl,k7⟩
  exact ⟨rfl,retP_of ⟨rfl,k7⟩⟩
 rw [bcase_f]
 exact retP_of ⟨rfl,k6.mono (by omega)⟩
end
theorem WI.new4 {mt m0 m:AM} {B c N:Nat} (h:WI mt m0 m B c N) (t:Thg) {K:Nat->AM->Prop} (hK:∀ b M,B<=b->m0 b=none->m0.le (m0.upd b (.cells t.cells.toArray 128))->WI mt (m0.upd b (.cells t.cells.toArray 128)) M B c N->K b M) :
  ∀ b:Nat,B<=b->m b=none->let m1:=AM.upd m b (.cells #[.int .i64 0,.int .i64 0,.int .i64 0,.bool false] 128);
  StC B m1 ⟨b,0,none⟩ (.int .i64 t.kind) fun m2=>StC B m2 ⟨b,1,none⟩ (.int .i64 t.pos) fun m3=>StC B m3 ⟨b,2,none⟩ (.int .i64 t.size) fun m4=>StC B m4 ⟨b,3,none⟩ (.bool t.takes) fun m5=>K b m5:=by
 intro b hB hN M
 have lt:=h.lt
 obtain ⟨k,hb⟩:=h.box hN (.cells (Thg.cells ⟨0,0,0,false⟩).toArray 128)
 replace k:WI mt (m0.upd b (.cells (Thg.cells ⟨0,0,0,false⟩).toArray 128)) M B c N:=k
 clear_value M
 exact k.stT hb lt hB (by simp [Thg.cells]) fun m4 h4=>h4.stT hb lt hB (by simp [Thg.cells]) fun m5 h5=>h5.stT hb lt hB (by simp [Thg.cells]) fun m6 h6=>h6.stT hb lt hB (by simp [Thg.cells]) fun m7 h7=>hK b m7 hB hb (le_new hb _) h7
theorem WI.ld4 {mt m0 m:AM} {B c N b:Nat} {t:Thg} (h:WI mt (m0.upd b (.cells t.cells.toArray 128)) m B c N) {K:Int->Int->Int->Bool->Prop} (hK:K t.kind t.pos t.size t.takes) :
  ∃ i1:Int,m.cell ⟨b,0,none⟩=some (.int .i64 i1)/\∃ i2:Int,m.cell ⟨b,1,none⟩=some (.int .i64 i2)/\∃ i3:Int,m.cell ⟨b,2,none⟩=some (.int .i64 i3)/\∃ t4:Bool,m.cell ⟨b,3,none⟩=some (.bool t4)/\K i1 i2 i3 t4:=by
 have p:=h.le _ _ upd_get_same
 exact ⟨_,cel p rfl,_,cel p rfl,_,cel p rfl,_,cel p rfl,hK⟩
section
variable (w0:World) (c N:Nat)
theorem reads_w (hN:N<=800000):Does w0 154 c N 3:=by
 intro mt m0 m h
 have lt:=h.lt
 refine cf154 w0 m c _ ?_
 refine CallsA.mono (name_w w0 mt m0 m c N h) ?_
 rintro r m1 ⟨x,i,rfl,k1⟩
 refine ⟨_,_,rfl,?_⟩
 refine CallsA.mono (fnd_w w0 mt m0 m1 c _ x i k1 (by omega)) ?_
 rintro r m2 ⟨t,rfl,k2⟩
 refine ⟨_,_,_,_,rfl,k2.new4 t fun b M hB hb l2 k=>?_⟩
 have p:=k.le _ _ upd_get_same
 obtain ⟨e,he⟩:=k.num.2.1
 refine ⟨_,he,rfl,?_⟩
 have fin:∀ M',WI mt (m0.upd b (.cells t.cells.toArray 128)) M' w0.heap.size c N->CallsA Tryz.prog w0 55 #[.pointer (some ⟨c,2,none⟩),Ins.val ⟨20,0,0,0,1⟩] M' (fun r m'=>∃ i:Int,r=.int .i64 i /\
   ∃ i1:Int,m'.cell ⟨b,0,none⟩=some (.int .i64 i1)/\∃ i2:Int,m'.cell ⟨b,1,none⟩=some (.int .i64 i2)/\∃ i3:Int,m'.cell ⟨b,2,none⟩=some (.int .i64 i3)/\∃ t4:Bool,m'.cell ⟨b,3,none⟩=some (.bool t4) /\
   CallsA Tryz.prog w0 178 #[.pointer (some ⟨c,0,none⟩),.agg #[.int .i64 i1,.int .i64 i2,.int .i64 i3,.bool t4],.int .i64 4] m' (fun r m'=>r=.tuple #[]/\RetP (fun r m'=>r=.tuple #[]/\WI mt m0 m' w0.heap.size c (N+3)) (.tuple #[]) m')):=fun M' k'=>by
  refine CallsA.mono (put_w w0 mt _ M' c N ⟨20,0,0,0,1⟩ k' (by omega)) ?_
  rintro r m3 ⟨y,rfl,k3⟩
  refine ⟨_,rfl,k3.ld4 ?_⟩
  refine CallsA.mono (store_w w0 mt _ m3 c _ t 4 k3 (by omega)) ?_
  rintro r m4 ⟨rfl,k4⟩
  exact ⟨rfl,retP_of ⟨rfl,k4.base l2 lt⟩⟩
 cases (e == 0)
 .exact ⟨rfl,rfl,rfl,fin M k⟩
 .refine ⟨_,cel p rfl,rfl,?_⟩
  rw [cond_true]
  cases h1:(t.kind != 0)
  .exact ⟨rfl,rfl,fin M k⟩
  .refine ⟨_,cel p rfl,rfl,?_⟩
   rw [cond_true]
   unfold bcase
   split
   .refine CallsA.mono (stop_w w0 mt _ M c N 7 i k) ?_
    rintro r m3 ⟨rfl,k3⟩
    exact ⟨rfl,rfl,fin m3 k3⟩
   .exact ⟨rfl,fin M k⟩
theorem statements_w:∀ N,N<=600000->Does w0 54 c N 3:=by
 intro N
 induction N using Nat.strongRecOn with
 | ind N ih =>
  intro hN mt m0 m h
  have st:∀ K,K<=N+3->K+200<=N+10\/K<=N->Does w0 103 c K 3:=fun K hK hK2=>statement_w w0 c K (by omega) (reads_w w0 c K (by omega)) fun J hJ=>ih J (by omega) (by omega)
  refine cf54 w0 m c _ ?_
  refine CallsA.mono (st N (by omega) (by omega) mt m0 m h) ?_
  rintro r m1 ⟨rfl,k1⟩
  refine ⟨rfl,?_⟩
  refine vl54_10 w0 m1 _ _ c (fun n m'=>n<=N+3/\WI mt m0 m' w0.heap.size c n) (fun m'=>WI mt m0 m' w0.heap.size c (N+3)) (N+3) rfl ⟨Nat.le_refl _,k1⟩ ?_ ?_
  .rintro n σ m2 ⟨hn,k2⟩
   obtain ⟨e,he⟩:=k2.num.2.1
   refine ⟨_,he,rfl,?_⟩
   cases (e == 0)
   .exact ⟨rfl,rfl,k2.mono hn⟩
   refine CallsA.mono (has_w w0 mt m0 m2 c n _ k2) ?_
   rintro r3 m3 ⟨b,rfl,k3,k3'⟩
   refine ⟨_,rfl,?_⟩
   cases b
   .exact ⟨rfl,k3.mono hn⟩
   obtain ⟨h200,k4⟩:=k3' rfl
   refine CallsA.mono (st (n-200) (by omega) (by omega) mt m0 m3 k4) ?_
   rintro r4 m4 ⟨rfl,k5⟩
   exact ⟨rfl,rfl,n-200+3,by omega,by omega,k5⟩
  .rintro σ m2 k2
   exact retP_of ⟨rfl,k2⟩
end
section
variable (w0:World) (mt m0 m:AM) (c N:Nat)
theorem parameter_w (h:WI mt m0 m w0.heap.size c N) :
  CallsA Tryz.prog w0 144 #[.pointer (some ⟨c,0,none⟩)] m (fun r m'=>∃ (x:ByteArray) (i:Int) (b:Bool),r=.tuple #[.string x,.int .i64 i,.bool b]/\WI mt m0 m' w0.heap.size c N):=by
 refine cf144 w0 m c _ ?_
 refine CallsA.mono (has_w w0 mt m0 m c N _ h) ?_
 rintro r m1 ⟨b,rfl,k1,_⟩
 refine ⟨_,rfl,?_⟩
 cases b
 .rw [show (!false)=true from rfl,bcase_t]; exact retP_of ⟨_,_,_,rfl,k1⟩
 refine CallsA.mono (name_w w0 mt m0 m1 c N k1) ?_
 rintro r m2 ⟨x,i,rfl,k2⟩
 refine ⟨_,_,rfl,?_⟩
 refine CallsA.mono (must_w w0 mt m0 m2 c N _ k2) ?_
 rintro r m3 ⟨rfl,k3⟩
 exact ⟨rfl,retP_of ⟨_,_,_,rfl,k3⟩⟩
theorem fresh_w (x:ByteArray) (i n:Int) (h:WI mt m0 m w0.heap.size c N) (hN:N<=1000000) :
  CallsA Tryz.prog w0 143 #[.pointer (some ⟨c,0,none⟩),.string x,.int .i64 i,.int .i64 n] m (fun r m'=>r=.tuple #[]/\WI mt m0 m' w0.heap.size c N):=by
 have lt:=h.lt
 refine cf143 w0 m c x _ _ _ ?_
 refine CallsA.mono (findN_w w0 mt m0 m c N x h hN) ?_
 rintro r m1 ⟨t,d,ok,rfl,k1⟩
 refine ⟨_,_,_,_,_,_,rfl,k1.new4 t fun b M hB hb l2 k=>?_⟩
 obtain ⟨e,he⟩:=k.num.2.1
 refine ⟨_,he,rfl,?_⟩
 have stp:∀ M',WI mt (m0.upd b (.cells t.cells.toArray 128)) M' w0.heap.size c N->CallsA Tryz.prog w0 24 #[.pointer (some ⟨c,0,none⟩),.int .i64 4,.int .i64 i] M' (fun r m'=>r=.tuple #[]/\RetP (fun r m'=>r=.tuple #[]/\WI mt m0 m' w0.heap.size c N) (.tuple #[]) m'):=fun M' k'=>by
  refine CallsA.mono (stop_w w0 mt _ M' c N 4 i k') ?_
  rintro r m3 ⟨rfl,k3⟩
  exact ⟨rfl,retP_of ⟨rfl,k3.base l2 lt⟩⟩
 have tl:∀ M',WI mt (m0.upd b (.cells t.cells.toArray 128)) M' w0.heap.size c N->∃ i18:Int,M'.cell ⟨c,13,none⟩=some (.int .i64 i18)/\IntKind.i64=IntKind.i64/\bcase (i18 == 0)
   (IntKind.i64=IntKind.i64/\bcase (bif i18 == 0 then n == 255 else false) (CallsA Tryz.prog w0 24 #[.pointer (some ⟨c,0,none⟩),.int .i64 4,.int .i64 i] M' (fun r m'=>r=.tuple #[]/\RetP (fun r m'=>r=.tuple #[]/\WI mt m0 m' w0.heap.size c N) (.tuple #[]) m')) (RetP (fun r m'=>r=.tuple #[]/\WI mt m0 m' w0.heap.size c N) (.tuple #[]) M'))
   ((i18 == 0)=false/\RetP (fun r m'=>r=.tuple #[]/\WI mt m0 m' w0.heap.size c N) (.tuple #[]) M'):=fun M' k'=>by
  obtain ⟨e,he⟩:=k'.num.2.1
  refine ⟨_,he,rfl,?_⟩
  cases (e == 0)
  .exact ⟨rfl,retP_of ⟨rfl,k'.base l2 lt⟩⟩
  .refine ⟨rfl,?_⟩
   unfold bcase
   split
   .exact stp M' k'
   .exact retP_of ⟨rfl,k'.base l2 lt⟩
 cases (e == 0)
 .exact ⟨rfl,tl M k⟩
 .rw [bcase_t,cond_true]
  cases ok
  .exact tl M k
  .refine CallsA.mono (stop_w w0 mt _ M c N 6 i k) ?_
   rintro r m3 ⟨rfl,k3⟩
   exact ⟨rfl,tl m3 k3⟩
theorem owns_w (x:ByteArray) (i n:Int) (h:WI mt m0 m w0.heap.size c N) (hN:N<=1000000) :
  CallsA Tryz.prog w0 146 #[.pointer (some ⟨c,0,none⟩),.string x,.int .i64 i,.int .i64 n] m (fun r m'=>r=.int .i64 (IntKind.wrap .i64 (n+1))/\WI mt m0 m' w0.heap.size c (N+1)):=by
 refine cf146 w0 m c x _ _ _ ⟨rfl,?_⟩
 refine CallsA.mono (define_w w0 mt m0 m c N x i ⟨2,n,0,false⟩ h hN) ?_
 rintro r m1 ⟨rfl,k1⟩
 refine ⟨rfl,?_⟩
 obtain ⟨e,he⟩:=k1.num.2.1
 refine ⟨_,he,rfl,?_⟩
 cases (e == 0)
 .exact ⟨rfl,rfl,retP_of ⟨rfl,k1⟩⟩
 .refine ⟨rfl,rfl,?_⟩
  unfold bcase
  split
  .refine CallsA.mono (stop_w w0 mt m0 m1 c _ 4 i k1) ?_
   rintro r m2 ⟨rfl,k2⟩
   exact ⟨rfl,rfl,retP_of ⟨rfl,k2⟩⟩
  .exact ⟨rfl,retP_of ⟨rfl,k1⟩⟩
theorem enter_w (n:Nat) (b:Bool) (h:WI mt m0 m w0.heap.size c N) (hn:2<=n) (hN:N+n<=900000) :
  CallsA Tryz.prog w0 147 #[.pointer (some ⟨c,0,none⟩),.int .i64 n,.bool b] m (fun r m'=>r=.tuple #[]/\WI mt m0 m' w0.heap.size c (N+n+5)):=by
 refine cf147 w0 m c _ _ _ ⟨rfl,?_⟩
 refine CallsA.mono (put_w w0 mt m0 m c _ ⟨10,29,29,0,_⟩ h (by omega)) ?_
 rintro r m1 ⟨y,rfl,k1⟩
 refine ⟨_,rfl,rfl,?_⟩
 refine CallsA.mono (mark_w w0 mt m0 m1 c _ ⟨10,1,29,0,0⟩ 3 0 k1 (by omega)) ?_
 rintro r m2 ⟨y,rfl,k2⟩
 refine ⟨_,rfl,rfl,?_⟩
 refine CallsA.mono (put_w w0 mt m0 m2 c _ ⟨14,1,7,0,32767⟩ k2 (by omega)) ?_
 rintro r m3 ⟨y,rfl,k3⟩
 refine ⟨_,rfl,rfl,?_⟩
 refine CallsA.mono (put_w w0 mt m0 m3 c _ ⟨13,31,29,0,0⟩ k3 (by omega)) ?_
 rintro r m4 ⟨y,rfl,k4⟩
 refine ⟨_,rfl,rfl,?_⟩
 refine CallsA.mono (put_w w0 mt m0 m4 c _ ⟨13,30,29,0,1⟩ k4 (by omega)) ?_
 rintro r m5 ⟨y,rfl,k5⟩
 refine ⟨_,rfl,rfl,?_⟩
 refine CallsA.mono (put_w w0 mt m0 m5 c _ ⟨10,30,29,0,0⟩ k5 (by omega)) ?_
 rintro r m6 ⟨y,rfl,k6⟩
 refine ⟨_,rfl,?_⟩
 replace k6:WI mt m0 m6 w0.heap.size c (N+7):=k6
 refine vl147_11111110 w0 m6 _ _ c n b 2 (fun q j m'=>∃ p:Nat,j=p/\2<=p/\p<=n/\q=n-p/\WI mt m0 m' w0.heap.size c (N+5+p)) (fun m'=>WI mt m0 m' w0.heap.size c (N+n+5)) (n-2) rfl rfl rfl rfl ⟨2,rfl,by omega,hn,rfl,k6⟩ ?_ ?_
 .rintro q σ j M ⟨p,rfl,p2,pn,rfl,k⟩
  refine ⟨rfl,?_⟩
  by_cases hp:(p:Int)<n
  case neg=>rw [decide_eq_false hp,bcase_f]; exact ⟨rfl,rfl,rfl,k.mono (by omega)⟩
  rw [decide_eq_true hp,bcase_t]
  have lt:=k.lt
  have hw:IntKind.wrap .i64 ((p:Int)+1)=((p+1:Nat):Int):=by rw [IntKind.wrap_i64]; omega
  refine ⟨rfl,?_⟩
  intro b1 hB hN1 M1
  obtain ⟨z,hb⟩:=k.box hN1 (.cells (Ins.cells ⟨0,0,0,0,0⟩).toArray 57)
  replace z:WI mt (m0.upd b1 (.cells (Ins.cells ⟨0,0,0,0,0⟩).toArray 57)) M1 w0.heap.size c (N+5+p):=z
  have lX:∀ o,m0.le (m0.upd b1 o):=fun o=>le_new hb _
  clear_value M1
  refine z.stT hb lt hB (by simp [Ins.cells]) fun n1 z1=>z1.stT hb lt hB (by simp [Ins.cells]) fun n2 z2=>z2.stT hb lt hB (by simp [Ins.cells]) fun n3 z3=>z3.stT hb lt hB (by simp [Ins.cells]) fun n4 z4=>z4.stT hb lt hB (by simp [Ins.cells]) fun n5 z5=>?_
  have fin:∀ (a:Int) M',WI mt (m0.upd b1 (.cells (Ins.cells ⟨13,a,30,0,p⟩).toArray 57)) M' w0.heap.size c (N+5+p)->CallsA Tryz.prog w0 55 #[.pointer (some ⟨c,2,none⟩),Ins.val ⟨13,a,30,0,p⟩] M' (fun r m'=>∃ i:Int,r=.int .i64 i /\
    IntKind.i64=IntKind.i64/\(.pointer (some ⟨c,0,none⟩):Value)=.pointer (some ⟨c,0,none⟩)/\(.int .i64 n:Value)=.int .i64 n/\(.bool b:Value)=.bool b/\true=true/\∃ n':Nat,n'<n-p/\∃ p':Nat,IntKind.wrap .i64 ((p:Int)+1)=p'/\2<=p'/\p'<=n/\n'=n-p'/\WI mt m0 m' w0.heap.size c (N+5+p')):=fun a M' k'=>by
   refine CallsA.mono (put_w w0 mt _ M' c _ ⟨13,a,30,0,p⟩ k' (by omega)) ?_
   rintro r m3 ⟨y,rfl,k3⟩
   exact ⟨_,rfl,rfl,rfl,rfl,rfl,rfl,_,by omega,p+1,hw,by omega,by omega,rfl,k3.base (lX _) lt⟩
  have ldf:∀ (a:Int) M',WI mt (m0.upd b1 (.cells (Ins.cells ⟨13,a,30,0,p⟩).toArray 57)) M' w0.heap.size c (N+5+p)->M' b1=some (.cells (Ins.cells ⟨13,a,30,0,p⟩).toArray 57 (0,0)):=fun a M' k'=>k'.le _ _ upd_get_same
  have q5:=ldf 0 n5 z5
  cases b
  .exact ⟨rfl,_,cel q5 rfl,_,cel q5 rfl,_,cel q5 rfl,_,cel q5 rfl,_,cel q5 rfl,fin 0 n5 z5⟩
  .refine ⟨rfl,?_⟩
   unfold bcase
   split
   .refine z5.stT hb lt hB (by simp [Ins.cells]) fun n6 z6=>?_
    have q6:=ldf 4 n6 z6
    exact ⟨_,cel q6 rfl,_,cel q6 rfl,_,cel q6 rfl,_,cel q6 rfl,_,cel q6 rfl,fin 4 n6 z6⟩
   .exact ⟨_,cel q5 rfl,_,cel q5 rfl,_,cel q5 rfl,_,cel q5 rfl,_,cel q5 rfl,fin 0 n5 z5⟩
 .rintro σ M k
  exact retP_of ⟨rfl,k⟩
theorem leave_w (n:Int) (h:WI mt m0 m w0.heap.size c N) (hN:N<=900000) :
  CallsA Tryz.prog w0 148 #[.pointer (some ⟨c,0,none⟩),.int .i64 n] m (fun r m'=>r=.tuple #[]/\WI mt m0 m' w0.heap.size c (N+4)):=by
 refine cf148 w0 m c _ _ ⟨rfl,?_⟩
 refine CallsA.mono (put_w w0 mt m0 m c _ ⟨10,29,30,0,n⟩ h (by omega)) ?_
 rintro r m1 ⟨y,rfl,k1⟩
 refine ⟨_,rfl,rfl,?_⟩
 refine CallsA.mono (put_w w0 mt m0 m1 c _ ⟨12,31,30,0,0⟩ k1 (by omega)) ?_
 rintro r m2 ⟨y,rfl,k2⟩
 refine ⟨_,rfl,rfl,?_⟩
 refine CallsA.mono (put_w w0 mt m0 m2 c _ ⟨12,30,30,0,1⟩ k2 (by omega)) ?_
 rintro r m3 ⟨y,rfl,k3⟩
 refine ⟨_,rfl,rfl,?_⟩
 refine CallsA.mono (put_w w0 mt m0 m3 c _ ⟨19,31,0,0,0⟩ k3 (by omega)) ?_
 rintro r m4 ⟨y,rfl,k4⟩
 exact ⟨_,rfl,retP_of ⟨rfl,k4⟩⟩
end
theorem Own.cut {m:AM} {B:Nat} {e:TypeId} {sz:Nat} {A:Option Addr} {n cp:Nat} {xs:List Value} (h:Alog.Own m B e sz A n cp xs) {k:Nat} (hk:k<=n) :
  Alog.Own m B e sz (if cp=0 then A else Option.map (fun x=>Addr.add x (0*sz)) A) (k-0) (cp-0) (xs.take (k*sz)):=by
 have e1:(if cp=0 then A else Option.map (fun x=>Addr.add x (0*sz)) A)=A:=by
  split
  .rfl
  .cases A <;> simp [Addr.add]
 rw [e1,Nat.sub_zero,Nat.sub_zero]
 obtain ⟨h1,h2,h3⟩:=h
 have hm:k*sz<=n*sz:=Nat.mul_le_mul_right _ hk
 refine ⟨by rw [List.length_take,h1]; omega,by omega,?_⟩
 rcases h3 with h3 | ⟨g,cur,a,b,c,d,e⟩
 .exact .inl h3
 .refine .inr ⟨g,cur,a,b,c,d,?_⟩
  rw [<- e,List.take_take,Nat.min_eq_left hm]
section
variable {mt m0 m m':AM} {B c:Nat} {s s':CS} {At:Option Addr} {ct:Nat} {L:Sls}
theorem CI.swap (h:CI mt m0 m B c s At ct L) {j p:Nat} (hj:j<6) (hp:p<17) {A':Option Addr} {n' c':Nat} {xs':List Value} (hown:Alog.Own m B (fT j) (fS j) A' n' c' xs') (hnew:∀ k∈obl A',m0 k=none)
  (hblk:(Blk s At ct L).setIfInBounds p (.slice A' n' c')=Blk s' At ct (fun i=>if i=j then (A',c') else L i)) (hn:s'.len j=n') (hx:s'.xs j=xs') (ho:∀ i,i≠j->i<6->s'.len i=s.len i/\s'.xs i=s.xs i) (ht:s'.toks=s.toks)
  {K:AM->Prop} (hK:∀ m',CIx mt m0 m' B c s'->K m'):StC B m ⟨c,p,none⟩ (.slice A' n' c') K:=by
 refine StC_own h.ps h.hc hp ?_
 rw [hblk]
 refine hK _ ⟨At,ct,_,h.sp,h.lt,?_,h.hc,h.nc,upd_get_same,by rw [ht]; exact h.rt,by rw [ht]; exact h.tc,fun i hi=>?_,fun i hi k hk=>?_⟩
 .intro k o hk
  have e1:k≠c:=fun e=>by rw [e,h.nc] at hk; cases hk
  rw [upd_get_ne e1]; exact h.le _ _ hk
 .by_cases e:i=j
  .subst e
   rw [hn,hx]
   simpa using hown.upd fun off e'=>hown.ne_type h.ps (fT_ne hi) off e'
  .obtain ⟨h2,h3⟩:=ho i e hi
   rw [h2,h3]
   simp only [e,if_false]
   exact (h.ow i hi).upd fun off e'=>(h.ow i hi).ne_type h.ps (fT_ne hi) off e'
 .by_cases e:i=j
  .simp only [e,if_true] at hk
   exact hnew k hk
  .simp only [e,if_false] at hk
   exact h.nw i hi k hk
end
def CS.cls (s:CS):CS:={ s with ents:=s.ents.take (s.begs.getD (s.begs.length-1) 0).toNat,begs:=s.begs.take (s.begs.length-1) }
theorem entCells_take (l:List Ent) (k:Nat):(l.flatMap Ent.cells).take (k*5)=(l.take k).flatMap Ent.cells:=by
 induction l generalizing k with
 | nil=>simp
 | cons x l ih =>
  cases k with
  | zero=>simp
  | succ k =>
   have h5:(Ent.cells x).length=5:=rfl
   rw [List.flatMap_cons,List.take_succ_cons,List.flatMap_cons,<- ih k,show (k+1)*5=(Ent.cells x).length+k*5 by rw [h5]; omega,List.take_length_add_append]
theorem close_c (w0:World) (mt m0 m:AM) (c:Nat) (s:CS) (h:CIx mt m0 m w0.heap.size c s) (hl:s.ents.length<=1000000) (hb:s.begs.length<=1000000) (hok:∀ b∈s.begs,0<=b/\b<=s.ents.length) :
  CallsA Tryz.prog w0 149 #[.pointer (some ⟨c,5,none⟩)] m (fun r m'=>r=.bool (decide (s.begs≠[]))/\CIx mt m0 m' w0.heap.size c (if s.begs = [] then s else s.cls)):=by
 have hx:=h
 obtain ⟨At,ct,L,h⟩:=h
 refine cf149 w0 m c _ ⟨_,_,_,cel h.ps rfl,rfl,?_⟩
 by_cases hn:s.begs = []
 .rw [show ((((s.begs.length:Nat):Int)) == 0)=true by rw [hn]; rfl,bcase_t]
  exact retP_of ⟨by rw [hn]; rfl,by rw [if_pos hn]; exact hx⟩
 .have hpos:0<s.begs.length:=by
   cases hh:s.begs with
   | nil=>exact absurd hh hn
   | cons=>simp
  have ew:IntKind.wrap .i64 ((s.begs.length:Int)-1)=((s.begs.length-1:Nat):Int):=by rw [IntKind.wrap_i64]; omega
  rw [show ((((s.begs.length:Nat):Int)) == 0)=false by simp; omega,bcase_f,ew]
  obtain ⟨ad,hA,hc⟩:=(h.ow 3 (by omega)).ex hpos
  have hm:s.begs.getD (s.begs.length-1) 0∈s.begs:=by
   have:s.begs.length-1<s.begs.length:=by omega
   simp [List.getD,this]
  have hbn:=hok _ hm
  refine ⟨_,_,_,cel h.ps rfl,_,_,_,cel h.ps rfl,rfl,⟨by omega,by omega⟩,nilO_at hA ⟨_,cell_k (l:=s.begs) hc (by omega) (by omega),?_⟩⟩
  rw [show (((s.begs.length-1:Nat):Int)).toNat=s.begs.length-1 by omega]
  have hcap:=(h.ow 2 (by omega)).2.1
  replace hcap:s.ents.length<=(L 2).2:=hcap
  refine ⟨hbn.1,by omega,by omega,?_⟩
  have rd:=((h.ow 2 (by omega)).reads).slice 0 (s.begs.getD (s.begs.length-1) 0).toNat (by omega) (by show _<=s.ents.length; omega) hcap
  have h1c:∀ u∈(s.ents.take (s.begs.getD (s.begs.length-1) 0).toNat).flatMap Ent.cells,u.oneCell'=true:=by
   intro u hu
   rw [List.mem_flatMap] at hu
   obtain ⟨x,_,hx⟩:=hu
   simp only [Ent.cells,Thg.cells,List.mem_cons,List.not_mem_nil,or_false] at hx
   rcases hx with rfl | rfl | rfl | rfl | rfl <;> rfl
  have e2:(s.xs 2).take ((s.begs.getD (s.begs.length-1) 0).toNat*5)=(s.ents.take (s.begs.getD (s.begs.length-1) 0).toNat).flatMap Ent.cells:=entCells_take _ _
  have rd2:Reads m 5 (if (L 2).2=0 then (L 2).1 else Option.map (fun x=>Addr.add x (0*5)) (L 2).1) ((s.begs.getD (s.begs.length-1) 0).toNat-0) ((s.ents.take (s.begs.getD (s.begs.length-1) 0).toNat).flatMap Ent.cells):=by
   have:=rd
   rw [Nat.zero_mul,List.drop_zero,Nat.sub_zero] at this
   rw [Nat.sub_zero,<- e2]
   exact this
  have tl:∀ M,CIx mt m0 M w0.heap.size c { s with ents:=s.ents.take (s.begs.getD (s.begs.length-1) 0).toNat }->∃ (A18:Option Addr) (n19 c20:Nat),M.cell ⟨c,6,none⟩=some (.slice A18 n19 c20)/\IntKind.i64=IntKind.i64/\(0:Int)<=((s.begs.length-1:Nat):Int)/\(s.begs.length-1)<=c20/\0<=(s.begs.length-1) /\
    StC w0.heap.size M ⟨c,6,none⟩ (.slice (if c20=0 then A18 else Option.map (fun x=>Addr.add x (0*1)) A18) ((s.begs.length-1)-0) (c20-0)) fun m21=>RetP (fun r m'=>r=.bool (decide (s.begs≠[]))/\CIx mt m0 m' w0.heap.size c (if s.begs = [] then s else s.cls)) (.bool true) m21:=by
   rintro M ⟨At2,ct2,L2,g⟩
   have hcap3:=(g.ow 3 (by omega)).2.1
   replace hcap3:s.begs.length<=(L2 3).2:=hcap3
   refine ⟨_,_,_,cel g.ps rfl,rfl,by omega,by omega,by omega,?_⟩
   refine CI.swap g (j:=3) (p:=6) (s':=s.cls) (by omega) (by omega) (Own.cut (g.ow 3 (by omega)) (k:=s.begs.length-1) (by show _<=s.begs.length; omega)) (fun k hk=>?_) ?_ (by simp [CS.len,CS.cls]) ?_ (fun i hi h6=>?_) rfl (fun m' h'=>retP_of ⟨by rw [decide_eq_true hn],by rw [if_neg hn]; exact h'⟩)
   .refine g.nw 3 (by omega) k ?_
    split at hk
    .exact hk
    .cases hA3:(L2 3).1 with
     | none=>rw [hA3] at hk; simp [obl] at hk
     | some a=>rw [hA3] at hk; simpa [obl,Addr.add] using hk
   .simp [Blk,CS.cls]
   .show intCells .i64 (s.begs.take (s.begs.length-1))=(intCells .i64 s.begs).take ((s.begs.length-1)*1)
    simp [intCells,List.map_take]
   .rcases i with _ | _ | _ | _ | _ | _ | _ <;> first | omega | exact ⟨rfl,rfl⟩
  refine awp_append_own elE (Alog.Own.nil _ _ _ _) rd2 h1c (by omega) (by omega) (fun g cp' cur hor hB ho=>?_) (fun h0 _=>?_)
  .have hg:m g=none:=by
    rcases hor with h' | h'
    .cases h'
    .exact h'
   have k:=h.grow (le_new hg (.cells cur (fT 2) (0,0)))
   refine ⟨_,_,_,rfl,?_⟩
   refine CI.swap k (j:=2) (p:=5) (s':={ s with ents:=s.ents.take (s.begs.getD (s.begs.length-1) 0).toNat }) (by omega) (by omega) ho (fun q hq=>?_) ?_ ?_ (by simp [CS.xs]) (fun i hi h6=>?_) rfl tl
   .simp only [obl,List.mem_singleton] at hq
    rw [hq]; exact AM.le_none h.le hg
   .simp [Blk,-List.getD_eq_getElem?_getD]; omega
   .simp [CS.len,-List.getD_eq_getElem?_getD]; omega
   .rcases i with _ | _ | _ | _ | _ | _ | _ <;> first | omega | exact ⟨rfl,rfl⟩
  .refine ⟨_,_,_,rfl,?_⟩
   have hz:(s.begs.getD (s.begs.length-1) 0).toNat=0:=by omega
   refine CI.swap h (j:=2) (p:=5) (s':={ s with ents:=s.ents.take (s.begs.getD (s.begs.length-1) 0).toNat }) (by omega) (by omega) (Alog.Own.nil _ _ _ _) (fun q hq=>by simp [obl] at hq) ?_ ?_ ?_ (fun i hi h6=>?_) rfl tl
   .rw [hz]; simp [Blk]
   .rw [hz]; simp [CS.len]
   .rw [hz]; simp [CS.xs]
   .rcases i with _ | _ | _ | _ | _ | _ | _ <;> first | omega | exact ⟨rfl,rfl⟩
theorem cls_ok {s:CS} (h3:s.ok) (hn:s.begs≠[]):s.cls.ok/\s.cls.sz<=s.sz:=by
 refine ⟨⟨h3.1.sublist (List.take_sublist _ _),fun b hb=>?_⟩,?_⟩
 .replace hb:b∈s.begs.take (s.begs.length-1):=hb
  have hpos:0<s.begs.length:=by
   cases hh:s.begs with
   | nil=>exact absurd hh hn
   | cons=>simp
  obtain ⟨i,hi,rfl⟩:=List.mem_iff_getElem.1 hb
  rw [List.length_take] at hi
  rw [List.getElem_take]
  have hm:=h3.2 s.begs[i] (List.getElem_mem _)
  have hlast:=h3.2 s.begs[s.begs.length-1] (List.getElem_mem _)
  have hp:=List.pairwise_iff_getElem.1 h3.1 i (s.begs.length-1) (by omega) (by omega) (by omega)
  refine ⟨hm.1,?_⟩
  show _<=(((s.ents.take (s.begs.getD (s.begs.length-1) 0).toNat).length:Nat):Int)
  have e1:s.begs.getD (s.begs.length-1) 0=s.begs[s.begs.length-1]:=by simp [List.getD,show s.begs.length-1<s.begs.length by omega]
  have e2:(s.ents.take (s.begs.getD (s.begs.length-1) 0).toNat).length=min (s.begs.getD (s.begs.length-1) 0).toNat s.ents.length:=List.length_take
  rw [e1] at e2
  rw [e1,e2]
  omega
 .simp only [CS.sz,CS.cls,List.length_take]
  omega
theorem close_w (w0:World) (mt m0 m:AM) (c N:Nat) (h:WI mt m0 m w0.heap.size c N) (hN:N<=1000000) :
  CallsA Tryz.prog w0 149 #[.pointer (some ⟨c,5,none⟩)] m (fun r m'=>∃ b,r=.bool b/\WI mt m0 m' w0.heap.size c N):=by
 obtain ⟨s,h1,h2,h3⟩:=h
 have hz:=h2
 unfold CS.sz at hz
 refine CallsA.mono (close_c w0 mt m0 m c s h1 (by omega) (by omega) h3.2) ?_
 rintro r m' ⟨rfl,h'⟩
 refine ⟨_,rfl,?_⟩
 by_cases hn:s.begs = []
 .rw [if_pos hn] at h'; exact ⟨_,h',h2,h3⟩
 .rw [if_neg hn] at h'; exact ⟨_,h',Nat.le_trans (cls_ok h3 hn).2 h2,(cls_ok h3 hn).1⟩
theorem elSy:elOf Tryz.prog 42=some (fT 4,fS 4,24,Sbl.cells ⟨ByteArray.empty,0⟩):=by kernel_rfl
theorem elSt:elOf Tryz.prog 22=some (fT 5,fS 5,16,[.string ByteArray.empty]):=by kernel_rfl
theorem WI.rows {mt m0 m:AM} {B c N:Nat} (h:WI mt m0 m B c N):(∃ (A:Option Addr) (n k:Nat),m.cell ⟨c,10,none⟩=some (.slice A n k))/\∃ (A:Option Addr) (n k:Nat),m.cell ⟨c,11,none⟩=some (.slice A n k):=by
 obtain ⟨s,⟨At,ct,L,h⟩,_⟩:=h
 exact ⟨⟨_,_,_,cel h.ps rfl⟩,⟨_,_,_,cel h.ps rfl⟩⟩
theorem WI.imp {mt m0 m:AM} {B c N:Nat} (h:WI mt m0 m B c N) (hN:N<=1000000) (x:ByteArray) {K:AM->Prop} (hK:∀ m',WI mt m0 m' B c (N+1)->K m') :
  ∃ (A:Option Addr) (n k:Nat),m.cell ⟨c,11,none⟩=some (.slice A n k)/\true=true/\∀ b:Nat,B<=b->m b=none->let m1:=AM.upd m b (.cells #[.string x] 9);
  awp Tryz.prog B (Builtin.append_ #[22,22] 22 #[.slice A n k,.slice (some ⟨b,0,none⟩) 1 1]) m1 fun v m2=>∃ (A':Option Addr) (n' c':Nat),v=.slice A' n' c'/\StC B m2 ⟨c,11,none⟩ (.slice A' n' c') K:=by
 obtain ⟨s,⟨At,ct,L,h⟩,h2,h3⟩:=h
 have hz:=h2
 unfold CS.sz at hz
 refine ⟨_,_,_,cel h.ps rfl,rfl,?_⟩
 intro b hB hN1 M
 have l:m.le M:=le_new hN1 _
 have p:M b=some (.cells ([.string x]:List Value).toArray 9):=upd_get_same
 clear_value M
 refine CI.app (h.grow l) (j:=5) (p:=11) (s':={ s with imps:=s.imps ++ [x] }) (by omega) elSt (by omega) (by show s.imps.length<=_; omega) (by omega) (rd_of p rfl) (by simp [Value.oneCell']) (fun g cp'=>by simp [Blk,CS.len]) (by simp [CS.len]) (by simp [CS.xs]) (fun i hi h6=>?_) rfl (fun m' h'=>hK m' ⟨_,h',by simp [CS.sz]; omega,CS.ok_same h3 rfl (Nat.le_refl _)⟩)
 rcases i with _ | _ | _ | _ | _ | _ | _ <;> first | omega | exact ⟨rfl,rfl⟩
theorem WI.exp {mt m0 m:AM} {B c N b0:Nat} {t:Thg} (h:WI mt (m0.upd b0 (.cells t.cells.toArray 128)) m B c N) (hN:N<=1000000) (x:ByteArray) {K:Option Addr->Nat->Nat->Int->Nat->Option Addr->Nat->Nat->AM->Prop} (hK:∀ A n k i b A' n' c' m',WI mt (m0.upd b0 (.cells t.cells.toArray 128)) m' B c (N+1)->K A n k i b A' n' c' m') :
  ∃ (A:Option Addr) (n k:Nat),m.cell ⟨c,10,none⟩=some (.slice A n k)/\∃ i:Int,m.cell ⟨b0,1,none⟩=some (.int .i64 i)/\true=true/\true=true/\∀ b:Nat,B<=b->m b=none->let m1:=AM.upd m b (.cells #[.string x,.int .i64 i] 137);
  awp Tryz.prog B (Builtin.append_ #[42,42] 42 #[.slice A n k,.slice (some ⟨b,0,none⟩) 1 1]) m1 fun v m2=>∃ (A':Option Addr) (n' c':Nat),v=.slice A' n' c'/\StC B m2 ⟨c,10,none⟩ (.slice A' n' c') fun m'=>K A n k i b A' n' c' m':=by
 have q:=h.le _ _ upd_get_same
 obtain ⟨s,⟨At,ct,L,h⟩,h2,h3⟩:=h
 have hz:=h2
 unfold CS.sz at hz
 refine ⟨_,_,_,cel h.ps rfl,_,cel q rfl,rfl,rfl,?_⟩
 intro b hB hN1 M
 have l:m.le M:=le_new hN1 _
 have p:M b=some (.cells (Sbl.cells ⟨x,t.pos⟩).toArray 137):=upd_get_same
 clear_value M
 refine awp_mono _ _ _ _ ?_ (CI.app (h.grow l) (j:=4) (p:=10) (s':={ s with exps:=s.exps ++ [⟨x,t.pos⟩] }) (c2:=1) (K:=fun m'=>∀ A' n' c',K (L 4).1 s.exps.length (L 4).2 t.pos b A' n' c' m') (by omega) elSy (by omega) (by show s.exps.length<=_; omega) (by omega) (rd_of p rfl) (by simp [Sbl.cells,Value.oneCell']) (fun g cp'=>by simp [Blk,CS.len]) (by simp [CS.len]) (by simp [CS.xs]) (fun i hi h6=>?_) rfl (fun m' h' A' n' c'=>hK _ _ _ _ _ A' n' c' m' ⟨_,h',by simp [CS.sz]; omega,CS.ok_same h3 rfl (Nat.le_refl _)⟩))
 .rintro v m2 ⟨A',n',c',e,hst⟩
  exact ⟨A',n',c',e,hst.1,hst.2.1,hst.2.2.1,hst.2.2.2 A' n' c'⟩
 .rcases i with _ | _ | _ | _ | _ | _ | _ <;> first | omega | exact ⟨rfl,rfl⟩
section
variable (w0:World) (c N:Nat)
theorem imported_w (hN:N<=800000):Does w0 100 c N 2:=by
 intro mt m0 m h
 have lt:=h.lt
 refine cf100 w0 m c _ ?_
 refine CallsA.mono (name_w w0 mt m0 m c N h) ?_
 rintro r m1 ⟨x,i,rfl,k1⟩
 obtain ⟨A7,n7,c7,h7⟩:=k1.rows.2
 refine ⟨_,_,rfl,_,_,_,h7,rfl,k1.new4 ⟨4,n7,0,false⟩ fun b M hB hb l2 k=>?_⟩
 obtain ⟨A8,n8,c8,h8⟩:=k.rows.2
 refine ⟨_,_,_,h8,?_⟩
 refine CallsA.mono (fresh_w w0 mt _ M c N x i n8 k (by omega)) ?_
 rintro r m2 ⟨rfl,k2⟩
 refine ⟨rfl,?_⟩
 refine CallsA.mono (parameter_w w0 mt _ m2 c N k2) ?_
 rintro r m3 ⟨y,j,tk,rfl,k3⟩
 refine ⟨_,_,_,rfl,k3.stT hb lt hB (by simp [Thg.cells]) fun m4 k4=>?_⟩
 replace k4:WI mt (m0.upd b (.cells (Thg.cells ⟨4,n7,0,tk⟩).toArray 128)) m4 w0.heap.size c N:=k4
 refine k4.ld4 ?_
 refine CallsA.mono (define_w w0 mt _ m4 c N x i ⟨4,n7,0,tk⟩ k4 (by omega)) ?_
 rintro r m5 ⟨rfl,k5⟩
 refine ⟨rfl,k5.imp (by omega) x fun m6 k6=>?_⟩
 refine CallsA.mono (must_w w0 mt _ m6 c _ _ k6) ?_
 rintro r m7 ⟨rfl,k7⟩
 exact ⟨rfl,retP_of ⟨rfl,k7.base (le_new hb _) lt⟩⟩
def Redef (w0:World) (c N:Nat):Prop:=∀ (mt m0 m:AM) (x:ByteArray) (t:Thg),WI mt m0 m w0.heap.size c N->CallsA Tryz.prog w0 142 #[.pointer (some ⟨c,0,none⟩),.string x,t.val] m (fun r m'=>r=.tuple #[]/\WI mt m0 m' w0.heap.size c (N+1))
theorem variable_w (hN:N<=800000) (hr:Redef w0 c (N+1)):Does w0 99 c N 2:=by
 intro mt m0 m h
 have lt:=h.lt
 refine cf99 w0 m c _ ?_
 refine CallsA.mono (name_w w0 mt m0 m c N h) ?_
 rintro r m1 ⟨x,i,rfl,k1⟩
 obtain ⟨d,hd⟩:=k1.num.1
 refine ⟨_,_,rfl,_,hd,rfl,k1.new4 ⟨0,d,1,false⟩ fun b M hB hb l2 k=>k.ld4 ?_⟩
 refine CallsA.mono (define_w w0 mt _ M c N x i ⟨0,d,1,false⟩ k (by omega)) ?_
 rintro r m2 ⟨rfl,k2⟩
 refine ⟨rfl,?_⟩
 refine CallsA.mono (has_w w0 mt _ m2 c _ _ k2) ?_
 rintro r m3 ⟨t,rfl,k3,_⟩
 refine ⟨_,rfl,?_⟩
 have fin:∀ (T:Thg) K M',K<=N+2->WI mt (m0.upd b (.cells T.cells.toArray 128)) M' w0.heap.size c K->∃ i56:Int,M'.cell ⟨c,9,none⟩=some (.int .i64 i56)/\∃ i57:Int,M'.cell ⟨b,2,none⟩=some (.int .i64 i57)/\IntKind.i64=IntKind.i64/\StC w0.heap.size M' ⟨c,9,none⟩ (.int .i64 (IntKind.wrap .i64 (i56+i57))) fun m58 =>
   CallsA Tryz.prog w0 47 #[.pointer (some ⟨c,0,none⟩),.string (ByteArray.mk #[59])] m58 (fun r m'=>r=.tuple #[]/\RetP (fun r m'=>r=.tuple #[]/\WI mt m0 m' w0.heap.size c (N+2)) (.tuple #[]) m'):=fun T K M' hK k'=>by
  obtain ⟨d,hd⟩:=k'.num.1
  have p:=k'.le _ _ upd_get_same
  refine ⟨_,hd,_,cel p rfl,rfl,k'.st (by omega) fun m5 k5=>?_⟩
  refine CallsA.mono (must_w w0 mt _ m5 c _ _ k5) ?_
  rintro r m6 ⟨rfl,k6⟩
  exact ⟨rfl,retP_of ⟨rfl,(k6.mono hK).base (le_new hb _) lt⟩⟩
 have stp:∀ (e y:Int) M',WI mt (m0.upd b (.cells (Thg.cells ⟨0,d,1,false⟩).toArray 128)) M' w0.heap.size c (N+1)->CallsA Tryz.prog w0 24 #[.pointer (some ⟨c,0,none⟩),.int .i64 e,.int .i64 y] M' (fun r m'=>r=.tuple #[]/\RetP (fun r m'=>r=.tuple #[]/\WI mt m0 m' w0.heap.size c (N+2)) (.tuple #[]) m'):=fun e y M' k'=>by
  refine CallsA.mono (stop_w w0 mt _ M' c _ e y k') ?_
  rintro r m5 ⟨rfl,k5⟩
  exact ⟨rfl,retP_of ⟨rfl,(k5.mono (by omega)).base (le_new hb _) lt⟩⟩
 cases t
 .obtain ⟨e,he⟩:=k3.num.2.1
  refine ⟨_,he,rfl,?_⟩
  cases (e == 0)
  .exact ⟨rfl,fin _ _ _ (by omega) k3⟩
  obtain ⟨d2,hd2⟩:=k3.num.1
  refine ⟨_,hd2,rfl,?_⟩
  unfold bcase
  split
  .refine CallsA.mono (stop_w w0 mt _ m3 c _ 4 i k3) ?_
   rintro r m4 ⟨rfl,k4⟩
   exact ⟨rfl,fin _ _ _ (by omega) k4⟩
  .exact fin _ _ _ (by omega) k3
 .refine CallsA.mono (number_w w0 mt _ m3 c _ k3) ?_
  rintro r m4 ⟨n,y,rfl,k4⟩
  obtain ⟨e,he⟩:=k4.num.2.1
  refine ⟨_,_,rfl,_,he,rfl,?_⟩
  cases (e != 0)
  case true=>rw [bcase_t]; exact retP_of ⟨rfl,(k4.mono (by omega)).base (le_new hb _) lt⟩
  refine ⟨rfl,?_⟩
  unfold bcase
  split
  .rename_i h1
   exact ⟨h1,stp 3 y _ k4⟩
  refine ⟨rfl,?_⟩
  split
  .exact stp 3 y _ k4
  obtain ⟨d2,hd2⟩:=k4.num.1
  refine ⟨_,hd2,rfl,rfl,?_⟩
  split
  .exact stp 4 y _ k4
  refine k4.stT hb lt hB (by simp [Thg.cells]) fun m5 k5=>k5.stT hb lt hB (by simp [Thg.cells]) fun m6 k6=>?_
  replace k6:WI mt (m0.upd b (.cells (Thg.cells ⟨1,d,n,false⟩).toArray 128)) m6 w0.heap.size c (N+1):=k6
  refine k6.ld4 ?_
  refine CallsA.mono (hr mt _ m6 x ⟨1,d,n,false⟩ k6) ?_
  rintro r m7 ⟨rfl,k7⟩
  refine ⟨rfl,?_⟩
  refine CallsA.mono (must_w w0 mt _ m7 c _ _ k7) ?_
  rintro r m8 ⟨rfl,k8⟩
  exact ⟨rfl,fin _ _ _ (by omega) k8⟩
end
section
variable (w0:World) (c N:Nat)
theorem routine_tail {mt m0 m:AM} {K:Nat} (n:Nat) (b:Bool) (h:WI mt m0 m w0.heap.size c K) (hn:2<=n) (hK:K+n<=500000) {R:Value->AM->Prop} (hR:∀ m',WI mt m0 m' w0.heap.size c (K+n+12)->R (.tuple #[]) m') :
  CallsA Tryz.prog w0 47 #[.pointer (some ⟨c,0,none⟩),.string (ByteArray.mk #[98,101,103,105,110])] m fun r m1=>r=.tuple #[] /\
  CallsA Tryz.prog w0 147 #[.pointer (some ⟨c,0,none⟩),.int .i64 n,.bool b] m1 fun r m2=>r=.tuple #[] /\
  CallsA Tryz.prog w0 54 #[.pointer (some ⟨c,0,none⟩)] m2 fun r m3=>r=.tuple #[] /\
  CallsA Tryz.prog w0 47 #[.pointer (some ⟨c,0,none⟩),.string (ByteArray.mk #[101,110,100])] m3 fun r m4=>r=.tuple #[] /\
  CallsA Tryz.prog w0 47 #[.pointer (some ⟨c,0,none⟩),.string (ByteArray.mk #[59])] m4 fun r m5=>r=.tuple #[] /\
  CallsA Tryz.prog w0 148 #[.pointer (some ⟨c,0,none⟩),.int .i64 n] m5 fun r m6=>r=.tuple #[] /\
  CallsA Tryz.prog w0 149 #[.pointer (some ⟨c,5,none⟩)] m6 fun r m7=>∃ t:Bool,r=.bool t/\RetP R (.tuple #[]) m7:=by
 refine CallsA.mono (must_w w0 mt m0 m c _ _ h) ?_
 rintro r m1 ⟨rfl,k1⟩
 refine ⟨rfl,?_⟩
 refine CallsA.mono (enter_w w0 mt m0 m1 c _ n b k1 hn (by omega)) ?_
 rintro r m2 ⟨rfl,k2⟩
 refine ⟨rfl,?_⟩
 refine CallsA.mono (statements_w w0 c _ (by omega) mt m0 m2 k2) ?_
 rintro r m3 ⟨rfl,k3⟩
 refine ⟨rfl,?_⟩
 refine CallsA.mono (must_w w0 mt m0 m3 c _ _ k3) ?_
 rintro r m4 ⟨rfl,k4⟩
 refine ⟨rfl,?_⟩
 refine CallsA.mono (must_w w0 mt m0 m4 c _ _ k4) ?_
 rintro r m5 ⟨rfl,k5⟩
 refine ⟨rfl,?_⟩
 refine CallsA.mono (leave_w w0 mt m0 m5 c _ n k5 (by omega)) ?_
 rintro r m6 ⟨rfl,k6⟩
 refine ⟨rfl,?_⟩
 refine CallsA.mono (close_w w0 mt m0 m6 c _ k6 (by omega)) ?_
 rintro r m7 ⟨t,rfl,k7⟩
 exact ⟨_,rfl,retP_of (hR _ k7)⟩
theorem routine_w (hN:N<=400000):Does w0 101 c N 19:=by
 intro mt m0 m h
 have lt:=h.lt
 refine cf101 w0 m c _ ?_
 refine CallsA.mono (name_w w0 mt m0 m c N h) ?_
 rintro r m1 ⟨x,i,rfl,k1⟩
 refine ⟨_,_,rfl,?_⟩
 refine CallsA.mono (here_w w0 mt m0 m1 c N k1) ?_
 rintro r m2 ⟨hr,rfl,k2⟩
 refine ⟨_,rfl,rfl,k2.new4 ⟨3,hr,0,false⟩ fun b M hB hb l2 k=>?_⟩
 obtain ⟨A8,n8,c8,h8⟩:=k.rows.1
 refine ⟨_,_,_,h8,?_⟩
 refine CallsA.mono (fresh_w w0 mt _ M c N x i n8 k (by omega)) ?_
 rintro r m3 ⟨rfl,k3⟩
 refine ⟨rfl,?_⟩
 refine CallsA.mono (parameter_w w0 mt _ m3 c N k3) ?_
 rintro r m4 ⟨y,j,tk,rfl,k4⟩
 refine ⟨_,_,_,rfl,k4.stT hb lt hB (by simp [Thg.cells]) fun m5 k5=>?_⟩
 replace k5:WI mt (m0.upd b (.cells (Thg.cells ⟨3,hr,0,tk⟩).toArray 128)) m5 w0.heap.size c N:=k5
 refine k5.ld4 ?_
 refine CallsA.mono (define_w w0 mt _ m5 c N x i ⟨3,hr,0,tk⟩ k5 (by omega)) ?_
 rintro r m6 ⟨rfl,k6⟩
 refine ⟨rfl,k6.exp (by omega) x fun A7 n7 c7 i7 b7 A9 n9 c9 m7 k7=>?_⟩
 refine CallsA.mono (must_w w0 mt _ m7 c _ _ k7) ?_
 rintro r m8 ⟨rfl,k8⟩
 refine ⟨rfl,?_⟩
 refine CallsA.mono (open_w w0 mt _ m8 c _ k8 (by omega)) ?_
 rintro r m9 ⟨rfl,k9⟩
 refine ⟨rfl,?_⟩
 replace k9:WI mt (m0.upd b (.cells (Thg.cells ⟨3,hr,0,tk⟩).toArray 128)) m9 w0.heap.size c (N+3):=k9
 have lX:m0.le (m0.upd b (.cells (Thg.cells ⟨3,hr,0,tk⟩).toArray 128)):=le_new hb _
 have ltX:=AM.le_trans lt lX
 generalize m0.upd b (.cells (Thg.cells ⟨3,hr,0,tk⟩).toArray 128)=X at *
 have fin:∀ K m',K<=N+19->WI mt X m' w0.heap.size c K->(Value.tuple #[]=.tuple #[]/\WI mt m0 m' w0.heap.size c (N+19)):=fun K m' hK k=>⟨rfl,(k.mono hK).base lX lt⟩
 have loop:∀ (n:Nat) (K:Nat) (M':AM) (σ:Sg),2<=n->K+100*n<=N+104->WI mt X M' w0.heap.size c K->σ 0=.pointer (some ⟨c,0,none⟩)->σ 7=.bool tk->σ 8=.int .i64 n->σ 9=.bool true ->
   (XV w0 F101 (Tz (fun r m'=>r=.tuple #[]/\WI mt m0 m' w0.heap.size c (N+19))) 262098 σ M'):=by
  intro n K M' σ h2 hK k h0 h7 h8 h9
  refine vl101_11111111111010010 w0 M' σ _ c tk n true (fun q j more m'=>∃ p K:Nat,j=p/\2<=p/\K+100*p<=N+205/\(more=true->K+100*p<=N+104)/\q=K+(if more=true then 300 else 0)/\WI mt X m' w0.heap.size c K)
   (fun j m'=>∃ p K:Nat,j=p/\2<=p/\K+100*p<=N+205/\WI mt X m' w0.heap.size c K) (K+300) h0 h7 h8 h9 ⟨n,K,rfl,h2,by omega,fun _=>hK,rfl,k⟩ ?_ ?_
  .rintro q σ j more m2 ⟨p,K,rfl,hp,h1,h2,rfl,k2⟩
   have hw:IntKind.wrap .i64 ((p:Int)+1)=((p+1:Nat):Int):=by rw [IntKind.wrap_i64]; omega
   obtain ⟨e,he⟩:=k2.num.2.1
   refine ⟨_,he,rfl,?_⟩
   cases (e == 0)
   .exact ⟨rfl,rfl,rfl,rfl,p,K,rfl,hp,h1,k2⟩
   rw [bcase_t,cond_true]
   cases more
   .exact ⟨rfl,rfl,rfl,p,K,rfl,hp,h1,k2⟩
   rw [bcase_t]
   have h2:=h2 rfl
   refine CallsA.mono (name_w w0 mt _ m2 c _ k2) ?_
   rintro r m3 ⟨x,i,rfl,k3⟩
   refine ⟨_,_,rfl,?_⟩
   refine CallsA.mono (owns_w w0 mt _ m3 c _ x i p k3 (by omega)) ?_
   rintro r m4 ⟨rfl,k4⟩
   refine ⟨_,rfl,?_⟩
   refine CallsA.mono (has_w w0 mt _ m4 c _ _ k4) ?_
   rintro r m5 ⟨t,rfl,k5,k5'⟩
   refine ⟨_,rfl,rfl,rfl,rfl,rfl,?_⟩
   rw [hw]
   cases t
   .exact ⟨K+1,by simp,p+1,K+1,rfl,by omega,by omega,(fun h=>by cases h),rfl,k5⟩
   .obtain ⟨h200,k6⟩:=k5' rfl
    exact ⟨K+1-200+300,by simp; omega,p+1,K+1-200,rfl,by omega,by omega,fun _=>by omega,rfl,k6⟩
  .rintro σ j m2 ⟨p,K,rfl,hp,h1,k2⟩
   refine CallsA.mono (must_w w0 mt _ m2 c _ _ k2) ?_
   rintro r m3 ⟨rfl,k3⟩
   exact ⟨rfl,routine_tail w0 c p tk k3 hp (by omega) fun m' k'=>fin _ m' (by omega) k'⟩
 cases tk
 .rw [bcase_f]
  refine CallsA.mono (has_w w0 mt _ m9 c _ _ k9) ?_
  rintro r m10 ⟨t,rfl,k10,k10'⟩
  refine ⟨_,rfl,?_⟩
  cases t
  .exact routine_tail w0 c 2 false k10 (by omega) (by omega) fun m' k'=>fin _ m' (by omega) k'
  .obtain ⟨h200,k11⟩:=k10' rfl
   exact loop 2 _ m10 _ (by omega) (by omega) k11 rfl rfl rfl rfl
 .rw [bcase_t]
  refine CallsA.mono (owns_w w0 mt _ m9 c _ y j 2 k9 (by omega)) ?_
  rintro r m10 ⟨rfl,k10⟩
  refine ⟨_,rfl,?_⟩
  refine CallsA.mono (has_w w0 mt _ m10 c _ _ k10) ?_
  rintro r m11 ⟨t,rfl,k11,k11'⟩
  refine ⟨_,rfl,?_⟩
  cases t
  .exact routine_tail w0 c 3 true k11 (by omega) (by omega) fun m' k'=>fin _ m' (by omega) k'
  .obtain ⟨h200,k12⟩:=k11' rfl
   exact loop 3 _ m11 _ (by omega) (by omega) k12 rfl rfl rfl rfl
theorem declarations_w (hr:∀ K,K<=N+1->Redef w0 c K) (hN:N<=300000):Does w0 51 c N 0:=by
 intro mt m0 m h
 refine cf51 w0 m c _ ?_
 dsimp only [cf51,mkF]
 refine vl51_0 w0 m _ _ c (fun n m'=>n<=N/\WI mt m0 m' w0.heap.size c n) (fun m'=>WI mt m0 m' w0.heap.size c N) N rfl ⟨Nat.le_refl _,h⟩ ?_ ?_
 .rintro n σ m1 ⟨hn,k1⟩
  obtain ⟨e,he⟩:=k1.num.2.1
  refine ⟨_,he,rfl,?_⟩
  cases (e == 0)
  case false=>rw [bcase_f]; exact ⟨rfl,k1.mono hn⟩
  refine CallsA.mono (has_w w0 mt m0 m1 c n _ k1) ?_
  rintro r m2 ⟨b,rfl,k2,k2'⟩
  refine ⟨_,rfl,?_⟩
  cases b
  case true =>
   obtain ⟨h200,k3⟩:=k2' rfl
   refine CallsA.mono (variable_w w0 c _ (by omega) (hr _ (by omega)) mt m0 m2 k3) ?_
   rintro r m3 ⟨rfl,k4⟩
   exact ⟨rfl,rfl,n-200+2,by omega,by omega,k4⟩
  refine CallsA.mono (has_w w0 mt m0 m2 c n _ k2) ?_
  rintro r m3 ⟨b,rfl,k3,k3'⟩
  refine ⟨_,rfl,?_⟩
  cases b
  case true =>
   obtain ⟨h200,k4⟩:=k3' rfl
   refine CallsA.mono (imported_w w0 c _ (by omega) mt m0 m3 k4) ?_
   rintro r m4 ⟨rfl,k5⟩
   exact ⟨rfl,rfl,n-200+2,by omega,by omega,k5⟩
  refine CallsA.mono (has_w w0 mt m0 m3 c n _ k3) ?_
  rintro r m4 ⟨b,rfl,k4,k4'⟩
  refine ⟨_,rfl,?_⟩
  cases b
  case true =>
   obtain ⟨h200,k5⟩:=k4' rfl
   refine CallsA.mono (routine_w w0 c _ (by omega) mt m0 m4 k5) ?_
   rintro r m5 ⟨rfl,k6⟩
   exact ⟨rfl,rfl,n-200+19,by omega,by omega,k6⟩
  rw [bcase_f]
  exact retP_of ⟨rfl,k4.mono hn⟩
 .rintro σ m1 k1
  exact retP_of ⟨rfl,k1⟩
end
theorem WI.stN {mt m0 m:AM} {B c N:Nat} (h:WI mt m0 m B c N) {x:ByteArray} {K:AM->Prop} (hK:∀ m',WI mt m0 m' B c N->K m'):StC B m ⟨c,7,none⟩ (.string x) K:=by
 obtain ⟨s,⟨_,_,_,h⟩,h2⟩:=h
 exact h.st' (s':={ s with name:=x }) rfl (by omega) (fun _=>by rfl) (fun _=>by rfl) rfl fun m' h'=>hK m' ⟨_,h',h2⟩
section
variable (w0:World) (c N:Nat)
theorem program_tail {mt m0 m:AM} {K:Nat} (h:WI mt m0 m w0.heap.size c K) {R:Value->AM->Prop} (hR:∀ m',WI mt m0 m' w0.heap.size c K->R (.tuple #[]) m') :
  CallsA Tryz.prog w0 47 #[.pointer (some ⟨c,0,none⟩),.string (ByteArray.mk #[101,110,100])] m fun r m1=>r=.tuple #[] /\
  CallsA Tryz.prog w0 47 #[.pointer (some ⟨c,0,none⟩),.string (ByteArray.mk #[46])] m1 fun r m2=>r=.tuple #[] /\
  ∃ i:Int,m2.cell ⟨c,13,none⟩=some (.int .i64 i)/\IntKind.i64=IntKind.i64/\bcase ((i:Int) == 0) (
   ∃ (A:Option Addr) (n k:Nat),m2.cell ⟨c,0,none⟩=some (.slice A n k)/\IntKind.i64=IntKind.i64/\bcase (bif (i:Int) == 0 then decide ((((n:Nat):Int):Int)>0) else false) (
    CallsA Tryz.prog w0 56 #[.pointer (some ⟨c,0,none⟩)] m2 fun r m3=>∃ j:Int,r=.int .i64 j /\
    CallsA Tryz.prog w0 24 #[.pointer (some ⟨c,0,none⟩),.int .i64 2,.int .i64 j] m3 fun r m4=>r=.tuple #[]/\RetP R (.tuple #[]) m4)
    (RetP R (.tuple #[]) m2))
   (((i:Int) == 0)=false/\RetP R (.tuple #[]) m2):=by
 refine CallsA.mono (must_w w0 mt m0 m c _ _ h) ?_
 rintro r m1 ⟨rfl,k1⟩
 refine ⟨rfl,?_⟩
 refine CallsA.mono (must_w w0 mt m0 m1 c _ _ k1) ?_
 rintro r m2 ⟨rfl,k2⟩
 refine ⟨rfl,?_⟩
 obtain ⟨e,he⟩:=k2.num.2.1
 refine ⟨_,he,rfl,?_⟩
 cases (e == 0)
 .exact ⟨rfl,retP_of (hR _ k2)⟩
 have k2x:=k2
 obtain ⟨s,⟨At,ct,L,g⟩,_⟩:=k2
 refine ⟨_,_,_,cel g.ps rfl,rfl,?_⟩
 unfold bcase
 split
 .refine CallsA.mono (where_w w0 mt m0 m2 c _ k2x) ?_
  rintro r m3 ⟨j,rfl,k3⟩
  refine ⟨_,rfl,?_⟩
  refine CallsA.mono (stop_w w0 mt m0 m3 c _ 2 j k3) ?_
  rintro r m4 ⟨rfl,k4⟩
  exact ⟨rfl,retP_of (hR _ k4)⟩
 .exact retP_of (hR _ k2x)
theorem program_w (hr:∀ K,K<=N+9->Redef w0 c K) (hN:N<=200000):Does w0 21 c N 9:=by
 intro mt m0 m h
 refine cf21 w0 m c _ ?_
 dsimp only [cf21,mkF]
 have body:∀ (b:Bool) (M:AM) (σ:Sg),WI mt m0 M w0.heap.size c N->σ 0=.pointer (some ⟨c,0,none⟩)->σ 2=.bool b->(XV w0 F21 (Tz (fun r m'=>r=.tuple #[]/\WI mt m0 m' w0.heap.size c (N+9))) 7 σ M):=by
  intro b M σ k h0 h2
  refine vk21_11 w0 M σ _ c b h0 h2 ?_
  refine CallsA.mono (name_w w0 mt m0 M c _ k) ?_
  rintro r m1 ⟨x,i,rfl,k1⟩
  refine ⟨_,_,rfl,k1.stN fun m2 k2=>?_⟩
  refine CallsA.mono (must_w w0 mt m0 m2 c _ _ k2) ?_
  rintro r m3 ⟨rfl,k3⟩
  refine ⟨rfl,?_⟩
  refine CallsA.mono (open_w w0 mt m0 m3 c _ k3 (by omega)) ?_
  rintro r m4 ⟨rfl,k4⟩
  refine ⟨rfl,?_⟩
  cases b
  .refine bcF ?_
   refine CallsA.mono (declarations_w w0 c _ (fun K hK=>hr K (by omega)) (by omega) mt m0 m4 k4) ?_
   rintro r m5 ⟨rfl,k5⟩
   exact ⟨rfl,bcF (program_tail w0 c k5 fun m' k'=>⟨rfl,k'.mono (by omega)⟩)⟩
  .refine bcT ⟨rfl,?_⟩
   refine CallsA.mono (jump_w w0 mt m0 m4 c _ ⟨17,0,0,0,0⟩ k4 (by omega)) ?_
   rintro r m5 ⟨y,rfl,k5⟩
   refine ⟨_,rfl,?_⟩
   refine CallsA.mono (declarations_w w0 c _ (fun K hK=>hr K (by omega)) (by omega) mt m0 m5 k5) ?_
   rintro r m6 ⟨rfl,k6⟩
   refine ⟨rfl,bcT ?_⟩
   refine CallsA.mono (must_w w0 mt m0 m6 c _ _ k6) ?_
   rintro r m7 ⟨rfl,k7⟩
   refine ⟨rfl,?_⟩
   refine CallsA.mono (land_w w0 mt m0 m7 c _ y k7) ?_
   rintro r m8 ⟨t,rfl,k8⟩
   refine ⟨_,rfl,rfl,?_⟩
   refine CallsA.mono (mark_w w0 mt m0 m8 c _ ⟨10,29,0,0,0⟩ 4 0 k8 (by omega)) ?_
   rintro r m9 ⟨z,rfl,k9⟩
   refine ⟨_,rfl,?_⟩
   refine CallsA.mono (statements_w w0 c _ (by omega) mt m0 m9 k9) ?_
   rintro r m10 ⟨rfl,k10⟩
   refine ⟨rfl,rfl,?_⟩
   refine CallsA.mono (put_w w0 mt m0 m10 c _ ⟨20,0,0,0,0⟩ k10 (by omega)) ?_
   rintro r m11 ⟨z,rfl,k11⟩
   exact ⟨_,rfl,program_tail w0 c k11 fun m' k'=>⟨rfl,k'.mono (by omega)⟩⟩
 refine CallsA.mono (has_w w0 mt m0 m c _ _ h) ?_
 rintro r m1 ⟨b,rfl,k1,_⟩
 refine ⟨_,rfl,?_⟩
 cases b
 .refine CallsA.mono (must_w w0 mt m0 m1 c _ _ k1) ?_
  rintro r m2 ⟨rfl,k2⟩
  exact ⟨rfl,body _ _ _ k2 rfl rfl⟩
 .exact body _ _ _ k1 rfl rfl
end
end Go.Proofs.YtgjamnhjlaohaaaGreatDoor.S
namespace Go.Alog
open Go Go.RowKit
def u8s (s:ByteArray):List Int:=s.data.toList.map fun b=>(b.toNat:Int)
def u8c (l:List Int):List Value:=l.map (Value.int .u8)
theorem awp_bytes {P:Program} {B:Nat} {src dst e:TypeId} (hs:P.underlying src=some .string) (hd:P.underlying dst=some (.slice e)) (he:P.underlying e=some (.int .u8)) (s:ByteArray) {m:AM} {K:Value->AM->Prop}
  (h:∀ b cp (cs:List Value) f,B<=b->m b=none->cs.take s.size=u8c (u8s s)->s.size<=cs.length->s.size<=f.1->K (.slice (some ⟨b,0,none⟩) s.size cp) (m.upd b (.cells cs.toArray e f))):awp P B (convert src dst (.string s)) m K:=by
 have key:∀ cap:Nat,awp P B (do
   let elems:Array Value:=s.data.map fun b=>.int .u8 b.toNat
   let a <- newRow e (elems ++ Array.replicate (cap-s.size) (.int .u8 0))
   markStringish a
   pure (Value.slice (some a) s.size cap)) m K:=fun cap=>by
  obtain ⟨E,hE⟩:∃ E:Array Value,E=(s.data.map fun b:UInt8=>Value.int .u8 (b.toNat:Int)) ++ Array.replicate (cap-s.size) (Value.int .u8 0):=⟨_,rfl⟩
  have hl:(s.data.map fun b:UInt8=>Value.int .u8 (b.toNat:Int)).toList.length=s.size:=by rw [show s.size=s.data.size from rfl]; simp
  intro b hB hN
  have hsh:∀ o:Obj,(m.upd b o) b=some o:=fun o=>upd_get_same
  have:=h b cap E.toList (frzR (0,0) ⟨b,E.size,none⟩ 1) hB hN ?_ ?_ ?_
  .refine ⟨_,hsh _,by decide,hB,_,_,_,hsh _,?_⟩
   rw [upd_upd]
   rw [Array.toArray_toList,hE] at this
   exact this
  .rw [hE,Array.toList_append,List.take_append_of_le_length (by omega),List.take_of_length_le (by omega)]
   simp [u8c,u8s]
  .rw [show s.size=s.data.size from rfl,hE]; simp
  .rw [show s.size=s.data.size from rfl,hE]; simp [frzR]
 unfold convert
 refine awp_pv_bind (pv_underlying hs) (awp_pv_bind (pv_underlying hd) ?_)
 simp only []
 refine awp_pv_bind (pv_underlying he) ?_
 simp only []
 exact ⟨fun _=>key _,fun _ t=>key _⟩
theorem rval_cells {P:Program} {m:AM} {a:Addr}:∀ (l:List Value) (i:Nat) (acc:Array Value),(∀ j v,l[j]?=some v->m.cell (a.add (i+j))=some v)->rval P m (loadCellsFrom a i l.length acc)=some (acc ++ l.toArray):=by
 intro l
 induction l with
 | nil=>intro i acc h; simp [loadCellsFrom,rval]; rfl
 | cons v l ih =>
  intro i acc h
  have h0:=h 0 v rfl
  rw [Nat.add_zero] at h0
  show rval P m (load (a.add i) >>= fun v=>loadCellsFrom a (i+1) l.length (acc.push v))=_
  rw [rval_bind']
  have:rval P m (load (a.add i))=some v:=by simp [load,rval,h0]
  rw [this]
  simp only [Option.bind_some]
  rw [ih (i+1) (acc.push v) fun j w hj=>by
   have:=h (j+1) w (by simpa using hj)
   rwa [show i+(j+1)=i+1+j by omega] at this]
  simp
theorem rval_push {P:Program} {m:AM}:∀ (l:List Int) (s:ByteArray) (f:Value->ByteArray->Sem (ForInStep ByteArray)),(∀ n r,rval P m (f (.int .u8 n) r)=some (.yield (r.push (UInt8.ofNat n.toNat)))) ->
  rval P m (forIn (l.map (Value.int .u8)) s f)=some (l.foldl (fun r n=>r.push (UInt8.ofNat n.toNat)) s):=by
 intro l
 induction l with
 | nil=>intro s f h; rfl
 | cons n l ih =>
  intro s f h
  rw [List.map_cons,List.forIn_cons,rval_bind',h]
  simp only [Option.bind_some]
  exact ih _ f h
def strOf (l:List Int):ByteArray:=l.foldl (fun r n=>r.push (UInt8.ofNat n.toNat)) ByteArray.empty
theorem awp_string {P:Program} {B:Nat} {src dst e:TypeId} (hs:P.underlying src=some (.slice e)) (hd:P.underlying dst=some .string) (he:P.underlying e=some (.int .u8)) {a:Addr} {n cp:Nat} (l:List Int) (hn:l.length=n) {m:AM} {K:Value->AM->Prop}
  (hc:∀ j v,(u8c l)[j]?=some v->m.cell (a.add j)=some v) (h:K (.string (strOf l)) m):awp P B (convert src dst (.slice (some a) n cp)) m K:=by
 subst hn
 refine awp_of_rval _ ?_ h
 unfold convert
 rw [rval_bind',rval_of_pval _ (pv_underlying hs)]
 simp only [Option.bind_some]
 rw [rval_bind',rval_of_pval _ (pv_underlying hd)]
 simp only [Option.bind_some]
 rw [rval_bind',rval_of_pval _ (pv_underlying he)]
 simp only [Option.bind_some]
 unfold Conv.bytesToString
 simp only []
 rw [rval_bind']
 have h1:=rval_cells (P:=P) (m:=m) (a:=a) (u8c l) 0 #[] (fun j v hj=>by rw [Nat.zero_add]; exact hc j v hj)
 rw [show (u8c l).length=l.length by simp [u8c]] at h1
 rw [show rval P m (loadCells a l.length)=_ from h1]
 simp only [Option.bind_some]
 rw [rval_bind']
 have h2:=rval_push (P:=P) (m:=m) l ByteArray.empty
 simp only [List.forIn_toArray,Array.empty_append]
 unfold u8c
 erw [h2 _ (fun n r=>by rfl)]
 rfl
end Go.Alog
namespace Go.Proofs.YtgjamnhjlaohaaaGreatDoor.V
open Go Go.Alog Go.Proofs.YtgjamnhjlaohaaaGreatDoor.T
variable (w0:World) (m:AM)
noncomputable abbrev cf89 (x0:Int) (R:RT):Vn (C_ w0 89 #[.int .u8 x0] m R):=mkF (F:=F89) Tryz.func89 (by dsimp only [push_cast,↓u1,↓u2,↓u3,Nat.reduceAdd,Nat.reduceBEq,Nat.reduceDiv,Nat.reduceMod]) (by kernel_rfl)
noncomputable abbrev cf92 (x0:Int) (R:RT):Vn (C_ w0 92 #[.int .u8 x0] m R):=mkF (F:=F92) Tryz.func92 (by dsimp only [push_cast,↓u1,↓u2,↓u3,Nat.reduceAdd,Nat.reduceBEq,Nat.reduceDiv,Nat.reduceMod]) (by kernel_rfl)
noncomputable abbrev cf91 (x0:Int) (R:RT):Vn (C_ w0 91 #[.int .u8 x0] m R):=mkF (F:=F91) Tryz.func91 (by dsimp only [push_cast,↓u1,↓u2,↓u3,Nat.reduceAdd,Nat.reduceBEq,Nat.reduceDiv,Nat.reduceMod]) (by kernel_rfl)
noncomputable abbrev cf90 (x0:ByteArray) (x1:Int) (R:RT):Vn (C_ w0 90 #[.string x0,I_ x1,.func (.func 92) #[] #[]] m R):=mkF (F:=F90) Tryz.func90 (by dsimp only [push_cast,↓u1,↓u2,↓u3,Nat.reduceAdd,Nat.reduceBEq,Nat.reduceDiv,Nat.reduceMod]) (by kernel_rfl)
noncomputable abbrev vl90_1100 (σ:Sg) (R:RT) (x0:ByteArray) (x1 x7:Int) (I0:Nat->Int->AM->Prop) (E0_0:Int->AM->Prop) (N:Nat) (h0:σ 0=.string x0) (h1:σ 1=I_ x1) (h2:σ 2=.func (.func 92) #[] #[]) (h7:σ 7=I_ x7) (h_0:I0 N x7 m):Vn (Vn (XV w0 F90 (Tz R) 28 σ m)):=mkL1 (lq90_1100 R x0 x1 I0 E0_0) (fun _=>rfl) N (cs h0 (cs h1 (cs h2 nl))) (cs h7 nl) h_0 (by dsimp only [push_cast,↓u1,↓u2,↓u3,Nat.reduceAdd,Nat.reduceBEq,Nat.reduceDiv,Nat.reduceMod]) (by dsimp only [push_cast,↓u1,↓u2,↓u3,Nat.reduceAdd,Nat.reduceBEq,Nat.reduceDiv,Nat.reduceMod]) (by kernel_rfl)
noncomputable abbrev tcf90 (x0:ByteArray) (x1:Int) (R:RT):Vn (C_ w0 90 #[.string x0,I_ x1,.func (.func 91) #[] #[]] m R):=mkF (F:=tF90) Tryz.func90 (by dsimp only [push_cast,↓u1,↓u2,↓u3,Nat.reduceAdd,Nat.reduceBEq,Nat.reduceDiv,Nat.reduceMod]) (by kernel_rfl)
noncomputable abbrev tvl90_1100 (σ:Sg) (R:RT) (x0:ByteArray) (x1 x7:Int) (I0:Nat->Int->AM->Prop) (E0_0:Int->AM->Prop) (N:Nat) (h0:σ 0=.string x0) (h1:σ 1=I_ x1) (h2:σ 2=.func (.func 91) #[] #[]) (h7:σ 7=I_ x7) (h_0:I0 N x7 m):Vn (Vn (XV w0 tF90 (Tz R) 28 σ m)):=mkL1 (tlq90_1100 R x0 x1 I0 E0_0) (fun _=>rfl) N (cs h0 (cs h1 (cs h2 nl))) (cs h7 nl) h_0 (by dsimp only [push_cast,↓u1,↓u2,↓u3,Nat.reduceAdd,Nat.reduceBEq,Nat.reduceDiv,Nat.reduceMod]) (by dsimp only [push_cast,↓u1,↓u2,↓u3,Nat.reduceAdd,Nat.reduceBEq,Nat.reduceDiv,Nat.reduceMod]) (by kernel_rfl)
noncomputable abbrev cf94 (x0:ByteArray) (R:RT):Vn (C_ w0 94 #[.string x0] m R):=mkF (F:=F94) Tryz.func94 (by dsimp only [push_cast,↓u1,↓u2,↓u3,Nat.reduceAdd,Nat.reduceBEq,Nat.reduceDiv,Nat.reduceMod]) (by kernel_rfl)
noncomputable abbrev vl94_11010 (σ:Sg) (R:RT) (x0:ByteArray) (x6 x3 x7:Int) (I0:Nat->Int->Int->AM->Prop) (E0_0:Int->AM->Prop) (N:Nat) (h0:σ 0=.string x0) (h3:σ 3=I_ x3) (h6:σ 6=I_ x6) (h7:σ 7=I_ x7) (h_0:I0 N x3 x7 m):Vn (Vn (XV w0 F94 (Tz R) 58 σ m)):=mkL1 (lq94_11010 R x0 x6 I0 E0_0) (fun _=>rfl) N (cs h0 (cs h6 nl)) (cs h3 (cs h7 nl)) h_0 (by dsimp only [push_cast,↓u1,↓u2,↓u3,Nat.reduceAdd,Nat.reduceBEq,Nat.reduceDiv,Nat.reduceMod]) (by dsimp only [push_cast,↓u1,↓u2,↓u3,Nat.reduceAdd,Nat.reduceBEq,Nat.reduceDiv,Nat.reduceMod]) (by kernel_rfl)
noncomputable abbrev cf95 (x0:ByteArray) (x1:Int) (R:RT):Vn (C_ w0 95 #[.string x0,I_ x1] m R):=mkF (F:=F95) Tryz.func95 (by dsimp only [push_cast,↓u1,↓u2,↓u3,Nat.reduceAdd,Nat.reduceBEq,Nat.reduceDiv,Nat.reduceMod]) (by kernel_rfl)
noncomputable abbrev vl95_1010 (σ:Sg) (R:RT) (x0:ByteArray) (x1:Int) (x7:Option Addr) (x7n x7c:Nat) (x8 x9:Int) (I0:Nat->Int->AM->Prop) (E0_0:AM->Prop) (N:Nat) (h0:σ 0=.string x0) (h1:σ 1=I_ x1) (h7:σ 7=.slice x7 x7n x7c) (h8:σ 8=I_ x8) (h9:σ 9=I_ x9) (h_0:I0 N x9 m):Vn (Vn (XV w0 F95 (Tz R) 26 σ m)):=mkL1 (lq95_1010 R x0 x1 x7 x7n x7c x8 I0 E0_0) (fun _=>rfl) N (cs h0 (cs h1 (cs h7 (cs h8 nl)))) (cs h9 nl) h_0 (by dsimp only [push_cast,↓u1,↓u2,↓u3,Nat.reduceAdd,Nat.reduceBEq,Nat.reduceDiv,Nat.reduceMod]) (by dsimp only [push_cast,↓u1,↓u2,↓u3,Nat.reduceAdd,Nat.reduceBEq,Nat.reduceDiv,Nat.reduceMod]) (by kernel_rfl)
noncomputable abbrev cf45 (x0:ByteArray) (x1:Int) (R:RT):Vn (C_ w0 45 #[.string x0,I_ x1] m R):=mkF (F:=F45) Tryz.func45 (by dsimp only [push_cast,↓u1,↓u2,↓u3,Nat.reduceAdd,Nat.reduceBEq,Nat.reduceDiv,Nat.reduceMod]) (by kernel_rfl)
noncomputable abbrev cf20 (x0:ByteArray) (R:RT):Vn (C_ w0 20 #[.string x0] m R):=mkF (F:=F20) Tryz.func20 (by dsimp only [push_cast,↓u1,↓u2,↓u3,Nat.reduceAdd,Nat.reduceBEq,Nat.reduceDiv,Nat.reduceMod]) (by kernel_rfl)
noncomputable abbrev vl20_11010 (σ:Sg) (R:RT) (x0:ByteArray) (x5:Option Addr) (x5n x5c:Nat) (x6:Int) (I0:Nat->Option Addr->Nat->Nat->Int->AM->Prop) (E0_0:Option Addr->Nat->Nat->AM->Prop) (N:Nat) (h0:σ 0=.string x0) (h5:σ 5=.slice x5 x5n x5c) (h6:σ 6=I_ x6) (h_0:I0 N x5 x5n x5c x6 m):Vn (Vn (XV w0 F20 (Tz R) 58 σ m)):=mkL1 (lq20_11010 R x0 I0 E0_0) (fun _=>rfl) N (cs h0 nl) (cs h5 (cs h6 nl)) h_0 (by dsimp only [push_cast,↓u1,↓u2,↓u3,Nat.reduceAdd,Nat.reduceBEq,Nat.reduceDiv,Nat.reduceMod]) (by dsimp only [push_cast,↓u1,↓u2,↓u3,Nat.reduceAdd,Nat.reduceBEq,Nat.reduceDiv,Nat.reduceMod]) (by kernel_rfl)
noncomputable abbrev cf93 (x0:ByteArray) (R:RT):Vn (C_ w0 93 #[.string x0] m R):=mkF (F:=F93) Tryz.func93 (by dsimp only [push_cast,↓u1,↓u2,↓u3,Nat.reduceAdd,Nat.reduceBEq,Nat.reduceDiv,Nat.reduceMod]) (by kernel_rfl)
noncomputable abbrev vl93_11010 (σ:Sg) (R:RT) (x3:Option Addr) (x3n x3c:Nat) (x8:Option Addr) (x8n x8c:Nat) (x9 x10:Int) (I0:Nat->Int->AM->Prop) (E0_0:AM->Prop) (N:Nat) (h3:σ 3=.slice x3 x3n x3c) (h8:σ 8=.slice x8 x8n x8c) (h9:σ 9=I_ x9) (h10:σ 10=I_ x10) (h_0:I0 N x10 m):Vn (Vn (XV w0 F93 (Tz R) 58 σ m)):=mkL1 (lq93_11010 R x3 x3n x3c x8 x8n x8c x9 I0 E0_0) (fun _=>rfl) N (cs h3 (cs h8 (cs h9 nl))) (cs h10 nl) h_0 (by dsimp only [push_cast,↓u1,↓u2,↓u3,Nat.reduceAdd,Nat.reduceBEq,Nat.reduceDiv,Nat.reduceMod]) (by dsimp only [push_cast,↓u1,↓u2,↓u3,Nat.reduceAdd,Nat.reduceBEq,Nat.reduceDiv,Nat.reduceMod]) (by kernel_rfl)
end Go.Proofs.YtgjamnhjlaohaaaGreatDoor.V
namespace Go.Proofs.YtgjamnhjlaohaaaGreatDoor.S
open Go Go.RowKit Go.Alog Go.Proofs.YtgjamnhjlaohaaaGreatDoor.T Go.Proofs.YtgjamnhjlaohaaaGreatDoor.V
theorem indexByteRen:Go.Proofs.Tryz.lIndexByte_ren.f 137=44:=by decide
theorem hasPrefixRen:Go.Proofs.Tryz.lHasPrefix_ren.f 99=137:=by decide
def ixB (s:ByteArray) (c:Int):Int:=Lib.indexByte s.data.toList c.toNat.toUInt8
theorem ixB_c (w0:World) (m:AM) (s:ByteArray) (c:Int):CallsA Tryz.prog w0 44 #[.string s,.int .u8 c] m (fun r m'=>r=.int .i64 (ixB s c)/\m'=m):=by
 intro W hW
 have:=Go.Proofs.Any.strings_IndexByte Go.Proofs.Tryz.lIndexByte s c W
 rw [indexByteRen] at this
 refine this.mono ?_
 rintro e W' ⟨rfl,rfl⟩
 exact ⟨_,m,rfl,hW,rfl,rfl⟩
def preB (s p:ByteArray):Bool:=Lib.hasPrefix s.data.toList p.data.toList
theorem preB_c (w0:World) (m:AM) (s p:ByteArray):CallsA Tryz.prog w0 137 #[.string s,.string p] m (fun r m'=>r=.bool (preB s p)/\m'=m):=by
 intro W hW
 have:=Go.Proofs.Any.strings_HasPrefix Go.Proofs.Tryz.lHasPrefix s p W
 rw [hasPrefixRen] at this
 refine this.mono ?_
 rintro e W' ⟨rfl,rfl⟩
 exact ⟨_,m,rfl,hW,rfl,rfl⟩
theorem ixB_in (s:ByteArray) (c:Int) : -1<=ixB s c/\ixB s c<s.size:=by
 unfold ixB
 have key:∀ (l:List UInt8) (c:UInt8),Lib.indexByte l c<l.length:=by
  intro l c
  induction l with
  | nil=>exact (by decide:(-1:Int)<0)
  | cons b l ih =>
   unfold Lib.indexByte
   rw [List.length_cons]
   split
   .omega
   .split <;> omega
 refine ⟨Lib.indexByte_ge _ _,?_⟩
 have:=key s.data.toList c.toNat.toUInt8
 rwa [Array.length_toList] at this
theorem pre_len {s p:ByteArray} (h:preB s p=true):p.size<=s.size:=by
 unfold preB Lib.hasPrefix at h
 have:=(List.isPrefixOf_iff_prefix.1 h).length_le
 rwa [Array.length_toList,Array.length_toList] at this
def letB (b:Int):Bool:=(decide (b>=97) && decide (b<=122)) || (decide (b>=65) && decide (b<=90))
def digB (b:Int):Bool:=decide (b>=48) && decide (b<=57)
theorem letter_c (w0:World) (m:AM) (b:Int):CallsA Tryz.prog w0 89 #[.int .u8 b] m (fun r m'=>r=.bool (letB b)/\m'=m):=by
 refine cf89 w0 m b _ ⟨rfl,?_⟩
 unfold letB
 cases decide (b>=97)
 .refine bcF ⟨rfl,rfl,?_⟩
  cases decide (b>=65)
  .exact bcF ⟨rfl,retP_of ⟨rfl,rfl⟩⟩
  .exact bcT ⟨rfl,retP_of ⟨rfl,rfl⟩⟩
 .refine bcT ⟨rfl,?_⟩
  cases decide (b<=122)
  .refine bcF ⟨rfl,?_⟩
   cases decide (b>=65)
   .exact bcF ⟨rfl,retP_of ⟨rfl,rfl⟩⟩
   .exact bcT ⟨rfl,retP_of ⟨rfl,rfl⟩⟩
  .exact bcT ⟨rfl,retP_of ⟨rfl,rfl⟩⟩
theorem digit_c (w0:World) (m:AM) (b:Int):CallsA Tryz.prog w0 92 #[.int .u8 b] m (fun r m'=>r=.bool (digB b)/\m'=m):=by
 refine cf92 w0 m b _ ⟨rfl,?_⟩
 unfold digB
 cases decide (b>=48)
 .exact bcF ⟨rfl,retP_of ⟨rfl,rfl⟩⟩
 .exact bcT ⟨rfl,retP_of ⟨rfl,rfl⟩⟩
def worB (b:Int):Bool:=letB b || digB b
theorem word_c (w0:World) (m:AM) (b:Int):CallsA Tryz.prog w0 91 #[.int .u8 b] m (fun r m'=>r=.bool (worB b)/\m'=m):=by
 refine cf91 w0 m b _ (callB (letter_c w0 m b) ?_)
 unfold worB
 cases letB b
 .exact bcF (callB (digit_c w0 m b) (retP_of ⟨rfl,rfl⟩))
 .exact bcT ⟨rfl,retP_of ⟨rfl,rfl⟩⟩
def runN (such:Int->Bool) (s:ByteArray) (k:Nat):Nat->Nat->Nat
 | 0,n=>n
 | f+1,n=>if such (byteAt s (k+n))=true then runN such s k f (n+1) else n
def runW (such:Int->Bool) (s:ByteArray) (k:Nat):Nat:=runN such s k (s.size-k) 0
theorem runN_in (such:Int->Bool) (s:ByteArray) (k:Nat):∀ f n,n<=runN such s k f n/\runN such s k f n<=n+f
 | 0,n=>⟨Nat.le_refl _,Nat.le_refl _⟩
 | f+1,n=>by
  unfold runN
  have:=runN_in such s k f (n+1)
  split <;> omega
theorem runP_le (such:Int->Bool) {s:ByteArray} {k:Nat} (hk:k<=s.size):k+runW such s k<=s.size:=by
 have:=runN_in such s k (s.size-k) 0
 unfold runW; omega
theorem runP_pos {such:Int->Bool} {s:ByteArray} {k:Nat} (hk:k<s.size) (h:such (byteAt s k)=true):1<=runW such s k:=by
 unfold runW
 obtain ⟨f,hf⟩:∃ f,s.size-k=f+1:=⟨s.size-k-1,by omega⟩
 rw [hf]
 unfold runN
 rw [Nat.add_zero,if_pos h]
 have:=(runN_in such s k f (0+1)).1
 omega
theorem runD_c (w0:World) (m:AM) (s:ByteArray) (k:Nat) (hs:s.size<=1000000) (hk:k<=s.size) :
  CallsA Tryz.prog w0 90 #[.string s,.int .i64 k,.func (.func 92) #[] #[]] m (fun r m'=>r=.int .i64 (runW digB s k)/\m'=m):=by
 refine cf90 w0 m s k _ ?_
 dsimp only [cf90,mkF]
 refine vl90_1100 w0 m _ _ s k 0 (fun n j m'=>∃ q:Nat,j=q/\k+q<=s.size/\n=s.size-k-q/\runN digB s k n q=runW digB s k/\m'=m) (fun j m'=>j=runW digB s k/\m'=m) (s.size-k) rfl rfl rfl rfl ⟨0,rfl,by omega,by omega,rfl,rfl⟩ ?_ ?_
 .rintro n σ j M ⟨q,rfl,hq,rfl,hr,rfl⟩
  have hw:IntKind.wrap .i64 ((k:Int)+q)=((k+q:Nat):Int):=by rw [IntKind.wrap_i64]; omega
  have hw1:IntKind.wrap .i64 ((q:Int)+1)=((q+1:Nat):Int):=by rw [IntKind.wrap_i64]; omega
  rw [hw,hw1]
  refine ⟨rfl,rfl,bcP (fun hlt=>?_) fun hge=>?_⟩
  .obtain ⟨f,hf⟩:∃ f,s.size-k-q=f+1:=⟨s.size-k-q-1,by omega⟩
   rw [hf] at hr ⊢
   unfold runN at hr
   refine ⟨rfl,⟨by omega,by omega⟩,callB (digit_c w0 M _) ?_⟩
   rw [decide_eq_true hlt]
   show bcase (digB (byteAt s (k+q))) _ _
   refine bcI (fun h=>?_) fun h=>?_
   .rw [if_pos h] at hr
    exact ⟨rfl,rfl,rfl,rfl,rfl,f,by omega,q+1,rfl,by omega,by omega,hr,rfl⟩
   .rw [if_neg (by rw [h]; simp)] at hr
    exact ⟨rfl,rfl,rfl,rfl,by rw [hr],rfl⟩
  .have:s.size-k-q=0:=by omega
   rw [this] at hr
   exact ⟨decide_eq_false hge,rfl,rfl,rfl,rfl,by rw [<- hr]; rfl,rfl⟩
 .rintro σ j M ⟨rfl,rfl⟩
  exact retP_of ⟨rfl,rfl⟩
theorem runW_c (w0:World) (m:AM) (s:ByteArray) (k:Nat) (hs:s.size<=1000000) (hk:k<=s.size) :
  CallsA Tryz.prog w0 90 #[.string s,.int .i64 k,.func (.func 91) #[] #[]] m (fun r m'=>r=.int .i64 (runW worB s k)/\m'=m):=by
 refine tcf90 w0 m s k _ ?_
 dsimp only [tcf90,mkF]
 refine tvl90_1100 w0 m _ _ s k 0 (fun n j m'=>∃ q:Nat,j=q/\k+q<=s.size/\n=s.size-k-q/\runN worB s k n q=runW worB s k/\m'=m) (fun j m'=>j=runW worB s k/\m'=m) (s.size-k) rfl rfl rfl rfl ⟨0,rfl,by omega,by omega,rfl,rfl⟩ ?_ ?_
 .rintro n σ j M ⟨q,rfl,hq,rfl,hr,rfl⟩
  have hw:IntKind.wrap .i64 ((k:Int)+q)=((k+q:Nat):Int):=by rw [IntKind.wrap_i64]; omega
  have hw1:IntKind.wrap .i64 ((q:Int)+1)=((q+1:Nat):Int):=by rw [IntKind.wrap_i64]; omega
  rw [hw,hw1]
  refine ⟨rfl,rfl,bcP (fun hlt=>?_) fun hge=>?_⟩
  .obtain ⟨f,hf⟩:∃ f,s.size-k-q=f+1:=⟨s.size-k-q-1,by omega⟩
   rw [hf] at hr ⊢
   unfold runN at hr
   refine ⟨rfl,⟨by omega,by omega⟩,callB (word_c w0 M _) ?_⟩
   rw [decide_eq_true hlt]
   show bcase (worB (byteAt s (k+q))) _ _
   refine bcI (fun h=>?_) fun h=>?_
   .rw [if_pos h] at hr
    exact ⟨rfl,rfl,rfl,rfl,rfl,f,by omega,q+1,rfl,by omega,by omega,hr,rfl⟩
   .rw [if_neg (by rw [h]; simp)] at hr
    exact ⟨rfl,rfl,rfl,rfl,by rw [hr],rfl⟩
  .have:s.size-k-q=0:=by omega
   rw [this] at hr
   exact ⟨decide_eq_false hge,rfl,rfl,rfl,rfl,by rw [<- hr]; rfl,rfl⟩
 .rintro σ j M ⟨rfl,rfl⟩
  exact retP_of ⟨rfl,rfl⟩
def numV (s:ByteArray) (v:Int) (k:Nat):Int:=IntKind.wrap .i64 (IntKind.wrap .i64 (10*v)+IntKind.wrap .i64 (IntKind.wrap .u8 (byteAt s k-48)))
def numN (s:ByteArray):Nat->Int->Nat->Int
 | 0,v,_=>v
 | f+1,v,k=>if numV s v k>32767 then -1 else numN s f (numV s v k) (k+1)
def numP (s:ByteArray):Int:=numN s s.size 0 0
theorem num_c (w0:World) (m:AM) (s:ByteArray) (hs:s.size<=1000000):CallsA Tryz.prog w0 94 #[.string s] m (fun r m'=>r=.int .i64 (numP s)/\m'=m):=by
 refine cf94 w0 m s _ ?_
 dsimp only [cf94,mkF]
 refine vl94_11010 w0 m _ _ s s.size 0 0 (fun n v j m'=>∃ q:Nat,j=q/\q<=s.size/\n=s.size-q/\numN s n v q=numP s/\m'=m) (fun v m'=>v=numP s/\m'=m) s.size rfl rfl rfl rfl ⟨0,rfl,by omega,by omega,rfl,rfl⟩ ?_ ?_
 .rintro n σ v j M ⟨q,rfl,hq,rfl,hr,rfl⟩
  have hw1:IntKind.wrap .i64 ((q:Int)+1)=((q+1:Nat):Int):=by rw [IntKind.wrap_i64]; omega
  rw [hw1]
  refine ⟨rfl,bcP (fun hlt=>?_) fun hge=>?_⟩
  .obtain ⟨f,hf⟩:∃ f,s.size-q=f+1:=⟨s.size-q-1,by omega⟩
   rw [hf] at hr ⊢
   unfold numN at hr
   refine ⟨rfl,⟨by omega,by omega⟩,rfl,rfl,rfl,?_⟩
   show bcase (decide (numV s v q>32767)) _ _
   refine bcP (fun h=>?_) fun h=>?_
   .rw [if_pos h] at hr
    exact retP_of ⟨by rw [<- hr],rfl⟩
   .rw [if_neg h] at hr
    exact ⟨rfl,rfl,rfl,rfl,rfl,f,by omega,q+1,rfl,by omega,by omega,hr,rfl⟩
  .have:s.size-q=0:=by omega
   rw [this] at hr
   exact ⟨rfl,rfl,rfl,hr,rfl⟩
 .rintro σ v M ⟨rfl,rfl⟩
  exact retP_of ⟨rfl,rfl⟩
theorem uStr:Tryz.prog.underlying 9=some .string:=by kernel_rfl
theorem uByt:Tryz.prog.underlying 188=some (.slice 5):=by kernel_rfl
theorem uU8:Tryz.prog.underlying 5=some (.int .u8):=by kernel_rfl
def lowI (x:Int):Int:=if (decide (x>=65) && decide (x<=90))=true then IntKind.wrap .u8 (IntKind.wrap .u8 (x-65)+97) else x
def lowN:Nat->List Int->Nat->List Int
 | 0,l,_=>l
 | f+1,l,k=>lowN f (l.set k (lowI (l.getD k 0))) (k+1)
def lowP (s:ByteArray):ByteArray:=strOf (lowN s.size (u8s s) 0)
theorem lower_c (w0:World) (m:AM) (s:ByteArray) (hs:s.size<=1000000):CallsA Tryz.prog w0 93 #[.string s] m (fun r m'=>r=.string (lowP s)/\m.le m'):=by
 refine cf93 w0 m s _ ?_
 dsimp only [cf93,mkF]
 refine awp_bytes uStr uByt uU8 s fun b cp cs f hB hN ht hl hf=>?_
 have hnp:m b=none:=hN
 refine ⟨_,_,_,rfl,?_⟩
 refine vl93_11010 w0 _ _ _ (some ⟨b,0,none⟩) s.size cp (some ⟨b,0,none⟩) s.size cp s.size 0 (fun n j m'=>∃ (q:Nat) (l:List Int) (cs:List Value),j=q/\q<=s.size/\n=s.size-q/\l.length=s.size/\lowN n l q=lowN s.size (u8s s) 0/\m' b=some (.cells cs.toArray 5 f)/\cs.take s.size=u8c l/\s.size<=cs.length/\m.le m')
  (fun m'=>∃ (l:List Int) (cs:List Value),l.length=s.size/\l=lowN s.size (u8s s) 0/\m' b=some (.cells cs.toArray 5 f)/\cs.take s.size=u8c l/\s.size<=cs.length/\m.le m') s.size rfl rfl rfl rfl ⟨0,u8s s,cs,rfl,by omega,by omega,by simp only [u8s,List.length_map,Array.length_toList]; rfl,rfl,upd_get_same,ht,hl,le_new hnp _⟩ ?_ ?_
 .rintro n σ j M ⟨q,l,cs,rfl,hq,rfl,hll,hlow,p,ht,hl,hle⟩
  have hw1:IntKind.wrap .i64 ((q:Int)+1)=((q+1:Nat):Int):=by rw [IntKind.wrap_i64]; omega
  rw [hw1]
  refine ⟨rfl,bcP (fun hlt=>?_) fun hge=>?_⟩
  .have hq':q<s.size:=by omega
   have hc:cs[q]?=some (.int .u8 (l.getD q 0)):=by
    have:=congrArg (fun x=>x[q]?) ht
    simp only [List.getElem?_take,if_pos hq'] at this
    rw [this]
    simp [u8c,List.getD,show q<l.length by omega]
   have hcell:M.cell (((⟨b,0,none⟩:Addr)).add ((q:Int).toNat*1))=some (.int .u8 (l.getD q 0)):=by
    rw [show (q:Int).toNat*1=q by omega,addn,Nat.zero_add]
    unfold AM.cell
    rw [p]
    simpa using hc
   have ea:(⟨b,0,none⟩:Addr).add ((q:Int).toNat*1)=⟨b,q,none⟩:=by rw [show (q:Int).toNat*1=q by omega,addn,Nat.zero_add]
   obtain ⟨g,hg⟩:∃ g,s.size-q=g+1:=⟨s.size-q-1,by omega⟩
   rw [hg] at hlow ⊢
   replace hlow:lowN g (l.set q (lowI (l.getD q 0))) (q+1)=lowN s.size (u8s s) 0:=hlow
   have same:(decide (l.getD q 0>=65) && decide (l.getD q 0<=90))=false->lowN g l (q+1)=lowN s.size (u8s s) 0:=fun h=>by
    rw [<- hlow]
    congr 1
    unfold lowI
    rw [h,if_neg (by simp)]
    apply List.ext_getElem?
    intro i
    by_cases e:i=q
    .subst e; rw [List.getElem?_set_self (by omega)]; simp [List.getD,show i<l.length by omega]
    .rw [List.getElem?_set_ne (Ne.symm e)]
   refine ⟨⟨by omega,by omega⟩,?_⟩
   rw [nilO_some]
   refine ⟨_,hcell,rfl,?_⟩
   cases h1:decide (l.getD q 0>=65)
   .exact bcF ⟨rfl,rfl,rfl,rfl,rfl,rfl,g,by omega,q+1,l,cs,rfl,by omega,by omega,hll,same (by rw [h1]; rfl),p,ht,hl,hle⟩
   .refine bcT ⟨rfl,?_⟩
    cases h2:decide (l.getD q 0<=90)
    .exact bcF ⟨rfl,rfl,rfl,rfl,rfl,g,by omega,q+1,l,cs,rfl,by omega,by omega,hll,same (by rw [h1,h2]; rfl),p,ht,hl,hle⟩
    .refine bcT ⟨rfl,rfl,⟨by omega,by omega⟩,?_⟩
     rw [nilO_some,ea]
     rw [ea] at hcell
     refine ⟨hB,⟨_,hcell⟩,?_,?_⟩
     .unfold AM.frozen
      simp only [p]
      simp; omega
     .have e:M.set ⟨b,q,none⟩ (.int .u8 (IntKind.wrap .u8 (IntKind.wrap .u8 (l.getD q 0-65)+97)))=M.upd b (.cells (cs.set q (.int .u8 (lowI (l.getD q 0)))).toArray 5 f):=by
       unfold AM.set
       simp only [p,Option.isSome_none,if_false]
       unfold lowI
       rw [h1,h2]
       simp
      rw [e]
      refine ⟨rfl,rfl,rfl,rfl,rfl,g,by omega,q+1,l.set q (lowI (l.getD q 0)),cs.set q (.int .u8 (lowI (l.getD q 0))),rfl,by omega,by omega,by rw [List.length_set]; exact hll,hlow,upd_get_same,?_,by rw [List.length_set]; exact hl,?_⟩
      .rw [List.take_set,ht]
       simp [u8c,List.map_set]
      .intro k o hk
       have:k≠b:=fun e=>by rw [e,hnp] at hk; cases hk
       rw [upd_get_ne this]; exact hle _ _ hk
  .have:s.size-q=0:=by omega
   rw [this] at hlow
   exact ⟨rfl,rfl,rfl,l,cs,hll,hlow,p,ht,hl,hle⟩
 .rintro σ M ⟨l,cs,hll,hlow,p,ht,hl,hle⟩
  refine awp_string uByt uStr uU8 l hll (fun j v hj=>?_) ⟨_,rfl,retP_of ⟨by rw [hlow]; rfl,hle⟩⟩
  rw [addn,Nat.zero_add]
  unfold AM.cell
  rw [p]
  have hjl:j<s.size:=by
   have:=(List.getElem?_eq_some_iff.1 hj).1
   simp [u8c] at this; omega
  have:=congrArg (fun x=>x[j]?) ht
  simp only [List.getElem?_take,if_pos hjl] at this
  simp only [List.getElem?_toArray]
  rw [if_neg (by simp),this]; exact hj
def sgn2:List ByteArray:=[ByteArray.mk #[58,61],ByteArray.mk #[60,62],ByteArray.mk #[60,61],ByteArray.mk #[62,61]]
def sgn1:ByteArray:=ByteArray.mk #[43,45,42,61,60,62,40,41,91,93,59,44,46,58]
def signN (s:ByteArray) (k:Nat):List ByteArray->Int
 | []=>if ixB sgn1 (byteAt s k)>=0 then 1 else 0
 | p :: l=>if preB (s.extract k s.size) p=true then 2 else signN s k l
def signP (s:ByteArray) (k:Nat):Int:=signN s k sgn2
theorem signP_in {s:ByteArray} {k:Nat} (hk:k<s.size):0<=signP s k/\k+signP s k<=s.size:=by
 have key:∀ l:List ByteArray,(∀ p∈l,p.size=2)->0<=signN s k l/\k+signN s k l<=s.size:=by
  intro l
  induction l with
  | nil=>intro _; unfold signN; split <;> omega
  | cons p l ih =>
   intro h
   unfold signN
   split
   .rename_i hp
    have h1:=pre_len hp
    rw [h p (by simp)] at h1
    have h2:(s.extract k s.size).size=s.size-k:=by simp
    omega
   .exact ih fun q hq=>h q (by simp [hq])
 exact key sgn2 (by decide)
theorem sign_c (w0:World) (m:AM) (s:ByteArray) (k:Nat) (hs:s.size<=1000000) (hk:k<s.size):CallsA Tryz.prog w0 95 #[.string s,.int .i64 k] m (fun r m'=>r=.int .i64 (signP s k)/\m.le m'):=by
 refine cf95 w0 m s k _ ⟨rfl,?_⟩
 intro b hB hN M
 have l0:m.le M:=le_new hN _
 have p:M b=some (.cells (sgn2.map Value.string).toArray 9):=upd_get_same
 clear_value M
 refine vl95_1010 w0 M _ _ s k (some ⟨b,0,none⟩) 4 4 4 0 (fun n j m'=>∃ q:Nat,j=q/\q<=4/\n=4-q/\signN s k (sgn2.drop q)=signP s k/\m'=M) (fun m'=>signN s k []=signP s k/\m'=M) 4 rfl rfl rfl rfl rfl ⟨0,rfl,by omega,by omega,rfl,rfl⟩ ?_ ?_
 .rintro n σ j m' ⟨q,rfl,hq,rfl,hr,rfl⟩
  have hw1:IntKind.wrap .i64 ((q:Int)+1)=((q+1:Nat):Int):=by rw [IntKind.wrap_i64]; omega
  rw [hw1]
  refine ⟨rfl,bcP (fun hlt=>?_) fun hge=>?_⟩
  .obtain ⟨sg,hsg⟩:∃ sg,sgn2[q]?=some sg:=⟨_,List.getElem?_eq_getElem (by simp [sgn2]; omega)⟩
   have hd:sgn2.drop q=sg :: sgn2.drop (q+1):=by
    rw [List.drop_eq_getElem_cons (by simp [sgn2]; omega)]
    congr 1
    have:=List.getElem?_eq_getElem (l:=sgn2) (i:=q) (by simp [sgn2]; omega)
    rw [hsg] at this; injection this with this; exact this.symm
   rw [hd] at hr
   unfold signN at hr
   refine ⟨⟨by omega,by omega⟩,?_⟩
   rw [nilO_some]
   refine ⟨sg,?_,by omega,by omega,by show k<=s.size; omega,callB (preB_c w0 m' _ _) ?_⟩
   .rw [addn,cell_of p]
    simp [hsg]
   .show bcase (preB (s.extract k s.size) sg) _ _
    refine bcI (fun h=>?_) fun h=>?_
    .rw [if_pos h] at hr
     exact retP_of ⟨by rw [<- hr],l0⟩
    .rw [if_neg (by rw [h]; simp)] at hr
     exact ⟨rfl,rfl,rfl,rfl,rfl,rfl,4-(q+1),by omega,q+1,rfl,by omega,by omega,hr,rfl⟩
  .have:q=4:=by omega
   subst this
   exact ⟨rfl,rfl,rfl,rfl,hr,rfl⟩
 .rintro σ m' ⟨hr,rfl⟩
  refine ⟨⟨by omega,by omega⟩,callI (ixB_c w0 m' _ _) ⟨rfl,?_⟩⟩
  show bcase (decide (ixB sgn1 (byteAt s k)>=0)) _ _
  unfold signN at hr
  refine bcP (fun h=>?_) fun h=>?_
  .rw [if_pos h] at hr; exact retP_of ⟨by rw [<- hr],l0⟩
  .rw [if_neg h] at hr; exact retP_of ⟨by rw [<- hr],l0⟩
def tokE (e:Int):Tok × Int × Int:=(⟨0,ByteArray.empty,0,0⟩,0,e)
def tokenP (s:ByteArray) (k:Nat):Tok × Int × Int :=
 if letB (byteAt s k)=true then (if (runW worB s k:Int)>16 then tokE 4 else (⟨1,lowP (s.extract k (k+runW worB s k)),0,k⟩,runW worB s k,0))
 else if digB (byteAt s k)=true then (if numP (s.extract k (k+runW digB s k))<0 then tokE 3 else (⟨2,ByteArray.empty,numP (s.extract k (k+runW digB s k)),k⟩,runW digB s k,0))
 else if signP s k=0 then tokE 2 else (⟨3,s.extract k (k+(signP s k).toNat),0,k⟩,signP s k,0)
theorem tokenP_in {s:ByteArray} {k:Nat} (hk:k<s.size) (h:(tokenP s k).2.2=0):1<=(tokenP s k).2.1/\k+(tokenP s k).2.1<=s.size:=by
 unfold tokenP at h ⊢
 have hw:=runP_le worB (s:=s) (k:=k) (by omega)
 have hd:=runP_le digB (s:=s) (k:=k) (by omega)
 have hs:=signP_in hk
 split at h
 .rename_i h1
  split at h
  .cases h
  .rename_i h2
   rw [if_pos h1,if_neg h2]
   have:=runP_pos (such:=worB) hk (by unfold worB; rw [h1]; rfl)
   show (1:Int)<=(runW worB s k:Int)/\(k:Int)+(runW worB s k:Int)<=s.size
   omega
 .rename_i h1
  rw [if_neg h1]
  split at h
  .rename_i h2
   split at h
   .cases h
   .rename_i h3
    rw [if_pos h2,if_neg h3]
    have:=runP_pos (such:=digB) hk h2
    show (1:Int)<=(runW digB s k:Int)/\(k:Int)+(runW digB s k:Int)<=s.size
    omega
  .rename_i h2
   rw [if_neg h2]
   split at h
   .cases h
   .rename_i h3
    rw [if_neg h3]
    show (1:Int)<=signP s k/\(k:Int)+signP s k<=s.size
    omega
theorem tok4 {w0:World} {m0 m:AM} {b:Nat} (hB:w0.heap.size<=b) {z:Tok} (p:m b=some (.cells z.cells.toArray 120)) (l:m0.le m) (hb:m0 b=none) (t:Tok) {R:Value->AM->Prop} {n e:Int} (hR:∀ m',m0.le m'->R (.tuple #[.agg #[.int .i64 t.kind,.string t.text,.int .i64 t.n,.int .i64 t.pos],.int .i64 n,.int .i64 e]) m') :
  StC w0.heap.size m ⟨b,0,none⟩ (.int .i64 t.kind) fun m1=>StC w0.heap.size m1 ⟨b,1,none⟩ (.string t.text) fun m2=>StC w0.heap.size m2 ⟨b,2,none⟩ (.int .i64 t.n) fun m3=>StC w0.heap.size m3 ⟨b,3,none⟩ (.int .i64 t.pos) fun m4 =>
  ∃ i1:Int,m4.cell ⟨b,0,none⟩=some (.int .i64 i1)/\∃ s2:ByteArray,m4.cell ⟨b,1,none⟩=some (.string s2)/\∃ i3:Int,m4.cell ⟨b,2,none⟩=some (.int .i64 i3)/\∃ i4:Int,m4.cell ⟨b,3,none⟩=some (.int .i64 i4)/\RetP R (.tuple #[.agg #[.int .i64 i1,.string s2,.int .i64 i3,.int .i64 i4],.int .i64 n,.int .i64 e]) m4:=by
 refine StC_own p hB (by simp [Tok.cells]) (StC_own upd_get_same hB (by simp [Tok.cells]) (StC_own upd_get_same hB (by simp [Tok.cells]) (StC_own upd_get_same hB (by simp [Tok.cells]) ?_)))
 simp only [upd_upd]
 have q:(m.upd b (.cells t.cells.toArray 120)) b=some (.cells t.cells.toArray 120 (0,0)):=upd_get_same
 refine ⟨t.kind,cel q rfl,t.text,cel q rfl,t.n,cel q rfl,t.pos,cel q rfl,retP_of (hR _ fun k o hk=>?_)⟩
 have:k≠b:=fun e=>by rw [e,hb] at hk; cases hk
 rw [upd_get_ne this]; exact l _ _ hk
theorem fill4 {B:Nat} {m:AM} {b:Nat} (hB:B<=b) (t:Tok) {K:AM->Prop} (hK:K (m.upd b (.cells t.cells.toArray 120))) :
  StC B (m.upd b (.cells #[.int .i64 0,.string ByteArray.empty,.int .i64 0,.int .i64 0] 120)) ⟨b,0,none⟩ (.int .i64 t.kind) fun m1=>StC B m1 ⟨b,1,none⟩ (.string t.text) fun m2=>StC B m2 ⟨b,2,none⟩ (.int .i64 t.n) fun m3=>StC B m3 ⟨b,3,none⟩ (.int .i64 t.pos) K:=by
 refine StC_own upd_get_same hB (by simp) (StC_own upd_get_same hB (by simp) (StC_own upd_get_same hB (by simp) (StC_own upd_get_same hB (by simp) ?_)))
 rw [upd_upd,upd_upd,upd_upd,upd_upd]
 exact hK
theorem token_c (w0:World) (m:AM) (s:ByteArray) (k:Nat) (hs:s.size<=1000000) (hk:k<s.size) :
  CallsA Tryz.prog w0 45 #[.string s,.int .i64 k] m (fun r m'=>r=.tuple #[.agg #[.int .i64 (tokenP s k).1.kind,.string (tokenP s k).1.text,.int .i64 (tokenP s k).1.n,.int .i64 (tokenP s k).1.pos],.int .i64 (tokenP s k).2.1,.int .i64 (tokenP s k).2.2]/\m.le m'):=by
 generalize hR:(fun (r:Value) (m':AM)=>r=.tuple #[.agg #[.int .i64 (tokenP s k).1.kind,.string (tokenP s k).1.text,.int .i64 (tokenP s k).1.n,.int .i64 (tokenP s k).1.pos],.int .i64 (tokenP s k).2.1,.int .i64 (tokenP s k).2.2]/\m.le m')=R
 have ret:∀ (t:Tok) (n e:Int),tokenP s k=(t,n,e)->∀ m',m.le m'->R (.tuple #[.agg #[.int .i64 t.kind,.string t.text,.int .i64 t.n,.int .i64 t.pos],.int .i64 n,.int .i64 e]) m':=fun t n e h m' l=>by
  rw [<- hR,h]; exact ⟨rfl,l⟩
 have hw:=runP_le worB (s:=s) (k:=k) (by omega)
 have hd:=runP_le digB (s:=s) (k:=k) (by omega)
 have hg:=signP_in hk
 unfold tokenP at ret
 refine cf45 w0 m s k R ?_
 intro b hB hN M
 have l0:m.le M:=le_new hN _
 have p:M b=some (.cells (Tok.cells ⟨0,ByteArray.empty,0,0⟩).toArray 120):=upd_get_same
 clear_value M
 refine ⟨⟨by omega,by omega⟩,callB (letter_c w0 M _) ?_⟩
 show bcase (letB (byteAt s k)) _ _
 refine bcI (fun h1=>?_) fun h1=>?_
 .rw [if_pos h1] at ret
  refine callI (runW_c w0 M s k hs (by omega)) ⟨rfl,bcP (fun h2=>?_) fun h2=>?_⟩
  .rw [if_pos h2] at ret
   exact ⟨rfl,tok4 hB p l0 hN ⟨0,ByteArray.empty,0,0⟩ fun m' l'=>ret _ _ _ rfl m' l'⟩
  .rw [if_neg h2] at ret
   have e:IntKind.wrap .i64 ((k:Int)+(runW worB s k:Int))=((k+runW worB s k:Nat):Int):=by rw [IntKind.wrap_i64]; omega
   rw [e]
   refine ⟨rfl,by omega,by omega,by show k+runW worB s k<=_; omega,by show k<=k+runW worB s k; omega,?_⟩
   refine CallsA.mono (lower_c w0 M (s.extract k (k+runW worB s k)) (by simp; omega)) ?_
   rintro r m2 ⟨rfl,l2⟩
   exact ⟨_,rfl,rfl,tok4 hB (l2 _ _ p) (AM.le_trans l0 l2) hN ⟨1,lowP (s.extract k (k+runW worB s k)),0,k⟩ fun m' l'=>ret _ _ _ rfl m' l'⟩
 .rw [if_neg (by rw [h1]; simp)] at ret
  refine ⟨⟨by omega,by omega⟩,callB (digit_c w0 M _) ?_⟩
  show bcase (digB (byteAt s k)) _ _
  refine bcI (fun h2=>?_) fun h2=>?_
  .rw [if_pos h2] at ret
   have e:IntKind.wrap .i64 ((k:Int)+(runW digB s k:Int))=((k+runW digB s k:Nat):Int):=by rw [IntKind.wrap_i64]; omega
   refine callI (runD_c w0 M s k hs (by omega)) ?_
   rw [e]
   refine ⟨rfl,by omega,by omega,by show k+runW digB s k<=_; omega,by show k<=k+runW digB s k; omega,?_⟩
   refine callI (num_c w0 M (s.extract k (k+runW digB s k)) (by simp; omega)) ⟨rfl,bcP (fun h3=>?_) fun h3=>?_⟩
   .rw [if_pos h3] at ret
    exact ⟨rfl,tok4 hB p l0 hN ⟨0,ByteArray.empty,0,0⟩ fun m' l'=>ret _ _ _ rfl m' l'⟩
   .rw [if_neg h3] at ret
    exact ⟨rfl,tok4 hB p l0 hN ⟨2,ByteArray.empty,numP (s.extract k (k+runW digB s k)),k⟩ fun m' l'=>ret _ _ _ rfl m' l'⟩
  .rw [if_neg (by rw [h2]; simp)] at ret
   refine CallsA.mono (sign_c w0 M s k hs hk) ?_
   rintro r m2 ⟨rfl,l2⟩
   refine ⟨_,rfl,rfl,?_⟩
   refine bcI (fun h3=>?_) fun h3=>?_
   .rw [if_pos (by simpa using h3)] at ret
    exact ⟨rfl,tok4 hB (l2 _ _ p) (AM.le_trans l0 l2) hN ⟨0,ByteArray.empty,0,0⟩ fun m' l'=>ret _ _ _ rfl m' l'⟩
   .rw [if_neg (by simpa using h3)] at ret
    have e:IntKind.wrap .i64 ((k:Int)+signP s k)=((k+(signP s k).toNat:Nat):Int):=by rw [IntKind.wrap_i64]; omega
    rw [e]
    exact ⟨rfl,by omega,by omega,by show k+(signP s k).toNat<=_; omega,by show k<=k+(signP s k).toNat; omega,rfl,tok4 hB (l2 _ _ p) (AM.le_trans l0 l2) hN ⟨3,s.extract k (k+(signP s k).toNat),0,k⟩ fun m' l'=>ret _ _ _ rfl m' l'⟩
def blnk:ByteArray:=ByteArray.mk #[32,9,10,13]
def scanF (s:ByteArray):Nat->Nat->List Tok->List Tok × Int × Int
 | 0,_,acc=>(acc,0,0)
 | f+1,k,acc=>if k<s.size then
   (if ixB blnk (byteAt s k)>=0 then scanF s f (k+1) acc
   else if byteAt s k=123 then (if ixB (s.extract k s.size) 125<0 then ([],k,2) else scanF s f (k+((ixB (s.extract k s.size) 125).toNat+1)) acc)
   else if (tokenP s k).2.2≠0 then ([],k,(tokenP s k).2.2) else scanF s f (k+(tokenP s k).2.1.toNat) (acc ++ [(tokenP s k).1]))
  else (acc,0,0)
def scanP (s:ByteArray):List Tok × Int × Int:=scanF s s.size 0 []
def oScan (m0:AM) (B:Nat) (p:List Tok × Int × Int) (N:Nat) (r:Value) (m':AM):Prop:=m0.le m'/\∃ A c,r=.tuple #[.slice A p.1.length c,.int .i64 p.2.1,.int .i64 p.2.2]/\Reads m' 4 A p.1.length (p.1.flatMap Tok.cells)/\p.1.length<=c/\p.1.length<=N
theorem elTk:elOf Tryz.prog 62=some (120,4,40,Tok.cells ⟨0,ByteArray.empty,0,0⟩):=by kernel_rfl
theorem scan_c (w0:World) (m:AM) (s:ByteArray) (hs:s.size<=1000000):CallsA Tryz.prog w0 20 #[.string s] m (oScan m w0.heap.size (scanP s) s.size):=by
 generalize hR:oScan m w0.heap.size (scanP s) s.size=R
 refine cf20 w0 m s R ?_
 dsimp only [cf20,mkF]
 refine vl20_11010 w0 m _ R s none 0 0 0
  (fun n A An Ac j m'=>∃ (k:Nat) (acc:List Tok),j=k/\k<=s.size/\n=s.size-k/\acc.length<=k/\An=acc.length/\m.le m'/\Alog.Own m' w0.heap.size 120 4 A acc.length Ac (acc.flatMap Tok.cells)/\(∀ x∈obl A,m x=none)/\∃ f,s.size-k<=f/\scanF s f k acc=scanP s)
  (fun A An Ac m'=>∃ acc:List Tok,acc.length<=s.size/\An=acc.length/\m.le m'/\Alog.Own m' w0.heap.size 120 4 A acc.length Ac (acc.flatMap Tok.cells)/\scanP s=(acc,0,0)) s.size rfl rfl rfl ⟨0,[],rfl,by omega,by omega,by simp,rfl,AM.le_refl _,Alog.Own.nil _ _ _ _,by simp [obl],s.size,by omega,rfl⟩ ?_ ?_
 .rintro n σ A An Ac j M ⟨k,acc,rfl,hk,rfl,hacc,rfl,hle,hown,hnew,f,hf,hsc⟩
  have err:∀ (e:Int) M',m.le M'->scanP s=([],(k:Int),e)->RetP R (.tuple #[.slice none 0 0,.int .i64 k,.int .i64 e]) M':=fun e M' l he=>by
   rw [<- hR,he]
   exact retP_of ⟨l,none,0,rfl,Reads.nil _ _,Nat.le_refl _,Nat.zero_le _⟩
  refine ⟨rfl,bcP (fun hlt=>?_) fun hge=>?_⟩
  .have hlt':k<s.size:=by omega
   obtain ⟨g,rfl⟩:∃ g,f=g+1:=⟨f-1,by omega⟩
   unfold scanF at hsc
   rw [if_pos hlt'] at hsc
   refine ⟨⟨by omega,by omega⟩,callI (ixB_c w0 M _ _) ⟨rfl,?_⟩⟩
   show bcase (decide (ixB blnk (byteAt s k)>=0)) _ _
   have hw1:IntKind.wrap .i64 ((k:Int)+1)=((k+1:Nat):Int):=by rw [IntKind.wrap_i64]; omega
   refine bcP (fun h1=>?_) fun h1=>?_
   .rw [if_pos h1] at hsc
    rw [hw1]
    exact ⟨rfl,rfl,rfl,rfl,s.size-(k+1),by omega,k+1,acc,rfl,by omega,rfl,by omega,rfl,hle,hown,hnew,g,by omega,hsc⟩
   rw [if_neg h1] at hsc
   refine ⟨⟨by omega,by omega⟩,rfl,?_⟩
   show bcase (byteAt s k == 123) _ _
   refine bcI (fun h2=>?_) fun h2=>?_
   .rw [if_pos (by simpa using h2)] at hsc
    have hin:=ixB_in (s.extract k s.size) 125
    rw [show (s.extract k s.size).size=s.size-k by simp] at hin
    refine ⟨by omega,by omega,by show k<=s.size; omega,callI (ixB_c w0 M _ _) ⟨rfl,?_⟩⟩
    show bcase (decide (ixB (s.extract k s.size) 125<0)) _ _
    refine bcP (fun h3=>?_) fun h3=>?_
    .rw [if_pos h3] at hsc
     exact err 2 M hle hsc.symm
    .rw [if_neg h3] at hsc
     have hw2:IntKind.wrap .i64 ((k:Int)+IntKind.wrap .i64 (ixB (s.extract k s.size) 125+1))=((k+((ixB (s.extract k s.size) 125).toNat+1):Nat):Int):=by rw [IntKind.wrap_i64,IntKind.wrap_i64]; omega
     refine ⟨rfl,rfl,rfl,rfl,rfl,?_⟩
     show ∃ n',n'<_/\∃ k' acc',IntKind.wrap .i64 ((k:Int)+IntKind.wrap .i64 (ixB (s.extract k s.size) 125+1))=_/\_
     rw [hw2]
     exact ⟨s.size-(k+((ixB (s.extract k s.size) 125).toNat+1)),by omega,k+((ixB (s.extract k s.size) 125).toNat+1),acc,rfl,by omega,rfl,by omega,rfl,hle,hown,hnew,g,by omega,hsc⟩
   .rw [if_neg (by simpa using h2)] at hsc
    refine CallsA.mono (token_c w0 M s k hs hlt') ?_
    rintro r m1 ⟨rfl,l1⟩
    have ht:=tokenP_in hlt'
    generalize tokenP s k=q at *
    obtain ⟨t,n,e⟩:=q
    refine ⟨_,_,_,_,_,_,rfl,?_⟩
    intro b hB hN
    have l2:m1.le (m1.upd b (.cells #[.int .i64 0,.string ByteArray.empty,.int .i64 0,.int .i64 0] 120)):=le_new hN _
    have hMb:M b=none:=AM.le_none l1 hN
    refine fill4 hB t ?_
    have q1:(m1.upd b (.cells t.cells.toArray 120)) b=some (.cells t.cells.toArray 120 (0,0)):=upd_get_same
    have l3:m1.le (m1.upd b (.cells t.cells.toArray 120)):=le_new hN _
    show IntKind.i64=IntKind.i64/\bcase (e != 0) _ _
    refine ⟨rfl,bcI (fun h3=>?_) fun h3=>?_⟩
    .have h3:e≠0:=by simpa using h3
     rw [if_pos h3] at hsc
     exact err e _ (AM.le_trans hle (AM.le_trans l1 l3)) hsc.symm
    .have h3:e=0:=by simpa using h3
     rw [if_neg (by simp [h3])] at hsc
     obtain ⟨t1,t2⟩:=ht h3
     replace t1:1<=n:=t1
     replace t2:k+n<=s.size:=t2
     refine ⟨t.kind,cel q1 rfl,t.text,cel q1 rfl,t.n,cel q1 rfl,t.pos,cel q1 rfl,rfl,?_⟩
     intro b2 hB2 hN2 M2
     have l4:AM.le _ M2:=le_new hN2 _
     have q2:M2 b2=some (.cells t.cells.toArray 120):=upd_get_same
     clear_value M2
     have lM:=AM.le_trans l1 (AM.le_trans l3 l4)
     refine awp_append_loc (m0:=m) elTk (AM.le_trans hle lM) (hown.le lM) hnew (rd_of q2 rfl) (by simp [Tok.cells,Value.oneCell']) (by omega) (by omega) fun A' c' m' hle' _ ho' hn' _=>?_
     have hw2:IntKind.wrap .i64 ((k:Int)+n)=((k+n.toNat:Nat):Int):=by rw [IntKind.wrap_i64]; omega
     refine ⟨A',_,c',rfl,rfl,rfl,rfl,rfl,?_⟩
     show ∃ n',n'<_/\∃ k' acc',IntKind.wrap .i64 ((k:Int)+n)=_/\_
     rw [hw2]
     exact ⟨s.size-(k+n.toNat),by omega,k+n.toNat,acc ++ [t],rfl,by omega,rfl,by simp; omega,by simp,hle',by simpa using ho',hn',g,by omega,hsc⟩
  .refine ⟨rfl,rfl,acc,by omega,rfl,hle,hown,?_⟩
   rw [<- hsc]
   cases f with
   | zero=>rfl
   | succ f=>unfold scanF; rw [if_neg (by omega)]
 .rintro σ A An Ac M ⟨acc,hacc,rfl,hle,hown,he⟩
  rw [<- hR,he]
  exact retP_of ⟨hle,A,Ac,rfl,hown.reads,hown.2.1,hacc⟩
structure Ob where
 name:ByteArray
 code:List Ins
 data:Int
 exps:List Sbl
 imps:List ByteArray
 pats:List Pch
def noOb:Ob:=⟨ByteArray.empty,[],0,[],[],[]⟩
def ObA (m:AM) (o:Ob) (v:List Value):Prop:=∃ (A1:Option Addr) (c1:Nat) (A2:Option Addr) (c2:Nat) (A3:Option Addr) (c3:Nat) (A4:Option Addr) (c4:Nat),
 v = [.string o.name,.slice A1 o.code.length c1,.int .i64 o.data,.slice A2 o.exps.length c2,.slice A3 o.imps.length c3,.slice A4 o.pats.length c4] /\
 Reads m 5 A1 o.code.length (insCells o.code)/\o.code.length<=c1/\Reads m 2 A2 o.exps.length (o.exps.flatMap Sbl.cells)/\o.exps.length<=c2/\Reads m 1 A3 o.imps.length (o.imps.map Value.string)/\o.imps.length<=c3/\Reads m 3 A4 o.pats.length (o.pats.flatMap Pch.cells)/\o.pats.length<=c4
theorem ObA.le {m m':AM} {o:Ob} {v:List Value} (h:ObA m o v) (l:m.le m'):ObA m' o v:=by
 obtain ⟨A1,c1,A2,c2,A3,c3,A4,c4,e,h1,h2,h3,h4,h5,h6,h7,h8⟩:=h
 exact ⟨A1,c1,A2,c2,A3,c3,A4,c4,e,h1.le l,h2,h3.le l,h4,h5.le l,h6,h7.le l,h8⟩
theorem ObA.nil (m:AM):ObA m noOb [.string ByteArray.empty,.slice none 0 0,.int .i64 0,.slice none 0 0,.slice none 0 0,.slice none 0 0] :=
 ⟨none,0,none,0,none,0,none,0,rfl,Reads.nil _ _,Nat.le_refl _,Reads.nil _ _,Nat.le_refl _,Reads.nil _ _,Nat.le_refl _,Reads.nil _ _,Nat.le_refl _⟩
def CS.ob (s:CS):Ob:=⟨s.name,s.code,s.data,s.exps,s.imps,s.pats⟩
def oRow (m0:AM) (sz n:Nat) (xs:List Value) (r:Value) (m':AM):Prop:=(∃ A c,r=.slice A n c/\Reads m' sz A n xs/\n<=c/\∀ ad,A=some ad->m0 ad.block=none)/\m0.le m'
theorem clone_row {w0:World} {m:AM} {e:TypeId} {t ty:TypeId} {sz bs:Nat} {z:List Value} (hel:elOf Tryz.prog t=some (e,sz,bs,z)) (hbs:bs<=64) {A:Option Addr} {c n:Nat} {xs:List Value} (rd:Reads m sz A n xs) (hn:n<=1000000) (h1:∀ u∈xs,u.oneCell'=true) {R:Value->AM->Prop} (hR:∀ r m',oRow m sz n xs r m'->R r m') :
  bcase (Option.isNone A) (RetP R (.slice none 0 0) m) (true=true/\∀ b:Nat,w0.heap.size<=b->m b=none->let m2:=AM.upd m b (.cells #[] e);
   awp Tryz.prog w0.heap.size (Builtin.append_ #[t,t] ty #[.slice (some ⟨b,0,none⟩) 0 0,.slice A n c]) m2 fun v m4=>∃ (A5:Option Addr) (n6 c7:Nat),v=.slice A5 n6 c7/\RetP R (.slice A5 n6 c7) m4):=by
 cases A with
 | none =>
  obtain ⟨hl,⟨_,h⟩ | ⟨ad,h,_⟩⟩:=rd
  .subst h
   have:xs = []:=List.eq_nil_of_length_eq_zero (by omega)
   subst this
   exact bcT (retP_of (hR _ _ ⟨⟨none,0,rfl,Reads.nil _ _,Nat.le_refl _,fun ad h=>by cases h⟩,AM.le_refl _⟩))
  .cases h
 | some a =>
  refine bcF ⟨rfl,fun b hb hn'=>?_⟩
  have ow1:Alog.Own (m.upd b (.cells #[] e)) w0.heap.size e sz (some ⟨b,0,none⟩) 0 0 []:=Alog.Own.new m hb e sz 0 [] (by simp)
  have hm:=Nat.mul_le_mul (show n<=1000000 by omega) hbs
  refine awp_append_loc (m0:=m) hel (le_new hn' _) ow1 (fun k hk=>by simp [obl] at hk; subst hk; exact hn') (rd.le (le_new hn' _)) h1 (by rw [Nat.zero_add]; omega) (by omega) (fun A' c' m23 l23 f23 o23 n23 _=>?_)
  rw [List.nil_append,Nat.zero_add] at o23
  rw [Nat.zero_add]
  exact ⟨_,_,_,rfl,retP_of (hR _ _ ⟨⟨A',c',rfl,o23.reads,o23.2.1,fun ad h=>n23 _ (by rw [h]; simp [obl])⟩,l23⟩)⟩
theorem ins_one' (l:List Ins):∀ u∈insCells l,u.oneCell'=true:=by
 intro u hu
 unfold insCells at hu
 rw [List.mem_flatMap] at hu
 obtain ⟨x,_,hx⟩:=hu
 exact ins_one x u hx
theorem pch_one (l:List Pch):∀ u∈l.flatMap Pch.cells,u.oneCell'=true:=by
 intro u hu
 rw [List.mem_flatMap] at hu
 obtain ⟨x,_,hx⟩:=hu
 simp only [Pch.cells,List.mem_cons,List.not_mem_nil,or_false] at hx
 rcases hx with rfl | rfl | rfl <;> rfl
theorem code_c (w0:World) (mt m0 m:AM) (c:Nat) (s:CS) (h:CIx mt m0 m w0.heap.size c s) (hl:s.code.length<=1000000) :
  CallsA Tryz.prog w0 22 #[.pointer (some ⟨c,2,none⟩)] m (oRow m 5 s.code.length (insCells s.code)):=by
 obtain ⟨At,ct,L,h⟩:=h
 refine cf22 w0 m c _ ⟨_,_,_,cel h.ps rfl,?_⟩
 refine cf57 w0 m _ _ _ _ ?_
 dsimp only [cf57,mkF]
 refine clone_row elI (by omega) ((h.ow 0 (by omega)).reads) hl (ins_one' _) fun r m' h'=>?_
 obtain ⟨⟨A,c',rfl,h2⟩,h3⟩:=h'
 exact ⟨_,_,_,rfl,retP_of ⟨⟨A,c',rfl,h2⟩,h3⟩⟩
theorem patches_c (w0:World) (mt m0 m:AM) (c:Nat) (s:CS) (h:CIx mt m0 m w0.heap.size c s) (hl:s.pats.length<=1000000) :
  CallsA Tryz.prog w0 23 #[.pointer (some ⟨c,2,none⟩)] m (oRow m 3 s.pats.length (s.pats.flatMap Pch.cells)):=by
 obtain ⟨At,ct,L,h⟩:=h
 refine cf23 w0 m c _ ⟨_,_,_,cel h.ps rfl,?_⟩
 refine cf58 w0 m _ _ _ _ ?_
 dsimp only [cf58,mkF]
 refine clone_row elP (by omega) ((h.ow 1 (by omega)).reads) hl (pch_one _) fun r m' h'=>?_
 obtain ⟨⟨A,c',rfl,h2⟩,h3⟩:=h'
 exact ⟨_,_,_,rfl,retP_of ⟨⟨A,c',rfl,h2⟩,h3⟩⟩
theorem stop_raw (w0:World) (m:AM) (c:Nat) (hB:w0.heap.size<=c) (C:Array Value) (hs:C.size=17) (p:m c=some (.cells C 72)) (e0 e pos:Int) (h13:C[13]?=some (.int .i64 e0)) {R:Value->AM->Prop}
  (hR:∀ C',C'.size=17->C'[13]?=some (.int .i64 (if e0=0 then e else e0))->(∃ b,C'[14]?=some (.int .i64 b))->R (.tuple #[]) (m.upd c (.cells C' 72))) (h14:∃ b,C[14]?=some (.int .i64 b)) :
  CallsA Tryz.prog w0 24 #[.pointer (some ⟨c,0,none⟩),.int .i64 e,.int .i64 pos] m R:=by
 refine cf24 w0 m c _ _ _ ⟨_,by rw [cell_of p]; exact h13,rfl,?_⟩
 refine bcI (fun h=>?_) fun h=>?_
 .have h:e0=0:=by simpa using h
  rw [if_pos h] at hR
  refine StC_own p hB (by omega) (StC_own upd_get_same hB (by simp [hs]) (StC_own upd_get_same hB (by simp [hs]) ?_))
  rw [upd_upd,upd_upd]
  refine retP_of (hR _ (by simp [hs]) ?_ ⟨pos,?_⟩)
  .simp [Array.getElem?_setIfInBounds,hs]
  .simp [Array.getElem?_setIfInBounds,hs]
 .have h:¬ e0=0:=by simpa using h
  rw [if_neg h] at hR
  refine StC_own p hB (by omega) ?_
  obtain ⟨b,hb⟩:=h14
  refine retP_of (hR _ (by simp [hs]) ?_ ⟨b,?_⟩)
  .simp [Array.getElem?_setIfInBounds,h13]
  .simp [Array.getElem?_setIfInBounds,hb]
def zObj:List Value:=[.string ByteArray.empty,.slice none 0 0,.int .i64 0,.slice none 0 0,.slice none 0 0,.slice none 0 0]
def AM.dif (m0 m:AM):AM:=fun b=>match m0 b with
 | none=>m b
 | some _=>none
theorem reads_dif {m0 m:AM} {sz n:Nat} {A:Option Addr} {xs:List Value} (h:Reads m sz A n xs) (hf:∀ ad,A=some ad->m0 ad.block=none):Reads (AM.dif m0 m) sz A n xs:=by
 refine ⟨h.1,?_⟩
 rcases h.2 with h2 | ⟨ad,hA,hc⟩
 .exact .inl h2
 .refine .inr ⟨ad,hA,fun j u hu=>?_⟩
  have hc':=hc j u hu
  unfold AM.cell at hc' ⊢
  rw [add_block] at hc' ⊢
  rw [show AM.dif m0 m ad.block=m ad.block by unfold AM.dif; rw [hf ad hA]]
  exact hc'
def oComp (m0:AM) (P:CS->Prop) (x:ByteArray) (r:Value) (m':AM):Prop:=m0.le m'/\∃ (v:List Value) (at_ e:Int),r=.tuple #[.agg v.toArray,.int .i64 at_,.int .i64 e] /\
 ((e≠0/\ObA m' noOb v/\((scanP x).2.2=0->∃ s,P s/\¬(s.e=0/\s.code.length<=4096)))\/(e=0/\∃ s,P s/\s.e=0/\s.code.length<=4096/\ObA (AM.dif m0 m') s.ob v))
theorem fill6 {B:Nat} {m:AM} {b:Nat} (hB:B<=b) {z:List Value} (hz:z.length=6) (p:m b=some (.cells z.toArray 45)) (n:ByteArray) (A1:Option Addr) (n1 c1:Nat) (d:Int) (A2:Option Addr) (n2 c2:Nat) (A3:Option Addr) (n3 c3:Nat) (A4:Option Addr) (n4 c4:Nat) {K:AM->Prop}
  (hK:K (m.upd b (.cells ([.string n,.slice A1 n1 c1,.int .i64 d,.slice A2 n2 c2,.slice A3 n3 c3,.slice A4 n4 c4]:List Value).toArray 45))) :
  StC B m ⟨b,0,none⟩ (.string n) fun m1=>StC B m1 ⟨b,1,none⟩ (.slice A1 n1 c1) fun m2=>StC B m2 ⟨b,2,none⟩ (.int .i64 d) fun m3=>StC B m3 ⟨b,3,none⟩ (.slice A2 n2 c2) fun m4=>StC B m4 ⟨b,4,none⟩ (.slice A3 n3 c3) fun m5=>StC B m5 ⟨b,5,none⟩ (.slice A4 n4 c4) K:=by
 match z,hz with
 | [z0,z1,z2,z3,z4,z5],_ =>
  refine StC_own p hB (by simp) (StC_own upd_get_same hB (by simp) (StC_own upd_get_same hB (by simp) (StC_own upd_get_same hB (by simp) (StC_own upd_get_same hB (by simp) (StC_own upd_get_same hB (by simp) ?_)))))
  rw [upd_upd,upd_upd,upd_upd,upd_upd,upd_upd]
  exact hK
theorem read6 {m:AM} {b:Nat} {n:ByteArray} {A1:Option Addr} {n1 c1:Nat} {d:Int} {A2:Option Addr} {n2 c2:Nat} {A3:Option Addr} {n3 c3:Nat} {A4:Option Addr} {n4 c4:Nat} (p:m b=some (.cells ([.string n,.slice A1 n1 c1,.int .i64 d,.slice A2 n2 c2,.slice A3 n3 c3,.slice A4 n4 c4]:List Value).toArray 45))
  {K:ByteArray->Option Addr->Nat->Nat->Int->Option Addr->Nat->Nat->Option Addr->Nat->Nat->Option Addr->Nat->Nat->Prop} (hK:K n A1 n1 c1 d A2 n2 c2 A3 n3 c3 A4 n4 c4) :
  ∃ s1:ByteArray,m.cell ⟨b,0,none⟩=some (.string s1)/\∃ (B1:Option Addr) (k1 d1:Nat),m.cell ⟨b,1,none⟩=some (.slice B1 k1 d1)/\∃ i:Int,m.cell ⟨b,2,none⟩=some (.int .i64 i)/\∃ (B2:Option Addr) (k2 d2:Nat),m.cell ⟨b,3,none⟩=some (.slice B2 k2 d2)/\∃ (B3:Option Addr) (k3 d3:Nat),m.cell ⟨b,4,none⟩=some (.slice B3 k3 d3)/\∃ (B4:Option Addr) (k4 d4:Nat),m.cell ⟨b,5,none⟩=some (.slice B4 k4 d4)/\K s1 B1 k1 d1 i B2 k2 d2 B3 k3 d3 B4 k4 d4 :=
 ⟨_,cel p rfl,_,_,_,cel p rfl,_,cel p rfl,_,_,_,cel p rfl,_,_,_,cel p rfl,_,_,_,cel p rfl,hK⟩
def initCS (ts:List Tok) (n:Nat):CS:=⟨ts,n,[],[],0,[],[],ByteArray.empty,0,[],[],0,0,0,0⟩
theorem compile_of (w0:World) (m:AM) (s:ByteArray) (hs:s.size<=1000000) (hsp:Sp m) (P:CS->Prop) (hP:∀ s',P s'->s'.code.length<=1000000/\s'.pats.length<=1000000)
  (hprog:(scanP s).2.2=0->∀ m1 M c,CIx m1 m1 M w0.heap.size c (initCS (scanP s).1 s.size)->CallsA Tryz.prog w0 21 #[.pointer (some ⟨c,0,none⟩)] M (fun r m'=>r=.tuple #[]/\∃ s',CIx m1 m1 m' w0.heap.size c s'/\P s')) :
  CallsA Tryz.prog w0 11 #[.string s] m (oComp m P s):=by
 generalize hR:oComp m P s=R
 refine cf11 w0 m s R ?_
 intro b1 hB1 hN1 M1
 have l1:m.le M1:=le_new hN1 _
 have p1:M1 b1=some (.cells zObj.toArray 45):=upd_get_same
 clear_value M1
 refine CallsA.mono (scan_c w0 M1 s hs) ?_
 rintro r m2 ⟨l2,A,k,rfl,rd,hcap,htl⟩
 have p2:=l2 _ _ p1
 refine ⟨_,_,_,_,_,rfl,rfl,?_⟩
 have lup:∀ {M:AM} {o:Obj},m.le M->m.le (M.upd b1 o):=fun l k o hk=>by
  have:k≠b1:=fun e=>by rw [e,hN1] at hk; cases hk
  rw [upd_get_ne this]; exact l _ _ hk
 refine bcI (fun he=>⟨rfl,?_⟩) fun he=>?_
 .have he:(scanP s).2.2≠0:=by simpa using he
  refine fill6 hB1 rfl p2 _ _ _ _ _ _ _ _ _ _ _ _ _ _ (read6 upd_get_same (retP_of ?_))
  rw [<- hR]
  exact ⟨lup (AM.le_trans l1 l2),zObj,_,_,rfl,.inl ⟨he,ObA.nil _,fun h=>absurd h he⟩⟩
 have he:(scanP s).2.2=0:=by simpa using he
 refine ⟨rfl,?_⟩
 intro c hB hN M
 have lc:m2.le M:=le_new hN _
 have ps:M c=some (.cells (Blk (initCS (scanP s).1 s.size) A k fun _=>(none,0)) 72):=upd_get_same
 clear_value M
 have ci:CI m2 m2 M w0.heap.size c (initCS (scanP s).1 s.size) A k fun _=>(none,0) :=
  ⟨(hsp.le l1).le l2,AM.le_refl _,lc,hB,hN,ps,rd,hcap,fun j hj=>by
   rcases j with _ | _ | _ | _ | _ | _ | _ <;> first | omega | exact Alog.Own.nil _ _ _ _,fun j hj k hk=>by simp [obl] at hk⟩
 refine CallsA.mono (hprog he m2 M c ⟨_,_,_,ci⟩) ?_
 rintro r m3 ⟨rfl,s',k3,hs'⟩
 obtain ⟨hc1,hc2⟩:=hP s' hs'
 refine ⟨rfl,?_⟩
 refine CallsA.mono (code_c w0 m2 m2 m3 c s' k3 hc1) ?_
 rintro r m4 ⟨⟨A4,c4,rfl,r4,h4,f4⟩,l4⟩
 refine ⟨_,_,_,rfl,?_⟩
 have k4:=k3.grow l4
 refine CallsA.mono (patches_c w0 m2 m2 m4 c s' k4 hc2) ?_
 rintro r m5 ⟨⟨A5,c5,rfl,r5,h5,f5⟩,l5⟩
 refine ⟨_,_,_,rfl,?_⟩
 have k5:=k4.grow l5
 obtain ⟨At,ct,L,g⟩:=k5
 have r4:=r4.le l5
 have p5:m5 b1=some (.cells zObj.toArray 45 (0,0)):=g.le _ _ p2
 have hbc:b1≠c:=fun e=>by rw [e,hN] at p2; cases p2
 have l05:m.le m5:=AM.le_trans (AM.le_trans l1 l2) g.le
 have lupc:∀ {M:AM} {o:Obj},m.le M->m.le (M.upd c o):=fun l k o hk=>by
  have:k≠c:=fun e=>by
   have:=AM.le_trans l1 l2 _ _ (e ▸ hk)
   rw [hN] at this; cases this
  rw [upd_get_ne this]; exact l _ _ hk
 refine StC_own g.ps hB (by simp [Blk]) (StC_own upd_get_same hB (by simp [Blk]) ?_)
 rw [upd_upd]
 obtain ⟨C,hC⟩:∃ C,C=((Blk s' At ct L).setIfInBounds 8 (.slice A4 s'.code.length c4)).setIfInBounds 12 (.slice A5 s'.pats.length c5):=⟨_,rfl⟩
 rw [<- hC]
 have hsz:C.size=17:=by rw [hC]; simp [Blk]
 have h7:C[7]?=some (.string s'.name):=by rw [hC]; rfl
 have h8:C[8]?=some (.slice A4 s'.code.length c4):=by rw [hC]; rfl
 have h9:C[9]?=some (.int .i64 s'.data):=by rw [hC]; rfl
 have h10:C[10]?=some (.slice (L 4).1 s'.exps.length (L 4).2):=by rw [hC]; rfl
 have h11:C[11]?=some (.slice (L 5).1 s'.imps.length (L 5).2):=by rw [hC]; rfl
 have h12:C[12]?=some (.slice A5 s'.pats.length c5):=by rw [hC]; rfl
 have h13:C[13]?=some (.int .i64 s'.e):=by rw [hC]; rfl
 have h14:∃ b,C[14]?=some (.int .i64 b):=⟨s'.bad,by rw [hC]; rfl⟩
 have q1:∀ X:Array Value,(m5.upd c (.cells X 72)) b1=some (.cells zObj.toArray 45 (0,0)):=fun X=>by rw [upd_get_ne hbc]; exact p5
 have q2:∀ X:Array Value,(m5.upd c (.cells X 72)) c=some (.cells X 72 (0,0)):=fun X=>upd_get_same
 have bad:¬(s'.e=0/\s'.code.length<=4096)->∀ (X:Array Value) (e b:Int) (σ:Sg),X[13]?=some (.int .i64 e)->X[14]?=some (.int .i64 b)->e≠0->σ 2=.pointer (some ⟨b1,0,none⟩)->σ 8=.pointer (some ⟨c,0,none⟩)->(XV w0 F11 (Tz R) 255 σ (m5.upd c (.cells X 72))):=by
  intro hno X e b σ x13 x14 hne s2 s8
  refine vk11_1111111 w0 _ σ R b1 c s2 s8 ⟨e,by rw [cell_of (q2 X)]; exact x13,rfl,?_⟩
  refine bcET (by simpa using hne) ?_
  refine vr11_11111110100 w0 _ _ R b1 c (fun y3 y4 M=>y4≠0/\M=(m5.upd c (.cells X 72)).upd b1 (.cells zObj.toArray 45)) rfl rfl ?_ ?_
  .have z1:∀ M:AM,M c=some (.cells X 72 (0,0))->M.cell ⟨c,13,none⟩=some (.int .i64 e):=fun M h=>by rw [cell_of h]; exact x13
   have z2:∀ M:AM,M c=some (.cells X 72 (0,0))->M.cell ⟨c,14,none⟩=some (.int .i64 b):=fun M h=>by rw [cell_of h]; exact x14
   have q3:((m5.upd c (.cells X 72)).upd b1 (.cells zObj.toArray 45)) c=some (.cells X 72 (0,0)):=by rw [upd_get_ne (Ne.symm hbc)]; exact q2 X
   refine ⟨rfl,⟨b,z2 _ (q2 X),⟨e,z1 _ (q2 X),fill6 hB1 rfl (q1 X) _ _ _ _ _ _ _ _ _ _ _ _ _ _ ⟨rfl,rfl,rfl,rfl,hne,rfl⟩⟩,fill6 hB1 rfl (q1 X) _ _ _ _ _ _ _ _ _ _ _ _ _ _ ⟨e,z1 _ q3,rfl,rfl,rfl,rfl,hne,rfl⟩⟩,⟨e,z1 _ (q2 X),⟨b,z2 _ (q2 X),fill6 hB1 rfl (q1 X) _ _ _ _ _ _ _ _ _ _ _ _ _ _ ⟨rfl,rfl,rfl,rfl,hne,rfl⟩⟩,fill6 hB1 rfl (q1 X) _ _ _ _ _ _ _ _ _ _ _ _ _ _ ⟨b,z2 _ q3,rfl,rfl,rfl,rfl,hne,rfl⟩⟩,fill6 hB1 rfl (q1 X) _ _ _ _ _ _ _ _ _ _ _ _ _ _ ⟨b,z2 _ q3,e,z1 _ q3,rfl,rfl,rfl,rfl,hne,rfl⟩⟩
  .rintro σ y3 y4 M ⟨hy,rfl⟩
   refine read6 upd_get_same (retP_of ?_)
   rw [<- hR]
   exact ⟨lup (lupc l05),zObj,_,_,rfl,.inl ⟨hy,ObA.nil _,fun _=>⟨s',hs',hno⟩⟩⟩
 refine ⟨_,by rw [cell_of (q2 C)]; exact h13,rfl,?_⟩
 refine bcI (fun h=>?_) fun h=>?_
 .have h:s'.e=0:=by simpa using h
  refine ⟨_,_,_,by rw [cell_of (q2 C)]; exact h8,rfl,?_⟩
  rw [h]
  show bcase (decide (((s'.code.length:Nat):Int)>4096)) _ _
  refine bcP (fun hbig=>?_) fun hbig=>?_
  .refine stop_raw w0 _ c hB C hsz (q2 C) s'.e 4 _ h13 (fun C' hC' e13 e14=>⟨rfl,?_⟩) h14
   rw [if_pos h] at e13
   rw [upd_upd]
   obtain ⟨b,hb⟩:=e14
   exact bad (fun z=>by omega) C' 4 b _ e13 hb (by decide) rfl rfl
  .refine vk11_1111111 w0 _ _ R b1 c rfl rfl ⟨s'.e,by rw [cell_of (q2 C)]; exact h13,rfl,?_⟩
   refine bcEF (by rw [h]; rfl) ?_
   refine ⟨_,by rw [cell_of (q2 C)]; exact h7,_,_,_,by rw [cell_of (q2 C)]; exact h8,_,by rw [cell_of (q2 C)]; exact h9,_,_,_,by rw [cell_of (q2 C)]; exact h10,_,_,_,by rw [cell_of (q2 C)]; exact h11,_,_,_,by rw [cell_of (q2 C)]; exact h12,?_⟩
   refine fill6 hB1 rfl (q1 C) _ _ _ _ _ _ _ _ _ _ _ _ _ _ (read6 upd_get_same (retP_of ?_))
   rw [<- hR]
   have keep:∀ {sz n:Nat} {A:Option Addr} {xs:List Value} {o o':Obj},Reads m5 sz A n xs->(∀ ad,A=some ad->0<n->ad.block≠c/\ad.block≠b1)->Reads ((m5.upd c o).upd b1 o') sz A n xs:=fun {sz n A xs o o'} h hne=>by
    refine ⟨h.1,?_⟩
    rcases h.2 with h2 | ⟨ad,hA,hc⟩
    .exact .inl h2
    .refine .inr ⟨ad,hA,fun j u hu=>?_⟩
     have hc':=hc j u hu
     have hn0:0<n:=by
      rcases Nat.eq_zero_or_pos n with h0 | h0
      .have:=h.1; rw [h0,Nat.zero_mul] at this
       rw [List.eq_nil_of_length_eq_zero this] at hu; simp at hu
      .exact h0
     obtain ⟨n1,n2⟩:=hne ad hA hn0
     unfold AM.cell at hc' ⊢
     have hb:=add_block ad j
     rw [hb] at hc' ⊢
     rw [upd_get_ne n2,upd_get_ne n1]
     exact hc'
   have k3c:m3 c≠none:=fun e=>by
    obtain ⟨_,_,_,g3⟩:=k3
    have:=g3.ps
    rw [e] at this; cases this
   have k3b:m3 b1≠none:=fun e=>by
    have:=k3.le _ _ p2
    rw [e] at this; cases this
   have ne4:∀ ad,A4=some ad->0<s'.code.length->ad.block≠c/\ad.block≠b1:=fun ad h _=>⟨fun e=>k3c (e ▸ f4 ad h),fun e=>k3b (e ▸ f4 ad h)⟩
   have ne5:∀ ad,A5=some ad->0<s'.pats.length->ad.block≠c/\ad.block≠b1:=fun ad h _=>⟨fun e=>k3c (AM.le_none l4 (e ▸ f5 ad h)),fun e=>k3b (AM.le_none l4 (e ▸ f5 ad h))⟩
   have fo:∀ j,j<6->(45:TypeId)≠fT j:=by decide
   have own:∀ j,j<6->Alog.Own ((m5.upd c (.cells C 72)).upd b1 (.cells ([.string s'.name,.slice A4 s'.code.length c4,.int .i64 s'.data,.slice (L 4).1 s'.exps.length (L 4).2,.slice (L 5).1 s'.imps.length (L 5).2,.slice A5 s'.pats.length c5]:List Value).toArray 45)) w0.heap.size (fT j) (fS j) (L j).1 (s'.len j) (L j).2 (s'.xs j):=fun j hj =>
    ((g.ow j hj).upd fun off e=>(g.ow j hj).ne_type g.ps (fT_ne hj) off e).upd fun off e=>(g.ow j hj).ne_type p5 (fo j hj) off e
   have z3:∀ {k},m3 k=none->m k=none:=fun h=>AM.le_none (AM.le_trans l1 l2) (AM.le_none k3.le h)
   have obk:∀ {A:Option Addr} {ad:Addr},A=some ad->ad.block∈obl A:=fun e=>by subst e; simp [obl]
   exact ⟨lup (lupc l05),[.string s'.name,.slice A4 s'.code.length c4,.int .i64 s'.data,.slice (L 4).1 s'.exps.length (L 4).2,.slice (L 5).1 s'.imps.length (L 5).2,.slice A5 s'.pats.length c5],0,0,rfl,.inr ⟨rfl,s',hs',h,by omega,A4,c4,(L 4).1,(L 4).2,(L 5).1,(L 5).2,A5,c5,rfl,reads_dif (keep r4 ne4) fun ad e=>z3 (f4 ad e),h4,reads_dif (own 4 (by omega)).reads fun ad e=>AM.le_none (AM.le_trans l1 l2) (g.nw 4 (by omega) _ (obk e)),(own 4 (by omega)).2.1,reads_dif (own 5 (by omega)).reads fun ad e=>AM.le_none (AM.le_trans l1 l2) (g.nw 5 (by omega) _ (obk e)),(own 5 (by omega)).2.1,reads_dif (keep r5 ne5) fun ad e=>z3 (AM.le_none l4 (f5 ad e)),h5⟩⟩
 .have h:s'.e≠0:=by simpa using h
  obtain ⟨b,hb⟩:=h14
  exact ⟨by simpa using h,bad (fun z=>h z.1) C s'.e b _ h13 hb h rfl rfl⟩
theorem r1_c (w0:World) (m:AM) (i:Ins):CallsA Tryz.prog w0 62 #[i.val] m (fun r m'=>r=.bool (!rightR i)/\m'=m):=by
 refine CallsA.down (Q:=fun r=>r=.bool (!rightR i)) (R:=fun r m'=>r=.bool (!rightR i)/\m.le m') ?_ fun _ _ h=>h
 refine cf62 w0 m _ _ _ _ _ _ ?_
 intro b hBb hNb M
 have l:AM.le _ M:=le_new hNb _
 have p:M b=some (.cells (Ins.cells i).toArray 57):=upd_get_same
 clear_value M
 exact ldIns p (callB (right_e w0 M i) (retP_of ⟨rfl,l⟩))
theorem ixC_c (w0:World) (m:AM) (A:Option Addr) (c:Nat) (code:List Ins) (hl:code.length<=1000000) (rd:Reads m 5 A code.length (insCells code)) :
  CallsA Tryz.prog w0 106 #[.slice A code.length c,.func (.func 62) #[] #[]] m (fun r m'=>(∃ j:Int,r=.int .i64 j/\decide (j>=0)=code.any fun i=>!rightR i)/\m'=m):=by
 refine cf106 w0 m A code.length c _ ?_
 dsimp only [cf106,mkF]
 refine vl106_1010 w0 m _ _ A code.length c code.length 0 (fun n j m'=>∃ q:Nat,j=q/\q<=code.length/\n=code.length-q/\(code.any fun i=>!rightR i)=((code.drop q).any fun i=>!rightR i)/\m'=m) (fun m'=>(code.any fun i=>!rightR i)=false/\m'=m) code.length rfl rfl rfl rfl ⟨0,rfl,by omega,by omega,by simp,rfl⟩ ?_ ?_
 .rintro n σ j M ⟨q,rfl,hq,rfl,hr,rfl⟩
  have hw1:IntKind.wrap .i64 ((q:Int)+1)=((q+1:Nat):Int):=by rw [IntKind.wrap_i64]; omega
  rw [hw1]
  refine ⟨rfl,bcP (fun hlt=>?_) fun hge=>?_⟩
  .have hd:code.drop q=cAt code q :: code.drop (q+1):=by
    rw [List.drop_eq_getElem_cons (by omega)]
    congr 1
    unfold cAt
    rw [show ((q:Nat):Int).toNat=q by omega]
    simp [List.getD,show q<code.length by omega]
   rw [hd,List.any_cons] at hr
   refine ldAt rd rfl (by omega) hlt fun a=>callB (r1_c w0 M (cAt code q)) (bcI (fun h=>?_) fun h=>?_)
   .rw [h] at hr
    exact retP_of ⟨⟨_,rfl,by rw [hr]; simp⟩,rfl⟩
   .rw [h,Bool.false_or] at hr
    exact ⟨rfl,rfl,rfl,rfl,rfl,code.length-(q+1),by omega,q+1,rfl,by omega,by omega,hr,rfl⟩
  .have:q=code.length:=by omega
   subst this
   rw [List.drop_length,List.any_nil] at hr
   exact ⟨rfl,rfl,rfl,hr,rfl⟩
 .rintro σ M ⟨hr,rfl⟩
  exact retP_of ⟨⟨-1,rfl,by rw [hr]; rfl⟩,rfl⟩
theorem ctC_c (w0:World) (m:AM) (A:Option Addr) (c:Nat) (code:List Ins) (hl:code.length<=1000000) (rd:Reads m 5 A code.length (insCells code)) :
  CallsA Tryz.prog w0 61 #[.slice A code.length c,.func (.func 62) #[] #[]] m (fun r m'=>r=.bool (code.any fun i=>!rightR i)/\m'=m):=by
 refine cf61 w0 m A code.length c _ ?_
 refine CallsA.mono (ixC_c w0 m A c code hl rd) ?_
 rintro r m' ⟨⟨j,rfl,hj⟩,rfl⟩
 exact ⟨_,rfl,rfl,retP_of ⟨by rw [hj],rfl⟩⟩
def patBad (ni:Nat) (p:Pch):Bool:=(p.kind != 2 && p.n != 0) || (p.kind == 2 && (decide (p.n<0) || decide (p.n>=ni)))
def patOk (nc ni:Nat) (p:Pch):Bool:=!patBad ni p && (decide (p.pos>=0) && (decide (p.pos<nc) && (decide (p.kind>=0) && decide (p.kind<5))))
def Pch.val (p:Pch):Value:=.agg #[.int .i64 p.pos,.int .i64 p.kind,.int .i64 p.n]
def obVal (n:ByteArray) (A1:Option Addr) (n1 c1:Nat) (d:Int) (A2:Option Addr) (n2 c2:Nat) (A3:Option Addr) (n3 c3:Nat) (A4:Option Addr) (n4 c4:Nat):List Value:=[.string n,.slice A1 n1 c1,.int .i64 d,.slice A2 n2 c2,.slice A3 n3 c3,.slice A4 n4 c4]
theorem patR_c (w0:World) (m:AM) (n:ByteArray) (A1:Option Addr) (n1 c1:Nat) (d:Int) (A2:Option Addr) (n2 c2:Nat) (A3:Option Addr) (n3 c3:Nat) (A4:Option Addr) (n4 c4:Nat) (p:Pch) :
  CallsA Tryz.prog w0 66 #[.agg (obVal n A1 n1 c1 d A2 n2 c2 A3 n3 c3 A4 n4 c4).toArray,p.val] m (fun r m'=>r=.bool (patOk n1 n3 p)/\m'=m):=by
 refine CallsA.down (Q:=fun r=>r=.bool (patOk n1 n3 p)) (R:=fun r m'=>r=.bool (patOk n1 n3 p)/\m.le m') ?_ fun _ _ h=>h
 generalize hR:(fun (r:Value) (m':AM)=>r=.bool (patOk n1 n3 p)/\m.le m')=R
 refine cf66 w0 m n A1 n1 c1 d A2 n2 c2 A3 n3 c3 A4 n4 c4 _ _ _ R ?_
 intro b hB hN M1
 have l1:m.le M1:=le_new hN _
 have p1:M1 b=some (.cells (obVal n A1 n1 c1 d A2 n2 c2 A3 n3 c3 A4 n4 c4).toArray 45):=upd_get_same
 clear_value M1
 intro b2 hB2 hN2 M
 have l2:M1.le M:=le_new hN2 _
 have p2:M b2=some (.cells p.cells.toArray 86):=upd_get_same
 clear_value M
 have p1:=l2 _ _ p1
 have l:=AM.le_trans l1 l2
 have ret:∀ v:Bool,v=patOk n1 n3 p->RetP R (.bool v) M:=fun v e=>by rw [<- hR]; exact retP_of ⟨by rw [e],l⟩
 have K2:∀ σ:Sg,patBad n3 p=false->σ 2=.pointer (some ⟨b,0,none⟩)->σ 3=.pointer (some ⟨b2,0,none⟩)->(XV w0 F66 (Tz R) 7 σ M):=by
  intro σ hbad h2 h3
  unfold patOk at ret
  rw [hbad] at ret
  refine vk66_11 w0 M σ R b b2 h2 h3 ⟨_,cel p2 rfl,rfl,?_⟩
  refine bcP (fun k1=>⟨_,cel p2 rfl,_,_,_,cel p1 rfl,rfl,?_⟩) fun k1=>⟨decide_eq_false k1,rfl,rfl,ret _ (by rw [decide_eq_false k1]; rfl)⟩
  rw [decide_eq_true k1]
  refine bcP (p:=p.pos<(n1:Int)) (fun k2=>⟨_,cel p2 rfl,rfl,?_⟩) fun k2=>⟨decide_eq_false k2,rfl,ret _ (by rw [decide_eq_false k2,Bool.false_and,Bool.and_false,Bool.and_false])⟩
  rw [decide_eq_true k2]
  refine bcP (p:=p.kind>=0) (fun k3=>⟨_,cel p2 rfl,rfl,ret _ ?_⟩) fun k3=>⟨decide_eq_false k3,ret _ (by rw [decide_eq_false k3,Bool.false_and,Bool.and_false,Bool.and_false,Bool.and_false])⟩
  rw [decide_eq_true k1,decide_eq_true k2,decide_eq_true k3]; rfl
 have K1:∀ (σ:Sg) (x:Bool),x=patBad n3 p->σ 2=.pointer (some ⟨b,0,none⟩)->σ 3=.pointer (some ⟨b2,0,none⟩)->σ 30=.bool x->(XV w0 F66 (Tz R) 13 σ M):=by
  intro σ x hx h2 h3 h30
  refine vk66_101 w0 M σ R b b2 x h2 h3 h30 (bcI (fun h=>ret _ ?_) fun h=>K2 _ (by rw [<- hx,h]) rfl rfl)
  unfold patOk; rw [<- hx,h]; rfl
 have tl:∀ (x:Bool),x=(p.kind != 2 && p.n != 0)->x=false->True:=fun _ _ _=>trivial
 refine ⟨_,cel p2 rfl,rfl,?_⟩
 have hk:∀ b:Bool,(p.kind != 2)=b->(p.kind == 2) = !b:=fun b h=>by simp only [bne,<- h,Bool.not_not]
 have bads:∀ a c:Bool,(p.kind != 2 && p.n != 0)=a->(p.kind == 2 && (decide (p.n<0) || decide (p.n>=n3)))=c->patBad n3 p=(a || c):=fun a c h1 h2=>by unfold patBad; rw [h1,h2]
 cases hk2:(p.kind != 2)
 .have e:=hk _ hk2
  refine ⟨rfl,_,cel p2 rfl,rfl,?_⟩
  rw [e]
  refine ⟨_,cel p2 rfl,rfl,bcP (fun h1=>⟨decide_eq_true h1,K1 _ _ ?_ rfl rfl rfl⟩) fun h1=>⟨_,cel p2 rfl,_,_,_,cel p1 rfl,rfl,K1 _ _ ?_ rfl rfl rfl⟩⟩
  .unfold patBad; rw [hk2,e,decide_eq_true h1]; rfl
  .unfold patBad; rw [hk2,e,decide_eq_false h1]; rfl
 .have e:=hk _ hk2
  refine ⟨_,cel p2 rfl,rfl,?_⟩
  cases hn:(p.n != 0)
  .refine ⟨_,cel p2 rfl,rfl,?_⟩
   rw [e]
   refine ⟨rfl,K1 _ _ ?_ rfl rfl rfl⟩
   unfold patBad; rw [hk2,e,hn]; rfl
  .refine ⟨rfl,K1 _ _ ?_ rfl rfl rfl⟩
   unfold patBad; rw [hk2,e,hn]; rfl
theorem r2_c (w0:World) (m:AM) (pc:Nat) (n:ByteArray) (A1:Option Addr) (n1 c1:Nat) (d:Int) (A2:Option Addr) (n2 c2:Nat) (A3:Option Addr) (n3 c3:Nat) (A4:Option Addr) (n4 c4:Nat) (ps:m pc=some (.cells (obVal n A1 n1 c1 d A2 n2 c2 A3 n3 c3 A4 n4 c4).toArray 45)) (p:Pch) :
  CallsA Tryz.prog w0 65 #[p.val,.pointer (some ⟨pc,0,none⟩)] m (fun r m'=>r=.bool (!patOk n1 n3 p)/\m'=m):=by
 refine CallsA.down (Q:=fun r=>r=.bool (!patOk n1 n3 p)) (R:=fun r m'=>r=.bool (!patOk n1 n3 p)/\m.le m') ?_ fun _ _ h=>h
 refine cf65 w0 m _ _ _ pc _ ?_
 intro b hB hN M
 have l:m.le M:=le_new hN _
 have p2:M b=some (.cells p.cells.toArray 86):=upd_get_same
 clear_value M
 have ps:=l _ _ ps
 refine read6 ps ⟨_,cel p2 rfl,_,cel p2 rfl,_,cel p2 rfl,?_⟩
 exact callB (patR_c w0 M n A1 n1 c1 d A2 n2 c2 A3 n3 c3 A4 n4 c4 p) (retP_of ⟨rfl,l⟩)
theorem ixP_c (w0:World) (m:AM) (A:Option Addr) (c:Nat) (l:List Pch) (hl:l.length<=1000000) (rd:Reads m 3 A l.length (l.flatMap Pch.cells)) (pc:Nat) (n:ByteArray) (A1:Option Addr) (n1 c1:Nat) (d:Int) (A2:Option Addr) (n2 c2:Nat) (A3:Option Addr) (n3 c3:Nat) (A4:Option Addr) (n4 c4:Nat) (ps:m pc=some (.cells (obVal n A1 n1 c1 d A2 n2 c2 A3 n3 c3 A4 n4 c4).toArray 45)) :
  CallsA Tryz.prog w0 107 #[.slice A l.length c,.func (.func 65) #[] #[.pointer (some ⟨pc,0,none⟩)]] m (fun r m'=>(∃ j:Int,r=.int .i64 j/\decide (j>=0)=l.any fun p=>!patOk n1 n3 p)/\m'=m):=by
 refine cf107 w0 m A l.length c pc _ ?_
 dsimp only [cf107,mkF]
 refine vl107_1010 w0 m _ _ A l.length c pc l.length 0 (fun n j m'=>∃ q:Nat,j=q/\q<=l.length/\n=l.length-q/\(l.any fun p=>!patOk n1 n3 p)=((l.drop q).any fun p=>!patOk n1 n3 p)/\m'=m) (fun m'=>(l.any fun p=>!patOk n1 n3 p)=false/\m'=m) l.length rfl rfl rfl rfl ⟨0,rfl,by omega,by omega,by simp,rfl⟩ ?_ ?_
 .rintro n σ j M ⟨q,rfl,hq,rfl,hr,rfl⟩
  have hw1:IntKind.wrap .i64 ((q:Int)+1)=((q+1:Nat):Int):=by rw [IntKind.wrap_i64]; omega
  rw [hw1]
  refine ⟨rfl,bcP (fun hlt=>?_) fun hge=>?_⟩
  .have hq':q<l.length:=by omega
   have hd:l.drop q=l[q] :: l.drop (q+1):=List.drop_eq_getElem_cons hq'
   rw [hd,List.any_cons] at hr
   obtain ⟨ad,hA,hc⟩:=rd.ex (by omega)
   have hat:=fun j hj=>Cells.at (j:=j) (f:=Pch.cells) (sz:=3) (fun _=>rfl) hc (List.getElem?_eq_getElem hq') hj
   refine ⟨⟨by omega,hlt⟩,nilO_at hA ?_⟩
   refine ⟨_,hat 0 (by omega),_,(by rw [add_add]; exact hat 1 (by omega)),_,(by rw [add_add]; exact hat 2 (by omega)),?_⟩
   refine callB (r2_c w0 M pc _ A1 n1 c1 d A2 n2 c2 A3 n3 c3 A4 n4 c4 ps l[q]) (bcI (fun h=>?_) fun h=>?_)
   .rw [h] at hr
    exact retP_of ⟨⟨_,rfl,by rw [hr]; simp⟩,rfl⟩
   .rw [h,Bool.false_or] at hr
    exact ⟨rfl,rfl,rfl,rfl,rfl,l.length-(q+1),by omega,q+1,rfl,by omega,by omega,hr,rfl⟩
  .have:q=l.length:=by omega
   subst this
   rw [List.drop_length,List.any_nil] at hr
   exact ⟨rfl,rfl,rfl,hr,rfl⟩
 .rintro σ M ⟨hr,rfl⟩
  exact retP_of ⟨⟨-1,rfl,by rw [hr]; rfl⟩,rfl⟩
theorem ctP_c (w0:World) (m:AM) (A:Option Addr) (c:Nat) (l:List Pch) (hl:l.length<=1000000) (rd:Reads m 3 A l.length (l.flatMap Pch.cells)) (pc:Nat) (n:ByteArray) (A1:Option Addr) (n1 c1:Nat) (d:Int) (A2:Option Addr) (n2 c2:Nat) (A3:Option Addr) (n3 c3:Nat) (A4:Option Addr) (n4 c4:Nat) (ps:m pc=some (.cells (obVal n A1 n1 c1 d A2 n2 c2 A3 n3 c3 A4 n4 c4).toArray 45)) :
  CallsA Tryz.prog w0 64 #[.slice A l.length c,.func (.func 65) #[] #[.pointer (some ⟨pc,0,none⟩)]] m (fun r m'=>r=.bool (l.any fun p=>!patOk n1 n3 p)/\m'=m):=by
 refine cf64 w0 m A l.length c pc _ ?_
 refine CallsA.mono (ixP_c w0 m A c l hl rd pc n A1 n1 c1 d A2 n2 c2 A3 n3 c3 A4 n4 c4 ps) ?_
 rintro r m' ⟨⟨j,rfl,hj⟩,rfl⟩
 exact ⟨_,rfl,rfl,retP_of ⟨by rw [hj],rfl⟩⟩
end Go.Proofs.YtgjamnhjlaohaaaGreatDoor.S
namespace Go.Alog
open Go Go.RowKit
theorem lookup_strF {P:Program} {m:AM} {t kt et:TypeId} {z:Value} (ht:P.underlying t=some (.map kt et)) (hk:P.underlying kt=some .string) (hz:pval P (zeroValue et)=some z) {x:Option Nat} {kv:List (ByteArray × Value)}
  (hx:(x=none/\kv = [])\/∃ r es clk,x=some r/\m r=some (.map es clk)/\MapS es kv) (k:ByteArray) :
  rval P m (Instr.lookup t (.map x) (.string k) false)=some (match findS k kv 0 with | some p=>p.2 | none=>z):=by
 have fin:∀ es:Array MapEntry,MapS es kv->rval P m (do
   Instr.checkKey es.isEmpty 10000 kt (.string k)
   let (v,ok) <- match <- Instr.findKey kt (.string k) es.toList with
    | some (_,v)=>pure (v,true)
    | none=>pure (<- zeroValue et,false)
   pure (if false then Value.tuple #[v,.bool ok] else v))=some (match findS k kv 0 with | some p=>p.2 | none=>z):=by
  intro es he
  rw [rval_bind',rval_of_pval _ (checkKey_str hk _ k)]
  simp only [Option.bind_some]
  rw [rval_bind',rval_of_pval _ (findKey_str hk k he)]
  simp only [Option.bind_some]
  cases findS k kv 0 with
  | none =>
   simp only []
   rw [rval_bind',rval_of_pval _ hz]
   rfl
  | some p=>rfl
 unfold Instr.lookup
 rw [rval_bind',rval_of_pval _ (pv_underlying ht)]
 simp only [Option.bind_some]
 rcases hx with ⟨rfl,rfl⟩ | ⟨r,es,clk,rfl,hm,he⟩
 .rw [rval_bind']
  exact fin #[] rfl
 .rw [rval_bind']
  have hg:rval P m (getObj r)=some (.map es clk):=by simp [getObj,rval,hm]
  rw [hg]
  simp only [Option.bind_some]
  rw [rval_bind']
  exact fin es he
def keysT (l:List ByteArray):List (ByteArray × Value):=l.map fun x=>(x,.bool true)
theorem findS_keys (k:ByteArray):∀ (l:List ByteArray) (i:Nat),findS k (keysT l) i=none\/∃ j,findS k (keysT l) i=some (j,.bool true)
 | [],_=>.inl rfl
 | x :: l,i=>by
  unfold keysT
  rw [List.map_cons]
  unfold findS
  split
  .exact .inr ⟨i,rfl⟩
  .exact findS_keys k l (i+1)
end Go.Alog
namespace Go.Proofs.YtgjamnhjlaohaaaGreatDoor.S
open Go Go.RowKit Go.Alog Go.Proofs.YtgjamnhjlaohaaaGreatDoor.T Go.Proofs.YtgjamnhjlaohaaaGreatDoor.V
theorem uMB:Tryz.prog.underlying 141=some (.map 9 4):=by kernel_rfl
theorem zBo:pval Tryz.prog (zeroValue 4)=some (.bool false):=by kernel_rfl
structure SSt (m0 m:AM) (B s n:Nat) (mp:Option Nat) (A:Option Addr) (c:Nat) (xs:List Value) (ks:List ByteArray):Prop where
 le:m0.le m
 ns:m0 s=none
 hB:B<=s
 ps:m s=some (.cells #[.map mp,.slice A n c] 143 (0,0))
 ow:Alog.Own m B 9 1 A n c xs
 nw:∀ k∈obl A,m0 k=none
 mh:(mp=none/\ks = [])\/∃ r es clk,mp=some r/\B<=r/\m0 r=none/\m r=some (.map es clk)/\MapS es (keysT ks)
def SSet (m0 m:AM) (B s n:Nat):Prop:=∃ mp A c xs ks,SSt m0 m B s n mp A c xs ks
theorem SSt.has (w0:World) {m0 m:AM} {s n:Nat} {mp:Option Nat} {A:Option Addr} {c:Nat} {xs:List Value} {ks:List ByteArray} (h:SSt m0 m w0.heap.size s n mp A c xs ks) (x:ByteArray) :
  CallsA Tryz.prog w0 108 #[.pointer (some ⟨s,0,none⟩),.string x] m (fun r m'=>r=.bool (findS x (keysT ks) 0).isSome/\m'=m):=by
 refine cf108 w0 m s x _ ⟨mp,cel h.ps rfl,(findS x (keysT ks) 0).isSome,?_,retP_of ⟨rfl,rfl⟩⟩
 have hx:(mp=none/\keysT ks = [])\/∃ r es clk,mp=some r/\m r=some (.map es clk)/\MapS es (keysT ks):=by
  rcases h.mh with ⟨h1,h2⟩ | ⟨r,es,clk,h1,_,_,h2,h3⟩
  .exact .inl ⟨h1,by rw [h2]; rfl⟩
  .exact .inr ⟨r,es,clk,h1,h2,h3⟩
 rw [lookup_strF uMB uS zBo hx x]
 rcases findS_keys x ks 0 with h1 | ⟨j,h1⟩ <;> rw [h1] <;> rfl
theorem SSt.tail {B:Nat} {m0 m:AM} {s n r:Nat} {A:Option Addr} {c:Nat} {xs:List Value} {ks:List ByteArray} (h:SSt m0 m B s n (some r) A c xs ks) (hn:n<=1000000) (x:ByteArray) {R:Value->AM->Prop} (hR:∀ m',SSet m0 m' B s (n+1)->R (.bool true) m') :
  ∃ (A10:Option Addr) (n11 c12:Nat),m.cell ⟨s,1,none⟩=some (.slice A10 n11 c12)/\true=true/\∀ b13:Nat,B<=b13->m b13=none->let m14:=AM.upd m b13 (.cells #[.string x] 9);
  awp Tryz.prog B (Builtin.append_ #[22,22] 22 #[.slice A10 n11 c12,.slice (some ⟨b13,0,none⟩) 1 1]) m14 fun v15 m16 =>
  ∃ (A17:Option Addr) (n18 c19:Nat),v15=.slice A17 n18 c19/\StC B m16 ⟨s,1,none⟩ (.slice A17 n18 c19) fun m20=>RetP R (.bool true) m20:=by
 refine ⟨_,_,_,cel h.ps rfl,rfl,?_⟩
 intro b hb hN M
 have l:m.le M:=le_new hN _
 have p:M b=some (.cells ([.string x]:List Value).toArray 9):=upd_get_same
 clear_value M
 have ps:=l _ _ h.ps
 obtain ⟨r',es,clk,e,hBr,nr,hr,he⟩:=h.mh.resolve_left (fun h=>by cases h.1)
 injection e with e
 subst e
 have hr':=l _ _ hr
 have ow:=h.ow.le l
 refine awp_append_field elSt ow (rd_of p rfl) (by simp [Value.oneCell']) (by omega) (by omega) (by omega) ps h.hB (by decide) (by simp) (fun g2 cp' cur hor hB2 hgg hown=>retP_of (hR _ ?_))
 have hg0:m0 g2=none:=by
  rcases hor with h' | h'
  .exact h.nw g2 (by rw [h']; simp [obl])
  .exact AM.le_none (AM.le_trans h.le l) h'
 have hrs:r≠s:=fun e=>by rw [e,ps] at hr'; cases hr'
 have hrg:r≠g2:=fun e=>by
  rcases hor with h' | h'
  .obtain ⟨_,cur',k2⟩:=ow.obl_some (k:=g2) (by rw [h']; simp [obl])
   rw [<- e,hr'] at k2; cases k2
  .rw [<- e,hr'] at h'; cases h'
 refine ⟨some r,some ⟨g2,0,none⟩,cp',_,ks,?_,h.ns,h.hB,?_,hown,fun k hk=>?_,.inr ⟨r,es,clk,rfl,hBr,nr,?_,he⟩⟩
 .intro k o hk
  have e1:k≠s:=fun e=>by rw [e,h.ns] at hk; cases hk
  have e2:k≠g2:=fun e=>by rw [e,hg0] at hk; cases hk
  rw [upd_get_ne e1,upd_get_ne e2]; exact l _ _ (h.le _ _ hk)
 .rw [upd_get_same]; simp
 .simp [obl] at hk; rw [hk]; exact hg0
 .rw [upd_get_ne hrs,upd_get_ne hrg]; exact hr'
theorem addS_w (w0:World) {m0 m:AM} {s n:Nat} (h:SSet m0 m w0.heap.size s n) (hn:n<=1000000) (x:ByteArray) :
  CallsA Tryz.prog w0 67 #[.pointer (some ⟨s,0,none⟩),.string x] m (fun r m'=>∃ b,r=.bool b/\(m.cell ⟨s,0,none⟩=some (.map none)->b=true)/\∃ n',n'<=n+1/\SSet m0 m' w0.heap.size s n'):=by
 obtain ⟨mp,A,c,xs,ks,h⟩:=h
 refine cf67 w0 m s x _ (callB (h.has w0 x) (bcI (fun hf=>?_) fun hf=>⟨_,cel h.ps rfl,?_⟩))
 .refine retP_of ⟨_,rfl,fun hc=>?_,n,by omega,mp,A,c,xs,ks,h⟩
  have e:mp=none:=by
   have h2:m.cell ⟨s,0,none⟩=some (.map mp):=cel h.ps rfl
   rw [hc] at h2; injection h2 with h2; injection h2 with h2; exact h2.symm
  rcases h.mh with ⟨_,h1⟩ | ⟨r,es,clk,h1,_⟩
  .rw [h1] at hf; cases hf
  .rw [e] at h1; cases h1
 have hnone:findS x (keysT ks) 0=none:=by simpa using hf
 have hks:keysT ks ++ [(x,.bool true)]=keysT (ks ++ [x]):=by simp [keysT]
 cases mp with
 | none =>
  refine bcT (fun b hb hN=>?_)
  have hsb:s≠b:=fun e=>by have:=h.ps; rw [e,hN] at this; cases this
  have hks0:ks = []:=by
   rcases h.mh with h1 | ⟨r,es,clk,h1,_⟩
   .exact h1.2
   .cases h1
  subst hks0
  refine StC_own (c:=#[.map none,.slice A n c]) (t:=143) (by rw [upd_get_ne hsb]; exact h.ps) h.hB (by simp) ⟨some b,cel upd_get_same rfl,?_⟩
  refine mapUpdate_newS uMB uS (kv:=[]) (es:=#[]) (clk:=0) hb (by rw [upd_get_ne (Ne.symm hsb)]; exact upd_get_same) rfl rfl (fun es' clk' he=>?_)
  have hbA:∀ off,A≠some ⟨b,off,none⟩:=h.ow.ne_none hN
  have hsA:∀ off,A≠some ⟨s,off,none⟩:=fun off e=>h.ow.ne_type h.ps (by decide) off e
  refine SSt.tail (m0:=m0) (n:=n) (A:=A) (c:=c) (xs:=xs) (r:=b) (ks:=[x]) ⟨?_,h.ns,h.hB,?_,((h.ow.upd hbA).upd hsA).upd hbA,h.nw,.inr ⟨b,es',clk',rfl,hb,AM.le_none h.le hN,upd_get_same,by rw [<- show keysT ([] ++ [x])=keysT [x] from rfl,<- hks]; exact he⟩⟩ hn x fun m' h'=>⟨_,rfl,fun _=>rfl,n+1,by omega,h'⟩
  .intro k o hk
   have e1:k≠s:=fun e=>by rw [e,h.ns] at hk; cases hk
   have e2:k≠b:=fun e=>by
    have:=h.le _ _ hk
    rw [e,hN] at this; cases this
   rw [upd_get_ne e2,upd_get_ne e1,upd_get_ne e2]; exact h.le _ _ hk
  .rw [upd_get_ne hsb,upd_get_same]; simp
 | some r =>
  refine bcF ⟨_,cel h.ps rfl,?_⟩
  obtain ⟨r',es,clk,e,hBr,nr,hr,he⟩:=h.mh.resolve_left (fun h=>by cases h.1)
  injection e with e
  subst e
  refine mapUpdate_newS uMB uS hBr hr he hnone (fun es' clk' he'=>?_)
  have hsr:s≠r:=fun e=>by have:=h.ps; rw [e,hr] at this; cases this
  refine SSt.tail (m0:=m0) (n:=n) (A:=A) (c:=c) (xs:=xs) (r:=r) (ks:=ks ++ [x]) ⟨?_,h.ns,h.hB,?_,h.ow.upd fun off e=>?_,h.nw,.inr ⟨r,es',clk',rfl,hBr,nr,upd_get_same,by rw [<- hks]; exact he'⟩⟩ hn x fun m' h'=>⟨_,rfl,fun _=>rfl,n+1,by omega,h'⟩
  .intro k o hk
   have e2:k≠r:=fun e=>by rw [e,nr] at hk; cases hk
   rw [upd_get_ne e2]; exact h.le _ _ hk
  .rw [upd_get_ne hsr]; exact h.ps
  .obtain ⟨_,cur',k2⟩:=h.ow.obl_some (k:=r) (by rw [e]; simp [obl])
   rw [hr] at k2; cases k2
theorem alone_w (w0:World) (m:AM) (A:Option Addr) (c:Nat) (l:List ByteArray) (hl:l.length<=1000000) (rd:Reads m 1 A l.length (l.map Value.string)) :
  CallsA Tryz.prog w0 63 #[.slice A l.length c] m (fun r m'=>(∃ b,r=.bool b/\(l = []->b=true))/\m'=m):=by
 refine CallsA.down (Q:=fun r=>∃ b,r=.bool b/\(l = []->b=true)) (R:=fun r m'=>(∃ b,r=.bool b/\(l = []->b=true))/\m.le m') ?_ fun _ _ h=>h
 refine cf63 w0 m A l.length c _ ?_
 intro b hB hN M
 have l1:m.le M:=le_new hN _
 have p:M b=some (.cells #[.map none,.slice none 0 0] 143):=upd_get_same
 clear_value M
 refine Vn.f (Vn.f (vl63_11010 w0 M _ _ A l.length c b A l.length c l.length 0 (fun n j m'=>∃ q k:Nat,j=q/\q<=l.length/\n=l.length-q/\k<=q/\SSet m m' w0.heap.size b k) (fun m'=>m.le m') l.length rfl rfl rfl rfl rfl ⟨0,0,rfl,by omega,by omega,by omega,none,none,0,[],[],l1,hN,hB,p,Alog.Own.nil _ _ _ _,by simp [obl],.inl ⟨rfl,rfl⟩⟩) ?_) ?_
 .rintro n σ j M' ⟨q,k,rfl,hq,rfl,hk,hs⟩
  have hw1:IntKind.wrap .i64 ((q:Int)+1)=((q+1:Nat):Int):=by rw [IntKind.wrap_i64]; omega
  rw [hw1]
  have le:m.le M':=by
   obtain ⟨_,_,_,_,_,h⟩:=hs
   exact h.le
  refine ⟨rfl,bcP (fun hlt=>?_) fun hge=>⟨rfl,rfl,rfl,rfl,le⟩⟩
  have hq':q<l.length:=by omega
  obtain ⟨ad,hA,hc⟩:=rd.ex (by omega)
  have hne:l≠[]:=fun e=>by rw [e] at hq'; simp at hq'
  refine ⟨⟨by omega,hlt⟩,nilO_at hA ⟨l[q],?_,?_⟩⟩
  .rw [show (q:Int).toNat*1=q by omega]
   exact (hc.le le) q _ (by simp [hq'])
  refine CallsA.mono (rightName_c w0 M' l[q]) ?_
  rintro r m1 ⟨rfl,rfl⟩
  refine ⟨_,rfl,?_⟩
  cases rightName l[q]
  .exact bcT ⟨rfl,retP_of ⟨⟨_,rfl,fun h=>absurd h hne⟩,le⟩⟩
  refine bcF ?_
  refine CallsA.mono (addS_w w0 hs (by omega) l[q]) ?_
  rintro r m2 ⟨t,rfl,_,n',hn',hs'⟩
  refine ⟨_,rfl,?_⟩
  have le':m.le m2:=by
   obtain ⟨_,_,_,_,_,h⟩:=hs'
   exact h.le
  cases t
  .exact bcT (retP_of ⟨⟨_,rfl,fun h=>absurd h hne⟩,le'⟩)
  .exact bcF ⟨rfl,rfl,rfl,rfl,rfl,rfl,l.length-(q+1),by omega,q+1,n',rfl,by omega,by omega,by omega,hs'⟩
 .rintro σ M' le
  exact ⟨rfl,retP_of ⟨⟨_,rfl,fun h=>by rw [h]; rfl⟩,le⟩⟩
def rightO (o:Ob):Bool:=rightName o.name && (decide ((o.code.length:Int)<=4096) && (!(o.code.any fun i=>!rightR i) && (decide (o.data>=0) && (decide (o.data<=32000) && (decide ((o.pats.length:Int)<=4096) && !(o.pats.any fun p=>!patOk o.code.length o.imps.length p))))))
def oRi (o:Ob) (r:Value):Prop:=∃ b,r=.bool b/\(b=true->(o.pats.any fun p=>!patOk o.code.length o.imps.length p)=false)/\(o.exps = []->o.imps = []->b=rightO o)
def Ob.small (o:Ob) (N:Nat):Prop:=o.code.length<=N/\o.exps.length<=N/\o.imps.length<=N/\o.pats.length<=N
theorem right_w (w0:World) (m:AM) (o:Ob) (v:List Value) (hv:ObA m o v) (hN:o.small 1000000) :
  CallsA Tryz.prog w0 27 #[.agg v.toArray] m (fun r m'=>oRi o r/\m'=m):=by
 refine CallsA.down (Q:=oRi o) (R:=fun r m'=>oRi o r/\m.le m') ?_ fun _ _ h=>h
 generalize hR:(fun (r:Value) (m':AM)=>oRi o r/\m.le m')=R
 obtain ⟨A1,c1,A2,c2,A3,c3,A4,c4,rfl,rd1,k1,rd2,k2,rd3,k3,rd4,k4⟩:=hv
 obtain ⟨n1,n2,n3,n4⟩:=hN
 have fin:∀ (b:Bool) (M:AM),m.le M->(b=true->(o.pats.any fun p=>!patOk o.code.length o.imps.length p)=false)->(o.exps = []->o.imps = []->b=rightO o)->RetP R (.bool b) M:=fun b M l h1 h2=>by
  rw [<- hR]; exact retP_of ⟨⟨b,rfl,h1,h2⟩,l⟩
 refine cf27 w0 m _ _ _ _ _ _ _ _ _ _ _ _ _ _ R ?_
 intro b hB hN1 M
 have l1:m.le M:=le_new hN1 _
 have p:M b=some (.cells (obVal o.name A1 o.code.length c1 o.data A2 o.exps.length c2 A3 o.imps.length c3 A4 o.pats.length c4).toArray 45):=upd_get_same
 clear_value M
 refine ⟨_,_,_,cel p rfl,?_⟩
 refine vl27_11010 w0 M _ R b A2 o.exps.length c2 o.exps.length none 0 0 0
  (fun n A An Ac j m'=>∃ (q:Nat) (xs:List ByteArray),j=q/\q<=o.exps.length/\n=o.exps.length-q/\xs.length=q/\An=q/\M.le m'/\Alog.Own m' w0.heap.size 9 1 A q Ac (xs.map Value.string)/\(∀ k∈obl A,M k=none))
  (fun A An Ac m'=>∃ xs:List ByteArray,xs.length=o.exps.length/\An=xs.length/\M.le m'/\Alog.Own m' w0.heap.size 9 1 A xs.length Ac (xs.map Value.string)) o.exps.length rfl rfl rfl rfl rfl ⟨0,[],rfl,by omega,by omega,rfl,rfl,AM.le_refl _,Alog.Own.nil _ _ _ _,by simp [obl]⟩ ?_ ?_
 .rintro n σ A An Ac j M' ⟨q,xs,rfl,hq,rfl,hx,rfl,le,ow,nw⟩
  have hw1:IntKind.wrap .i64 ((An:Int)+1)=((An+1:Nat):Int):=by rw [IntKind.wrap_i64]; omega
  rw [hw1]
  refine ⟨rfl,bcP (fun hlt=>?_) fun hge=>⟨rfl,rfl,rfl,rfl,xs,by omega,hx.symm,le,by rw [hx]; exact ow⟩⟩
  have hq':An<o.exps.length:=by omega
  have hne:o.exps≠[]:=fun e=>by rw [e] at hq'; simp at hq'
  obtain ⟨ad,hA,hc⟩:=((rd2.le l1).le le).ex (by omega)
  have hat:=fun j hj=>Cells.at (j:=j) (f:=Sbl.cells) (sz:=2) (fun _=>rfl) hc (List.getElem?_eq_getElem hq') hj
  refine ⟨⟨by omega,hlt⟩,nilO_at hA ⟨_,hat 0 (by omega),_,(by rw [add_add]; exact hat 1 (by omega)),?_⟩⟩
  intro b2 hB2 hN2
  have lb:∀ X:Obj,M'.le (M'.upd b2 X):=fun X=>le_new hN2 _
  refine StC_own upd_get_same hB2 (by simp) (StC_own upd_get_same hB2 (by simp) ?_)
  rw [upd_upd,upd_upd]
  have q2:(M'.upd b2 (.cells (Sbl.cells o.exps[An]).toArray 137)) b2=some (.cells (Sbl.cells o.exps[An]).toArray 137 (0,0)):=upd_get_same
  have ll:=AM.le_trans le (lb (.cells (Sbl.cells o.exps[An]).toArray 137))
  have p2:=ll _ _ p
  refine ⟨_,cel q2 rfl,rfl,bcP (fun h1=>⟨decide_eq_true h1,fin _ _ (AM.le_trans l1 ll) (fun h=>by cases h) (fun h=>absurd h hne)⟩) fun h1=>⟨_,cel q2 rfl,_,_,_,cel p2 rfl,rfl,?_⟩⟩
  refine bcI (fun h2=>fin _ _ (AM.le_trans l1 ll) (fun h=>by cases h) (fun h=>absurd h hne)) fun h2=>⟨_,cel q2 rfl,rfl,?_⟩
  intro b3 hB3 hN3 M3
  have l3:AM.le _ M3:=le_new hN3 _
  have q3:M3 b3=some (.cells ([.string o.exps[An].name]:List Value).toArray 9):=upd_get_same
  clear_value M3
  have l4:=AM.le_trans (lb (.cells (Sbl.cells o.exps[An]).toArray 137)) l3
  refine awp_append_loc (m0:=M) elSt (AM.le_trans le l4) (ow.le l4) nw (rd_of q3 rfl) (by simp [Value.oneCell']) (by omega) (by omega) fun A' c' m' hle' _ ho' hn' _=>?_
  exact ⟨A',_,c',rfl,rfl,rfl,rfl,rfl,rfl,rfl,o.exps.length-(An+1),by omega,An+1,xs ++ [o.exps[An].name],rfl,by omega,rfl,by simp [hx],rfl,hle',by rw [List.map_append]; exact ho',hn'⟩
 .rintro σ A An Ac M' ⟨xs,hx,rfl,le,ow⟩
  have p:=le _ _ p
  have l:=AM.le_trans l1 le
  have hx0:o.exps = []->xs = []:=fun e=>List.eq_nil_of_length_eq_zero (by rw [hx,e]; rfl)
  have bad:∀ M,m.le M->(o.exps = []->o.imps = []->rightO o=false)->RetP R (.bool false) M:=fun M l h=>fin false M l (fun h=>by cases h) fun h1 h2=>(h h1 h2).symm
  unfold rightO at bad fin
  refine ⟨_,cel p rfl,callB (rightName_c w0 M' _) ?_⟩
  cases e1:rightName o.name
  .refine bcF ?_
   (repeat (refine And.intro (Eq.refl _) ?_))
   exact bad _ l fun _ _=>by rw [e1]; rfl
  refine bcT ⟨_,_,_,cel p rfl,rfl,?_⟩
  cases e2:decide ((o.code.length:Int)<=4096)
  .refine bcF ?_
   (repeat (refine And.intro (Eq.refl _) ?_))
   exact bad _ l fun _ _=>by rw [e1,e2]; rfl
  refine bcT ⟨_,_,_,cel p rfl,callB (ctC_c w0 M' A1 c1 o.code n1 (rd1.le l)) ?_⟩
  cases e3:(o.code.any fun i=>!rightR i)
  case true =>
   refine bcF ?_
   (repeat (refine And.intro (Eq.refl _) ?_))
   exact bad _ l fun _ _=>by rw [e1,e2,e3]; rfl
  refine bcT ⟨_,cel p rfl,rfl,?_⟩
  cases e4:decide (o.data>=0)
  .refine bcF ?_
   (repeat (refine And.intro (Eq.refl _) ?_))
   exact bad _ l fun _ _=>by rw [e1,e2,e3,e4]; rfl
  refine bcT ⟨_,cel p rfl,rfl,?_⟩
  cases e5:decide (o.data<=32000)
  .refine bcF ?_
   (repeat (refine And.intro (Eq.refl _) ?_))
   exact bad _ l fun _ _=>by rw [e1,e2,e3,e4,e5]; rfl
  refine bcT ?_
  refine CallsA.mono (alone_w w0 M' A Ac xs (by omega) ow.reads) ?_
  rintro r m1 ⟨⟨t1,rfl,ht1⟩,rfl⟩
  refine ⟨_,rfl,?_⟩
  cases t1
  .refine bcF ?_
   (repeat (refine And.intro (Eq.refl _) ?_))
   exact bad _ l fun h _=>absurd (ht1 (hx0 h)) (by simp)
  refine bcT ⟨_,_,_,cel p rfl,?_⟩
  refine CallsA.mono (alone_w w0 m1 A3 c3 o.imps n3 (rd3.le l)) ?_
  rintro r m2 ⟨⟨t2,rfl,ht2⟩,rfl⟩
  refine ⟨_,rfl,?_⟩
  cases t2
  .refine bcF ?_
   (repeat (refine And.intro (Eq.refl _) ?_))
   exact bad _ l fun _ h=>absurd (ht2 h) (by simp)
  refine bcT ⟨_,_,_,cel p rfl,rfl,?_⟩
  cases e6:decide ((o.pats.length:Int)<=4096)
  .refine bcF ?_
   (repeat (refine And.intro (Eq.refl _) ?_))
   exact bad _ l fun _ _=>by rw [e1,e2,e3,e4,e5,e6]; rfl
  refine bcT ⟨_,_,_,cel p rfl,callB (ctP_c w0 m2 A4 c4 o.pats n4 (rd4.le l) b _ A1 o.code.length c1 o.data A2 o.exps.length c2 A3 o.imps.length c3 A4 o.pats.length c4 p) ?_⟩
  refine fin _ _ l (fun h=>?_) fun _ _=>?_
  .simpa using h
  .rw [e1,e2,e3,e4,e5,e6]; rfl
end Go.Proofs.YtgjamnhjlaohaaaGreatDoor.S
namespace Go.Proofs.YtgjamnhjlaohaaaGreatDoor.V
open Go Go.Alog Go.Proofs.YtgjamnhjlaohaaaGreatDoor.T
variable (w0:World) (m:AM)
noncomputable abbrev cf26 (x0_0:ByteArray) (x0_1:Option Addr) (x0_1n x0_1c:Nat) (x0_2:Int) (x0_3:Option Addr) (x0_3n x0_3c:Nat) (x0_4:Option Addr) (x0_4n x0_4c:Nat) (x0_5:Option Addr) (x0_5n x0_5c:Nat) (R:RT):Vn (C_ w0 26 #[.agg #[.string x0_0,.slice x0_1 x0_1n x0_1c,I_ x0_2,.slice x0_3 x0_3n x0_3c,.slice x0_4 x0_4n x0_4c,.slice x0_5 x0_5n x0_5c]] m R):=mkF (F:=F26) Tryz.func26 (by dsimp only [push_cast,↓u1,↓u2,↓u3,Nat.reduceAdd,Nat.reduceBEq,Nat.reduceDiv,Nat.reduceMod]) (by kernel_rfl)
noncomputable abbrev cf59 (x0:Option Addr) (x0n x0c:Nat) (R:RT):Vn (C_ w0 59 #[.slice x0 x0n x0c,.func (.func 26) #[] #[]] m R):=mkF (F:=F59) Tryz.func59 (by dsimp only [push_cast,↓u1,↓u2,↓u3,Nat.reduceAdd,Nat.reduceBEq,Nat.reduceDiv,Nat.reduceMod]) (by kernel_rfl)
noncomputable abbrev vl59_1010 (σ:Sg) (R:RT) (x0:Option Addr) (x0n x0c:Nat) (x7 x8:Int) (I0:Nat->Int->AM->Prop) (E0_0:AM->Prop) (N:Nat) (h0:σ 0=.slice x0 x0n x0c) (h1:σ 1=.func (.func 26) #[] #[]) (h7:σ 7=I_ x7) (h8:σ 8=I_ x8) (h_0:I0 N x8 m):Vn (Vn (XV w0 F59 (Tz R) 26 σ m)):=mkL1 (lq59_1010 R x0 x0n x0c x7 I0 E0_0) (fun _=>rfl) N (cs h0 (cs h1 (cs h7 nl))) (cs h8 nl) h_0 (by dsimp only [push_cast,↓u1,↓u2,↓u3,Nat.reduceAdd,Nat.reduceBEq,Nat.reduceDiv,Nat.reduceMod]) (by dsimp only [push_cast,↓u1,↓u2,↓u3,Nat.reduceAdd,Nat.reduceBEq,Nat.reduceDiv,Nat.reduceMod]) (by kernel_rfl)
noncomputable abbrev cf25 (x0:Option Addr) (x0n x0c:Nat) (R:RT):Vn (C_ w0 25 #[.slice x0 x0n x0c,.func (.func 26) #[] #[]] m R):=mkF (F:=F25) Tryz.func25 (by dsimp only [push_cast,↓u1,↓u2,↓u3,Nat.reduceAdd,Nat.reduceBEq,Nat.reduceDiv,Nat.reduceMod]) (by kernel_rfl)
noncomputable abbrev cf28 (x0:Nat) (x1:Option Addr) (x1n x1c:Nat) (R:RT):Vn (C_ w0 28 #[pt_ x0,.slice x1 x1n x1c] m R):=mkF (F:=F28) Tryz.func28 (by dsimp only [push_cast,↓u1,↓u2,↓u3,Nat.reduceAdd,Nat.reduceBEq,Nat.reduceDiv,Nat.reduceMod]) (by kernel_rfl)
noncomputable abbrev vl28_111010 (σ:Sg) (R:RT) (x0 x5:Nat) (x13:Option Addr) (x13n x13c:Nat) (x14 x6 x15:Int) (I0:Nat->Int->Int->AM->Prop) (E0_0:AM->Prop) (N:Nat) (h0:σ 0=pt_ x0) (h5:σ 5=pt_ x5) (h6:σ 6=I_ x6) (h13:σ 13=.slice x13 x13n x13c) (h14:σ 14=I_ x14) (h15:σ 15=I_ x15) (h_0:I0 N x6 x15 m):Vn (Vn (XV w0 F28 (Tz R) 122 σ m)):=mkL1 (lq28_111010 R x0 x5 x13 x13n x13c x14 I0 E0_0) (fun _=>rfl) N (cs h0 (cs h5 (cs h13 (cs h14 nl)))) (cs h6 (cs h15 nl)) h_0 (by dsimp only [push_cast,↓u1,↓u2,↓u3,Nat.reduceAdd,Nat.reduceBEq,Nat.reduceDiv,Nat.reduceMod]) (by dsimp only [push_cast,↓u1,↓u2,↓u3,Nat.reduceAdd,Nat.reduceBEq,Nat.reduceDiv,Nat.reduceMod]) (by kernel_rfl)
noncomputable abbrev vl28_1110100110011010 (σ:Sg) (R:RT) (n0:Nat) (I0:Nat->Int->Int->AM->Prop) (E0_0:AM->Prop) (x0 x5:Nat) (x6:Int) (x8:Nat) (x13:Option Addr) (x13n x13c:Nat) (x14 x15:Int) (x24:Option Addr) (x24n x24c:Nat) (x25 x26:Int) (I1:Nat->Int->AM->Prop) (E1_2:AM->Prop) (N:Nat) (h0:σ 0=pt_ x0) (h5:σ 5=pt_ x5) (h6:σ 6=I_ x6) (h8:σ 8=pt_ x8) (h13:σ 13=.slice x13 x13n x13c) (h14:σ 14=I_ x14) (h15:σ 15=I_ x15) (h24:σ 24=.slice x24 x24n x24c) (h25:σ 25=I_ x25) (h26:σ 26=I_ x26) (h_0:I1 N x26 m):Vn (Vn (XV w0 F28 (lq28_111010 R x0 x5 x13 x13n x13c x14 I0 E0_0 n0) 125338 σ m)):=mkL1 (lq28_1110100110011010 R x0 x5 x6 x8 x13 x13n x13c x14 x15 x24 x24n x24c x25 I1 E1_2) (fun _=>rfl) N (cs h0 (cs h5 (cs h6 (cs h8 (cs h13 (cs h14 (cs h15 (cs h24 (cs h25 nl))))))))) (cs h26 nl) h_0 (by dsimp only [push_cast,↓u1,↓u2,↓u3,Nat.reduceAdd,Nat.reduceBEq,Nat.reduceDiv,Nat.reduceMod]) (by dsimp only [push_cast,↓u1,↓u2,↓u3,Nat.reduceAdd,Nat.reduceBEq,Nat.reduceDiv,Nat.reduceMod]) (by kernel_rfl)
noncomputable abbrev cf29 (x0:Nat) (x1:Option Addr) (x1n x1c:Nat) (R:RT):Vn (C_ w0 29 #[pt_ x0,.slice x1 x1n x1c] m R):=mkF (F:=F29) Tryz.func29 (by dsimp only [push_cast,↓u1,↓u2,↓u3,Nat.reduceAdd,Nat.reduceBEq,Nat.reduceDiv,Nat.reduceMod]) (by kernel_rfl)
noncomputable abbrev vl29_10 (σ:Sg) (R:RT) (x0:Nat) (x6:Option Addr) (x6n x6c:Nat) (x7 x8:Int) (I0:Nat->Int->AM->Prop) (E0_0:AM->Prop) (N:Nat) (h0:σ 0=pt_ x0) (h6:σ 6=.slice x6 x6n x6c) (h7:σ 7=I_ x7) (h8:σ 8=I_ x8) (h_0:I0 N x8 m):Vn (Vn (XV w0 F29 (Tz R) 6 σ m)):=mkL1 (lq29_10 R x0 x6 x6n x6c x7 I0 E0_0) (fun _=>rfl) N (cs h0 (cs h6 (cs h7 nl))) (cs h8 nl) h_0 (by dsimp only [push_cast,↓u1,↓u2,↓u3,Nat.reduceAdd,Nat.reduceBEq,Nat.reduceDiv,Nat.reduceMod]) (by dsimp only [push_cast,↓u1,↓u2,↓u3,Nat.reduceAdd,Nat.reduceBEq,Nat.reduceDiv,Nat.reduceMod]) (by kernel_rfl)
noncomputable abbrev cf30 (x0:Nat) (x1_0:ByteArray) (x1_1:Option Addr) (x1_1n x1_1c:Nat) (x1_2:Int) (x1_3:Option Addr) (x1_3n x1_3c:Nat) (x1_4:Option Addr) (x1_4n x1_4c:Nat) (x1_5:Option Addr) (x1_5n x1_5c:Nat) (x2_0 x2_1 x3_0 x3_1 x3_2:Int) (R:RT):Vn (C_ w0 30 #[pt_ x0,.agg #[.string x1_0,.slice x1_1 x1_1n x1_1c,I_ x1_2,.slice x1_3 x1_3n x1_3c,.slice x1_4 x1_4n x1_4c,.slice x1_5 x1_5n x1_5c],.agg #[I_ x2_0,I_ x2_1],.agg #[I_ x3_0,I_ x3_1,I_ x3_2]] m R):=mkF (F:=F30) Tryz.func30 (by dsimp only [push_cast,↓u1,↓u2,↓u3,Nat.reduceAdd,Nat.reduceBEq,Nat.reduceDiv,Nat.reduceMod]) (by kernel_rfl)
noncomputable abbrev vk30_1111 (σ:Sg) (R:RT) (x0:Nat) (x9:Int) (x10:Nat) (h0:σ 0=pt_ x0) (h9:σ 9=I_ x9) (h10:σ 10=pt_ x10):Vn (XV w0 F30 (Tz R) 31 σ m):=mkK (cs h0 (cs h9 (cs h10 nl))) (by dsimp only [push_cast,↓u1,↓u2,↓u3,Nat.reduceAdd,Nat.reduceBEq,Nat.reduceDiv,Nat.reduceMod]) (by kernel_rfl)
noncomputable abbrev cf12 (x0:Option Addr) (x0n x0c:Nat) (x1:Int) (R:RT):Vn (C_ w0 12 #[.slice x0 x0n x0c,I_ x1] m R):=mkF (F:=F12) Tryz.func12 (by dsimp only [push_cast,↓u1,↓u2,↓u3,Nat.reduceAdd,Nat.reduceBEq,Nat.reduceDiv,Nat.reduceMod]) (by kernel_rfl)
noncomputable abbrev vl12_111111010 (σ:Sg) (R:RT) (x4 x6:Nat) (x57:Option Addr) (x57n x57c:Nat) (x58 x59:Int) (I0:Nat->Int->AM->Prop) (E0_0:AM->Prop) (N:Nat) (h4:σ 4=pt_ x4) (h6:σ 6=pt_ x6) (h57:σ 57=.slice x57 x57n x57c) (h58:σ 58=I_ x58) (h59:σ 59=I_ x59) (h_0:I0 N x59 m):Vn (Vn (XV w0 F12 (Tz R) 1018 σ m)):=mkL1 (lq12_111111010 R x4 x6 x57 x57n x57c x58 I0 E0_0) (fun _=>rfl) N (cs h4 (cs h6 (cs h57 (cs h58 nl)))) (cs h59 nl) h_0 (by dsimp only [push_cast,↓u1,↓u2,↓u3,Nat.reduceAdd,Nat.reduceBEq,Nat.reduceDiv,Nat.reduceMod]) (by dsimp only [push_cast,↓u1,↓u2,↓u3,Nat.reduceAdd,Nat.reduceBEq,Nat.reduceDiv,Nat.reduceMod]) (by kernel_rfl)
noncomputable abbrev vl12_11111101001100110 (σ:Sg) (R:RT) (n0:Nat) (I0:Nat->Int->AM->Prop) (E0_0:AM->Prop) (x4 x6:Nat) (x7:Int) (x8:Nat) (x57:Option Addr) (x57n x57c:Nat) (x58 x59:Int) (x65:Option Addr) (x65n x65c:Nat) (x66 x67:Int) (I1:Nat->Int->AM->Prop) (E1_2:AM->Prop) (N:Nat) (h4:σ 4=pt_ x4) (h6:σ 6=pt_ x6) (h7:σ 7=I_ x7) (h8:σ 8=pt_ x8) (h57:σ 57=.slice x57 x57n x57c) (h58:σ 58=I_ x58) (h59:σ 59=I_ x59) (h65:σ 65=.slice x65 x65n x65c) (h66:σ 66=I_ x66) (h67:σ 67=I_ x67) (h_0:I1 N x67 m):Vn (Vn (XV w0 F12 (lq12_111111010 R x4 x6 x57 x57n x57c x58 I0 E0_0 n0) 260710 σ m)):=mkL1 (lq12_11111101001100110 R x4 x6 x7 x8 x57 x57n x57c x58 x59 x65 x65n x65c x66 I1 E1_2) (fun _=>rfl) N (cs h4 (cs h6 (cs h7 (cs h8 (cs h57 (cs h58 (cs h59 (cs h65 (cs h66 nl))))))))) (cs h67 nl) h_0 (by dsimp only [push_cast,↓u1,↓u2,↓u3,Nat.reduceAdd,Nat.reduceBEq,Nat.reduceDiv,Nat.reduceMod]) (by dsimp only [push_cast,↓u1,↓u2,↓u3,Nat.reduceAdd,Nat.reduceBEq,Nat.reduceDiv,Nat.reduceMod]) (by kernel_rfl)
end Go.Proofs.YtgjamnhjlaohaaaGreatDoor.V
namespace Go.Proofs.YtgjamnhjlaohaaaGreatDoor.S
open Go Go.RowKit Go.Alog Go.Proofs.YtgjamnhjlaohaaaGreatDoor.T Go.Proofs.YtgjamnhjlaohaaaGreatDoor.V
def bsC (b:Int × Int):List Value:=[.int .i64 b.1,.int .i64 b.2]
def LJb (A0:Option Addr) (n0 c0:Nat) (data:Int) (A2:Option Addr) (n2 c2 r:Nat) (mem:Int):Array Value:=#[.slice A0 n0 c0,.int .i64 data,.slice A2 n2 c2,.map (some r),.int .i64 mem]
structure LJ (m0 m:AM) (B x:Nat) (code:List Ins) (data:Int) (bs:List (Int × Int)) (mem:Int) (kv:List (ByteArray × Int)) (A0:Option Addr) (c0:Nat) (A2:Option Addr) (c2 r:Nat) (es:Array MapEntry) (clk:Nat):Prop where
 le:m0.le m
 hB:B<=x
 nx:m0 x=none
 ps:m x=some (.cells (LJb A0 code.length c0 data A2 bs.length c2 r mem) 82 (0,0))
 oc:Alog.Own m B 57 5 A0 code.length c0 (insCells code)
 nc:∀ k∈obl A0,m0 k=none
 ob:Alog.Own m B 89 2 A2 bs.length c2 (bs.flatMap bsC)
 nb:∀ k∈obl A2,m0 k=none
 Br:B<=r
 nr:m0 r=none
 pr:m r=some (.map es clk)
 mr:MapS es (opsK kv)
def LJx (m0 m:AM) (B x:Nat) (code:List Ins) (data:Int) (bs:List (Int × Int)) (mem:Int):Prop:=∃ kv A0 c0 A2 c2 r es clk,LJ m0 m B x code data bs mem kv A0 c0 A2 c2 r es clk
theorem elB:elOf Tryz.prog 80=some (89,2,16,bsC (0,0)):=by kernel_rfl
theorem uMI:Tryz.prog.underlying 79=some (.map 9 3):=by kernel_rfl
section
variable {m0 m m':AM} {B x:Nat} {code:List Ins} {data:Int} {bs:List (Int × Int)} {mem:Int} {kv:List (ByteArray × Int)} {A0:Option Addr} {c0:Nat} {A2:Option Addr} {c2 r:Nat} {es:Array MapEntry} {clk:Nat}
theorem LJ.grow (h:LJ m0 m B x code data bs mem kv A0 c0 A2 c2 r es clk) (l:m.le m'):LJ m0 m' B x code data bs mem kv A0 c0 A2 c2 r es clk :=
 ⟨AM.le_trans h.le l,h.hB,h.nx,l _ _ h.ps,h.oc.le l,h.nc,h.ob.le l,h.nb,h.Br,h.nr,l _ _ h.pr,h.mr⟩
theorem LJx.grow (h:LJx m0 m B x code data bs mem) (l:m.le m'):LJx m0 m' B x code data bs mem:=by
 obtain ⟨_,_,_,_,_,_,_,_,h⟩:=h
 exact ⟨_,_,_,_,_,_,_,_,h.grow l⟩
theorem LJx.le (h:LJx m0 m B x code data bs mem):m0.le m:=by
 obtain ⟨_,_,_,_,_,_,_,_,h⟩:=h
 exact h.le
theorem LJ.rx (h:LJ m0 m B x code data bs mem kv A0 c0 A2 c2 r es clk):r≠x:=fun e=>by have:=h.ps; rw [<- e,h.pr] at this; cases this
theorem LJ.base {m1:AM} (h:LJ m1 m B x code data bs mem kv A0 c0 A2 c2 r es clk) (l:m0.le m1):LJ m0 m B x code data bs mem kv A0 c0 A2 c2 r es clk :=
 ⟨AM.le_trans l h.le,h.hB,AM.le_none l h.nx,h.ps,h.oc,fun k hk=>AM.le_none l (h.nc k hk),h.ob,fun k hk=>AM.le_none l (h.nb k hk),h.Br,AM.le_none l h.nr,h.pr,h.mr⟩
theorem LJx.base {m1:AM} (h:LJx m1 m B x code data bs mem) (l:m0.le m1):LJx m0 m B x code data bs mem:=by
 obtain ⟨_,_,_,_,_,_,_,_,h⟩:=h
 exact ⟨_,_,_,_,_,_,_,_,h.base l⟩
theorem LJ.box (h:LJ m0 m B x code data bs mem kv A0 c0 A2 c2 r es clk) {b:Nat} (hb:m b=none) (o:Obj):LJ (m0.upd b o) (m.upd b o) B x code data bs mem kv A0 c0 A2 c2 r es clk:=by
 have hn:∀ {k:Nat},m k≠none->m0 k=none->(m0.upd b o) k=none:=fun {k} h1 h2=>by
  have:k≠b:=fun e=>h1 (e ▸ hb)
  rw [upd_get_ne this]; exact h2
 have g:=h.grow (le_new hb o)
 refine ⟨?_,g.hB,hn (by rw [h.ps]; simp) h.nx,g.ps,g.oc,fun k hk=>hn ?_ (h.nc k hk),g.ob,fun k hk=>hn ?_ (h.nb k hk),g.Br,hn (by rw [h.pr]; simp) h.nr,g.pr,g.mr⟩
 .intro k o' hk
  by_cases e:k=b
  .subst e; rw [upd_get_same] at hk ⊢; exact hk
  .rw [upd_get_ne e] at hk ⊢; exact h.le _ _ hk
 .obtain ⟨_,cur,h1⟩:=h.oc.obl_some hk
  rw [h1]; simp
 .obtain ⟨_,cur,h1⟩:=h.ob.obl_some hk
  rw [h1]; simp
theorem LJ.le_x (h:LJ m0 m B x code data bs mem kv A0 c0 A2 c2 r es clk) (l:m0.le m') (o:Obj):m0.le (m'.upd x o):=fun k o' hk=>by
 have:k≠x:=fun e=>by rw [e,h.nx] at hk; cases hk
 rw [upd_get_ne this]; exact l _ _ hk
theorem LJ.setData (h:LJ m0 m B x code data bs mem kv A0 c0 A2 c2 r es clk) (d:Int) {K:AM->Prop} (hK:∀ m',LJx m0 m' B x code d bs mem->K m'):StC B m ⟨x,1,none⟩ (.int .i64 d) K:=by
 refine StC_own h.ps h.hB (by simp [LJb]) (hK _ ⟨kv,A0,c0,A2,c2,r,es,clk,h.le_x h.le _,h.hB,h.nx,upd_get_same,h.oc.upd fun off e=>h.oc.ne_type h.ps (by decide) off e,h.nc,h.ob.upd fun off e=>h.ob.ne_type h.ps (by decide) off e,h.nb,h.Br,h.nr,?_,h.mr⟩)
 rw [upd_get_ne h.rx]; exact h.pr
theorem LJ.addBase (h:LJ m0 m B x code data bs mem kv A0 c0 A2 c2 r es clk) (hl:bs.length<=1000000) (b:Int × Int) {A:Option Addr} {c:Nat} (hr:Reads m 2 A 1 (bsC b)) {K:AM->Prop} (hK:∀ m',LJx m0 m' B x code data (bs ++ [b]) mem->m'.le m'->(∀ k o,m k=some o->k≠x->k∉obl A2->m' k=some o)->K m') :
  awp Tryz.prog B (Builtin.append_ #[80,80] 80 #[.slice A2 bs.length c2,.slice A 1 c]) m fun v m1=>∃ (A':Option Addr) (n' c':Nat),v=.slice A' n' c'/\StC B m1 ⟨x,2,none⟩ (.slice A' n' c') K:=by
 refine awp_append_field elB h.ob hr (by simp [bsC,Value.oneCell']) (by omega) (by omega) (by omega) h.ps h.hB (by decide) (by simp [LJb]) (fun g2 cp' cur hor hB2 hgg hown=>hK _ ?_ (AM.le_refl _) ?_)
 .have hg0:m0 g2=none:=by
   rcases hor with h' | h'
   .exact h.nb g2 (by rw [h']; simp [obl])
   .exact AM.le_none h.le h'
  have hrg:r≠g2:=fun e=>by
   rcases hor with h' | h'
   .obtain ⟨_,cur',k2⟩:=h.ob.obl_some (k:=g2) (by rw [h']; simp [obl])
    rw [<- e,h.pr] at k2; cases k2
   .rw [<- e,h.pr] at h'; cases h'
  have hcg:∀ off,A0≠some ⟨g2,off,none⟩:=fun off e=>by
   rcases hor with h' | h'
   .obtain ⟨_,cur',k2⟩:=h.ob.obl_some (k:=g2) (by rw [h']; simp [obl])
    exact h.oc.ne_type k2 (by decide) off e
   .exact h.oc.ne_none h' off e
  refine ⟨kv,A0,c0,some ⟨g2,0,none⟩,cp',r,es,clk,h.le_x (fun k o hk=>?_) _,h.hB,h.nx,?_,(h.oc.upd hcg).upd fun off e=>h.oc.ne_type h.ps (by decide) off e,h.nc,?_,fun k hk=>?_,h.Br,h.nr,?_,h.mr⟩
  .have e2:k≠g2:=fun e=>by rw [e,hg0] at hk; cases hk
   rw [upd_get_ne e2]; exact h.le _ _ hk
  .rw [upd_get_same]; simp [LJb]
  .simpa [bsC] using hown
  .simp [obl] at hk; rw [hk]; exact hg0
  .rw [upd_get_ne h.rx,upd_get_ne hrg]; exact h.pr
 .intro k o hk hx hA
  have e2:k≠g2:=fun e=>by
   rcases hor with h' | h'
   .exact hA (by rw [h']; simp [obl,e])
   .rw [e,h'] at hk; cases hk
  rw [upd_get_ne hx,upd_get_ne e2]; exact hk
theorem LJ.addCode (h:LJ m0 m B x code data bs mem kv A0 c0 A2 c2 r es clk) (hl:code.length<=1000000) (cs:List Ins) (hl2:cs.length<=1000000) {A:Option Addr} {c:Nat} (hr:Reads m 5 A cs.length (insCells cs)) {K:AM->Prop} (hK:∀ m',LJx m0 m' B x (code ++ cs) data bs mem->(∀ k o,m k=some o->k≠x->k∉obl A0->m' k=some o)->K m') :
  awp Tryz.prog B (Builtin.append_ #[25,25] 25 #[.slice A0 code.length c0,.slice A cs.length c]) m fun v m1=>∃ (A':Option Addr) (n' c':Nat),v=.slice A' n' c'/\StC B m1 ⟨x,0,none⟩ (.slice A' n' c') K:=by
 refine awp_append_own elI h.oc hr (ins_one' _) (by omega) (by omega) (fun g2 cp' cur hor hB2 hown=>?_) (fun h0 hA=>?_)
 .have hg0:m0 g2=none:=by
   rcases hor with h' | h'
   .exact h.nc g2 (by rw [h']; simp [obl])
   .exact AM.le_none h.le h'
  have hrg:r≠g2:=fun e=>by
   rcases hor with h' | h'
   .obtain ⟨_,cur',k2⟩:=h.oc.obl_some (k:=g2) (by rw [h']; simp [obl])
    rw [<- e,h.pr] at k2; cases k2
   .rw [<- e,h.pr] at h'; cases h'
  have hxg:x≠g2:=fun e=>by
   rcases hor with h' | h'
   .obtain ⟨_,cur',k2⟩:=h.oc.obl_some (k:=g2) (by rw [h']; simp [obl])
    rw [<- e,h.ps] at k2; cases k2
   .rw [<- e,h.ps] at h'; cases h'
  have hbg:∀ off,A2≠some ⟨g2,off,none⟩:=fun off e=>by
   rcases hor with h' | h'
   .obtain ⟨_,cur',k2⟩:=h.oc.obl_some (k:=g2) (by rw [h']; simp [obl])
    exact h.ob.ne_type k2 (by decide) off e
   .exact h.ob.ne_none h' off e
  have hps:(m.upd g2 (.cells cur 57)) x=some (.cells (LJb A0 code.length c0 data A2 bs.length c2 r mem) 82 (0,0)):=by rw [upd_get_ne hxg]; exact h.ps
  have hown2:=hown.upd (o:=.cells ((LJb A0 code.length c0 data A2 bs.length c2 r mem).setIfInBounds 0 (.slice (some ⟨g2,0,none⟩) (code.length+cs.length) cp')) 82) fun off e=>hown.ne_type hps (by decide) off e
  refine ⟨_,_,_,rfl,StC_own hps h.hB (by simp [LJb]) (hK _ ⟨kv,some ⟨g2,0,none⟩,cp',A2,c2,r,es,clk,h.le_x (fun k o hk=>?_) _,h.hB,h.nx,?_,?_,fun k hk=>?_,(h.ob.upd hbg).upd fun off e=>h.ob.ne_type h.ps (by decide) off e,h.nb,h.Br,h.nr,?_,h.mr⟩ fun k o hk hx hA=>?_)⟩
  .have e2:k≠g2:=fun e=>by rw [e,hg0] at hk; cases hk
   rw [upd_get_ne e2]; exact h.le _ _ hk
  .rw [upd_get_same]; simp [LJb]
  .rw [insCells_app,List.length_append]; exact hown2
  .simp [obl] at hk; rw [hk]; exact hg0
  .rw [upd_get_ne h.rx,upd_get_ne hrg]; exact h.pr
  .have e2:k≠g2:=fun e=>by
    rcases hor with h' | h'
    .exact hA (by rw [h']; simp [obl,e])
    .rw [e,h'] at hk; cases hk
   rw [upd_get_ne hx,upd_get_ne e2]; exact hk
 .have e1:code = []:=List.eq_nil_of_length_eq_zero (by omega)
  have e2:cs = []:=List.eq_nil_of_length_eq_zero (by omega)
  subst e1; subst e2
  refine ⟨none,0,0,rfl,StC_own h.ps h.hB (by simp [LJb]) (hK _ ⟨kv,none,0,A2,c2,r,es,clk,h.le_x h.le _,h.hB,h.nx,upd_get_same,Alog.Own.nil _ _ _ _,by simp [obl],h.ob.upd fun off e=>h.ob.ne_type h.ps (by decide) off e,h.nb,h.Br,h.nr,?_,h.mr⟩ fun k o hk hx _=>?_)⟩
  .rw [upd_get_ne h.rx]; exact h.pr
  .rw [upd_get_ne hx]; exact hk
theorem LJ.row (h:LJ m0 m B x code data bs mem kv A0 c0 A2 c2 r es clk) {Aa:Addr} (hA:A0=some Aa) {k:Nat} (hk:k<code.length) (i:Ins) {K:AM->Prop}
  (hK:∀ m',LJx m0 m' B x (code.set k i) data bs mem->K m'):StL B (Aa.add (k*5)) 0 i.cells m K:=by
 have ho:=h.oc
 rw [hA] at ho
 refine Own.storeRow (f:=Ins.cells) (l:=code) Ins.len ho hk i fun gA cur hA' hn=>hK _ ⟨kv,some Aa,c0,A2,c2,r,es,clk,fun k' o hk'=>?_,h.hB,h.nx,?_,?_,fun k hk=>h.nc k (by rw [hA]; exact hk),h.ob.upd fun off e=>?_,h.nb,h.Br,h.nr,?_,h.mr⟩
 .have:k'≠gA:=fun e=>by
   have:=h.nc gA (by rw [hA,hA']; simp [obl])
   rw [e,this] at hk'; cases hk'
  rw [upd_get_ne this]; exact h.le _ _ hk'
 .have:x≠gA:=fun e=>by
   obtain ⟨_,cur',k2⟩:=ho.obl_some (k:=gA) (by rw [hA']; simp [obl])
   rw [<- e,h.ps] at k2; cases k2
  rw [upd_get_ne this,h.ps,hA]
  simp
 .exact hn
 .obtain ⟨_,cur',k2⟩:=ho.obl_some (k:=gA) (by rw [hA']; simp [obl])
  exact h.ob.ne_type k2 (by decide) off e
 .have:r≠gA:=fun e=>by
   obtain ⟨_,cur',k2⟩:=ho.obl_some (k:=gA) (by rw [hA']; simp [obl])
   rw [<- e,h.pr] at k2; cases k2
  rw [upd_get_ne this]; exact h.pr
end
def adjP (data mem:Int) (b:Int × Int) (p:Pch) (imm:Int):Int :=
 if p.kind=0 then IntKind.wrap .i64 (imm+b.1) else if p.kind=1 then IntKind.wrap .i64 (imm+b.2) else if p.kind=3 then IntKind.wrap .i64 (imm-data) else if p.kind=4 then IntKind.wrap .i64 (imm+mem) else imm
def atP' (b:Int × Int) (p:Pch):Nat:=(b.1+p.pos).toNat
def withImm (i:Ins) (x:Int):Ins:={ i with imm:=x }
def oPat (m0:AM) (B x:Nat) (code:List Ins) (data:Int) (bs:List (Int × Int)) (mem:Int) (b:Int × Int) (p:Pch) (r:Value) (m':AM):Prop:=∃ e imm:Int,r=.int .i64 e/\(p.kind≠2->imm=adjP data mem b p (cAt code (atP' b p)).imm) /\
 ((e=0/\rightR (withImm (cAt code (atP' b p)) imm)=true/\LJx m0 m' B x (code.set (atP' b p) (withImm (cAt code (atP' b p)) imm)) data bs mem)\/(e≠0/\(p.kind≠2->rightR (withImm (cAt code (atP' b p)) imm)=false)/\LJx m0 m' B x code data bs mem))
theorem patch_w (w0:World) (m0 m:AM) (x:Nat) (code:List Ins) (data:Int) (bs:List (Int × Int)) (mem:Int) (hJ:LJx m0 m w0.heap.size x code data bs mem) (o:Ob) (v:List Value) (hv:ObA m0 o v) (b:Int × Int) (p:Pch) (hp:patOk o.code.length o.imps.length p=true) (hat:0<=b.1/\b.1+o.code.length<=code.length) (hl:code.length<=1000000) :
  CallsA Tryz.prog w0 30 #[.pointer (some ⟨x,0,none⟩),.agg v.toArray,.agg #[.int .i64 b.1,.int .i64 b.2],p.val] m (oPat m0 w0.heap.size x code data bs mem b p):=by
 generalize hR:oPat m0 w0.heap.size x code data bs mem b p=R
 have hv:=hv.le hJ.le
 obtain ⟨A1,c1,A2,c2,A3,c3,A4,c4,rfl,rd1,k1,rd2,k2,rd3,k3,rd4,k4⟩:=hv
 obtain ⟨kv,A0,c0,Ab,cb,rr,es,clk,hJ⟩:=hJ
 unfold patOk patBad at hp
 simp only [Bool.and_eq_true,decide_eq_true_eq,Bool.not_eq_true',Bool.or_eq_false_iff,Bool.and_eq_false_iff,bne_eq_false_iff_eq,beq_eq_false_iff_ne,decide_eq_false_iff_not] at hp
 obtain ⟨⟨hp1,hp2⟩,hp3,hp4,hp5,hp6⟩:=hp
 have hw:IntKind.wrap .i64 (b.1+p.pos)=b.1+p.pos:=by rw [IntKind.wrap_i64]; omega
 refine cf30 w0 m x _ _ _ _ _ _ _ _ _ _ _ _ _ _ _ _ _ _ _ R ?_
 intro b1 hB1 hN1 M1
 have l1:m.le M1:=le_new hN1 _
 have p1:M1 b1=some (.cells (obVal o.name A1 o.code.length c1 o.data A2 o.exps.length c2 A3 o.imps.length c3 A4 o.pats.length c4).toArray 45):=upd_get_same
 clear_value M1
 intro b3 hB3 hN3 M2
 have l2:M1.le M2:=le_new hN3 _
 have p3:M2 b3=some (.cells (bsC b).toArray 89):=upd_get_same
 clear_value M2
 intro b5 hB5 hN5 M3
 have l3:M2.le M3:=le_new hN5 _
 have p5:M3 b5=some (.cells p.cells.toArray 86):=upd_get_same
 clear_value M3
 have p3:=l3 _ _ p3
 have p1:=l3 _ _ (l2 _ _ p1)
 have l:=AM.le_trans l1 (AM.le_trans l2 l3)
 have hJ:=hJ.grow l
 refine ⟨_,cel p3 rfl,_,cel p5 rfl,rfl,_,_,_,cel hJ.ps rfl,?_⟩
 rw [hw]
 obtain ⟨ad,hA,hc⟩:=hJ.oc.ex (by omega)
 have hk:atP' b p<code.length:=by unfold atP'; omega
 obtain ⟨e0,e1,e2,e3,e4⟩:=hc.ins (cAt_some (code:=code) (i:=b.1+p.pos) (by omega) (by omega))
 refine ⟨⟨by omega,by omega⟩,nilO_at hA ⟨_,e0,_,e1,_,e2,_,e3,_,e4,blk5 fun bi M lM hn hB pi=>?_⟩⟩
 have hci:cAt code (b.1+p.pos)=cAt code (atP' b p):=by unfold atP'; rw [show (((b.1+p.pos).toNat:Nat):Int)=b.1+p.pos by omega]
 rw [hci] at pi
 generalize hi:cAt code (atP' b p)=i at pi
 replace pi:M bi=some (.cells i.cells.toArray 57):=pi
 have lup:∀ {M':AM} {o:Obj},M3.le M'->M3.le (M'.upd bi o):=fun l k o hk=>by
  have:k≠bi:=fun e=>by rw [e,hn] at hk; cases hk
  rw [upd_get_ne this]; exact l _ _ hk
 have K:∀ (M':AM) (imm:Int) (σ:Sg),M3.le M'->M' bi=some (.cells (withImm i imm).cells.toArray 57)->(p.kind≠2->imm=adjP data mem b p i.imm)->σ 0=.pointer (some ⟨x,0,none⟩)->σ 9=.int .i64 (b.1+p.pos)->σ 10=.pointer (some ⟨bi,0,none⟩)->(XV w0 F30 (Tz R) 31 σ M'):=by
  intro M' imm σ l' pi' ha h0 h9 h10
  refine vk30_1111 w0 M' σ R x (b.1+p.pos) bi h0 h9 h10 (ldIns pi' (callB (right_e w0 M' (withImm i imm)) ?_))
  have g:=hJ.grow l'
  refine bcI (fun h=>retP_of ?_) fun h=>⟨_,_,_,cel g.ps rfl,ldIns pi' ⟨⟨by omega,by omega⟩,nilO_at hA ?_⟩⟩
  .rw [<- hR]
   refine ⟨3,imm,rfl,by rw [hi]; exact ha,.inr ⟨by decide,fun _=>by rw [hi]; simpa using h,⟨_,_,_,_,_,_,_,_,g⟩⟩⟩
  .have:=g.row hA hk (withImm i imm) (K:=fun m'=>RetP R (.int .i64 0) m') fun m' h'=>retP_of (by
    rw [<- hR]
    exact ⟨0,imm,rfl,by rw [hi]; exact ha,.inl ⟨rfl,by rw [hi]; simpa using h,by rw [hi]; exact h'⟩⟩)
   exact this
 have st:∀ (imm:Int) (L:AM->Prop),(∀ M',M3.le M'->M' bi=some (.cells (withImm i imm).cells.toArray 57)->L M')->StC w0.heap.size M ⟨bi,4,none⟩ (.int .i64 imm) L:=fun imm L h =>
  StC_own pi hB (by simp [Ins.cells]) (h _ (lup lM) upd_get_same)
 have g:=hJ.grow lM
 have q3:=lM _ _ p3
 have q5:=lM _ _ p5
 have q1:=lM _ _ p1
 have adj:∀ k:Int,p.kind=k->∀ x:Int,(k≠2->x=if k=0 then IntKind.wrap .i64 (i.imm+b.1) else if k=1 then IntKind.wrap .i64 (i.imm+b.2) else if k=3 then IntKind.wrap .i64 (i.imm-data) else if k=4 then IntKind.wrap .i64 (i.imm+mem) else i.imm)->(p.kind≠2->x=adjP data mem b p i.imm):=fun k hk x h hne=>by
  unfold adjP
  rw [hk] at hne ⊢
  exact h hne
 refine ⟨_,cel q5 rfl,rfl,?_⟩
 by_cases c0:p.kind=0
 .refine bcET (by rw [c0]; rfl) ⟨_,cel pi rfl,_,cel q3 rfl,rfl,st _ _ fun M' l' pi'=>K M' _ _ l' pi' (adj 0 c0 _ fun _=>rfl) rfl rfl rfl⟩
 refine bcEF (by simpa using c0) ⟨rfl,?_⟩
 by_cases c1':p.kind=1
 .refine bcET (by rw [c1']; rfl) ⟨_,cel pi rfl,_,cel q3 rfl,rfl,st _ _ fun M' l' pi'=>K M' _ _ l' pi' (adj 1 c1' _ fun _=>rfl) rfl rfl rfl⟩
 refine bcEF (by simpa using c1') ⟨rfl,?_⟩
 by_cases c2':p.kind=2
 .have hn0:0<=p.n/\p.n<o.imps.length:=by
   rcases hp2 with h | h
   .exact absurd c2' h
   .omega
  obtain ⟨ai,hAi,hci⟩:=((rd3.le l).le lM).ex (by omega)
  refine bcET (by rw [c2']; rfl) ⟨_,cel g.ps rfl,_,_,_,cel q1 rfl,_,cel q5 rfl,⟨by omega,by omega⟩,nilO_at hAi ⟨o.imps[p.n.toNat]'(by omega),?_,?_⟩⟩
  .rw [show p.n.toNat*1=p.n.toNat by omega]
   exact hci p.n.toNat _ (by simp [show p.n.toNat<o.imps.length by omega])
  obtain ⟨y,ok,hy⟩:=gotK kv (o.imps[p.n.toNat]'(by omega)) 0
  refine ⟨y,ok,by rw [lookup_str uMI uS zI g.pr g.mr,hy],?_⟩
  cases ok
  .refine bcT (retP_of ?_)
   rw [<- hR]
   exact ⟨5,i.imm,rfl,fun h=>absurd c2' h,.inr ⟨by decide,fun h=>absurd c2' h,⟨_,_,_,_,_,_,_,_,g⟩⟩⟩
  .refine bcF (st _ _ fun M' l' pi'=>K M' _ _ l' pi' (fun h=>absurd c2' h) rfl rfl rfl)
 refine bcEF (by simpa using c2') ⟨rfl,?_⟩
 by_cases c3':p.kind=3
 .refine bcET (by rw [c3']; rfl) ⟨_,cel pi rfl,_,cel g.ps rfl,rfl,st _ _ fun M' l' pi'=>K M' _ _ l' pi' (adj 3 c3' _ fun _=>rfl) rfl rfl rfl⟩
 refine bcEF (by simpa using c3') ⟨rfl,?_⟩
 by_cases c4':p.kind=4
 .refine bcET (by rw [c4']; rfl) ⟨_,cel pi rfl,_,cel g.ps rfl,rfl,st _ _ fun M' l' pi'=>K M' _ _ l' pi' (adj 4 c4' _ fun _=>rfl) rfl rfl rfl⟩
 omega
structure OV where
 o:Ob
 A1:Option Addr
 c1:Nat
 A2:Option Addr
 c2:Nat
 A3:Option Addr
 c3:Nat
 A4:Option Addr
 c4:Nat
def OV.cells (x:OV):List Value:=obVal x.o.name x.A1 x.o.code.length x.c1 x.o.data x.A2 x.o.exps.length x.c2 x.A3 x.o.imps.length x.c3 x.A4 x.o.pats.length x.c4
structure OV.ok (m:AM) (x:OV):Prop where
 r1:Reads m 5 x.A1 x.o.code.length (insCells x.o.code)
 k1:x.o.code.length<=x.c1
 r2:Reads m 2 x.A2 x.o.exps.length (x.o.exps.flatMap Sbl.cells)
 k2:x.o.exps.length<=x.c2
 r3:Reads m 1 x.A3 x.o.imps.length (x.o.imps.map Value.string)
 k3:x.o.imps.length<=x.c3
 r4:Reads m 3 x.A4 x.o.pats.length (x.o.pats.flatMap Pch.cells)
 k4:x.o.pats.length<=x.c4
 sm:x.o.small 100000
theorem OV.ok.le {m m':AM} {x:OV} (h:x.ok m) (l:m.le m'):x.ok m':=⟨h.r1.le l,h.k1,h.r2.le l,h.k2,h.r3.le l,h.k3,h.r4.le l,h.k4,h.sm⟩
theorem OV.ok.obA {m:AM} {x:OV} (h:x.ok m):ObA m x.o x.cells:=⟨x.A1,x.c1,x.A2,x.c2,x.A3,x.c3,x.A4,x.c4,rfl,h.r1,h.k1,h.r2,h.k2,h.r3,h.k3,h.r4,h.k4⟩
theorem ObA.ov {m:AM} {o:Ob} {v:List Value} (h:ObA m o v) (hs:o.small 100000):∃ x:OV,x.o=o/\v=x.cells/\x.ok m:=by
 obtain ⟨A1,c1,A2,c2,A3,c3,A4,c4,rfl,h1,h2,h3,h4,h5,h6,h7,h8⟩:=h
 exact ⟨⟨o,A1,c1,A2,c2,A3,c3,A4,c4⟩,rfl,rfl,h1,h2,h3,h4,h5,h6,h7,h8,hs⟩
theorem ldOV {m:AM} {A:Option Addr} {xs:List OV} (rd:Reads m 6 A xs.length (xs.flatMap OV.cells)) {q:Nat} (hq:q<xs.length) {K:Addr->ByteArray->Option Addr->Nat->Nat->Int->Option Addr->Nat->Nat->Option Addr->Nat->Nat->Option Addr->Nat->Nat->Prop}
  (hK:∀ a,K a xs[q].o.name xs[q].A1 xs[q].o.code.length xs[q].c1 xs[q].o.data xs[q].A2 xs[q].o.exps.length xs[q].c2 xs[q].A3 xs[q].o.imps.length xs[q].c3 xs[q].A4 xs[q].o.pats.length xs[q].c4) :
  ((0:Int)<=(q:Int)/\(q:Int)<((xs.length:Nat):Int))/\nilO A fun a=>∃ s1:ByteArray,m.cell (a.add ((q:Int).toNat*6))=some (.string s1)/\∃ (B1:Option Addr) (k1 d1:Nat),m.cell ((a.add ((q:Int).toNat*6)).add 1)=some (.slice B1 k1 d1)/\∃ i:Int,m.cell ((a.add ((q:Int).toNat*6)).add 2)=some (.int .i64 i)/\∃ (B2:Option Addr) (k2 d2:Nat),m.cell ((a.add ((q:Int).toNat*6)).add 3)=some (.slice B2 k2 d2)/\∃ (B3:Option Addr) (k3 d3:Nat),m.cell ((a.add ((q:Int).toNat*6)).add 4)=some (.slice B3 k3 d3)/\∃ (B4:Option Addr) (k4 d4:Nat),m.cell ((a.add ((q:Int).toNat*6)).add 5)=some (.slice B4 k4 d4)/\K a s1 B1 k1 d1 i B2 k2 d2 B3 k3 d3 B4 k4 d4:=by
 obtain ⟨ad,hA,hc⟩:=rd.ex (by omega)
 have hat:=fun j hj=>Cells.at (j:=j) (f:=OV.cells) (sz:=6) (fun _=>rfl) hc (List.getElem?_eq_getElem hq) hj
 refine ⟨⟨by omega,by omega⟩,nilO_at hA ?_⟩
 rw [show (q:Int).toNat=q by omega]
 exact ⟨_,hat 0 (by omega),_,_,_,(by rw [add_add]; exact hat 1 (by omega)),_,(by rw [add_add]; exact hat 2 (by omega)),_,_,_,(by rw [add_add]; exact hat 3 (by omega)),_,_,_,(by rw [add_add]; exact hat 4 (by omega)),_,_,_,(by rw [add_add]; exact hat 5 (by omega)),hK _⟩
theorem new6 {B:Nat} {m:AM} (x:OV) {K:Nat->AM->Prop} (hK:∀ b,B<=b->m b=none->K b (m.upd b (.cells x.cells.toArray 45))) :
  ∀ b:Nat,B<=b->m b=none->let m1:=AM.upd m b (.cells #[.string ByteArray.empty,.slice none 0 0,.int .i64 0,.slice none 0 0,.slice none 0 0,.slice none 0 0] 45);
  StC B m1 ⟨b,0,none⟩ (.string x.o.name) fun m2=>StC B m2 ⟨b,1,none⟩ (.slice x.A1 x.o.code.length x.c1) fun m3=>StC B m3 ⟨b,2,none⟩ (.int .i64 x.o.data) fun m4=>StC B m4 ⟨b,3,none⟩ (.slice x.A2 x.o.exps.length x.c2) fun m5=>StC B m5 ⟨b,4,none⟩ (.slice x.A3 x.o.imps.length x.c3) fun m6=>StC B m6 ⟨b,5,none⟩ (.slice x.A4 x.o.pats.length x.c4) fun m7=>K b m7:=by
 intro b hB hN
 refine fill6 (z:=zObj) hB rfl upd_get_same _ _ _ _ _ _ _ _ _ _ _ _ _ _ ?_
 rw [upd_upd]
 exact hK b hB hN
theorem SSet.le {m0 m:AM} {B s n:Nat} (h:SSet m0 m B s n):m0.le m:=by
 obtain ⟨_,_,_,_,_,h⟩:=h
 exact h.le
theorem SSet.box {m0 m:AM} {B s n:Nat} (h:SSet m0 m B s n) {b:Nat} (hb:m b=none) (o:Obj):SSet (m0.upd b o) (m.upd b o) B s n:=by
 obtain ⟨mp,A,c,xs,ks,h⟩:=h
 have hn:∀ {k:Nat},m k≠none->m0 k=none->(m0.upd b o) k=none:=fun {k} h1 h2=>by
  have:k≠b:=fun e=>h1 (e ▸ hb)
  rw [upd_get_ne this]; exact h2
 have hk:∀ {k:Nat} {o':Obj},m k=some o'->(m.upd b o) k=some o':=fun {k o'} h1=>by
  have:k≠b:=fun e=>by rw [e,hb] at h1; cases h1
  rw [upd_get_ne this]; exact h1
 refine ⟨mp,A,c,xs,ks,?_,hn (by rw [h.ps]; simp) h.ns,h.hB,hk h.ps,h.ow.le (le_new hb _),fun k hk=>hn ?_ (h.nw k hk),?_⟩
 .intro k o' hk'
  by_cases e:k=b
  .subst e; rw [upd_get_same] at hk' ⊢; exact hk'
  .rw [upd_get_ne e] at hk' ⊢; exact h.le _ _ hk'
 .obtain ⟨_,cur,h1⟩:=h.ow.obl_some hk
  rw [h1]; simp
 .rcases h.mh with h1 | ⟨r,es,clk,h1,h2,h3,h4,h5⟩
  .exact .inl h1
  .exact .inr ⟨r,es,clk,h1,h2,hn (by rw [h4]; simp) h3,hk h4,h5⟩
theorem SSet.poke {m0 m:AM} {B s n:Nat} (h:SSet m0 m B s n) {b:Nat} (hb:m0 b≠none) (o:Obj):SSet (m0.upd b o) (m.upd b o) B s n:=by
 obtain ⟨mp,A,c,xs,ks,h⟩:=h
 have hn:∀ {k:Nat},m0 k=none->k≠b:=fun {k} h2 e=>hb (e ▸ h2)
 refine ⟨mp,A,c,xs,ks,?_,by rw [upd_get_ne (hn h.ns)]; exact h.ns,h.hB,by rw [upd_get_ne (hn h.ns)]; exact h.ps,h.ow.upd fun off e=>?_,fun k hk=>by rw [upd_get_ne (hn (h.nw k hk))]; exact h.nw k hk,?_⟩
 .intro k o' hk'
  by_cases e:k=b
  .subst e; rw [upd_get_same] at hk' ⊢; exact hk'
  .rw [upd_get_ne e] at hk' ⊢; exact h.le _ _ hk'
 .exact hb (h.nw b (by rw [e]; simp [obl]))
 .rcases h.mh with h1 | ⟨r,es,clk,h1,h2,h3,h4,h5⟩
  .exact .inl h1
  .exact .inr ⟨r,es,clk,h1,h2,by rw [upd_get_ne (hn h3)]; exact h3,by rw [upd_get_ne (hn h3)]; exact h4,h5⟩
theorem LJ.setMap {m0 m:AM} {B x:Nat} {code:List Ins} {data:Int} {bs:List (Int × Int)} {mem:Int} {kv kv':List (ByteArray × Int)} {A0:Option Addr} {c0:Nat} {A2:Option Addr} {c2 r:Nat} {es es':Array MapEntry} {clk clk':Nat}
  (h:LJ m0 m B x code data bs mem kv A0 c0 A2 c2 r es clk) (he:MapS es' (opsK kv')):LJ m0 (m.upd r (.map es' clk')) B x code data bs mem kv' A0 c0 A2 c2 r es' clk':=by
 refine ⟨fun k o hk=>?_,h.hB,h.nx,by rw [upd_get_ne (Ne.symm h.rx)]; exact h.ps,h.oc.upd fun off e=>?_,h.nc,h.ob.upd fun off e=>?_,h.nb,h.Br,h.nr,upd_get_same,he⟩
 .have:k≠r:=fun e=>by rw [e,h.nr] at hk; cases hk
  rw [upd_get_ne this]; exact h.le _ _ hk
 .obtain ⟨_,cur',k2⟩:=h.oc.obl_some (k:=r) (by rw [e]; simp [obl])
  rw [h.pr] at k2; cases k2
 .obtain ⟨_,cur',k2⟩:=h.ob.obl_some (k:=r) (by rw [e]; simp [obl])
  rw [h.pr] at k2; cases k2
theorem gotK' (l:List (ByteArray × Int)) (k:ByteArray):∃ x b,gotS (.int .i64 0) (findS k (opsK l) 0)=.tuple #[.int .i64 x,.bool b]/\(b=false->findS k (opsK l) 0=none):=by
 obtain ⟨x,b,h⟩:=gotK l k 0
 refine ⟨x,b,h,fun hb=>?_⟩
 cases hf:findS k (opsK l) 0 with
 | none=>rfl
 | some p=>rw [hf,hb] at h; simp [gotS] at h
theorem names_w (w0:World) (m0 m:AM) (x:Nat) (code:List Ins) (data:Int) (bs:List (Int × Int)) (mem:Int) (hJ:LJx m0 m w0.heap.size x code data bs mem) (xs:List OV) (A:Option Addr) (c:Nat) (rd:Reads m0 6 A xs.length (xs.flatMap OV.cells)) (hx:∀ x∈xs,x.ok m0) (hl:xs.length<=1000) :
  CallsA Tryz.prog w0 28 #[.pointer (some ⟨x,0,none⟩),.slice A xs.length c] m (fun r m'=>(∃ b,r=.bool b/\(xs.length=1->(∀ x∈xs,x.o.exps = [])->b=true))/\LJx m0 m' w0.heap.size x code data bs mem):=by
 generalize hR:(fun (r:Value) (m':AM)=>(∃ b,r=.bool b/\(xs.length=1->(∀ x∈xs,x.o.exps = [])->b=true))/\LJx m0 m' w0.heap.size x code data bs mem)=R
 refine cf28 w0 m x A xs.length c R ?_
 intro b1 hB1 hN1 M
 have l1:m.le M:=le_new hN1 _
 have p1:M b1=some (.cells #[.map none,.slice none 0 0] 143):=upd_get_same
 clear_value M
 have hS:SSet m M w0.heap.size b1 0:=⟨none,none,0,[],[],l1,hN1,hB1,p1,Alog.Own.nil _ _ _ _,by simp [obl],.inl ⟨rfl,rfl⟩⟩
 refine vl28_111010 w0 M _ R x b1 A xs.length c xs.length 0 0
  (fun n i j m'=>∃ (q k:Nat) (mX:AM),j=q/\q<=xs.length/\n=xs.length-q/\k<=q/\LJx m0 mX w0.heap.size x code data bs mem/\SSet mX m' w0.heap.size b1 k/\(q=0->m' b1=some (.cells #[.map none,.slice none 0 0] 143)))
  (fun m'=>LJx m0 m' w0.heap.size x code data bs mem) xs.length rfl rfl rfl rfl rfl rfl ⟨0,0,m,rfl,by omega,by omega,by omega,hJ,hS,fun _=>p1⟩ ?_ ?_
 .rintro n σ i j M' ⟨q,k,mX,rfl,hq,rfl,hk,gJ,gS,g0⟩
  have hw1:IntKind.wrap .i64 ((q:Int)+1)=((q+1:Nat):Int):=by rw [IntKind.wrap_i64]; omega
  have bad:∀ (mX M':AM),LJx m0 mX w0.heap.size x code data bs mem->mX.le M'->(xs.length=1->(∀ x∈xs,x.o.exps = [])->False)->RetP R (.bool false) M':=fun mX M' g l h=>by
   rw [<- hR]; exact retP_of ⟨⟨false,rfl,fun h1 h2=>(h h1 h2).elim⟩,g.grow l⟩
  refine ⟨rfl,bcP (fun hlt=>?_) fun hge=>⟨rfl,rfl,rfl,rfl,gJ.grow gS.le⟩⟩
  have hq':q<xs.length:=by omega
  have hok:=hx xs[q] (List.getElem_mem _)
  refine ldOV (rd.le (AM.le_trans gJ.le gS.le)) hq' fun a=>?_
  refine new6 xs[q] fun b hB hN=>?_
  have hNX:mX b=none:=AM.le_none gS.le hN
  have gS1:=gS.box hN (.cells xs[q].cells.toArray 45)
  have gJ1:=gJ.grow (le_new hNX (.cells xs[q].cells.toArray 45))
  have pX:(mX.upd b (.cells xs[q].cells.toArray 45)) b=some (.cells xs[q].cells.toArray 45 (0,0)):=upd_get_same
  have hb1:b1≠b:=fun e=>by
   obtain ⟨_,_,_,_,_,h⟩:=gS
   have:=h.ps
   rw [e,hN] at this; cases this
  have g0:q=0->(M'.upd b (.cells xs[q].cells.toArray 45)) b1=some (.cells #[.map none,.slice none 0 0] 143):=fun h=>by rw [upd_get_ne hb1]; exact g0 h
  revert gS1 gJ1 pX g0
  generalize mX.upd b (.cells xs[q].cells.toArray 45)=X1
  generalize M'.upd b (.cells xs[q].cells.toArray 45)=M1
  intro gS1 gJ1 pX g0
  refine ⟨_,cel (gS1.le _ _ pX) rfl,?_⟩
  refine CallsA.mono (addS_w w0 gS1 (by omega) xs[q].o.name) ?_
  rintro r m2 ⟨t,rfl,ht,k',hk',gS2⟩
  refine ⟨_,rfl,?_⟩
  cases t
  .refine bcT (bad X1 m2 gJ1 gS2.le fun h1 _=>?_)
   have:q=0:=by omega
   have:=ht (by rw [cell_of (g0 this)]; rfl)
   cases this
  refine bcF ⟨_,_,_,cel (gS2.le _ _ pX) rfl,?_⟩
  refine vl28_1110100110011010 w0 m2 _ R (xs.length-q) _ _ x b1 i b A xs.length c xs.length q xs[q].A2 xs[q].o.exps.length xs[q].c2 xs[q].o.exps.length 0
   (fun n j m'=>∃ (y:Nat) (mX:AM),j=y/\y<=xs[q].o.exps.length/\n=xs[q].o.exps.length-y/\LJx m0 mX w0.heap.size x code data bs mem/\SSet mX m' w0.heap.size b1 k'/\mX b=some (.cells xs[q].cells.toArray 45 (0,0)))
   (fun m'=>∃ mX:AM,LJx m0 mX w0.heap.size x code data bs mem/\SSet mX m' w0.heap.size b1 k'/\mX b=some (.cells xs[q].cells.toArray 45 (0,0))) xs[q].o.exps.length rfl rfl rfl rfl rfl rfl rfl rfl rfl rfl ⟨0,X1,rfl,by omega,by omega,gJ1,gS2,pX⟩ ?_ ?_
  .rintro n σ j M3 ⟨y,X3,rfl,hy,rfl,gJ3,gS3,pX3⟩
   have hw2:IntKind.wrap .i64 ((y:Int)+1)=((y+1:Nat):Int):=by rw [IntKind.wrap_i64]; have:=hok.sm.2.1; omega
   rw [hw2]
   refine ⟨rfl,bcP (fun hlt2=>?_) fun hge=>⟨rfl,rfl,rfl,rfl,rfl,rfl,rfl,rfl,rfl,X3,gJ3,gS3,pX3⟩⟩
   have hy':y<xs[q].o.exps.length:=by omega
   have hne:xs.length=1->(∀ x∈xs,x.o.exps = [])->False:=fun _ h=>by
    rw [h xs[q] (List.getElem_mem _)] at hy'; simp at hy'
   obtain ⟨ad,hA,hc⟩:=((hok.r2.le gJ3.le).le gS3.le).ex (by omega)
   have hat:=fun j hj=>Cells.at (j:=j) (f:=Sbl.cells) (sz:=2) (fun _=>rfl) hc (List.getElem?_eq_getElem hy') hj
   refine ⟨⟨by omega,hlt2⟩,nilO_at hA ⟨_,hat 0 (by omega),_,(by rw [add_add]; exact hat 1 (by omega)),?_⟩⟩
   intro b2 hB2 hN2
   refine StC_own upd_get_same hB2 (by simp) (StC_own upd_get_same hB2 (by simp) ?_)
   rw [upd_upd,upd_upd]
   have gS4:=gS3.box hN2 (.cells (Sbl.cells xs[q].o.exps[y]).toArray 137)
   have hNX2:X3 b2=none:=AM.le_none gS3.le hN2
   have gJ4:=gJ3.grow (le_new hNX2 (.cells (Sbl.cells xs[q].o.exps[y]).toArray 137))
   have pX4:(X3.upd b2 (.cells (Sbl.cells xs[q].o.exps[y]).toArray 137)) b=some (.cells xs[q].cells.toArray 45 (0,0)):=by
    have:b≠b2:=fun e=>by rw [<- e,pX3] at hNX2; cases hNX2
    rw [upd_get_ne this]; exact pX3
   have q4:(M3.upd b2 (.cells (Sbl.cells xs[q].o.exps[y]).toArray 137)) b2=some (.cells (Sbl.cells xs[q].o.exps[y]).toArray 137 (0,0)):=upd_get_same
   revert gS4 gJ4 pX4 q4
   show SSet (X3.upd b2 (.cells (Sbl.cells xs[q].o.exps[y]).toArray 137)) (M3.upd b2 (.cells (Sbl.cells xs[q].o.exps[y]).toArray 137)) w0.heap.size b1 k'->_
   generalize X3.upd b2 (.cells (Sbl.cells xs[q].o.exps[y]).toArray 137)=X4
   show SSet X4 (M3.upd b2 (.cells (Sbl.cells xs[q].o.exps[y]).toArray 137)) w0.heap.size b1 k'->_
   intro gS4 gJ4 pX4 q4
   have gJ4x:=gJ4
   obtain ⟨kv,A0,c0,Ab,cb,rr,es,clk,gJ4⟩:=gJ4
   have g:=gJ4.grow gS4.le
   obtain ⟨v,ok,hv,hno⟩:=gotK' kv xs[q].o.exps[y].name
   refine ⟨_,cel g.ps rfl,_,cel q4 rfl,v,ok,(lookup_str uMI uS zI g.pr g.mr _).trans (by rw [hv]),?_⟩
   cases ok
   case true=>exact bcT (bad X4 _ gJ4x gS4.le hne)
   refine bcF ⟨_,cel g.ps rfl,_,cel q4 rfl,_,cel q4 rfl,rfl,?_⟩
   refine mapUpdate_newS uMI uS gJ4.Br g.pr g.mr (hno rfl) (fun es' clk' he=>?_)
   have hrx:X4 rr≠none:=by rw [gJ4.pr]; simp
   have gS5:=gS4.poke hrx (.map es' clk')
   have pX5:(X4.upd rr (.map es' clk')) b=some (.cells xs[q].cells.toArray 45 (0,0)):=by
    have:b≠rr:=fun e=>by have:=gJ4.pr; rw [<- e,pX4] at this; cases this
    rw [upd_get_ne this]; exact pX4
   exact ⟨rfl,rfl,rfl,rfl,rfl,rfl,rfl,rfl,rfl,rfl,rfl,xs[q].o.exps.length-(y+1),by omega,y+1,_,rfl,by omega,rfl,⟨_,_,_,_,_,_,_,_,gJ4.setMap (kv':=kv ++ [(xs[q].o.exps[y].name,_)]) (by rw [opsK,List.map_append]; exact he)⟩,gS5,pX5⟩
  .rintro σ M3 ⟨X3,gJ3,gS3,pX3⟩
   refine ⟨_,_,_,cel (gS3.le _ _ pX3) rfl,rfl,rfl,rfl,rfl,rfl,rfl,rfl,rfl,xs.length-(q+1),by omega,?_⟩
   rw [hw1]
   exact ⟨q+1,k',X3,rfl,by omega,rfl,by omega,gJ3,gS3,fun h=>by omega⟩
 .rintro σ M' g
  rw [<- hR]
  exact retP_of ⟨⟨true,rfl,fun _ _=>rfl⟩,g⟩
def joinC (xs:List OV) (q:Nat):List Ins:=(xs.take q).flatMap fun x=>x.o.code
def dataQ (xs:List OV) (q:Nat):Int:=(xs.take q).foldl (fun d x=>IntKind.wrap .i64 (d+x.o.data)) 0
def bsQ (xs:List OV) (q:Nat):List (Int × Int):=(List.range q).map fun i=>(((joinC xs i).length:Int),dataQ xs i)
theorem take_next (xs:List OV) {q:Nat} (h:q<xs.length):xs.take (q+1)=xs.take q ++ [xs[q]]:=by rw [List.take_add_one,List.getElem?_eq_getElem h]; rfl
theorem joinC_next (xs:List OV) {q:Nat} (h:q<xs.length):joinC xs (q+1)=joinC xs q ++ xs[q].o.code:=by unfold joinC; rw [take_next xs h,List.flatMap_append]; simp
theorem dataQ_next (xs:List OV) {q:Nat} (h:q<xs.length):dataQ xs (q+1)=IntKind.wrap .i64 (dataQ xs q+xs[q].o.data):=by unfold dataQ; rw [take_next xs h,List.foldl_append]; rfl
theorem bsQ_next (xs:List OV) (q:Nat):bsQ xs (q+1)=bsQ xs q ++ [(((joinC xs q).length:Int),dataQ xs q)]:=by unfold bsQ; rw [List.range_succ,List.map_append]; rfl
theorem bsQ_len (xs:List OV) (q:Nat):(bsQ xs q).length=q:=by simp [bsQ]
theorem joinC_len {m:AM} {xs:List OV} (hx:∀ x∈xs,x.ok m) (q:Nat):(joinC xs q).length<=100000*q:=by
 induction q with
 | zero=>simp [joinC]
 | succ q ih =>
  by_cases h:q<xs.length
  .rw [joinC_next xs h,List.length_append]
   have:=(hx _ (List.getElem_mem h)).sm.1
   omega
  .have:joinC xs (q+1)=joinC xs q:=by unfold joinC; rw [List.take_of_length_le (by omega),List.take_of_length_le (by omega)]
   rw [this]; omega
theorem join_w (w0:World) (m0 m:AM) (x:Nat) (mem:Int) (hJ:LJx m0 m w0.heap.size x [] 0 [] mem) (xs:List OV) (A:Option Addr) (c:Nat) (rd:Reads m0 6 A xs.length (xs.flatMap OV.cells)) (hx:∀ x∈xs,x.ok m0) (hl:xs.length<=8) :
  CallsA Tryz.prog w0 29 #[.pointer (some ⟨x,0,none⟩),.slice A xs.length c] m (fun r m'=>r=.tuple #[]/\LJx m0 m' w0.heap.size x (joinC xs xs.length) (dataQ xs xs.length) (bsQ xs xs.length) mem):=by
 refine cf29 w0 m x A xs.length c _ ?_
 dsimp only [cf29,mkF]
 refine vl29_10 w0 m _ _ x A xs.length c xs.length 0 (fun n j m'=>∃ q:Nat,j=q/\q<=xs.length/\n=xs.length-q/\LJx m0 m' w0.heap.size x (joinC xs q) (dataQ xs q) (bsQ xs q) mem)
  (fun m'=>LJx m0 m' w0.heap.size x (joinC xs xs.length) (dataQ xs xs.length) (bsQ xs xs.length) mem) xs.length rfl rfl rfl rfl ⟨0,rfl,by omega,by omega,hJ⟩ ?_ ?_
 .rintro n σ j M ⟨q,rfl,hq,rfl,g⟩
  have hw1:IntKind.wrap .i64 ((q:Int)+1)=((q+1:Nat):Int):=by rw [IntKind.wrap_i64]; omega
  refine ⟨rfl,bcP (fun hlt=>?_) fun hge=>⟨rfl,rfl,rfl,?_⟩⟩
  case refine_2=>rw [show q=xs.length by omega] at g; exact g
  have hq':q<xs.length:=by omega
  have hok:=hx xs[q] (List.getElem_mem _)
  have hcl:=joinC_len hx q
  refine ldOV (rd.le g.le) hq' fun a=>?_
  refine new6 xs[q] fun b hB hN=>?_
  obtain ⟨kv,A0,c0,Ab,cb,rr,es,clk,g⟩:=g
  have g1:=g.box hN (.cells xs[q].cells.toArray 45)
  have l0:m0.le (m0.upd b (.cells xs[q].cells.toArray 45)):=le_new (AM.le_none g.le hN) _
  have pX:(m0.upd b (.cells xs[q].cells.toArray 45)) b=some (.cells xs[q].cells.toArray 45 (0,0)):=upd_get_same
  revert g1 l0 pX
  generalize m0.upd b (.cells xs[q].cells.toArray 45)=X
  generalize M.upd b (.cells xs[q].cells.toArray 45)=M1
  intro g1 l0 pX
  refine ⟨_,_,_,cel g1.ps rfl,_,_,_,cel g1.ps rfl,_,cel g1.ps rfl,rfl,rfl,?_⟩
  intro b2 hB2 hN2 M2
  have l2:M1.le M2:=le_new hN2 _
  have p2:M2 b2=some (.cells (bsC (((joinC xs q).length:Int),dataQ xs q)).toArray 89):=upd_get_same
  clear_value M2
  refine (g1.grow l2).addBase (by rw [bsQ_len]; omega) (((joinC xs q).length:Int),dataQ xs q) (rd_of p2 rfl) fun M3 g3 _ _=>?_
  have pX3:=g3.le _ _ pX
  obtain ⟨kv3,A3,c3,Ab3,cb3,rr3,es3,clk3,g3⟩:=g3
  refine ⟨_,_,_,cel g3.ps rfl,_,_,_,cel pX3 rfl,?_⟩
  refine g3.addCode (by omega) xs[q].o.code (by have:=hok.sm.1; omega) ((hok.r1.le l0).le g3.le) fun M4 g4 _=>?_
  have pX4:=g4.le _ _ pX
  obtain ⟨kv4,A4,c4,Ab4,cb4,rr4,es4,clk4,g4⟩:=g4
  refine ⟨_,cel g4.ps rfl,_,cel pX4 rfl,rfl,g4.setData _ fun M5 g5=>?_⟩
  refine ⟨rfl,rfl,rfl,rfl,rfl,xs.length-(q+1),by omega,q+1,hw1,by omega,rfl,?_⟩
  rw [joinC_next xs hq',dataQ_next xs hq',bsQ_next]
  exact g5.base l0
 .rintro σ M g
  exact retP_of ⟨rfl,g⟩
theorem notR_w (w0:World) (m:AM) (x:OV) (hx:x.ok m):CallsA Tryz.prog w0 26 #[.agg x.cells.toArray] m (fun r m'=>(∃ b,r=.bool b/\(b=false->(x.o.pats.any fun p=>!patOk x.o.code.length x.o.imps.length p)=false)/\(x.o.exps = []->x.o.imps = []->b = !rightO x.o))/\m'=m):=by
 refine CallsA.down (Q:=fun r=>∃ b,r=.bool b/\(b=false->(x.o.pats.any fun p=>!patOk x.o.code.length x.o.imps.length p)=false)/\(x.o.exps = []->x.o.imps = []->b = !rightO x.o)) (R:=fun r m'=>(∃ b,r=.bool b/\(b=false->(x.o.pats.any fun p=>!patOk x.o.code.length x.o.imps.length p)=false)/\(x.o.exps = []->x.o.imps = []->b = !rightO x.o))/\m.le m') ?_ fun _ _ h=>h
 refine cf26 w0 m _ _ _ _ _ _ _ _ _ _ _ _ _ _ _ ?_
 intro b hB hN M
 have l:m.le M:=le_new hN _
 have p:M b=some (.cells x.cells.toArray 45):=upd_get_same
 clear_value M
 refine read6 p ?_
 have hs:=hx.sm
 refine CallsA.mono (right_w w0 M x.o x.cells (hx.obA.le l) ⟨by have:=hs.1; omega,by have:=hs.2.1; omega,by have:=hs.2.2.1; omega,by have:=hs.2.2.2; omega⟩) ?_
 rintro r m' ⟨⟨t,rfl,h1,h2⟩,rfl⟩
 exact ⟨_,rfl,retP_of ⟨⟨_,rfl,fun h=>h1 (by simpa using h),fun a b=>by rw [h2 a b]⟩,l⟩⟩
theorem anyBad_w (w0:World) (m:AM) (xs:List OV) (A:Option Addr) (c:Nat) (rd:Reads m 6 A xs.length (xs.flatMap OV.cells)) (hx:∀ x∈xs,x.ok m) (hl:xs.length<=8) :
  CallsA Tryz.prog w0 25 #[.slice A xs.length c,.func (.func 26) #[] #[]] m (fun r m'=>(∃ b,r=.bool b/\(b=false->∀ x∈xs,(x.o.pats.any fun p=>!patOk x.o.code.length x.o.imps.length p)=false)/\(∀ x,xs = [x]->x.o.exps = []->x.o.imps = []->b = !rightO x.o))/\m'=m):=by
 refine cf25 w0 m A xs.length c _ ?_
 refine CallsA.mono (R:=fun r m'=>(∃ j:Int,r=.int .i64 j/\(decide (j>=0)=false->∀ x∈xs,(x.o.pats.any fun p=>!patOk x.o.code.length x.o.imps.length p)=false)/\(∀ x,xs = [x]->x.o.exps = []->x.o.imps = []->decide (j>=0) = !rightO x.o))/\m'=m) ?_ (by
  rintro r m' ⟨⟨j,rfl,h1,h2⟩,rfl⟩
  exact ⟨_,rfl,rfl,retP_of ⟨⟨_,rfl,h1,h2⟩,rfl⟩⟩)
 refine cf59 w0 m A xs.length c _ ?_
 dsimp only [cf59,mkF]
 refine vl59_1010 w0 m _ _ A xs.length c xs.length 0 (fun n j m'=>∃ q:Nat,j=q/\q<=xs.length/\n=xs.length-q/\(∀ i,(h:i<xs.length)->i<q->(xs[i].o.pats.any fun p=>!patOk xs[i].o.code.length xs[i].o.imps.length p)=false/\(xs[i].o.exps = []->xs[i].o.imps = []->rightO xs[i].o=true))/\m'=m)
  (fun m'=>(∀ i,(h:i<xs.length)->(xs[i].o.pats.any fun p=>!patOk xs[i].o.code.length xs[i].o.imps.length p)=false/\(xs[i].o.exps = []->xs[i].o.imps = []->rightO xs[i].o=true))/\m'=m) xs.length rfl rfl rfl rfl ⟨0,rfl,by omega,by omega,fun i _ h=>by omega,rfl⟩ ?_ ?_
 .rintro n σ j M ⟨q,rfl,hq,rfl,hall,rfl⟩
  have hw1:IntKind.wrap .i64 ((q:Int)+1)=((q+1:Nat):Int):=by rw [IntKind.wrap_i64]; omega
  refine ⟨rfl,bcP (fun hlt=>?_) fun hge=>⟨rfl,rfl,rfl,fun i h=>hall i h (by omega),rfl⟩⟩
  have hq':q<xs.length:=by omega
  have hok:=hx xs[q] (List.getElem_mem _)
  refine ldOV rd hq' fun a=>?_
  refine CallsA.mono (notR_w w0 M xs[q] hok) ?_
  rintro r m' ⟨⟨t,rfl,h1,h2⟩,rfl⟩
  refine ⟨_,rfl,?_⟩
  cases t
  .refine bcF ⟨rfl,rfl,rfl,rfl,rfl,xs.length-(q+1),by omega,q+1,hw1,by omega,rfl,fun i h hi=>?_,rfl⟩
   by_cases e:i=q
   .subst e
    exact ⟨h1 rfl,fun a b=>by have:=h2 a b; simpa using this.symm⟩
   .exact hall i h (by omega)
  .refine bcT (retP_of ⟨⟨_,rfl,fun h=>by simp at h,fun x hx1 ha hb=>?_⟩,rfl⟩)
   have e0:q=0:=by have:=congrArg List.length hx1; simp at this; omega
   subst e0
   have:xs[0]=x:=by simp [hx1]
   rw [this] at h2
   rw [<- h2 ha hb]; simp
 .rintro σ M ⟨hall,rfl⟩
  refine retP_of ⟨⟨-1,rfl,fun _ x hx'=>?_,fun x hx1 ha hb=>?_⟩,rfl⟩
  .obtain ⟨i,hi,rfl⟩:=List.mem_iff_getElem.1 hx'
   exact (hall i hi).1
  .have:=(hall 0 (by rw [hx1]; simp)).2
   have e:xs[0]'(by rw [hx1]; simp)=x:=by simp [hx1]
   rw [e] at this
   rw [this ha hb]; rfl
theorem joinC_mono (xs:List OV) {q:Nat} (h:q<xs.length):(joinC xs q).length+xs[q].o.code.length<=(joinC xs xs.length).length:=by
 have h1:=congrArg List.length (joinC_next xs h)
 rw [List.length_append] at h1
 have key:∀ d k,q+1+d=k->(joinC xs (q+1)).length<=(joinC xs k).length:=by
  intro d
  induction d with
  | zero=>intro k e; rw [<- e]; exact Nat.le_refl _
  | succ d ih =>
   intro k e
   have:=ih (q+1+d) rfl
   by_cases hk:q+1+d<xs.length
   .rw [<- e,<- Nat.add_assoc,joinC_next xs hk,List.length_append]; omega
   .have e2:joinC xs k=joinC xs (q+1+d):=by unfold joinC; rw [List.take_of_length_le (by omega),List.take_of_length_le (by omega)]
    rw [e2]; exact this
 have:=key (xs.length-(q+1)) xs.length (by omega)
 omega
def foldP (data mem:Int) (b:Int × Int):List Pch->List Ins->Option (List Ins)
 | [],code=>some code
 | p :: l,code=>if rightR (withImm (cAt code (atP' b p)) (adjP data mem b p (cAt code (atP' b p)).imm))=true then foldP data mem b l (code.set (atP' b p) (withImm (cAt code (atP' b p)) (adjP data mem b p (cAt code (atP' b p)).imm))) else none
structure Simple (x:OV) (mem:Int) (c':List Ins):Prop where
 ex:x.o.exps = []
 im:x.o.imps = []
 k2:∀ p∈x.o.pats,p.kind≠2
 ri:rightO x.o=true
 m0:0<=mem
 m1:mem<=32000
 cl:x.o.code.length<=4096
 dl:IntKind.wrap .i64 (0+x.o.data)<=mem
 fo:foldP (IntKind.wrap .i64 (0+x.o.data)) mem (0,0) x.o.pats x.o.code=some c'
def oLink (m0:AM) (xs:List OV) (mem:Int) (r:Value) (m':AM):Prop:=m0.le m'/\∃ (A:Option Addr) (n c:Nat) (d e:Int),r=.tuple #[.agg #[.slice A n c,.int .i64 d],.int .i64 e] /\
 ((e≠0/\A=none/\n=0/\∀ x c',xs = [x]->Simple x mem c'->False)\/(e=0/\∃ code,n=code.length/\Reads m' 5 A n (insCells code)/\n<=c/\code.length<=4096/\(∀ k∈obl A,m0 k=none)/\∀ x c',xs = [x]->Simple x mem c'->code=c'))
def zIm:List Value:=[.slice none 0 0,.int .i64 0]
theorem link_w (w0:World) (m:AM) (xs:List OV) (A:Option Addr) (c:Nat) (mem:Int) (rd:Reads m 6 A xs.length (xs.flatMap OV.cells)) (hx:∀ x∈xs,x.ok m) (hl:xs.length<=8) :
  CallsA Tryz.prog w0 12 #[.slice A xs.length c,.int .i64 mem] m (oLink m xs mem):=by
 generalize hR:oLink m xs mem=R
 refine cf12 w0 m A xs.length c mem R ?_
 intro b1 hB1 hN1 M
 have l1:m.le M:=le_new hN1 _
 have p1:M b1=some (.cells zIm.toArray 27):=upd_get_same
 clear_value M
 have lup:∀ {M:AM} {o:Obj},m.le M->m.le (M.upd b1 o):=fun l k o hk=>by
  have:k≠b1:=fun e=>by rw [e,hN1] at hk; cases hk
  rw [upd_get_ne this]; exact l _ _ hk
 have err:∀ (e:Int) (M':AM),m.le M'->M' b1=some (.cells zIm.toArray 27)->e≠0->(∀ x c',xs = [x]->Simple x mem c'->False) ->
   StC w0.heap.size M' ⟨b1,0,none⟩ (.slice none 0 0) fun m3=>StC w0.heap.size m3 ⟨b1,1,none⟩ (.int .i64 0) fun m4=>∃ (A:Option Addr) (n c:Nat),m4.cell ⟨b1,0,none⟩=some (.slice A n c)/\∃ i:Int,m4.cell ⟨b1,1,none⟩=some (.int .i64 i)/\RetP R (.tuple #[.agg #[.slice A n c,.int .i64 i],.int .i64 e]) m4:=fun e M' l p he hno=>by
  refine StC_own p hB1 (by simp [zIm]) (StC_own upd_get_same hB1 (by simp [zIm]) ?_)
  rw [upd_upd]
  refine ⟨_,_,_,cel upd_get_same rfl,_,cel upd_get_same rfl,retP_of ?_⟩
  rw [<- hR]
  exact ⟨lup l,none,0,0,0,e,rfl,.inl ⟨he,rfl,rfl,hno⟩⟩
 refine ⟨rfl,bcI (fun h=>?_) fun h=>?_⟩
 .exact ⟨h,rfl,rfl,rfl,err 1 M l1 p1 (by decide) fun x c' hx1 _=>by rw [hx1] at h; simp at h⟩
 rw [h]
 refine ⟨rfl,bcP (p:=mem<0) (fun h1=>?_) fun h1=>?_⟩
 .exact ⟨decide_eq_true h1,rfl,rfl,err 1 M l1 p1 (by decide) fun x c' _ hs=>by have:=hs.m0; omega⟩
 rw [decide_eq_false h1]
 refine ⟨rfl,bcP (p:=mem>32000) (fun h2=>?_) fun h2=>?_⟩
 .exact ⟨decide_eq_true h2,rfl,err 1 M l1 p1 (by decide) fun x c' _ hs=>by have:=hs.m1; omega⟩
 rw [decide_eq_false h2]
 have hxM:∀ x∈xs,x.ok M:=fun x h=>(hx x h).le l1
 refine CallsA.mono (anyBad_w w0 M xs A c (rd.le l1) hxM hl) ?_
 rintro r M2 ⟨⟨t,rfl,hb1,hb2⟩,rfl⟩
 refine ⟨_,rfl,?_⟩
 cases t
 case true=>exact bcT ⟨rfl,err 1 M2 l1 p1 (by decide) fun x c' hx1 hs=>by have:=hb2 x hx1 hs.ex hs.im; rw [hs.ri] at this; cases this⟩
 have hpat:=hb1 rfl
 refine bcF (fun rr hBr hNr=>?_)
 have l3:M2.le (M2.upd rr (.map #[] 0)):=le_new hNr _
 have p3:(M2.upd rr (.map #[] 0)) rr=some (.map #[] 0):=upd_get_same
 revert l3 p3
 generalize M2.upd rr (.map #[] 0)=M3
 intro l3 p3
 refine ⟨rfl,?_⟩
 intro x hBx hNx M4
 have l4:M3.le M4:=le_new hNx _
 have p4:M4 x=some (.cells (LJb none 0 0 0 none 0 0 rr mem) 82):=upd_get_same
 clear_value M4
 have g:LJx M2 M4 w0.heap.size x [] 0 [] mem:=⟨[],none,0,none,0,rr,#[],0,AM.le_trans l3 l4,hBx,AM.le_none l3 hNx,p4,Alog.Own.nil _ _ _ _,by simp [obl],Alog.Own.nil _ _ _ _,by simp [obl],hBr,hNr,l4 _ _ p3,rfl⟩
 have one:∀ {x:OV},xs = [x]->xs.length=1/\(∀ y∈xs,y=x):=fun {x} h=>by rw [h]; simp
 refine CallsA.mono (names_w w0 M2 M4 x [] 0 [] mem g xs A c (rd.le l1) hxM (by omega)) ?_
 rintro r M5 ⟨⟨t,rfl,ht⟩,g5⟩
 refine ⟨_,rfl,?_⟩
 cases t
 .refine bcT ⟨rfl,err 6 M5 (AM.le_trans l1 g5.le) (g5.le _ _ p1) (by decide) fun x c' hx1 hs=>?_⟩
  have:=ht (one hx1).1 fun y hy=>by rw [(one hx1).2 y hy]; exact hs.ex
  cases this
 refine bcF ?_
 refine CallsA.mono (join_w w0 M2 M5 x mem g5 xs A c (rd.le l1) hxM hl) ?_
 rintro r M6 ⟨rfl,g6⟩
 have hcl:=joinC_len hx xs.length
 have l6:=AM.le_trans l1 g6.le
 have p6:=g6.le _ _ p1
 have g6x:=g6
 obtain ⟨kv,A0,c0,Ab,cb,r6,es,clk,g6⟩:=g6
 have s1:∀ {y:OV},xs = [y]->joinC xs xs.length=y.o.code/\dataQ xs xs.length=IntKind.wrap .i64 (0+y.o.data)/\bsQ xs xs.length = [(0,0)]:=fun {y} h=>by subst h; simp [joinC,dataQ,bsQ]
 refine ⟨rfl,_,_,_,cel g6.ps rfl,rfl,bcP (p:=(((joinC xs xs.length).length:Nat):Int)>4096) (fun h3=>?_) fun h3=>?_⟩
 .exact ⟨decide_eq_true h3,rfl,err 4 M6 l6 p6 (by decide) fun y c' hx1 hs=>by have:=hs.cl; rw [(s1 hx1).1] at h3; omega⟩
 rw [decide_eq_false h3]
 refine ⟨_,cel g6.ps rfl,rfl,bcP (p:=dataQ xs xs.length>mem) (fun h4=>?_) fun h4=>?_⟩
 .exact ⟨rfl,err 4 M6 l6 p6 (by decide) fun y c' hx1 hs=>by have:=hs.dl; rw [(s1 hx1).2.1] at h4; omega⟩
 refine vl12_111111010 w0 M6 _ R b1 x A xs.length c xs.length 0
  (fun n j m'=>∃ (q:Nat) (code:List Ins),j=q/\q<=xs.length/\n=xs.length-q/\code.length=(joinC xs xs.length).length/\LJx M2 m' w0.heap.size x code (dataQ xs xs.length) (bsQ xs xs.length) mem/\(∀ y c',xs = [y]->Simple y mem c'->(q=0->code=joinC xs xs.length)/\(q=1->code=c')))
  (fun m'=>∃ code:List Ins,code.length=(joinC xs xs.length).length/\LJx M2 m' w0.heap.size x code (dataQ xs xs.length) (bsQ xs xs.length) mem/\(∀ y c',xs = [y]->Simple y mem c'->code=c')) xs.length rfl rfl rfl rfl rfl ⟨0,_,rfl,by omega,by omega,rfl,g6x,fun y c' _ _=>⟨fun _=>rfl,fun h=>by omega⟩⟩ ?_ ?_
 .rintro n σ j M ⟨q,code,rfl,hq,rfl,hlen,g,hex⟩
  have hw1:IntKind.wrap .i64 ((q:Int)+1)=((q+1:Nat):Int):=by rw [IntKind.wrap_i64]; omega
  refine ⟨rfl,bcP (fun hlt=>?_) fun hge=>⟨rfl,rfl,rfl,rfl,code,hlen,g,fun y c' hx1 hs=>(hex y c' hx1 hs).2 (by have:=(one hx1).1; omega)⟩⟩
  have hq':q<xs.length:=by omega
  have hok:=hxM xs[q] (List.getElem_mem _)
  refine ldOV ((rd.le l1).le g.le) hq' fun a=>?_
  refine new6 xs[q] fun b hB hN=>?_
  obtain ⟨kv,A0,c0,Ab,cb,rr,es,clk,g⟩:=g
  have g1:=g.box hN (.cells xs[q].cells.toArray 45)
  have l0:M2.le (M2.upd b (.cells xs[q].cells.toArray 45)):=le_new (AM.le_none g.le hN) _
  have pX:(M2.upd b (.cells xs[q].cells.toArray 45)) b=some (.cells xs[q].cells.toArray 45 (0,0)):=upd_get_same
  revert g1 l0 pX
  generalize M2.upd b (.cells xs[q].cells.toArray 45)=X
  generalize M.upd b (.cells xs[q].cells.toArray 45)=M7
  intro g1 l0 pX
  have hbas:(bsQ xs xs.length)[q]?=some (((joinC xs q).length:Int),dataQ xs q):=by simp [bsQ,hq']
  have hmono:=joinC_mono xs hq'
  have hpl:=hok.sm.2.2.2
  refine ⟨_,_,_,cel (g1.le _ _ pX) rfl,?_⟩
  refine vl12_11111101001100110 w0 M7 _ R (xs.length-q) _ _ b1 x q b A xs.length c xs.length q xs[q].A4 xs[q].o.pats.length xs[q].c4 xs[q].o.pats.length 0
   (fun n j m'=>∃ (y:Nat) (code:List Ins),j=y/\y<=xs[q].o.pats.length/\n=xs[q].o.pats.length-y/\code.length=(joinC xs xs.length).length/\LJx X m' w0.heap.size x code (dataQ xs xs.length) (bsQ xs xs.length) mem/\(∀ z c',xs = [z]->Simple z mem c'->foldP (dataQ xs xs.length) mem (0,0) (z.o.pats.drop y) code=some c'))
   (fun m'=>∃ code:List Ins,code.length=(joinC xs xs.length).length/\LJx X m' w0.heap.size x code (dataQ xs xs.length) (bsQ xs xs.length) mem/\(∀ z c',xs = [z]->Simple z mem c'->code=c')) xs[q].o.pats.length rfl rfl rfl rfl rfl rfl rfl rfl rfl rfl ⟨0,code,rfl,by omega,by omega,hlen,⟨_,_,_,_,_,_,_,_,g1⟩,fun z c' hx1 hs=>?_⟩ ?_ ?_
  .have h1:=(hex z c' hx1 hs).1 (by have:=(one hx1).1; omega)
   rw [List.drop_zero,h1,(s1 hx1).1,(s1 hx1).2.1]
   exact hs.fo
  .rintro n σ j M8 ⟨y,code,rfl,hy,rfl,hlen,g,hfo⟩
   have hw2:IntKind.wrap .i64 ((y:Int)+1)=((y+1:Nat):Int):=by rw [IntKind.wrap_i64]; omega
   refine ⟨rfl,bcP (fun hlt2=>?_) fun hge=>⟨rfl,rfl,rfl,rfl,rfl,rfl,rfl,rfl,rfl,code,hlen,g,fun z c' hx1 hs=>?_⟩⟩
   case refine_2 =>
    have h1:=hfo z c' hx1 hs
    have e:xs[q]=z:=(one hx1).2 _ (List.getElem_mem _)
    rw [List.drop_of_length_le (by rw [<- e]; omega)] at h1
    injection h1
   have hy':y<xs[q].o.pats.length:=by omega
   obtain ⟨ad,hA,hc⟩:=((hok.r4.le l0).le g.le).ex (by omega)
   have hat:=fun j hj=>Cells.at (j:=j) (f:=Pch.cells) (sz:=3) (fun _=>rfl) hc (List.getElem?_eq_getElem hy') hj
   refine ⟨⟨by omega,hlt2⟩,nilO_at hA ⟨_,hat 0 (by omega),_,(by rw [add_add]; exact hat 1 (by omega)),_,(by rw [add_add]; exact hat 2 (by omega)),?_⟩⟩
   intro b2 hB2 hN2
   refine StC_own upd_get_same hB2 (by simp) (StC_own upd_get_same hB2 (by simp) (StC_own upd_get_same hB2 (by simp) ?_))
   rw [upd_upd,upd_upd,upd_upd]
   have g9:=g.grow (le_new hN2 (.cells xs[q].o.pats[y].cells.toArray 86))
   have p9:(M8.upd b2 (.cells xs[q].o.pats[y].cells.toArray 86)) b2=some (.cells xs[q].o.pats[y].cells.toArray 86 (0,0)):=upd_get_same
   have pX9:=g9.le _ _ pX
   have g9x:=g9
   obtain ⟨kv9,A9,c9,Ab9,cb9,rr9,es9,clk9,g9⟩:=g9
   refine read6 pX9 ⟨_,_,_,cel g9.ps rfl,?_⟩
   obtain ⟨ab,hAb,hcb⟩:=g9.ob.ex (by rw [bsQ_len]; omega)
   have hbt:=fun j hj=>Cells.at (j:=j) (f:=bsC) (sz:=2) (fun _=>rfl) hcb hbas hj
   refine ⟨⟨by omega,by rw [bsQ_len]; omega⟩,nilO_at hAb ⟨_,hbt 0 (by omega),_,(by rw [add_add]; exact hbt 1 (by omega)),_,cel p9 rfl,_,cel p9 rfl,_,cel p9 rfl,?_⟩⟩
   have hpo:patOk xs[q].o.code.length xs[q].o.imps.length xs[q].o.pats[y]=true:=by
    have:=hpat xs[q] (List.getElem_mem _)
    rw [List.any_eq_false] at this
    have:=this _ (List.getElem_mem hy')
    simpa using this
   refine CallsA.mono (patch_w w0 X _ x code _ _ mem g9x xs[q].o xs[q].cells (hok.obA.le l0) (((joinC xs q).length:Int),dataQ xs q) xs[q].o.pats[y] hpo ⟨by omega,by omega⟩ (by omega)) ?_
   rintro r M10 ⟨e,imm,rfl,hadj,hres⟩
   refine ⟨_,rfl,rfl,?_⟩
   have step:∀ z c',xs = [z]->Simple z mem c'->rightR (withImm (cAt code (atP' (((joinC xs q).length:Int),dataQ xs q) xs[q].o.pats[y])) imm)=true/\foldP (dataQ xs xs.length) mem (0,0) (z.o.pats.drop (y+1)) (code.set (atP' (((joinC xs q).length:Int),dataQ xs q) xs[q].o.pats[y]) (withImm (cAt code (atP' (((joinC xs q).length:Int),dataQ xs q) xs[q].o.pats[y])) imm))=some c':=fun z c' hx1 hs=>by
    have h1:=hfo z c' hx1 hs
    have e0:q=0:=by have:=(one hx1).1; omega
    have e:xs[q]=z:=(one hx1).2 _ (List.getElem_mem _)
    have hb0:(((joinC xs q).length:Int),dataQ xs q)=((0,0):Int × Int):=by rw [e0]; rfl
    rw [hb0] at hadj ⊢
    have hk:=hs.k2
    rw [<- e] at h1 hk
    rw [List.drop_eq_getElem_cons hy'] at h1
    unfold foldP at h1
    rw [<- hadj (hk _ (List.getElem_mem _))] at h1
    rw [<- e]
    split at h1
    .rename_i h2; exact ⟨h2,h1⟩
    .cases h1
   rcases hres with ⟨rfl,hr,g10⟩ | ⟨he,hr,g10⟩
   .refine bcF ⟨rfl,rfl,rfl,rfl,rfl,rfl,rfl,rfl,rfl,rfl,rfl,xs[q].o.pats.length-(y+1),by omega,y+1,_,hw2,by omega,rfl,?_,g10,fun z c' hx1 hs=>(step z c' hx1 hs).2⟩
    rw [List.length_set]; exact hlen
   .refine bcET (by simpa using he) ⟨rfl,err e M10 (AM.le_trans l1 (AM.le_trans l0 g10.le)) (g10.le _ _ (l0 _ _ p1)) he fun z c' hx1 hs=>?_⟩
    have h2:=(step z c' hx1 hs).1
    rw [hr] at h2
    .cases h2
    .have e:xs[q]=z:=(one hx1).2 _ (List.getElem_mem _)
     have hk:=hs.k2
     rw [<- e] at hk
     exact hk _ (List.getElem_mem _)
  .rintro σ M8 ⟨code,hlen,g,hfo⟩
   exact ⟨rfl,rfl,rfl,rfl,rfl,rfl,xs.length-(q+1),by omega,q+1,code,hw1,by omega,rfl,hlen,g.base l0,fun y c' hx1 hs=>⟨fun h=>by omega,fun _=>hfo y c' hx1 hs⟩⟩
 .rintro σ M ⟨code,hlen,g,hfo⟩
  obtain ⟨kv,A0,c0,Ab,cb,rr,es,clk,g⟩:=g
  have pb:=g.le _ _ p1
  refine ⟨_,_,_,cel g.ps rfl,_,cel g.ps rfl,StC_own pb hB1 (by simp [zIm]) (StC_own upd_get_same hB1 (by simp [zIm]) ?_)⟩
  rw [upd_upd]
  refine ⟨_,_,_,cel upd_get_same rfl,_,cel upd_get_same rfl,retP_of ?_⟩
  rw [<- hR]
  refine ⟨lup (AM.le_trans l1 g.le),A0,code.length,c0,_,0,rfl,.inr ⟨rfl,code,rfl,(g.oc.upd fun off e=>g.oc.ne_type pb (by decide) off e).reads,g.oc.2.1,by omega,fun k hk=>AM.le_none l1 (g.nc k hk),hfo⟩⟩
end Go.Proofs.YtgjamnhjlaohaaaGreatDoor.S
