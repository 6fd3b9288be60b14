/- Ytkfemiloehkmhaa: a text of our own, by an AI agent: Core3 -/
import Derived.Test.YtkfemiloehkmhaaCore2
set_option linter.unusedSimpArgs false
set_option linter.unusedVariables false
namespace Go.Alog
open Go Go.RowKit

section
variable (P : Program) (w0 : World) (c : Nat) (ev : Operand → Value)

def rawS (op : Op) (ty : TypeId) (m : AM) (K : Value → AM → Prop) : Prop := OpA P w0 c (execOp ev ⟨none, op, ty, "", #[], none⟩) m K

/-- An address that must be one. -/
def nilO (p : Option Addr) (K : Addr → Prop) : Prop :=
  match p with
  | some a => K a
  | none => False

theorem nilO_spec {p : Option Addr} {K : Addr → Prop} (h : nilO p K) : ∃ a, p = some a ∧ K a := by
  cases p with
  | none => exact h.elim
  | some a => exact ⟨a, rfl, h⟩

def pickS (t x y : Value) (K : Value → Prop) : Prop :=
  match t, x, y with
  | .bool t, .bool x, .bool y => K (.bool (bif t then x else y))
  | .bool t, .bool x, .tuple _ => t = true ∧ K (.bool x)
  | .bool t, .tuple _, .bool y => t = false ∧ K (.bool y)
  | _, _, _ => False

def nilS (v : Value) (m : AM) (K : Value → AM → Prop) : Prop :=
  match v with
  | .pointer p => nilO p fun a => K (.pointer (some a)) m
  | .func (.func g) f cs => K (.func (.func g) f cs) m
  | _ => False

def eqS (t : TypeId) (x y : Value) (K : Bool → Prop) : Prop :=
  match P.underlying t, x, y with
  | some .bool, .bool a, .bool b => K (a == b)
  | some (.slice _), .slice A _ _, .slice none _ _ => K A.isNone
  | some (.slice _), .slice none _ _, .slice (some _) _ _ => K false
  | some (.pointer _), .pointer A, .pointer none => K A.isNone
  | some (.map _ _), .map A, .map none => K A.isNone
  | _, _, _ => False

def eqOp (op : BinOp) (t : TypeId) (x y : Value) (K : Value → Prop) : Prop :=
  match op with
  | .eql => eqS P t x y (fun b => K (.bool b))
  | .neq => eqS P t x y (fun b => K (.bool !b))
  | _ => False

def binX (op : BinOp) (t : TypeId) (x y : Value) (m : AM) (K : Value → AM → Prop) (raw : Prop) : Prop :=
  match x, y with
  | .int k a, .int k' b => binS op (.int k a) (.int k' b) (fun v => K v m)
  | .agg xs, .agg ys => ∃ b : Bool, pval P (eqGuard op t (.const undef) (.const undef) (.agg xs) (.agg ys) >>= fun _ => binOp op t (.agg xs) (.agg ys)) = some (.bool b) ∧ K (.bool b) m
  | .string a, .string b => match op with
    | .eql => K (.bool (a.toList == b.toList)) m
    | .neq => K (.bool (!(a.toList == b.toList))) m
    | .add => raw
    | _ => raw
  | x, y => eqOp P op t x y (fun v => K v m)

def unS (op : UnOp) (x : Value) (K : Value → Prop) : Prop :=
  match op, x with
  | .not, .bool b => K (.bool !b)
  | .neg, .int k n => K (.int k (k.wrap (0 - n)))
  | _, _ => False

def fldS (s : TypeId) (v : Value) (k : Nat) (K : Value → Prop) : Prop :=
  match v, fldOf P s k with
  | .pointer (some a), some (off, _, _) => K (.pointer (some (a.add off)))
  | _, _ => False

def partS (s : TypeId) (v : Value) (k : Nat) (K : Value → Prop) : Prop :=
  match v, fldOf P s k with
  | .agg cs, some (off, true, n) => K (.agg (cs.extract off (off + n)))
  | .agg cs, some (off, false, _) => match cs[off]? with
    | some u => K u
    | none => False
  | _, _ => False

def idxS (t : TypeId) (x i : Value) (K : Value → Prop) : Prop :=
  match x, i with
  | .slice A n _, .int _ i => match elOf P t with
    | some (_, sz, _, _) => (0 ≤ i ∧ i < n) ∧ nilO A fun a => K (.pointer (some (a.add (i.toNat * sz))))
    | none => False
  | .pointer (some a), .int _ i => match arOf P t with
    | some (n, sz) => (0 ≤ i ∧ i < n) ∧ K (.pointer (some (a.add (i.toNat * sz))))
    | none => False
  | _, _ => False

def extS (v : Value) (k : Nat) (K : Value → Prop) : Prop :=
  match v with
  | .tuple vs => match vs[k]? with
    | some u => K u
    | none => False
  | _ => False

def cvtS (src dst : TypeId) (x : Value) (m : AM) (K : Value → AM → Prop) (raw : Prop) : Prop :=
  match x with
  | .int _ n => match P.underlying src, P.underlying dst with
    | some _, some (.int k) => K (.int k (k.wrap n)) m
    | _, _ => raw
  | _ => raw

/-- A bound of a slice's cut. -/
def bndS (v : Option Value) (dflt : Nat) (K : Nat → Prop) : Prop :=
  match v with
  | none => K dflt
  | some (.int _ i) => 0 ≤ i ∧ K i.toNat
  | some _ => False

def sliS (t : TypeId) (x : Value) (lo hi : Option Value) (K : Value → Prop) : Prop :=
  match x with
  | .slice A n cp => match elOf P t with
    | some (_, sz, _, _) => bndS hi n fun h => bndS lo 0 fun l => h ≤ cp ∧ l ≤ h ∧ K (.slice (if cp = l then A else A.map (·.add (l * sz))) (h - l) (cp - l))
    | none => False
  | .string s => match P.underlying t with
    | some .string => bndS hi s.size fun h => bndS lo 0 fun l => h ≤ s.size ∧ l ≤ h ∧ K (.string (s.extract l h))
    | _ => False
  | _ => False

def lenS (t : TypeId) (x : Value) (K : Value → Prop) : Prop :=
  match x, P.underlying t with
  | .slice _ n _, some (.slice _) => K (.int .i64 n)
  | .string s, some .string => K (.int .i64 s.size)
  | _, _ => False

def capS (t : TypeId) (x : Value) (K : Value → Prop) : Prop :=
  match x, P.underlying t with
  | .slice _ _ n, some (.slice _) => K (.int .i64 n)
  | _, _ => False

def mnS (x y : Value) (K : Value → Prop) : Prop :=
  match x, y with
  | .int k a, .int k' b => k = k' ∧ K (.int k (if b < a then b else a))
  | _, _ => False
def mxS (x y : Value) (K : Value → Prop) : Prop :=
  match x, y with
  | .int k a, .int k' b => k = k' ∧ K (.int k (if b > a then b else a))
  | _, _ => False

def callS (g : FuncId) (args : Array Value) (m : AM) (K : Value → AM → Prop) : Prop :=
  match sigOf P g with
  | some ts => if c ≤ 2 then resEx ts (fun v => CallsA P w0 g args m (fun r m' => r = v ∧ m' = m) ∧ K v m) else if c = 3 then CallsA P w0 g args m (fun r m' => resEx ts (fun v => r = v ∧ K v m')) else CallsA P w0 g args m (fun r m' => m.le m' ∧ resEx ts (fun v => r = v ∧ K v m'))
  | none => False

def fnS (f : Value) (args : Array Value) (m : AM) (K : Value → AM → Prop) : Prop :=
  match f with
  | .func (.func g) first captured => callS P w0 c g (first ++ args ++ captured) m K
  | _ => False

def bltS (b : Builtin) (argTypes : Array TypeId) (ty : TypeId) (args : Array Value) (m : AM) (K : Value → AM → Prop) (raw : Prop) : Prop :=
  match b, args.toList, argTypes.toList with
  | .len, [x], [t] => lenS P t x (fun v => K v m)
  | .cap, [x], [t] => capS P t x (fun v => K v m)
  | .min, [x, y], _ => mnS x y (fun v => K v m)
  | .max, [x, y], _ => mxS x y (fun v => K v m)
  | .append, _, _ => if c ≠ 3 then False else awp P w0.heap.size (Builtin.append_ argTypes ty args) m fun v m' => ∃ A n cp, v = .slice A n cp ∧ K (.slice A n cp) m'
  | .copy, _, _ => if c ≠ 3 then False else awp P w0.heap.size (Builtin.copy_ argTypes ty args) m fun v m' => ∃ n, v = .int .i64 n ∧ K (.int .i64 n) m'
  | .clear, _, _ => if c ≠ 3 then False else awp P w0.heap.size (Builtin.clear_ argTypes ty args) m fun v m' => v = .tuple #[] ∧ K (.tuple #[]) m'
  | _, _, _ => raw

def newS (t : TypeId) (cells : List Value) (m : AM) (K : Value → AM → Prop) : Prop :=
  ∀ b, w0.heap.size ≤ b → m b = none → K (.pointer (some ⟨b, 0, none⟩)) (m.upd b (.cells cells.toArray t))

def allocS (t : TypeId) (m : AM) (K : Value → AM → Prop) : Prop :=
  match tyOf P t with
  | some ti => newS w0 t ti.zero m K
  | none => False

def zeros (z : List Value) (n : Nat) : List Value := (List.replicate n z).flatten

def mkS (t : TypeId) (l cp : Value) (m : AM) (K : Value → AM → Prop) : Prop :=
  match l, cp, elOf P t with
  | .int _ l, .int _ cp, some (e, _, by_, z) => (0 ≤ l ∧ l ≤ cp ∧ cp ≤ 9223372036854775807 ∧ by_ * cp ≤ 281474976710656) ∧
      ∀ b, w0.heap.size ≤ b → m b = none → K (.slice (some ⟨b, 0, none⟩) l.toNat cp.toNat) (m.upd b (.cells (zeros z cp.toNat).toArray e))
  | _, _, _ => False

def EqP (P : Program) (op : BinOp) (t : TypeId) (x y : Value) (b : Bool) : Prop :=
  pval P (eqGuard op t (.const undef) (.const undef) x y >>= fun _ => binOp op t x y) = some (.bool b)

def rowP (sz : Nat) (i : Nat) : Option (Nat × Nat) := some (i * sz, sz)

def bslS (t : TypeId) (len : Nat) (parts : List (Nat × Value)) (m : AM) (K : Value → AM → Prop) : Prop :=
  match elOf P t with
  | some (e, sz, _, z) => (Nat.ble (len * sz) 16777216 && splOk (rowP sz) (zeros z len).length parts) = true ∧
      ∀ b, w0.heap.size ≤ b → m b = none → K (.slice (some ⟨b, 0, none⟩) len len) (m.upd b (.cells (spl (rowP sz) (zeros z len) parts).toArray e))
  | none => False

def bldS (t : TypeId) (parts : List (Nat × Value)) (K : Value → Prop) : Prop :=
  match bldOf P t with
  | some (l, z) => splOk (fun i => l[i]?) z.length parts = true ∧ K (.agg (spl (fun i => l[i]?) z parts).toArray)
  | none => False

/-- One operation, by what kinds its operands' values are. -/
def opS (op : Op) (ty : TypeId) (m : AM) (K : Value → AM → Prop) : Prop :=
  match op with
  | .move x => K (ev x) m
  | .assign x => K (ev x) m
  | .pick cd a b => pickS (ev cd) (ev a) (ev b) (fun v => K v m)
  | .nilCheck x => nilS (ev x) m K
  | .binOp bo t x y _ => binX P bo t (ev x) (ev y) m K (rawS P w0 c ev op ty m K)
  | .unOp uo _ x => unS uo (ev x) (fun v => K v m)
  | .convert s d x => cvtS P s d (ev x) m K (rawS P w0 c ev op ty m K)
  | .fieldAddr s x k => fldS P s (ev x) k (fun v => K v m)
  | .field s x k => partS P s (ev x) k (fun v => K v m)
  | .indexAddr t x i => idxS P t (ev x) (ev i) (fun v => K v m)
  | .extract x k => extS (ev x) k (fun v => K v m)
  | .makeFunc fn first captured => K (.func fn (first.map ev) (captured.map ev)) m
  | .slice t x lo hi none => sliS P t (ev x) (lo.map ev) (hi.map ev) (fun v => K v m)
  | .load t a => match ev a with
    | .pointer (some ad) => ldS P t m ad (fun v => K v m)
    | _ => False
  | .store t a x => if c ≠ 3 then False else match ev a with
    | .pointer (some ad) => stS P w0.heap.size t m ad (ev x) (K undef)
    | _ => False
  | .alloc t => if c ≤ 2 then False else allocS P w0 t m K
  | .box t x => if c ≤ 2 then False else newS w0 t (ev x).cells.toList m K
  | .makeSlice t l cp => if c ≤ 2 then False else mkS P w0 t (ev l) (ev cp) m K
  | .buildSlice t len parts => if c ≤ 2 then False else bslS P w0 t len (parts.toList.map fun p => (p.1, ev p.2)) m K
  | .build t parts => bldS P t (parts.toList.map fun p => (p.1, ev p.2)) (fun v => K v m)
  | .makeMap t none => if c ≤ 2 then False else ∀ b, w0.heap.size ≤ b → m b = none → K (.map (some b)) (m.upd b (.map #[] 0))
  | .lookup t x i true => match mpOf P t with
    | some te => te.ex fun v => ∃ ok : Bool, rval P m (Instr.lookup t (ev x) (ev i) true) = some (.tuple #[v, .bool ok]) ∧ K (.tuple #[v, .bool ok]) m
    | none => False
  | .lookup t x i false => match mpOf P t with
    | some te => te.ex fun v => rval P m (Instr.lookup t (ev x) (ev i) false) = some v ∧ K v m
    | none => False
  | .mapUpdate t mp k v => if c ≠ 3 then False else awp P w0.heap.size (Instr.mapUpdate t (ev mp) (ev k) (ev v)) m fun _ m' => K undef m'
  | .call { callee := .value f, args, .. } => fnS P w0 c (ev f) (args.map ev) m K
  | .call { callee := .builtin b, args, argTypes } => bltS P w0 c b argTypes ty (args.map ev) m K (rawS P w0 c ev op ty m K)
  | op => rawS P w0 c ev op ty m K
end

def okClass (c : Nat) (op : Op) : Prop := baseClass op ≤ c ∨ 2 ≤ c

section sound
variable {P : Program} {w0 : World} {c : Nat} {ev : Operand → Value} {m : AM} {K : Value → AM → Prop} {ty : TypeId}

theorem exec_value {s : Sem Value} {v : Value} (h : pval P s = some v) : pval P (do pure (Next.value (← s)) : Sem Next) = some (.value v) := by
  rw [pval_bind', h]; rfl
theorem execr_value {s : Sem Value} {v : Value} (h : rval P m s = some v) : rval P m (do pure (Next.value (← s)) : Sem Next) = some (.value v) := by
  rw [rval_bind', h]; rfl

theorem fldOf_spec {s : TypeId} {k off n : Nat} {g : Bool} (h : fldOf P s k = some (off, g, n)) :
    ∃ fs f d i, P.underlying s = some (.struct fs) ∧ fs[k]? = some f ∧ P.underlying f.type = some d ∧ P.info? f.type = some i ∧ i.size ≠ 0 ∧ f.offset = off ∧ isAggD d = g ∧ i.size = n := by
  unfold fldOf at h
  split at h
  · rename_i fs hs
    split at h
    · rename_i f hf
      split at h
      · rename_i d i hd hi
        by_cases h0 : i.size = 0
        · rw [if_pos h0] at h; cases h
        · rw [if_neg h0] at h
          injection h with h; injection h with h1 h; injection h with h2 h3
          exact ⟨fs, f, d, i, hs, hf, hd, hi, h0, h1, h2, h3⟩
      · cases h
    · cases h
  · cases h

theorem pv_fieldAt {s : TypeId} {k off n : Nat} {g : Bool} {a : Addr} (h : fldOf P s k = some (off, g, n)) : pval P (Instr.fieldAt s (.pointer (some a)) k) = some (.pointer (some (a.add off))) := by
  obtain ⟨fs, f, d, i, hs, hf, hd, hi, h0, h1, h2, h3⟩ := fldOf_spec h
  unfold Instr.fieldAt
  rw [pval_bind', pv_underlying hs]
  simp only [Option.bind_some, hf]
  rw [pval_bind']
  simp only [Instr.sureAddr, pval_pure, Option.bind_some]
  rw [pval_bind']
  unfold fieldPlace
  rw [pval_bind', pv_sizeOf hi]
  simp only [Option.bind_some, if_neg h0, pval_pure, h1]

theorem pv_part {t : TypeId} {d : TypeDesc} {i : TypeInfo} {cs : Array Value} {off : Nat} (hd : P.underlying t = some d) (hi : P.info? t = some i) :
    pval P (part t cs off) = if isAggD d then some (.agg (cs.extract off (off + i.size))) else cs[off]? := by
  unfold part
  rw [pval_bind', pv_isAgg hd]
  simp only [Option.bind_some]
  cases isAggD d with
  | true => simp only [if_true]; rw [pval_bind', pv_sizeOf hi]; rfl
  | false => simp only [Bool.false_eq_true, if_false]; cases cs[off]? <;> rfl

theorem elOf_spec {t e : TypeId} {sz bs : Nat} {zl : List Value} (h : elOf P t = some (e, sz, bs, zl)) : ∃ i z, P.underlying t = some (.slice e) ∧ P.info? e = some i ∧ i.zero = some z ∧ z.cells.size = i.size ∧ i.size = sz ∧ i.bytes = bs ∧ z.cells.toList = zl := by
  unfold elOf at h
  split at h
  · rename_i e' he
    split at h
    · rename_i i hi
      split at h
      · rename_i z hz
        split at h
        · rename_i hs
          injection h with h; injection h with h1 h; injection h with h2 h; injection h with h3 h4
          subst h1
          exact ⟨i, z, he, hi, hz, hs, h2, h3, h4⟩
        · cases h
      · cases h
    · cases h
  · cases h

theorem arOf_spec {t : TypeId} {n sz : Nat} (h : arOf P t = some (n, sz)) : ∃ e i, P.underlying t = some (.array n e) ∧ P.info? e = some i ∧ i.size = sz := by
  unfold arOf at h
  split at h
  · rename_i n' e he
    split at h
    · rename_i i hi
      injection h with h; injection h with h1 h2
      subst h1
      exact ⟨e, i, he, hi, h2⟩
    · cases h
  · cases h

theorem idxS_pval {t : TypeId} {x i : Value} {K : Value → Prop} (h : idxS P t x i K) : ∃ v, pval P (Instr.indexAt t x i) = some v ∧ K v := by
  unfold idxS at h
  split at h
  · rename_i A n cp k i
    split at h
    · rename_i e sz bs zl hel
      obtain ⟨hb, h⟩ := h
      obtain ⟨a, rfl, hK⟩ := nilO_spec h
      obtain ⟨inf, z, hu, hi, _, _, hsz, _, _⟩ := elOf_spec hel
      refine ⟨_, ?_, hK⟩
      unfold Instr.indexAt
      rw [pval_bind']
      simp only [asIntOf, pval_pure, Option.bind_some]
      rw [pval_bind', pv_underlying hu]
      simp only [Option.bind_some]
      rw [pval_bind']
      simp only [pval_pure, Option.bind_some]
      rw [pval_bind', pv_underlying hu]
      simp only [Option.bind_some, if_pos hb]
      rw [pval_bind', pv_sizeOf hi]
      simp only [Option.bind_some, pval_pure, hsz]
    · exact h.elim
  · rename_i a k i
    split at h
    · rename_i n sz har
      obtain ⟨hb, hK⟩ := h
      obtain ⟨e, inf, hu, hi, hsz⟩ := arOf_spec har
      refine ⟨_, ?_, hK⟩
      unfold Instr.indexAt
      rw [pval_bind']
      simp only [asIntOf, pval_pure, Option.bind_some]
      rw [pval_bind', pv_underlying hu]
      simp only [Option.bind_some]
      rw [pval_bind']
      simp only [Instr.sureAddr, pval_pure, Option.bind_some]
      rw [pval_bind']
      simp only [pval_pure, Option.bind_some]
      rw [pval_bind', pv_underlying hu]
      simp only [Option.bind_some, if_pos hb]
      rw [pval_bind', pv_sizeOf hi]
      simp only [Option.bind_some, pval_pure, hsz]
    · exact h.elim
  · exact h.elim


theorem partS_pval {s : TypeId} {v : Value} {k : Nat} {K : Value → Prop} (h : partS P s v k K) : ∃ u, pval P (Instr.field s v k) = some u ∧ K u := by
  unfold partS at h
  split at h
  · rename_i cs off n hf
    obtain ⟨fs, f, d, i, hs, hfk, hd, hi, h0, h1, h2, h3⟩ := fldOf_spec hf
    refine ⟨_, ?_, h⟩
    unfold Instr.field
    rw [pval_bind', pv_underlying hs]
    simp only [Option.bind_some, hfk]
    rw [pval_bind']
    simp only [asAgg, pval_pure, Option.bind_some]
    rw [pv_part hd hi, h2, h1, h3]; rfl
  · rename_i cs off n hf
    obtain ⟨fs, f, d, i, hs, hfk, hd, hi, h0, h1, h2, h3⟩ := fldOf_spec hf
    cases hu : cs[off]? with
    | none => rw [hu] at h; exact h.elim
    | some u =>
    rw [hu] at h
    refine ⟨u, ?_, h⟩
    unfold Instr.field
    rw [pval_bind', pv_underlying hs]
    simp only [Option.bind_some, hfk]
    rw [pval_bind']
    simp only [asAgg, pval_pure, Option.bind_some]
    rw [pv_part hd hi, h2, h1]
    simpa using hu
  · exact h.elim

theorem eqS_pval {t : TypeId} {x y : Value} {K : Bool → Prop} (h : eqS P t x y K) : ∃ b, pval P (Op.equal t x y) = some b ∧ K b := by
  have key : ∀ (d : Nat), ∃ b, pval P (Op.equalIn (d + 1) t x y) = some b ∧ K b := by
    intro d
    unfold eqS at h
    split at h
    · rename_i a b hu
      refine ⟨_, ?_, h⟩
      unfold Op.equalIn
      rw [pval_bind', pv_underlying hu]; rfl
    · rename_i A _ _ _ _ hu
      refine ⟨_, ?_, h⟩
      unfold Op.equalIn
      rw [pval_bind', pv_underlying hu]
      cases A <;> rfl
    · rename_i hu
      refine ⟨_, ?_, h⟩
      unfold Op.equalIn
      rw [pval_bind', pv_underlying hu]; rfl
    · rename_i A hu
      refine ⟨_, ?_, h⟩
      unfold Op.equalIn
      rw [pval_bind', pv_underlying hu]
      cases A <;> rfl
    · rename_i A hu
      refine ⟨_, ?_, h⟩
      unfold Op.equalIn
      rw [pval_bind', pv_underlying hu]
      cases A <;> rfl
    · exact h.elim
  exact key 9999

theorem eqGuard_other {op : BinOp} {t : TypeId} {x y : Operand} {u v : Value} (h1 : ∀ c, u ≠ .agg c) (h2 : u ≠ .nilIface) : pval P (eqGuard op t x y u v) = some () := by
  unfold eqGuard
  cases op <;> first | rfl | (cases u <;> first | rfl | exact absurd rfl h2 | exact absurd rfl (h1 _))

theorem bin_eq {op : BinOp} {t : TypeId} {x y : Operand} {u v : Value} {K : Value → Prop} (h1 : ∀ c, u ≠ .agg c) (h2 : u ≠ .nilIface)
    (hb : ∀ r, pval P (Op.equal t u v) = some r → (op = .eql → pval P (binOp op t u v) = some (.bool r)) ∧ (op = .neq → pval P (binOp op t u v) = some (.bool !r)))
    (h : eqOp P op t u v K) :
    ∃ r, pval P (do eqGuard op t x y u v; binOp op t u v) = some r ∧ K r := by
  unfold eqOp at h
  cases op <;> first
    | exact h.elim
    | (obtain ⟨b, he, hK⟩ := eqS_pval h
       refine ⟨_, ?_, hK⟩
       rw [pval_bind', eqGuard_other h1 h2]
       first | exact (hb b he).1 rfl | exact (hb b he).2 rfl)

theorem eqS_shape {t : TypeId} {u v : Value} {K : Bool → Prop} (h : eqS P t u v K) : (∃ a b, u = .bool a ∧ v = .bool b) ∨ (∃ A n c B n' c', u = .slice A n c ∧ v = .slice B n' c') ∨ (∃ A, u = .pointer A ∧ v = .pointer none) ∨ (∃ A, u = .map A ∧ v = .map none) := by
  unfold eqS at h
  split at h
  · exact .inl ⟨_, _, rfl, rfl⟩
  · exact .inr (.inl ⟨_, _, _, _, _, _, rfl, rfl⟩)
  · exact .inr (.inl ⟨_, _, _, _, _, _, rfl, rfl⟩)
  · exact .inr (.inr (.inl ⟨_, rfl, rfl⟩))
  · exact .inr (.inr (.inr ⟨_, rfl, rfl⟩))
  · exact h.elim

theorem binX_sound {op : BinOp} {t yt : TypeId} {x y : Operand} (h : binX P op t (ev x) (ev y) m K (rawS P w0 c ev (.binOp op t x y yt) ty m K)) : rawS P w0 c ev (.binOp op t x y yt) ty m K := by
  have fin : (∃ r, pval P (do eqGuard op t x y (ev x) (ev y); binOp op t (ev x) (ev y)) = some r ∧ K r m) → rawS P w0 c ev (.binOp op t x y yt) ty m K := fun ⟨r, hr, hK⟩ => OpA_of_pval (exec_value hr) c hK
  have gen : ∀ u v, ev x = u → ev y = v → eqOp P op t u v (fun v => K v m) → rawS P w0 c ev (.binOp op t x y yt) ty m K := by
    intro u v hu hv hh
    have hs : (∃ a b, u = .bool a ∧ v = .bool b) ∨ (∃ A n c B n' c', u = .slice A n c ∧ v = .slice B n' c') ∨ (∃ A, u = .pointer A ∧ v = .pointer none) ∨ (∃ A, u = .map A ∧ v = .map none) := by
      unfold eqOp at hh
      cases op <;> first | exact hh.elim | exact eqS_shape hh
    refine fin ?_
    rw [hu, hv]
    rcases hs with ⟨a, b, rfl, rfl⟩ | ⟨A, n, c', B, n', c'', rfl, rfl⟩ | ⟨A, rfl, rfl⟩ | ⟨A, rfl, rfl⟩
    all_goals
      refine bin_eq (K := fun r => K r m) (by simp) (by simp) (fun r hr => ⟨fun e => ?_, fun e => ?_⟩) hh
      all_goals
        subst e
        simp only [binOp]
        rw [pval_bind', hr]
        rfl
  unfold binX at h
  split at h
  · rename_i k a k' b hx hy
    rw [← hx, ← hy] at h
    exact fin (binS_pval h)
  · rename_i xs ys hx hy
    obtain ⟨b, hb, hK⟩ := h
    refine fin ⟨_, ?_, hK⟩
    rw [hx, hy]
    exact hb
  · rename_i a b hx hy
    split at h
    · refine fin ⟨_, ?_, h⟩
      rw [pval_bind', eqGuard_other (by rw [hx]; simp) (by rw [hx]; simp), hx, hy]
      simp [binOp, Op.stringOp, pval_pure]
    · refine fin ⟨_, ?_, h⟩
      rw [pval_bind', eqGuard_other (by rw [hx]; simp) (by rw [hx]; simp), hx, hy]
      simp [binOp, Op.stringOp, pval_pure]
    · exact h
    · exact h
  · exact gen _ _ rfl rfl h

theorem unS_pval {op : UnOp} {x : Value} {K : Value → Prop} (h : unS op x K) : ∃ v, pval P (Op.unary op x) = some v ∧ K v := by
  unfold unS at h
  split at h
  · exact ⟨_, rfl, h⟩
  · exact ⟨_, rfl, h⟩
  · exact h.elim

theorem bnd_pval {v : Option Value} {cap : Nat} {code : BoundsCode} {dflt : Nat} {K : Nat → Prop} (h : bndS v dflt K) (hle : ∀ n, K n → n ≤ cap) : ∃ n, (match v with | some v => pval P (Instr.sliceBound v cap code) | none => some dflt) = some n ∧ K n := by
  unfold bndS at h
  split at h
  · exact ⟨_, rfl, h⟩
  · rename_i i
    obtain ⟨h0, hK⟩ := h
    refine ⟨_, ?_, hK⟩
    have := hle _ hK
    simp only [Instr.sliceBound]
    rw [pval_bind']
    simp only [asIntOf, pval_pure, Option.bind_some]
    rw [if_pos ⟨h0, by omega⟩]; rfl
  · exact h.elim

theorem bounds_pval {isS : Bool} {len cap : Nat} {lo hi : Option Value} {K : Nat → Nat → Prop} (h : bndS hi len fun h => bndS lo 0 fun l => h ≤ cap ∧ l ≤ h ∧ K h l) (hlc : len ≤ cap ∨ hi ≠ none) :
    ∃ l h, pval P (Instr.sliceBounds isS len cap lo hi none) = some (l, h, cap) ∧ h ≤ cap ∧ l ≤ h ∧ K h l := by
  have hh : ∃ hv, (match hi with | some v => pval P (Instr.sliceBound v cap (if isS then .sliceAcap else .sliceAlen)) | none => some len) = some hv ∧ bndS lo 0 fun l => hv ≤ cap ∧ l ≤ hv ∧ K hv l :=
    bnd_pval h (fun n hn => by
      unfold bndS at hn
      split at hn
      · exact hn.1
      · exact hn.2.1
      · exact hn.elim)
  obtain ⟨hv, e1, h2⟩ := hh
  obtain ⟨lv, e2, h3, h4, h5⟩ := bnd_pval (P := P) (code := .sliceB) (cap := hv) h2 (fun n hn => hn.2.1)
  refine ⟨lv, hv, ?_, h3, h4, h5⟩
  unfold Instr.sliceBounds
  rw [pval_bind']
  simp only [pval_pure, Option.bind_some]
  cases hi with
  | none =>
    simp only at e1
    injection e1 with e1
    subst e1
    simp only
    rw [pval_bind']
    simp only [pval_pure, Option.bind_some]
    cases lo with
    | none => simp only at e2; injection e2 with e2; subst e2; rfl
    | some v => simp only at e2; simp only [Option.isSome_none, Bool.false_eq_true, if_false]; rw [pval_bind', e2]; rfl
  | some v1 =>
    simp only at e1
    simp only
    rw [pval_bind', e1]
    simp only [Option.bind_some]
    cases lo with
    | none => simp only at e2; injection e2 with e2; subst e2; rfl
    | some v => simp only at e2; simp only [Option.isSome_none, Bool.false_eq_true, if_false]; rw [pval_bind', e2]; rfl

theorem sliS_pval {t : TypeId} {x : Value} {lo hi : Option Value} {K : Value → Prop} (h : sliS P t x lo hi K) : ∃ v, pval P (Instr.sliceAt t x lo hi none) = some v ∧ K v := by
  unfold sliS at h
  split at h
  · rename_i A n cp
    split at h
    · rename_i e sz bs zl hel
      obtain ⟨inf, z, hu, hinf, _, _, hsz, _, _⟩ := elOf_spec hel
      obtain ⟨l, hh, hb, h1, h2, hK⟩ := bounds_pval (P := P) (isS := true) (K := fun h l => K (.slice (if cp = l then A else A.map (·.add (l * sz))) (h - l) (cp - l))) h (by
        by_cases hn : hi = none
        · left
          subst hn
          unfold bndS at h
          simp only at h
          split at h
          · exact h.1
          · exact h.2.1
          · exact h.elim
        · exact .inr hn)
      refine ⟨_, ?_, hK⟩
      unfold Instr.sliceAt
      rw [pval_bind', pv_underlying hu]
      simp only [Option.bind_some]
      unfold Instr.slice
      rw [pval_bind', pv_underlying hu]
      simp only [Option.bind_some]
      rw [pval_bind', hb]
      simp only [Option.bind_some]
      rw [pval_bind', pv_sizeOf hinf]
      simp only [Option.bind_some, pval_pure, hsz]
    · exact h.elim
  · rename_i s
    split at h
    · rename_i hu
      obtain ⟨l, hh, hb, h1, h2, hK⟩ := bounds_pval (P := P) (isS := false) (K := fun h l => K (.string (s.extract l h))) h (.inl (Nat.le_refl _))
      refine ⟨_, ?_, hK⟩
      unfold Instr.sliceAt
      rw [pval_bind', pv_underlying hu]
      simp only [Option.bind_some]
      unfold Instr.slice
      rw [pval_bind', pv_underlying hu]
      simp only [Option.bind_some, Option.isSome_none, Bool.false_eq_true, if_false]
      first
        | (rw [pval_bind', hb]; rfl)
        | (rw [pval_bind']; simp only [pval_pure, Option.bind_some]; rw [pval_bind', hb]; rfl)
    · exact h.elim
  · exact h.elim


theorem nilS_pval {v : Value} {o : Oper} {x : Operand} (ho : o.op = .nilCheck x) (hx : ev x = v) (h : nilS v m K) : ∃ u, pval P (execOp ev o) = some (.value u) ∧ K u m := by
  unfold nilS at h
  split at h
  · obtain ⟨a, rfl, hK⟩ := nilO_spec h
    refine ⟨_, ?_, hK⟩
    simp [execOp, ho, hx, pval_pure]
  · refine ⟨_, ?_, h⟩
    simp [execOp, ho, hx, pval_pure]
  · exact h.elim

theorem lenS_pval {t ty' : TypeId} {x : Value} {K : Value → Prop} (h : lenS P t x K) : ∃ v, pval P (Builtin.len_ #[t] ty' #[x]) = some v ∧ K v := by
  unfold lenS at h
  split at h
  · rename_i A n cp e hu
    refine ⟨_, ?_, h⟩
    show pval P (underlying t >>= _) = _
    rw [pval_bind', pv_underlying hu]; rfl
  · rename_i s hu
    refine ⟨_, ?_, h⟩
    show pval P (underlying t >>= _) = _
    rw [pval_bind', pv_underlying hu]; rfl
  · exact h.elim

theorem capS_pval {t ty' : TypeId} {x : Value} {K : Value → Prop} (h : capS P t x K) : ∃ v, pval P (Builtin.cap_ #[t] ty' #[x]) = some v ∧ K v := by
  unfold capS at h
  split at h
  · rename_i A n cp e hu
    refine ⟨_, ?_, h⟩
    show pval P (underlying t >>= _) = _
    rw [pval_bind', pv_underlying hu]; rfl
  · exact h.elim

theorem mnS_pval {at' : Array TypeId} {ty' : TypeId} {x y : Value} {K : Value → Prop} (h : mnS x y K) : ∃ v, pval P (Builtin.min_ at' ty' #[x, y]) = some v ∧ K v := by
  unfold mnS at h
  split at h
  · obtain ⟨rfl, h⟩ := h
    exact ⟨_, rfl, h⟩
  · exact h.elim
theorem mxS_pval {at' : Array TypeId} {ty' : TypeId} {x y : Value} {K : Value → Prop} (h : mxS x y K) : ∃ v, pval P (Builtin.max_ at' ty' #[x, y]) = some v ∧ K v := by
  unfold mxS at h
  split at h
  · obtain ⟨rfl, h⟩ := h
    exact ⟨_, rfl, h⟩
  · exact h.elim

theorem extS_pval {v : Value} {k : Nat} {K : Value → Prop} (h : extS v k K) : ∃ u, pval P (Instr.extract v k) = some u ∧ K u := by
  unfold extS at h
  split at h
  · rename_i vs
    cases hu : vs[k]? with
    | none => rw [hu] at h; exact h.elim
    | some u =>
    rw [hu] at h
    exact ⟨u, by simp [Instr.extract, hu, pval_pure], h⟩
  · exact h.elim

theorem cvt_sound {s d : TypeId} {x : Operand} (h : cvtS P s d (ev x) m K (rawS P w0 c ev (.convert s d x) ty m K)) : rawS P w0 c ev (.convert s d x) ty m K := by
  unfold cvtS at h
  split at h
  · rename_i k n hx
    split at h
    · rename_i ds k' hs hd
      refine OpA_of_pval (v := .int k' (k'.wrap n)) (exec_value ?_) c h
      unfold convert
      rw [pval_bind', pv_underlying hs]
      simp only [Option.bind_some]
      rw [pval_bind', pv_underlying hd, hx]
      simp [Conv.intToInt, pval_pure]
    · exact h
  · exact h

theorem sigOf_spec {g : FuncId} {ts : List TI} (h : sigOf P g = some ts) : ∃ fn, P.funcs[g]? = some fn ∧ (fn.name == "runtime.NumGoroutine") = false ∧ fn.body.isNone = false := by
  unfold sigOf at h
  split at h
  · rename_i fn hf
    refine ⟨fn, hf, ?_, ?_⟩
    · cases hn : fn.name == "runtime.NumGoroutine" with
      | false => rfl
      | true => rw [if_pos hn] at h; cases h
    · cases hn : fn.name == "runtime.NumGoroutine" with
      | true => rw [if_pos hn] at h; cases h
      | false =>
        rw [if_neg (by simp [hn])] at h
        cases hb : fn.body.isNone with
        | false => rfl
        | true => rw [if_pos hb] at h; cases h
  · cases h

theorem pv_callFunc {g : FuncId} {ts : List TI} (h : sigOf P g = some ts) (args : Array Value) : pval P (callFunc g args) = some (.enter g args) := by
  obtain ⟨fn, hf, h1, h2⟩ := sigOf_spec h
  unfold callFunc program
  show pval P (match P.funcs[g]? with | none => stuck "call: no such function" | some fn => _) = _
  rw [hf]
  simp [h1, h2, pval_pure]

theorem OpA_of_enter {s : Sem Next} {g : FuncId} {args : Array Value} (hs : pval P s = some (.enter g args)) {ts : List TI} (hc : 2 ≤ c) (h : if c ≤ 2 then resEx ts (fun v => CallsA P w0 g args m (fun r m' => r = v ∧ m' = m) ∧ K v m) else if c = 3 then CallsA P w0 g args m (fun r m' => resEx ts (fun v => r = v ∧ K v m')) else CallsA P w0 g args m (fun r m' => m.le m' ∧ resEx ts (fun v => r = v ∧ K v m'))) : OpA P w0 c s m K := by
  match c, hc with
  | 2, _ =>
    simp only [Nat.le_refl, if_true] at h
    obtain ⟨v, h1, h2⟩ := resEx_some h
    exact ⟨v, .inr ⟨g, args, rval_of_pval s hs, h1⟩, h2⟩
  | 3, _ =>
    rw [if_neg (by omega), if_pos rfl] at h
    refine awp_of_rval s (rval_of_pval s hs) ?_
    refine CallsA.mono h fun r m' hr => ?_
    obtain ⟨v, rfl, hK⟩ := resEx_some hr
    exact hK
  | n + 4, _ =>
    rw [if_neg (by omega), if_neg (by omega)] at h
    refine awp_of_rval s (rval_of_pval s hs) ?_
    refine CallsA.mono h fun r m' hr => ?_
    obtain ⟨v, rfl, hK⟩ := resEx_some hr.2
    exact ⟨hr.1, hK⟩

theorem fn_sound {f : Operand} {args : Array Operand} {at' : Array TypeId} (hc : 2 ≤ c) (h : fnS P w0 c (ev f) (args.map ev) m K) : rawS P w0 c ev (.call { callee := .value f, args, argTypes := at' }) ty m K := by
  unfold fnS at h
  split at h
  · rename_i g first captured hf
    unfold callS at h
    split at h
    · rename_i ts hts
      refine OpA_of_enter (g := g) (args := first ++ args.map ev ++ captured) ?_ hc h
      show pval P (resolve ev _ ty >>= fun d => invoke d.target d.args) = _
      rw [pval_bind']
      have : pval P (resolve ev { callee := .value f, args, argTypes := at' } ty) = some { target := .fn (.func g) captured, args := first ++ args.map ev } := by
        simp [resolve, Deferred.ofValue, hf, pval_pure]
      rw [this]
      exact pv_callFunc hts _
    · exact h.elim
  · exact h.elim

theorem new_sound {t : TypeId} {cells : Array Value} {s : Sem Value} (hs : s = (do pure (.pointer (some (← newRow t cells))) : Sem Value)) (hc : 3 ≤ c) (h : newS w0 t cells.toList m K) : OpA P w0 c (do pure (Next.value (← s)) : Sem Next) m K := by
  refine OpA_of_ext hc ?_
  subst hs
  intro b hb hm
  have := h b hb hm
  rw [Array.toArray_toList] at this
  exact ⟨le_new hm _, this⟩

theorem alloc_sound {t : TypeId} (hc : 3 ≤ c) (h : allocS P w0 t m K) : rawS P w0 c ev (.alloc t) ty m K := by
  unfold allocS at h
  split at h
  · rename_i ti hti
    obtain ⟨d, i, z, hd, hi, hz, hag, hlen, hzz⟩ := tyOf_spec hti
    refine OpA_of_ext hc ?_
    show awp P _ (Instr.alloc t true (.tuple #[]) >>= fun v => pure (Next.value v)) m _
    rw [awp_bind']
    unfold Instr.alloc
    rw [awp_bind']
    refine awp_p (pv_zeroValue hi hz) ?_
    intro b hb hm
    have := h b hb hm
    rw [hzz, Array.toArray_toList] at this
    exact ⟨le_new hm _, this⟩
  · exact h.elim

theorem zeros_eq (z : Array Value) (n : Nat) (_hz : 0 < z.size) : ((Array.range (n * z.size)).map (z[· % z.size]!)) = (zeros z.toList n).toArray := by
  apply Array.ext'
  simp only [Array.toList_map, Array.toList_range]
  induction n with
  | zero => simp [zeros]
  | succ n ih =>
    have e : (List.range ((n + 1) * z.size)) = List.range (n * z.size) ++ (List.range z.size).map (fun x => n * z.size + x) := by
      rw [Nat.succ_mul, List.range_add]
    rw [e, List.map_append, ih]
    have e2 : zeros z.toList (n + 1) = zeros z.toList n ++ z.toList := by
      simp [zeros, List.replicate_succ', List.flatten_append]
    rw [e2]
    congr 1
    apply List.ext_getElem
    · simp
    · intro i h1 h2
      simp only [List.length_map, List.length_range] at h1
      simp [Nat.mul_add_mod_self_right, Nat.mod_eq_of_lt h1, h1]

theorem mk_sound {t : TypeId} {l cp : Operand} (hc : 3 ≤ c) (h : mkS P w0 t (ev l) (ev cp) m K) : rawS P w0 c ev (.makeSlice t l cp) ty m K := by
  unfold mkS at h
  split at h
  · rename_i kl l' kc cp' e sz bs zl hl hcp hel
    obtain ⟨⟨h0, h1, h2, h3⟩, h⟩ := h
    obtain ⟨i, z, hu, hi, hz, hzs, hsz, hbs, hzl⟩ := elOf_spec hel
    refine OpA_of_ext hc ?_
    show awp P _ (Instr.makeSlice t (ev l) (ev cp) >>= fun v => pure (Next.value v)) m _
    rw [awp_bind', hl, hcp]
    have wl : IntKind.i64.wrap l' = l' := by rw [IntKind.wrap_i64]; omega
    have wc : IntKind.i64.wrap cp' = cp' := by rw [IntKind.wrap_i64]; omega
    have t1 : ¬ (cp' < 0 ∨ (i.bytes : Int) * cp' > 2 ^ 48) := by rw [hbs]; omega
    unfold Instr.makeSlice
    rw [awp_bind']
    refine awp_p (pv_underlying hu) ?_
    simp only
    rw [awp_bind']
    refine awp_p (x := l') rfl ?_
    rw [awp_bind']
    refine awp_p (x := cp') rfl ?_
    rw [awp_bind']
    refine awp_p (pv_typeInfo hi) ?_
    simp only [wl, wc]
    have t2 : (decide (cp' < 0) || decide ((i.bytes : Int) * cp' > 2 ^ 48) || decide (l' < 0) || decide (l' > cp')) = false := by
      simp only [Bool.or_eq_false_iff, decide_eq_false_iff_not]
      refine ⟨⟨⟨?_, ?_⟩, ?_⟩, ?_⟩ <;> omega
    simp only [Bool.or_eq_true, decide_eq_true_eq]
    rw [if_neg (by omega)]
    rw [awp_bind']
    have ask : ∀ (b : Nat) (K' : Unit → AM → Prop), K' () m → awp P w0.heap.size (askRoom b) m K' := fun b K' hK => by
      unfold askRoom
      by_cases hb : b > roomBytes
      · rw [if_pos hb]; exact hK
      · rw [if_neg hb]; exact hK
    refine ask _ _ ?_
    rw [awp_bind']
    refine awp_p (pv_sizeOf hi) ?_
    have fin : ∀ (za : Array Value), ((Array.range (cp'.toNat * i.size)).map (za[· % za.size]!)) = (zeros zl cp'.toNat).toArray →
        awp P w0.heap.size (do let a ← newRow e ((Array.range (cp'.toNat * i.size)).map (za[· % za.size]!)); pure (Value.slice (some a) l'.toNat cp'.toNat)) m (fun x m' => awp P w0.heap.size (pure (Next.value x)) m' (cont P w0 (fun v m' => m.le m' ∧ K v m'))) := fun za hza => by
      rw [hza]
      intro b hb hm
      exact ⟨le_new hm _, h b hb hm⟩
    by_cases hn : cp'.toNat * i.size = 0
    · rw [if_pos hn]
      refine fin #[] ?_
      rw [hn]
      have : (zeros zl cp'.toNat).length = 0 := by
        simp only [zeros, List.length_flatten, List.map_replicate, List.sum_replicate_nat]
        rw [← hzl, Array.length_toList, hzs]; exact hn
      rw [List.eq_nil_of_length_eq_zero this]; simp
    · rw [if_neg hn, awp_bind']
      refine awp_p (pv_zeroValue hi hz) ?_
      refine fin z.cells ?_
      rw [← hzl, ← hzs]
      refine zeros_eq _ _ ?_
      rw [hzs]
      rcases Nat.eq_zero_or_pos i.size with h0 | h0
      · rw [h0] at hn; omega
      · exact h0
  · exact h.elim

theorem bsl_sound {t : TypeId} {len : Nat} {parts : Array (Nat × Operand)} (hc : 3 ≤ c) (h : bslS P w0 t len (parts.toList.map fun p => (p.1, ev p.2)) m K) : rawS P w0 c ev (.buildSlice t len parts) ty m K := by
  unfold bslS at h
  split at h
  · rename_i e sz bs zl hel
    obtain ⟨hle, h⟩ := h
    simp only [Bool.and_eq_true] at hle
    have hle1 := Nat.le_of_ble_eq_true hle.1
    obtain ⟨i, z, hu, hi, hz, hzs, hsz, hbs, hzl⟩ := elOf_spec hel
    refine OpA_of_ext hc ?_
    have e0 : execOp ev ⟨none, .buildSlice t len parts, ty, "", #[], none⟩ = (Instr.buildSlice t len (parts.map fun (i, x) => (i, ev x)) >>= fun v => pure (Next.value v)) := rfl
    rw [e0, awp_bind']
    unfold Instr.buildSlice
    rw [awp_bind']
    refine awp_p (pv_underlying hu) ?_
    simp only
    rw [awp_bind']
    refine awp_p (pv_sizeOf hi) ?_
    rw [hsz, if_neg (by omega)]
    have hf : Instr.fill (fun i => some (i * sz, sz)) (zeros zl len).toArray (parts.toList.map fun p => (p.1, ev p.2)) = some (spl (rowP sz) (zeros zl len) (parts.toList.map fun p => (p.1, ev p.2))).toArray :=
      fill_spl (rowP sz) _ (zeros zl len).toArray (by simpa using hle.2)
    have hp : (parts.map fun (i, x) => (i, ev x)).toList = parts.toList.map fun p => (p.1, ev p.2) := by simp
    by_cases hn : len * sz = 0
    · simp only [if_pos hn]
      rw [awp_bind']
      refine awp_p (x := #[]) rfl ?_
      have hza : ((Array.range (len * sz)).map fun x => (#[] : Array Value)[x % (#[] : Array Value).size]!) = (zeros zl len).toArray := by
        rw [hn]
        have : (zeros zl len).length = 0 := by
          simp only [zeros, List.length_flatten, List.map_replicate, List.sum_replicate_nat]
          rw [← hzl, Array.length_toList, hzs, hsz]; exact hn
        rw [List.eq_nil_of_length_eq_zero this]; simp
      rw [hza, hp, hf]
      intro b hb hm
      exact ⟨le_new hm _, h b hb hm⟩
    · simp only [if_neg hn]
      rw [awp_bind']
      refine awp_p (pv_zeroValue hi hz) ?_
      rw [awp_bind']
      refine awp_p (x := z.cells) rfl ?_
      have hza : ((Array.range (len * sz)).map fun x => z.cells[x % z.cells.size]!) = (zeros zl len).toArray := by
        rw [← hzl, ← hsz, ← hzs]
        refine zeros_eq _ _ ?_
        rw [hzs, hsz]
        rcases Nat.eq_zero_or_pos sz with h0 | h0
        · rw [h0] at hn; omega
        · exact h0
      rw [hza, hp, hf]
      intro b hb hm
      exact ⟨le_new hm _, h b hb hm⟩
  · exact h.elim


theorem opS_sound {op : Op} (hc : okClass c op) (h : opS P w0 c ev op ty m K) : rawS P w0 c ev op ty m K := by
  have h1 : 1 ≤ baseClass op → 1 ≤ c := fun hb => by rcases hc with hc | hc <;> omega
  have h2 : 2 ≤ baseClass op → 2 ≤ c := fun hb => by rcases hc with hc | hc <;> omega
  cases op <;> first
    | exact h
    | (exact OpA_of_pval (v := _) rfl c h)
    | skip
  case pick cd a b =>
    have h : pickS (ev cd) (ev a) (ev b) (fun v => K v m) := h
    have key : ∀ t, ev cd = .bool t → K (if t then ev a else ev b) m → rawS P w0 c ev (.pick cd a b) ty m K := fun t ht hK => by
      refine OpA_of_pval (v := if t then ev a else ev b) ?_ c hK
      show pval P (asBool (ev cd) >>= _) = _
      rw [pval_bind', ht]; rfl
    unfold pickS at h
    split at h
    · rename_i t x y h1 h2 h3
      refine key t h1 ?_
      rw [h2, h3]
      cases t <;> exact h
    · rename_i t x y h1 h2 h3
      obtain ⟨rfl, h⟩ := h
      refine key true h1 ?_
      rw [h2]; exact h
    · rename_i t x y h1 h2 h3
      obtain ⟨rfl, h⟩ := h
      refine key false h1 ?_
      rw [h3]; exact h
    · exact h.elim
  case nilCheck x =>
    obtain ⟨u, hu, hK⟩ := nilS_pval (P := P) (ev := ev) (o := ⟨none, .nilCheck x, ty, "", #[], none⟩) rfl rfl h
    exact OpA_of_pval hu c hK
  case binOp bo t x y yt => exact binX_sound h
  case unOp uo t x =>
    obtain ⟨v, hv, hK⟩ := unS_pval (P := P) (show unS uo (ev x) (fun v => K v m) from h)
    exact OpA_of_pval (exec_value hv) c hK
  case convert s d x => exact cvt_sound h
  case fieldAddr s x k =>
    unfold opS fldS at h
    simp only at h
    split at h
    · rename_i a off g n hx hf
      refine OpA_of_pval (exec_value (v := .pointer (some (a.add off))) ?_) c h
      rw [hx]; exact pv_fieldAt hf
    · exact h.elim
  case field s x k =>
    obtain ⟨v, hv, hK⟩ := partS_pval (show partS P s (ev x) k (fun v => K v m) from h)
    exact OpA_of_pval (exec_value hv) c hK
  case indexAddr t x i =>
    obtain ⟨v, hv, hK⟩ := idxS_pval (show idxS P t (ev x) (ev i) (fun v => K v m) from h)
    exact OpA_of_pval (exec_value hv) c hK
  case extract x k =>
    obtain ⟨v, hv, hK⟩ := extS_pval (P := P) h
    exact OpA_of_pval (exec_value hv) c hK
  case slice t x lo hi mx =>
    cases mx with
    | some _ => exact h
    | none =>
      obtain ⟨v, hv, hK⟩ := sliS_pval (show sliS P t (ev x) (lo.map ev) (hi.map ev) (fun v => K v m) from h)
      exact OpA_of_pval (exec_value hv) c hK
  case load t a =>
    unfold opS at h
    simp only at h
    split at h
    · rename_i ad ha
      obtain ⟨v, hv, hK⟩ := ldS_rval h
      refine OpA_of_rval (execr_value (v := v) ?_) (h1 (by simp [baseClass])) hK
      rw [ha]
      unfold Instr.loadAt
      rw [rval_bind']
      exact hv
    · exact h.elim
  case store t a x =>
    unfold opS at h
    simp only at h
    split at h
    · exact h.elim
    · rename_i hc1
      split at h
      · rename_i ad ha
        refine OpA_of_awp (by omega) ?_
        show awp P _ (Instr.storeAt t (ev a) (ev x) >>= fun _ => pure Next.skip) m _
        rw [awp_bind', ha]
        unfold Instr.storeAt
        rw [awp_bind']
        exact stS_awp h
      · exact h.elim
  case alloc t =>
    unfold opS at h
    simp only at h
    split at h
    · exact h.elim
    · exact alloc_sound (by omega) h
  case box t x =>
    unfold opS at h
    simp only at h
    split at h
    · exact h.elim
    · exact new_sound (s := Instr.box t (ev x)) rfl (by omega) h
  case makeSlice t l cp =>
    unfold opS at h
    simp only at h
    split at h
    · exact h.elim
    · exact mk_sound (by omega) h
  case buildSlice t len parts =>
    unfold opS at h
    simp only at h
    split at h
    · exact h.elim
    · exact bsl_sound (by omega) h
  case call cl =>
    obtain ⟨callee, args, argTypes⟩ := cl
    cases callee with
    | value f => exact fn_sound (h2 (by simp [baseClass])) h
    | invoke r n => exact h
    | builtin b =>
      replace h : bltS P w0 c b argTypes ty (args.map ev) m K (rawS P w0 c ev (.call ⟨.builtin b, args, argTypes⟩) ty m K) := h
      have fin : ∀ (v : Value), pval P (builtin b argTypes ty (args.map fun | .const _ => true | _ => false) (args.map ev)) = some (.value v) → K v m → rawS P w0 c ev (.call ⟨.builtin b, args, argTypes⟩) ty m K := fun v hv hK => by
        refine OpA_of_pval (v := v) ?_ c hK
        show pval P (resolve ev _ ty >>= fun d => invoke d.target d.args) = _
        rw [pval_bind']
        exact hv
      have finw : c = 3 → (∀ s : Sem Value, builtin b argTypes ty (args.map fun | .const _ => true | _ => false) (args.map ev) = (do pure (Next.value (← s))) → awp P w0.heap.size s m K → rawS P w0 c ev (.call ⟨.builtin b, args, argTypes⟩) ty m K) := fun hc2 s hs hk => by
        have e0 : execOp ev ⟨none, .call ⟨.builtin b, args, argTypes⟩, ty, "", #[], none⟩ = builtin b argTypes ty (args.map fun | .const _ => true | _ => false) (args.map ev) := rfl
        refine OpA_of_awp hc2 ?_
        rw [e0, hs, awp_bind']
        exact hk
      have arr : ∀ {α : Type} {a : Array α} {l : List α}, a.toList = l → a = l.toArray := fun h => by rw [← h]
      unfold bltS at h
      split at h
      · rename_i x t hx ht
        obtain ⟨v, hv, hK⟩ := lenS_pval (ty' := ty) h
        refine fin v ?_ hK
        rw [arr hx, arr ht]
        exact exec_value hv
      · rename_i x t hx ht
        obtain ⟨v, hv, hK⟩ := capS_pval (ty' := ty) h
        refine fin v ?_ hK
        rw [arr hx, arr ht]
        exact exec_value hv
      · rename_i x y hx
        obtain ⟨v, hv, hK⟩ := mnS_pval (P := P) (at' := argTypes) (ty' := ty) h
        refine fin v ?_ hK
        rw [arr hx]
        refine exec_value ?_
        exact hv
      · rename_i x y hx
        obtain ⟨v, hv, hK⟩ := mxS_pval (P := P) (at' := argTypes) (ty' := ty) h
        refine fin v ?_ hK
        rw [arr hx]
        refine exec_value ?_
        exact hv
      · split at h
        · exact h.elim
        · exact finw (by omega) _ rfl (awp_mono _ _ _ _ (fun v m' hv => by obtain ⟨A, n, cp, rfl, hK⟩ := hv; exact hK) h)
      · split at h
        · exact h.elim
        · exact finw (by omega) _ rfl (awp_mono _ _ _ _ (fun v m' hv => by obtain ⟨n, rfl, hK⟩ := hv; exact hK) h)
      · split at h
        · exact h.elim
        · exact finw (by omega) _ rfl (awp_mono _ _ _ _ (fun v m' hv => by obtain ⟨rfl, hK⟩ := hv; exact hK) h)
      · exact h
  case build t parts =>
    have h : bldS P t (parts.toList.map fun p => (p.1, ev p.2)) (fun v => K v m) := h
    unfold bldS at h
    split at h
    · rename_i l z hb
      obtain ⟨hok, hK⟩ := h
      unfold bldOf at hb
      split at hb
      · rename_i i hi
        split at hb
        · rename_i zv hz
          split at hb
          · rename_i fs hs
            split at hb
            · rename_i l' hl
              injection hb with hb
              injection hb with h1 h2
              subst h1
              subst h2
              refine OpA_of_pval (exec_value (v := .agg (spl (fun i => l'[i]?) zv.cells.toList (parts.toList.map fun p => (p.1, ev p.2))).toArray) ?_) c hK
              unfold Instr.build
              rw [pval_bind', pv_zeroValue hi hz]
              simp only [Option.bind_some]
              rw [pval_bind', pv_underlying hs]
              simp only [Option.bind_some]
              rw [pval_bind']
              have hm : ∀ (fl : List Field) (r : List (Nat × Nat)), fl.mapM (fun f => (P.info? f.type).map fun j => (f.offset, j.size)) = some r →
                  pval P (fl.mapM fun f => (do pure (f.offset, ← sizeOf f.type) : Sem (Nat × Nat))) = some r := by
                intro fl
                induction fl with
                | nil => intro r hr; exact hr
                | cons f fl ih =>
                  intro r hr
                  rw [List.mapM_cons] at hr ⊢
                  cases hj : P.info? f.type with
                  | none => rw [hj] at hr; cases hr
                  | some j =>
                    rw [hj] at hr
                    cases hr2 : fl.mapM (fun f => (P.info? f.type).map fun j => (f.offset, j.size)) with
                    | none => rw [hr2] at hr; cases hr
                    | some r2 =>
                      rw [hr2] at hr
                      rw [pval_bind', pval_bind', pv_sizeOf hj]
                      simp only [Option.bind_some, pval_pure]
                      rw [pval_bind', ih r2 hr2]
                      exact hr
              have hm2 : pval P (fs.mapM fun f => (do pure (f.offset, ← sizeOf f.type) : Sem (Nat × Nat))) = some l'.toArray := by
                rw [Array.mapM_eq_mapM_toList, ← bind_pure_comp, pval_bind', hm fs.toList l' hl]; rfl
              rw [hm2]
              simp only [Option.bind_some]
              have hp : (parts.map fun (i, x) => (i, ev x)).toList = parts.toList.map fun p => (p.1, ev p.2) := by simp
              have hf := fill_spl (fun i => l'[i]?) (parts.toList.map fun p => (p.1, ev p.2)) zv.cells (by simpa using hok)
              have hpl : (fun i : Nat => l'.toArray[i]?) = (fun i : Nat => l'[i]?) := by funext i; simp
              rw [hp, hpl, hf]; rfl
            · cases hb
          · cases hb
        · cases hb
      · cases hb
    · exact h.elim
  case makeMap t r =>
    cases r with
    | some _ => exact h
    | none =>
      unfold opS at h
      simp only at h
      split at h
      · exact h.elim
      · refine OpA_of_ext (by omega) ?_
        intro b hb hm
        exact ⟨le_new hm _, h b hb hm⟩
  case lookup t x i ok =>
    cases ok with
    | true =>
      unfold opS at h
      simp only at h
      split at h
      · obtain ⟨v, ok, hr, hK⟩ := TI.ex_some h
        exact OpA_of_rval (execr_value hr) (h1 (by simp [baseClass])) hK
      · exact h.elim
    | false =>
      unfold opS at h
      simp only at h
      split at h
      · obtain ⟨v, hr, hK⟩ := TI.ex_some h
        exact OpA_of_rval (execr_value hr) (h1 (by simp [baseClass])) hK
      · exact h.elim
  case mapUpdate t mp k v =>
    unfold opS at h
    simp only at h
    split at h
    · exact h.elim
    · refine OpA_of_awp (by omega) ?_
      have e0 : execOp ev ⟨none, .mapUpdate t mp k v, ty, "", #[], none⟩ = (Instr.mapUpdate t (ev mp) (ev k) (ev v) >>= fun _ => pure Next.skip) := rfl
      rw [e0, awp_bind']
      exact h

end sound
end Go.Alog
