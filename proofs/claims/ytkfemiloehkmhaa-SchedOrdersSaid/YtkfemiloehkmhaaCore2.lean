/- Ytkfemiloehkmhaa: a text of our own, by an AI agent: Core2 -/
import Derived.Test.YtkfemiloehkmhaaCore
set_option linter.unusedSimpArgs false
set_option linter.unusedVariables false
namespace Go.Alog
open Go Go.RowKit

def isAggD : TypeDesc → Bool
  | .struct _ | .array _ _ => true
  | _ => false

section lemmas
variable {P : Program} {w0 : World}

theorem pval_bind {α β : Type} (s : Sem α) (f : α → Sem β) : pval P (s.bind f) = (pval P s).bind fun x => pval P (f x) := by
  induction s with
  | pure x => rfl
  | program k ih => simp only [Sem.bind, pval, ih]
  | mark mk k ih => simp only [Sem.bind, pval, ih]
  | _ => rfl

theorem rval_bind {m : AM} {α β : Type} (s : Sem α) (f : α → Sem β) : rval P m (s.bind f) = (rval P m s).bind fun x => rval P m (f x) := by
  induction s with
  | pure x => rfl
  | program k ih => simp only [Sem.bind, rval, ih]
  | mark mk k ih => simp only [Sem.bind, rval, ih]
  | load md a k ih => simp only [Sem.bind, rval]; cases m.cell a <;> simp [ih]
  | shape r k ih => simp only [Sem.bind, rval]; cases m r <;> simp [ih]
  | getObj r k ih => simp only [Sem.bind, rval]; cases hm : m r with
    | none => rfl
    | some o => cases o <;> simp [ih]
  | _ => rfl

theorem pval_bind' {α β : Type} (s : Sem α) (f : α → Sem β) : pval P (s >>= f) = (pval P s).bind fun x => pval P (f x) := pval_bind s f
theorem rval_bind' {m : AM} {α β : Type} (s : Sem α) (f : α → Sem β) : rval P m (s >>= f) = (rval P m s).bind fun x => rval P m (f x) := rval_bind s f
theorem pval_pure {α : Type} (x : α) : pval P (pure x : Sem α) = some x := rfl
theorem rval_pure {m : AM} {α : Type} (x : α) : rval P m (pure x : Sem α) = some x := rfl
theorem awp_bind' {B : Nat} {α β : Type} (s : Sem α) (f : α → Sem β) (m : AM) (K : β → AM → Prop) : awp P B (s >>= f) m K ↔ awp P B s m (fun x m' => awp P B (f x) m' K) := awp_bind s f m K
theorem awp_pure {B : Nat} {α : Type} (x : α) (m : AM) (K : α → AM → Prop) : awp P B (pure x : Sem α) m K ↔ K x m := Iff.rfl

theorem rval_of_pval {m : AM} {α : Type} (s : Sem α) : ∀ {x : α}, pval P s = some x → rval P m s = some x := by
  induction s with
  | pure x => intro y h; exact h
  | program k ih => intro y h; exact ih _ h
  | mark mk k ih => intro y h; exact ih h
  | _ => intros; simp_all [pval]

theorem awp_of_rval {B : Nat} {m : AM} {α : Type} (s : Sem α) : ∀ {x : α} {K : α → AM → Prop}, rval P m s = some x → K x m → awp P B s m K := by
  induction s with
  | pure x => intro y K h hk; injection h with h; subst h; exact hk
  | program k ih => intro y K h hk; exact ih _ h hk
  | mark mk k ih => intro y K h hk; exact ih h hk
  | load md a k ih =>
    intro y K h hk
    unfold rval at h
    cases hc : m.cell a with
    | none => rw [hc] at h; cases h
    | some v => rw [hc] at h; exact ⟨v, hc, ih v h hk⟩
  | shape r k ih =>
    intro y K h hk
    unfold rval at h
    cases hc : m r with
    | none => rw [hc] at h; cases h
    | some o => rw [hc] at h; exact ⟨o, hc, ih _ h hk⟩
  | getObj r k ih =>
    intro y K h hk
    unfold rval at h
    cases hc : m r with
    | none => rw [hc] at h; cases h
    | some o =>
      rw [hc] at h
      refine ⟨o, hc, ?_⟩
      cases o <;> first | exact ⟨trivial, ih _ h hk⟩ | (simp at h)
  | _ => intros; simp_all [rval]

/-- A pure operation, in whatever class. -/
theorem OpA_of_pval {s : Sem Next} {v : Value} (h : pval P s = some (.value v)) (c : Nat) {m : AM} {K : Value → AM → Prop} (hk : K v m) : OpA P w0 c s m K := by
  match c with
  | 0 => exact ⟨v, by show (pval P s).bind nextVal = _; rw [h]; rfl, hk⟩
  | 1 => exact ⟨v, by show (rval P m s).bind nextVal = _; rw [rval_of_pval s h]; rfl, hk⟩
  | 2 => exact ⟨v, .inl (by rw [rval_of_pval s h]; rfl), hk⟩
  | 3 => exact awp_of_rval s (rval_of_pval s h) hk
  | n + 4 => exact awp_of_rval s (rval_of_pval s h) ⟨fun _ _ h => h, hk⟩

theorem OpA_of_rval {s : Sem Next} {v : Value} {m : AM} (h : rval P m s = some (.value v)) {c : Nat} (hc : 1 ≤ c) {K : Value → AM → Prop} (hk : K v m) : OpA P w0 c s m K := by
  match c, hc with
  | 1, _ => exact ⟨v, by show (rval P m s).bind nextVal = _; rw [h]; rfl, hk⟩
  | 2, _ => exact ⟨v, .inl (by rw [h]; rfl), hk⟩
  | 3, _ => exact awp_of_rval s h hk
  | n + 4, _ => exact awp_of_rval s h ⟨fun _ _ h => h, hk⟩

theorem OpA_of_awp {s : Sem Next} {m : AM} {K : Value → AM → Prop} {c : Nat} (hc : c = 3) (h : awp P w0.heap.size s m (cont P w0 K)) : OpA P w0 c s m K := by
  subst hc; exact h

theorem OpA_of_ext {s : Sem Next} {m : AM} {K : Value → AM → Prop} {c : Nat} (hc : 3 ≤ c) (h : awp P w0.heap.size s m (cont P w0 (fun v m' => m.le m' ∧ K v m'))) : OpA P w0 c s m K := by
  match c, hc with
  | 3, _ => exact awp_mono s m _ _ (fun x m' hx => cont_mono (fun v m'' hv => hv.2) x m' hx) h
  | n + 4, _ => exact h

theorem le_new {m : AM} {b : Nat} (hm : m b = none) (o : Obj) : m.le (m.upd b o) := fun x o' hx => by
  have : x ≠ b := fun e => by subst e; rw [hm] at hx; cases hx
  unfold AM.upd; rw [if_neg this]; exact hx

theorem pval_underlying (t : TypeId) : pval P (underlying t) = P.underlying t := by
  unfold underlying program
  show pval P (match P.underlying t with | some d => (pure d : Sem TypeDesc) | none => stuck "no such type") = _
  cases P.underlying t <;> rfl
theorem pval_typeInfo (t : TypeId) : pval P (typeInfo t) = P.info? t := by
  unfold typeInfo program
  show pval P (match P.info? t with | some i => (pure i : Sem TypeInfo) | none => stuck "no such type") = _
  cases P.info? t <;> rfl
theorem pval_sizeOf (t : TypeId) : pval P (sizeOf t) = (P.info? t).map (·.size) := by
  unfold sizeOf
  rw [pval_bind', pval_typeInfo]
  cases P.info? t <;> rfl
theorem pval_isAgg (t : TypeId) : pval P (isAgg t) = (P.underlying t).map isAggD := by
  unfold isAgg
  rw [pval_bind', pval_underlying]
  cases P.underlying t with
  | none => rfl
  | some d => cases d <;> rfl
theorem pval_zeroValue (t : TypeId) : pval P (zeroValue t) = (P.info? t).bind (·.zero) := by
  unfold zeroValue
  rw [pval_bind', pval_typeInfo]
  cases P.info? t with
  | none => rfl
  | some i => simp only [Option.bind_some]; cases i.zero <;> rfl

theorem rv_isAgg {t : TypeId} {d : TypeDesc} {m : AM} (h : P.underlying t = some d) : rval P m (isAgg t) = some (isAggD d) := rval_of_pval _ (by rw [pval_isAgg, h]; rfl)
theorem rv_sizeOf {t : TypeId} {i : TypeInfo} {m : AM} (h : P.info? t = some i) : rval P m (sizeOf t) = some i.size := rval_of_pval _ (by rw [pval_sizeOf, h]; rfl)
theorem pv_sizeOf {t : TypeId} {i : TypeInfo} (h : P.info? t = some i) : pval P (sizeOf t) = some i.size := by rw [pval_sizeOf, h]; rfl
theorem pv_isAgg {t : TypeId} {d : TypeDesc} (h : P.underlying t = some d) : pval P (isAgg t) = some (isAggD d) := by rw [pval_isAgg, h]; rfl
theorem pv_underlying {t : TypeId} {d : TypeDesc} (h : P.underlying t = some d) : pval P (underlying t) = some d := by rw [pval_underlying, h]
theorem pv_zeroValue {t : TypeId} {i : TypeInfo} {z : Value} (h : P.info? t = some i) (hz : i.zero = some z) : pval P (zeroValue t) = some z := by rw [pval_zeroValue, h]; exact hz
theorem pv_typeInfo {t : TypeId} {i : TypeInfo} (h : P.info? t = some i) : pval P (typeInfo t) = some i := by rw [pval_typeInfo, h]
theorem rval_p {α : Type} {s : Sem α} {m : AM} {x : α} (h : pval P s = some x) : rval P m s = some x := rval_of_pval s h
theorem awp_p {α : Type} {s : Sem α} {m : AM} {x : α} {B : Nat} {K : α → AM → Prop} (h : pval P s = some x) (hk : K x m) : awp P B s m K := awp_of_rval s (rval_of_pval s h) hk
end lemmas

/-! ### Types -/
inductive CK where
  | int (k : IntKind)
  | bool | str | ptr | slice | map | any
  deriving DecidableEq, Repr

structure TI where
  agg : Bool
  cks : List CK
  zero : List Value

def ckOf : TypeDesc → CK
  | .int k => .int k
  | .bool => .bool
  | .string => .str
  | .pointer _ => .ptr
  | .slice _ => .slice
  | .map .. => .map
  | _ => .any

def flat (P : Program) : Nat → TypeId → List CK
  | 0, _ => []
  | d + 1, t => match P.underlying t with
    | some (.struct fs) => fs.toList.flatMap fun f => flat P d f.type
    | some (.array n e) => (List.replicate n (flat P d e)).flatten
    | some x => [ckOf x]
    | none => []

def tyOf (P : Program) (t : TypeId) : Option TI :=
  match P.underlying t, P.info? t with
  | some d, some i => match i.zero with
    | some z => if (flat P 12 t).length = i.size then some ⟨isAggD d, flat P 12 t, z.cells.toList⟩ else none
    | none => none
  | _, _ => none

/-- Of a slice's type: its element's type, cells, bytes, zero. -/
def elOf (P : Program) (t : TypeId) : Option (TypeId × Nat × Nat × List Value) :=
  match P.underlying t with
  | some (.slice e) => match P.info? e with
    | some i => match i.zero with
      | some z => if z.cells.size = i.size then some (e, i.size, i.bytes, z.cells.toList) else none
      | none => none
    | none => none
  | _ => none

/-- Of a struct's or an array's type: where each part lies, how many cells it has; the zero. -/
def bldOf (P : Program) (t : TypeId) : Option (List (Nat × Nat) × List Value) :=
  match P.info? t with
  | some i => match i.zero with
    | some z => match P.underlying t with
      | some (.struct fs) => match fs.toList.mapM (fun f => (P.info? f.type).map fun j => (f.offset, j.size)) with
        | some l => some (l, z.cells.toList)
        | none => none
      | _ => none
    | none => none
  | none => none

/-- Of an array's type: how many, and the element's cells. -/
def arOf (P : Program) (t : TypeId) : Option (Nat × Nat) :=
  match P.underlying t with
  | some (.array n e) => match P.info? e with
    | some i => some (n, i.size)
    | none => none
  | _ => none

/-- Of a struct's field: where it lies, is it made of several cells, how many. -/
def fldOf (P : Program) (t : TypeId) (k : Nat) : Option (Nat × Bool × Nat) :=
  match P.underlying t with
  | some (.struct fs) => match fs[k]? with
    | some f => match P.underlying f.type, P.info? f.type with
      | some d, some i => if i.size = 0 then none else some (f.offset, isAggD d, i.size)
      | _, _ => none
    | none => none
  | _ => none

/-- Of a function: its results' types, if it has a text. -/
def sigOf (P : Program) (g : FuncId) : Option (List TI) :=
  match P.funcs[g]? with
  | some fn => if fn.name == "runtime.NumGoroutine" then none else if fn.body.isNone then none else (fn.resultTypes.toList.mapM (tyOf P))
  | none => none

def CK.ex (c : CK) (K : Value → Prop) : Prop :=
  match c with
  | .int k => ∃ n : Int, K (.int k n)
  | .bool => ∃ b : Bool, K (.bool b)
  | .str => ∃ s : ByteArray, K (.string s)
  | .ptr => ∃ p : Option Addr, K (.pointer p)
  | .slice => ∃ A n c, K (.slice A n c)
  | .map => ∃ r, K (.map r)
  | .any => ∃ v, K v

theorem CK.ex_some {c : CK} {K : Value → Prop} (h : c.ex K) : ∃ v, K v := by
  cases c <;> first | exact h | (obtain ⟨_, h⟩ := h; first | exact ⟨_, h⟩ | (obtain ⟨_, _, h⟩ := h; exact ⟨_, h⟩))

def cksEx : List CK → List Value → (List Value → Prop) → Prop
  | [], acc, K => K acc
  | c :: r, acc, K => c.ex fun v => cksEx r (acc ++ [v]) K

def TI.ex (t : TI) (K : Value → Prop) : Prop :=
  if t.agg then cksEx t.cks [] fun l => K (.agg l.toArray) else match t.cks with
    | [c] => c.ex K
    | _ => False

def tupEx : List TI → List Value → (List Value → Prop) → Prop
  | [], acc, K => K acc
  | t :: r, acc, K => t.ex fun v => tupEx r (acc ++ [v]) K

def resEx (ts : List TI) (K : Value → Prop) : Prop :=
  match ts with
  | [t] => t.ex K
  | ts => tupEx ts [] fun l => K (.tuple l.toArray)

theorem cksEx_some : ∀ {l : List CK} {acc : List Value} {K : List Value → Prop}, cksEx l acc K → ∃ r, K r
  | [], _, _, h => ⟨_, h⟩
  | _ :: _, _, _, h => by obtain ⟨v, h⟩ := CK.ex_some h; exact cksEx_some h
theorem TI.ex_some {t : TI} {K : Value → Prop} (h : t.ex K) : ∃ v, K v := by
  unfold TI.ex at h
  split at h
  · obtain ⟨l, h⟩ := cksEx_some h; exact ⟨_, h⟩
  · split at h
    · exact CK.ex_some h
    · exact h.elim
theorem tupEx_some : ∀ {l : List TI} {acc : List Value} {K : List Value → Prop}, tupEx l acc K → ∃ r, K r
  | [], _, _, h => ⟨_, h⟩
  | _ :: _, _, _, h => by obtain ⟨v, h⟩ := TI.ex_some h; exact tupEx_some h
theorem resEx_some {ts : List TI} {K : Value → Prop} (h : resEx ts K) : ∃ v, K v := by
  unfold resEx at h
  split at h
  · exact TI.ex_some h
  · obtain ⟨l, h⟩ := tupEx_some h; exact ⟨_, h⟩

/-- Cells read one behind the other. -/
def ldCells (m : AM) (a : Addr) : List CK → Nat → List Value → (List Value → Prop) → Prop
  | [], _, acc, K => K acc
  | c :: r, i, acc, K => c.ex fun v => m.cell (a.add i) = some v ∧ ldCells m a r (i + 1) (acc ++ [v]) K

theorem ldCells_rval {P : Program} {m : AM} {a : Addr} : ∀ {cks : List CK} {i : Nat} {acc : List Value} {K : List Value → Prop}, ldCells m a cks i acc K →
    ∃ l, rval P m (loadCellsFrom a i cks.length acc.toArray) = some l.toArray ∧ K l
  | [], i, acc, K, h => ⟨acc, rfl, h⟩
  | c :: r, i, acc, K, h => by
    obtain ⟨v, hc, h⟩ := CK.ex_some h
    obtain ⟨l, hl, hK⟩ := ldCells_rval (P := P) h
    refine ⟨l, ?_, hK⟩
    show rval P m (load (a.add i) >>= fun v => loadCellsFrom a (i + 1) r.length (acc.toArray.push v)) = _
    rw [rval_bind']
    have : rval P m (load (a.add i)) = some v := by unfold load; simp only [rval, hc]
    rw [this]
    simpa using hl

def ldS (P : Program) (t : TypeId) (m : AM) (a : Addr) (K : Value → Prop) : Prop :=
  match tyOf P t with
  | some ti => if ti.agg then ldCells m a ti.cks 0 [] fun l => K (.agg l.toArray) else match ti.cks with
    | [c] => c.ex fun v => m.cell a = some v ∧ K v
    | _ => False
  | none => False

theorem tyOf_spec {P : Program} {t : TypeId} {ti : TI} (h : tyOf P t = some ti) : ∃ d i z, P.underlying t = some d ∧ P.info? t = some i ∧ i.zero = some z ∧ ti.agg = isAggD d ∧ ti.cks.length = i.size ∧ ti.zero = z.cells.toList := by
  unfold tyOf at h
  split at h
  · rename_i d i hd hi
    split at h
    · rename_i z hz
      split at h
      · rename_i hl
        injection h with h
        subst h
        exact ⟨d, i, z, hd, hi, hz, rfl, hl, rfl⟩
      · cases h
    · cases h
  · cases h

theorem ldS_rval {P : Program} {t : TypeId} {m : AM} {a : Addr} {K : Value → Prop} (h : ldS P t m a K) : ∃ v, rval P m (loadVar t a) = some v ∧ K v := by
  unfold ldS at h
  split at h
  · rename_i ti hti
    obtain ⟨d, i, z, hd, hi, hz, hag, hlen, hzz⟩ := tyOf_spec hti
    unfold loadVar
    rw [rval_bind', rv_isAgg hd, ← hag]
    by_cases hg : ti.agg = true
    · rw [if_pos hg] at h
      obtain ⟨l, hl, hK⟩ := ldCells_rval (P := P) h
      refine ⟨_, ?_, hK⟩
      simp only [Option.bind_some, hg, if_true]
      rw [rval_bind', rv_sizeOf hi, ← hlen]
      have hl' : rval P m (loadCells a ti.cks.length) = some l.toArray := hl
      simp only [Option.bind_some]
      rw [rval_bind', hl']
      rfl
    · rw [if_neg hg] at h
      split at h
      · obtain ⟨v, hc, hK⟩ := CK.ex_some h
        refine ⟨v, ?_, hK⟩
        have hg' : ti.agg = false := by simpa using hg
        simp only [Option.bind_some, hg', Bool.false_eq_true, if_false]
        unfold load
        simp only [rval, hc]
      · exact h.elim
  · exact h.elim


/-- A store into one cell. -/
def StC (B : Nat) (m : AM) (a : Addr) (v : Value) (K : AM → Prop) : Prop :=
  B ≤ a.block ∧ (∃ u, m.cell a = some u) ∧ m.frozen a = false ∧ K (m.set a v)

def one1 (v : Value) (X : Prop) : Prop :=
  match v with
  | .agg _ => False
  | .tuple _ => False
  | _ => X

/-- Cells stored one behind the other. -/
def stCells (B : Nat) (a : Addr) : List Value → List CK → Nat → AM → (AM → Prop) → Prop
  | [], [], _, m, K => K m
  | v :: r, _ :: cs, i, m, K => one1 v (StC B m (a.add i) v fun m' => stCells B a r cs (i + 1) m' K)
  | _, _, _, _, _ => False

theorem one1_spec {v : Value} {X : Prop} (h : one1 v X) : v.oneCell' = true ∧ X := by
  cases v <;> first | exact h.elim | exact ⟨rfl, h⟩

theorem stCells_len {B : Nat} {a : Addr} : ∀ {l : List Value} {cs : List CK} {i : Nat} {m : AM} {K : AM → Prop}, stCells B a l cs i m K → l.length = cs.length
  | [], [], _, _, _, _ => rfl
  | v :: r, c :: cs, i, m, K, h => by
    obtain ⟨_, _, _, _, h⟩ := one1_spec h
    simp [stCells_len h]
  | [], _ :: _, _, _, _, h => h.elim
  | _ :: _, [], _, _, _, h => h.elim

theorem stCells_awp {P : Program} {B : Nat} {a : Addr} : ∀ {l : List Value} {cs : List CK} {i : Nat} {m : AM} {K : AM → Prop}, stCells B a l cs i m K → awp P B (storeCells a l i) m (fun _ m' => K m')
  | [], [], i, m, K, h => h
  | v :: r, c :: cs, i, m, K, h => by
    obtain ⟨h1, h2, h3, h4, h5⟩ := one1_spec h
    show awp P B (store (a.add i) v >>= fun _ => storeCells a r (i + 1)) m _
    rw [awp_bind']
    exact ⟨h1, h2, h3, h4, stCells_awp h5⟩
  | [], _ :: _, _, _, _, h => h.elim
  | _ :: _, [], _, _, _, h => h.elim

def stS (P : Program) (B : Nat) (t : TypeId) (m : AM) (a : Addr) (v : Value) (K : AM → Prop) : Prop :=
  match tyOf P t with
  | some ti => stCells B a v.cells.toList ti.cks 0 m K
  | none => False

theorem stS_awp {P : Program} {B : Nat} {t : TypeId} {m : AM} {a : Addr} {v : Value} {K : AM → Prop} (h : stS P B t m a v K) : awp P B (storeVar t a v) m (fun _ m' => K m') := by
  unfold stS at h
  split at h
  · rename_i ti hti
    obtain ⟨d, i, z, hd, hi, hz, hag, hlen, hzz⟩ := tyOf_spec hti
    have hl := stCells_len h
    unfold storeVar
    rw [awp_bind']
    refine awp_p (pv_sizeOf hi) ?_
    have e : ¬ v.cells.size ≠ i.size := by
      have : v.cells.toList.length = v.cells.size := by simp
      omega
    simp only [e, if_false]
    exact stCells_awp h
  · exact h.elim

/-- Of a map's type: its element's type. -/
def mpOf (P : Program) (t : TypeId) : Option TI :=
  match P.underlying t with
  | some (.map _ e) => tyOf P e
  | _ => none

/-! ### Slots -/
abbrev Sg := Nat → Value
def upd (σ : Sg) (d : Nat) (v : Value) : Sg := fun t => if t = d then v else σ t
def putS (σ : Sg) (d : Option Tmp) (v : Value) : Sg :=
  match d with
  | some d => upd σ d v
  | none => σ
def evS (σ : Sg) (x : Operand) : Value :=
  match x with
  | .tmp t => σ t
  | .const v => v
  | .global g => .pointer (some ⟨g, 0, none⟩)
  | .func f => .func (.func f) #[] #[]

/-! ### Operations -/
def binS (op : BinOp) (x y : Value) (K : Value → Prop) : Prop :=
  match op, x, y with
  | .add, .int k a, .int k' b => k = k' ∧ K (.int k (k.wrap (a + b)))
  | .sub, .int k a, .int k' b => k = k' ∧ K (.int k (k.wrap (a - b)))
  | .mul, .int k a, .int k' b => k = k' ∧ K (.int k (k.wrap (a * b)))
  | .quo, .int k a, .int k' b => k = k' ∧ b ≠ 0 ∧ K (.int k (k.wrap (a.tdiv b)))
  | .rem, .int k a, .int k' b => k = k' ∧ b ≠ 0 ∧ K (.int k (a.tmod b))
  | .and, .int k a, .int k' b => k = k' ∧ K (bitsV .and k a b)
  | .or, .int k a, .int k' b => k = k' ∧ K (bitsV .or k a b)
  | .eql, .int k a, .int k' b => k = k' ∧ K (.bool (a == b))
  | .neq, .int k a, .int k' b => k = k' ∧ K (.bool (a != b))
  | .lss, .int k a, .int k' b => k = k' ∧ K (.bool (decide (a < b)))
  | .leq, .int k a, .int k' b => k = k' ∧ K (.bool (decide (a ≤ b)))
  | .gtr, .int k a, .int k' b => k = k' ∧ K (.bool (decide (a > b)))
  | .geq, .int k a, .int k' b => k = k' ∧ K (.bool (decide (a ≥ b)))
  | .shl, .int k a, .int _ b => 0 ≤ b ∧ K (.int k (k.wrap (a * 2 ^ (min b.toNat k.bits))))
  | .shr, .int k a, .int _ b => 0 ≤ b ∧ K (.int k (a.fdiv (2 ^ (min b.toNat k.bits))))
  | _, _, _ => False
 where bitsV (op : BinOp) (k : IntKind) (a b : Int) : Value :=
  match op with
  | .and => .int k (k.wrap (BitVec.ofInt k.bits a &&& BitVec.ofInt k.bits b).toNat)
  | _ => .int k (k.wrap (BitVec.ofInt k.bits a ||| BitVec.ofInt k.bits b).toNat)

theorem eqGuard_int {P : Program} (op : BinOp) (t : TypeId) (x y : Operand) {k k' : IntKind} (a b : Int) : pval P (eqGuard op t x y (.int k a) (.int k' b)) = some () := by
  unfold eqGuard; cases op <;> rfl

theorem binS_pval {P : Program} {op : BinOp} {t : TypeId} {x y : Operand} {u v : Value} {K : Value → Prop} (h : binS op u v K) :
    ∃ r, pval P (do eqGuard op t x y u v; binOp op t u v) = some r ∧ K r := by
  unfold binS at h
  split at h <;> first
    | exact h.elim
    | (obtain ⟨rfl, hb, h⟩ := h
       refine ⟨_, ?_, h⟩
       rw [pval_bind', eqGuard_int]
       simp [binOp, Op.intDiv, hb, pval_pure])
    | (obtain ⟨rfl, h⟩ := h
       refine ⟨_, ?_, h⟩
       rw [pval_bind', eqGuard_int]
       simp [binOp, Op.intArith, Op.intCmp, Op.intBits, binS.bitsV, pval_pure])
    | (obtain ⟨h0, h⟩ := h
       refine ⟨_, ?_, h⟩
       rw [pval_bind', eqGuard_int]
       have hb : ¬ (_ : Int) < 0 := Int.not_lt.2 h0
       simp [binOp, Op.shift, hb, pval_pure])


/-! ### Values that are written out -/
/-- Cells with others in their place, from some place on. -/
def spl (place : Nat → Option (Nat × Nat)) : List Value → List (Nat × Value) → List Value
  | cells, [] => cells
  | cells, (i, v) :: r => match place i with
    | some (off, _) => spl place (cells.take off ++ v.cells.toList ++ cells.drop (off + v.cells.toList.length)) r
    | none => cells

def splOk (place : Nat → Option (Nat × Nat)) (n : Nat) (parts : List (Nat × Value)) : Bool :=
  parts.all fun p => match place p.1 with
    | some (off, size) => Nat.beq p.2.cells.toList.length size && Nat.ble (off + size) n
    | none => false

theorem fold_splice (cs : List Value) : ∀ (cells : Array Value) (off k : Nat), off + k + cs.length ≤ cells.size →
    (cs.zipIdx k).foldl (fun a (x : Value × Nat) => a.setIfInBounds (off + x.2) x.1) cells = (cells.toList.take (off + k) ++ cs ++ cells.toList.drop (off + k + cs.length)).toArray := by
  induction cs with
  | nil => intro cells off k h; simp
  | cons c cs ih =>
    intro cells off k h
    simp only [List.length_cons] at h
    rw [List.zipIdx_cons, List.foldl_cons, ih _ off (k + 1) (by simp; omega)]
    apply Array.ext'
    simp only [Array.toList_setIfInBounds, List.length_cons]
    apply List.ext_getElem?
    intro i
    simp only [List.getElem?_append, List.getElem?_take, List.getElem?_drop, List.getElem?_set, List.length_append, List.length_take, List.length_set, List.length_cons, List.getElem?_cons, Array.length_toList]
    have e1 : min (off + (k + 1)) cells.size = off + k + 1 := by omega
    have e2 : min (off + k) cells.size = off + k := by omega
    rw [e1, e2]
    by_cases h1 : i < off + k
    · simp [h1, show i < off + k + 1 by omega, show i < off + (k + 1) by omega, show ¬ off + k = i by omega, show i < off + k + 1 + cs.length by omega, show i < off + k + (cs.length + 1) by omega]
    · by_cases h2 : i = off + k
      · subst h2
        simp [show off + k < off + (k + 1) by omega, show off + k < cells.size by omega, show off + k < off + k + 1 + cs.length by omega]
      · by_cases h3 : i < off + k + 1 + cs.length
        · simp [h1, h3, show ¬ i < off + k + 1 by omega, show i < off + k + (cs.length + 1) by omega, show ¬ i - (off + k) = 0 by omega]
          congr 1
        · simp [h1, h3, show ¬ i < off + k + 1 by omega, show ¬ i < off + k + (cs.length + 1) by omega]
          rw [show off + (k + 1) + cs.length + (i - (off + k + 1 + cs.length)) = i by omega, show off + k + (cs.length + 1) + (i - (off + k + (cs.length + 1))) = i by omega]
          rw [if_neg (by omega)]

theorem fill_spl (place : Nat → Option (Nat × Nat)) : ∀ (parts : List (Nat × Value)) (cells : Array Value), splOk place cells.size parts = true →
    Instr.fill place cells parts = some (spl place cells.toList parts).toArray
  | [], cells, _ => by simp [Instr.fill, spl]
  | (i, v) :: r, cells, h => by
    unfold splOk at h
    rw [List.all_cons, Bool.and_eq_true] at h
    obtain ⟨h1, h2⟩ := h
    simp only at h1
    unfold Instr.fill spl
    cases hp : place i with
    | none => rw [hp] at h1; cases h1
    | some os =>
      obtain ⟨off, size⟩ := os
      rw [hp] at h1
      simp only [Bool.and_eq_true] at h1
      have hs : v.cells.size = size := by have := Nat.eq_of_beq_eq_true h1.1; simpa using this
      have hb : off + size ≤ cells.size := Nat.le_of_ble_eq_true h1.2
      simp only
      have hn : ¬ ((decide (v.cells.size ≠ size) || decide (off + v.cells.size > cells.size)) = true) := by
        simp only [Bool.or_eq_true, decide_eq_true_eq]; omega
      rw [if_neg hn]
      have hf : v.cells.zipIdx.foldl (fun cs x => match x with | (c, j) => cs.setIfInBounds (off + j) c) cells = (cells.toList.take off ++ v.cells.toList ++ cells.toList.drop (off + v.cells.toList.length)).toArray := by
        have := fold_splice v.cells.toList cells off 0 (by simp; omega)
        simp only [Nat.add_zero] at this
        rw [← this, ← Array.foldl_toList, Array.toList_zipIdx]
      rw [hf, fill_spl place r _ (by
        have hsz : (cells.toList.take off ++ v.cells.toList ++ cells.toList.drop (off + v.cells.toList.length)).toArray.size = cells.size := by simp; omega
        rw [hsz]; exact h2)]

end Go.Alog
