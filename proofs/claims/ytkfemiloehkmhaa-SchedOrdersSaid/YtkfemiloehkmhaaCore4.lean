/- Ytkfemiloehkmhaa: a text of our own, by an AI agent: Core4 -/
import Derived.Test.YtkfemiloehkmhaaCore3
namespace Go.Alog
open Go Go.RowKit

section
variable (P : Program) (w0 : World)

/-- Two ways, by a bool. -/
def bcase (b : Bool) (A B : Prop) : Prop :=
  match b with
  | true => A
  | false => B

theorem bcase_iff {b : Bool} {A B : Prop} : bcase b A B ↔ (b = true → A) ∧ (b = false → B) := by cases b <;> simp [bcase]

/-- The slot that a guard looks at. -/
def gslot (ops : Array Oper) (g : Nat × Bool) : Option Tmp := (ops[g.1]?).bind (·.dst)

/-- Is what a guard asks met? -/
def gmet (ops : Array Oper) (σ : Sg) (g : Nat × Bool) : Bool :=
  match gslot ops g with
  | some d => match σ d with
    | .bool b => b == g.2
    | _ => false
  | none => false

/-- Guards that were decided, and are not turned by a write to a slot. -/
def keepG (ops : Array Oper) (known : List ((Nat × Bool) × Bool)) (d : Option Tmp) : List ((Nat × Bool) × Bool) :=
  match d with
  | none => known
  | some d => known.filter fun x => match gslot ops x.1 with | some e => e != d | none => true

def lookG (known : List ((Nat × Bool) × Bool)) (g : Nat × Bool) : Option Bool :=
  match known with
  | [] => none
  | (h, b) :: r => if h.1 == g.1 && h.2 == g.2 then some b else lookG r g

def alS (ops : Array Oper) (cf : Nat → Op → Nat) : List Oper → List ((Nat × Bool) × Bool) → Nat → Sg → AM → (Sg → AM → Prop) → Prop
  | [], _, _, σ, m, Q => Q σ m
  | o :: rest, known, k, σ, m, Q =>
    match o.guard with
    | none => opS P w0 (cf k o.op) (evS σ) o.op o.type m fun v m' => alS ops cf rest (keepG ops known o.dst) (k + 1) (putS σ o.dst v) m' Q
    | some g => match lookG known g with
      | some true => opS P w0 (cf k o.op) (evS σ) o.op o.type m fun v m' => alS ops cf rest (keepG ops known o.dst) (k + 1) (putS σ o.dst v) m' Q
      | some false => alS ops cf rest (keepG ops known o.dst) (k + 1) (putS σ o.dst undef) m Q
      | none => match gslot ops g with
        | some d => match σ d with
          | .bool b => match g.2 with
            | true => bcase b (opS P w0 (cf k o.op) (evS σ) o.op o.type m fun v m' => alS ops cf rest (keepG ops ((g, true) :: known) o.dst) (k + 1) (putS σ o.dst v) m' Q)
                (alS ops cf rest (keepG ops ((g, false) :: known) o.dst) (k + 1) (putS σ o.dst undef) m Q)
            | false => bcase b (alS ops cf rest (keepG ops ((g, false) :: known) o.dst) (k + 1) (putS σ o.dst undef) m Q)
                (opS P w0 (cf k o.op) (evS σ) o.op o.type m fun v m' => alS ops cf rest (keepG ops ((g, true) :: known) o.dst) (k + 1) (putS σ o.dst v) m' Q)
          | _ => alS ops cf rest (keepG ops ((g, false) :: known) o.dst) (k + 1) (putS σ o.dst undef) m Q
        | none => alS ops cf rest (keepG ops ((g, false) :: known) o.dst) (k + 1) (putS σ o.dst undef) m Q

def thenS (next : Sg → AM → Prop) (Q : Exit → Sg → AM → Prop) (e : Exit) (σ : Sg) (m : AM) : Prop :=
  match e with
  | .normal => next σ m
  | e => Q e σ m

def condS (v : Value) (A B : Prop) : Prop :=
  match v with
  | .bool t => bcase t A B
  | _ => False

def blockS (id : Nat) (Q : Exit → Sg → AM → Prop) (e : Exit) (σ : Sg) (m : AM) : Prop :=
  match e with
  | .exit id' => if id' = id then Q .normal σ m else Q (.exit id') σ m
  | e => Q e σ m

/-- One operation. -/
def stepS (ops : Array Oper) (qsr : List (Nat × Nat)) (k : Nat) (σ : Sg) (m : AM) (K : Sg → AM → Prop) : Prop :=
  match ops[k]? with
  | some o => alS P w0 ops (fun k op => cl qsr k op) [o] [] k σ m K
  | none => False
def conjL (f : Nat → Prop) : List Nat → Prop
  | [] => True
  | [k] => f k
  | k :: k' :: l => f k ∧ conjL f (k' :: l)
/-- A draw region in each order that matters. -/
def trS (ops : Array Oper) (qsr : List (Nat × Nat)) (Q : Sg → AM → Prop) : Nat → Array Bool → Sg → AM → Prop
  | 0, listed, σ, m => (Region.ready .any ops listed).isEmpty = true ∧ Q σ m
  | f + 1, listed, σ, m => match pickF ops (clsOf qsr ops) (deps .any ops.toList) listed with
    | [] => Q σ m
    | k :: l => conjL (fun k => stepS P w0 ops qsr k σ m fun σ' m' => trS ops qsr Q f (listed.setIfInBounds k true) σ' m') (k :: l)

/-- The weakest precondition of a piece of code, over slots and a view. -/
def vcS (qs : Nat → List (Nat × Nat)) : Code → Sg → AM → (Exit → Sg → AM → Prop) → Prop
  | .skip, σ, m, Q => Q .normal σ m
  | .label _, σ, m, Q => Q .normal σ m
  | .region id ops draw, σ, m, Q => match draw && !(qs (1000000 + id)).isEmpty with
    | true => ∃ Q0 : Sg → AM → Prop, (∀ σ m, Q0 σ m → Q .normal σ m) ∧ trS P w0 ops (qs id) Q0 ops.size (Array.replicate ops.size false) σ m
    | false => alS P w0 ops (fun k op => if draw then cl (qs id) k op else 3) ops.toList [] 0 σ m (Q .normal)
  | .seq x y, σ, m, Q => vcS qs x σ m (thenS (fun σ' m' => vcS qs y σ' m' Q) Q)
  | .cond c x y, σ, m, Q => condS (evS σ c) (vcS qs x σ m Q) (vcS qs y σ m Q)
  | .block id c, σ, m, Q => vcS qs c σ m (blockS id Q)
  | .loop c, σ, m, Q => ∃ (I : Nat → Sg → AM → Prop) (N : Nat), I N σ m ∧ ∀ n σ m, I n σ m → ∃ Q0 : Exit → Sg → AM → Prop, (∀ e σ m, Q0 e σ m → thenS (fun σ' m' => ∃ n', n' < n ∧ I n' σ' m') Q e σ m) ∧ vcS qs c σ m Q0
  | .exit id, σ, m, Q => Q (.exit id) σ m
  | .ret, σ, m, Q => Q .ret σ m
  | _, _, _, _ => False
end

def dstsOk (n : Nat) (ops : Array Oper) : Bool := ops.all fun o => match o.dst with | some d => decide (d < n) | none => true

def codeOk (qs : Nat → List (Nat × Nat)) (n : Nat) : Code → Bool
  | .region id ops draw => dstsOk n ops && (!draw || (bif (qs (1000000 + id)).isEmpty then regOk .any ops (clsOf (qs id) ops) (deps .any ops.toList) else Region.noSelect ops && depOk .any ops (deps .any ops.toList)))
  | .seq x y => codeOk qs n x && codeOk qs n y
  | .cond _ x y => codeOk qs n x && codeOk qs n y
  | .block _ c => codeOk qs n c
  | .loop c => codeOk qs n c
  | .rangeFunc .. => false
  | .scope _ => false
  | _ => true

section
variable {P : Program} {w0 : World}

/-- The slots that a frame has. -/
structure Fits (n : Nat) (a : Act) (σ : Sg) : Prop where
  defers : a.defers = []
  size : a.tmps.size = n
  eq : ∀ t, t < n → a.tmps.getD t undef = σ t
  out : ∀ t, n ≤ t → σ t = undef

theorem Fits.eval {n : Nat} {a : Act} {σ : Sg} (h : Fits n a σ) (x : Operand) : a.eval x = evS σ x := by
  cases x with
  | tmp t =>
    show a.tmps.getD t undef = σ t
    rcases Nat.lt_or_ge t n with hl | hl
    · exact h.eq t hl
    · rw [h.out t hl]
      have : a.tmps.size ≤ t := by rw [h.size]; exact hl
      simp [Array.getElem?_eq_none this]
  | const v => rfl
  | global g => rfl
  | func f => rfl

theorem Fits.evalF {n : Nat} {a : Act} {σ : Sg} (h : Fits n a σ) : a.eval = evS σ := funext h.eval

theorem Fits.put {n : Nat} {a : Act} {σ : Sg} (h : Fits n a σ) {d : Option Tmp} (hd : ∀ t, d = some t → t < n) (v : Value) : Fits n (a.put d v) (putS σ d v) := by
  cases d with
  | none => exact h
  | some d =>
    have hdn : (d : Nat) < n := hd d rfl
    refine ⟨h.defers, by simp [Act.put, h.size], fun t ht => ?_, fun t ht => ?_⟩
    · show (a.tmps.setIfInBounds d v).getD t undef = upd σ d v t
      unfold upd
      by_cases htd : t = d
      · subst htd
        rw [if_pos rfl]
        simp [h.size, ht]
      · rw [if_neg htd, ← h.eq t ht]
        simp [Array.getElem?_setIfInBounds_ne (Ne.symm htd)]
    · show upd σ d v t = undef
      unfold upd
      rw [if_neg (fun e => by subst e; exact absurd hdn (Nat.not_lt.2 ht))]
      exact h.out t ht

theorem Fits.wanted {n : Nat} {a : Act} {σ : Sg} (h : Fits n a σ) (ops : Array Oper) (j : Nat) : yielded ops a.tmps j = match (ops[j]?).bind (·.dst) with
    | some d => match σ d with
      | .bool b => some b
      | _ => none
    | none => none := by
  unfold yielded
  cases hd : (ops[j]?).bind (·.dst) with
  | none => simp
  | some d =>
    simp only [Option.bind_some]
    rcases Nat.lt_or_ge d n with hl | hl
    · have he := h.eq d hl
      have hs : d < a.tmps.size := by rw [h.size]; exact hl
      have : a.tmps[d]? = some (σ d) := by
        rw [← he]; simp [hs]
      rw [this]
      cases σ d <;> rfl
    · rw [h.out d hl]
      have : a.tmps[d]? = none := Array.getElem?_eq_none (by rw [h.size]; exact hl)
      rw [this]; rfl

theorem Fits.met {n : Nat} {a : Act} {σ : Sg} (h : Fits n a σ) (ops : Array Oper) (o : Oper) (g : Nat × Bool) (hg : o.guard = some g) : Region.wanted o (yielded ops a.tmps) = gmet ops σ g := by
  obtain ⟨j, want⟩ := g
  unfold Region.wanted gmet gslot
  rw [hg]
  simp only [h.wanted ops j]
  cases (ops[j]?).bind (·.dst) with
  | none => rfl
  | some d => cases hv : σ d <;> simp [hv]

def KnowsG (ops : Array Oper) (σ : Sg) (known : List ((Nat × Bool) × Bool)) : Prop := ∀ x ∈ known, gmet ops σ x.1 = x.2

theorem KnowsG.keep {ops : Array Oper} {σ : Sg} {known : List ((Nat × Bool) × Bool)} (h : KnowsG ops σ known) (d : Option Tmp) (v : Value) : KnowsG ops (putS σ d v) (keepG ops known d) := by
  intro x hx
  cases d with
  | none => exact h x hx
  | some d =>
    obtain ⟨h1, h2⟩ := List.mem_filter.1 hx
    rw [← h x h1]
    unfold gmet
    cases hs : gslot ops x.1 with
    | none => rfl
    | some e =>
      rw [hs] at h2
      have hne : e ≠ d := by simpa using h2
      have : putS σ (some d) v e = σ e := by show upd σ d v e = _; unfold upd; rw [if_neg hne]
      simp only [this]

theorem lookG_mem : ∀ {known : List ((Nat × Bool) × Bool)} {g : Nat × Bool} {b : Bool}, lookG known g = some b → (g, b) ∈ known
  | [], _, _, h => by cases h
  | (h0, b0) :: r, g, b, h => by
    unfold lookG at h
    split at h
    · rename_i he
      injection h with h
      subst h
      simp only [Bool.and_eq_true, beq_iff_eq] at he
      obtain ⟨h1, h2⟩ := h0
      obtain ⟨g1, g2⟩ := g
      simp only at he
      rw [he.1, he.2]; simp
    · exact List.mem_cons_of_mem _ (lookG_mem h)

theorem alS_sound {n : Nat} {ops : Array Oper} {cf : Nat → Op → Nat} {cls : Nat → Nat} {Q : Sg → AM → Prop} {Q' : Act → AM → Prop} (hd : dstsOk n ops = true) (hQ : ∀ a σ m, Fits n a σ → Q σ m → Q' a m) :
    ∀ (l : List Oper) (known : List ((Nat × Bool) × Bool)) (k : Nat) (a : Act) (σ : Sg) (m : AM), (∀ j o, l[j]? = some o → ops[k + j]? = some o) → (∀ j o, ops[j]? = some o → cls j = cf j o.op ∧ okClass (cls j) o.op) → Fits n a σ → KnowsG ops σ known →
      alS P w0 ops cf l known k σ m Q → AL P w0 cls ops l k a m Q'
  | [], _, _, _, _, _, _, _, hf, _, h => hQ _ _ _ hf h
  | o :: l, known, k, a, σ, m, hl, hc, hf, hkn, h => by
    have h0 : ops[k]? = some o := by simpa using hl 0 o rfl
    obtain ⟨h1, h2⟩ := hc k o h0
    have hdo : ∀ t, o.dst = some t → t < n := fun t ht => by
      have := Array.all_eq_true.1 hd k (Array.getElem?_eq_some_iff.1 h0).1
      have e : ops[k]'((Array.getElem?_eq_some_iff.1 h0).1) = o := (Array.getElem?_eq_some_iff.1 h0).2
      rw [e, ht] at this
      simpa using this
    have hl' : ∀ j o, l[j]? = some o → ops[k + 1 + j]? = some o := fun j o ho => by have := hl (j + 1) o (by simpa using ho); simpa [Nat.add_assoc, Nat.add_comm 1 j] using this
    have rec_ : ∀ (kn : List ((Nat × Bool) × Bool)), KnowsG ops σ kn → ∀ v m', alS P w0 ops cf l (keepG ops kn o.dst) (k + 1) (putS σ o.dst v) m' Q → AL P w0 cls ops l (k + 1) (a.put o.dst v) m' Q' :=
      fun kn hk v m' hv => alS_sound hd hQ l _ (k + 1) _ _ _ hl' hc (hf.put hdo v) (hk.keep o.dst v) hv
    have run : ∀ (kn : List ((Nat × Bool) × Bool)), KnowsG ops σ kn → (opS P w0 (cf k o.op) (evS σ) o.op o.type m fun v m' => alS P w0 ops cf l (keepG ops kn o.dst) (k + 1) (putS σ o.dst v) m' Q) →
        OpA P w0 (cls k) (execOp a.eval o) m (fun v m' => AL P w0 cls ops l (k + 1) (a.put o.dst v) m' Q') := fun kn hk ho => by
      rw [hf.evalF]
      rw [← h1] at ho
      exact OpA_mono (rec_ kn hk) (opS_sound (ty := o.type) h2 ho)
    unfold alS at h
    show GOp P w0 (cls k) ops o a m (fun v m' => AL P w0 cls ops l (k + 1) (a.put o.dst v) m' Q')
    cases hg : o.guard with
    | none =>
      rw [hg] at h
      refine ⟨fun _ => run known hkn h, fun hw => ?_⟩
      unfold Region.wanted at hw
      rw [hg] at hw
      cases hw
    | some g =>
      rw [hg] at h
      simp only at h
      have hm := hf.met ops o g hg
      have mk : ∀ b, gmet ops σ g = b → KnowsG ops σ ((g, b) :: known) := fun b hb x hx => by
        rcases List.mem_cons.1 hx with rfl | hx
        · exact hb
        · exact hkn x hx
      unfold GOp
      rw [hm]
      cases hlk : lookG known g with
      | some b =>
        rw [hlk] at h
        have hb := hkn _ (lookG_mem hlk)
        simp only at hb
        rw [hb]
        cases b with
        | true => exact ⟨fun _ => run known hkn h, fun hw => (by cases hw)⟩
        | false => exact ⟨fun hw => (by cases hw), fun _ => rec_ known hkn _ _ h⟩
      | none =>
        rw [hlk] at h
        simp only at h
        have hmet : gmet ops σ g = match gslot ops g with
          | some d => match σ d with
            | .bool b => b == g.2
            | _ => false
          | none => false := rfl
        cases hs : gslot ops g with
        | none =>
          rw [hs] at h hmet
          exact ⟨fun hw => (by rw [hmet] at hw; cases hw), fun _ => rec_ _ (mk false hmet) _ _ h⟩
        | some d =>
          rw [hs] at h hmet
          simp only at h hmet
          cases hv : σ d <;> simp only [hv] at h hmet <;> first
            | exact ⟨fun hw => (by rw [hmet] at hw; cases hw), fun _ => rec_ _ (mk false hmet) _ _ h⟩
            | (rename_i b
               cases hg2 : g.2 with
               | true =>
                 rw [hg2] at h hmet
                 have h := bcase_iff.1 h
                 refine ⟨fun hw => ?_, fun hw => ?_⟩
                 · exact run _ (mk true hw) (h.1 (by rw [hw] at hmet; simpa using hmet.symm))
                 · exact rec_ _ (mk false hw) _ _ (h.2 (by rw [hw] at hmet; simpa using hmet.symm))
               | false =>
                 rw [hg2] at h hmet
                 have h := bcase_iff.1 h
                 refine ⟨fun hw => ?_, fun hw => ?_⟩
                 · exact run _ (mk true hw) (h.2 (by rw [hw] at hmet; simpa using hmet.symm))
                 · exact rec_ _ (mk false hw) _ _ (h.1 (by rw [hw] at hmet; simpa using hmet.symm)))

theorem conjL_mem {f : Nat → Prop} : ∀ {l : List Nat}, conjL f l → ∀ k ∈ l, f k
  | [], _, k, hk => by cases hk
  | [x], h, k, hk => by simp at hk; subst hk; exact h
  | x :: y :: l, h, k, hk => by
    rcases List.mem_cons.1 hk with rfl | hk
    · exact h.1
    · exact conjL_mem h.2 k hk

theorem trS_sound {n : Nat} {ops : Array Oper} {qsr : List (Nat × Nat)} {Q : Sg → AM → Prop} {Q' : Act → AM → Prop} (hd : dstsOk n ops = true) (hQ : ∀ a σ m, Fits n a σ → Q σ m → Q' a m) (hsel : Region.noSelect ops = true) (hD : depOk .any ops (deps .any ops.toList) = true)
    (hcls : ∀ j o, ops[j]? = some o → clsOf qsr ops j = cl qsr j o.op ∧ okClass (clsOf qsr ops j) o.op) :
    ∀ (f : Nat) (listed : Array Bool) (a : Act) (σ : Sg) (m : AM), Sat w0 m → Closed .any ops listed → Fits n a σ → trS P w0 ops qsr Q f listed σ m → VAny P w0 (clsOf qsr ops) .any ops Q' f listed a m
  | 0, listed, a, σ, m, hs, hc, hf, h => ⟨List.isEmpty_iff.1 h.1, hQ _ _ _ hf h.2⟩
  | f + 1, listed, a, σ, m, hs, hc, hf, h => by
    unfold trS at h
    refine VAny_pick hsel hD hs hc (fun h0 => ?_) (fun k o hk ho hr => ?_)
    · rw [h0] at h; exact hQ _ _ _ hf h
    · have h1 : stepS P w0 ops qsr k σ m fun σ' m' => trS P w0 ops qsr Q f (listed.setIfInBounds k true) σ' m' := by
        cases hp : pickF ops (clsOf qsr ops) (deps .any ops.toList) listed with
        | nil => rw [hp] at hk; cases hk
        | cons x l => rw [hp] at h hk; exact conjL_mem h k hk
      unfold stepS at h1
      rw [ho] at h1
      have h2 := alS_sound (cls := clsOf qsr ops) (Q' := fun a m => Sat w0 m → VAny P w0 (clsOf qsr ops) .any ops Q' f (listed.setIfInBounds k true) a m) hd (fun a' σ' m' hf' hq' hs' => trS_sound hd hQ hsel hD hcls f _ a' σ' m' hs' (hc.set hr) hf' hq') [o] [] k a σ m
        (fun j o' hj => by
          match j, hj with
          | 0, hj => simp at hj; subst hj; simpa using ho
          | j + 1, hj => simp at hj) hcls hf (fun x hx => by cases hx) h1
      exact GOp_mono_sat hs (fun v m' hs' hv => hv hs') h2

theorem okClass_three (op : Op) : okClass 3 op := .inr (by omega)

theorem vc_mono (c : Code) : ∀ {a : Act} {m : AM} {Q Q' : Exit → Act → AM → Prop}, (∀ e a m, Q e a m → Q' e a m) → vc P w0 c a m Q → vc P w0 c a m Q' := by
  have al : ∀ (ops : Array Oper) (cls : Nat → Nat) (l : List Oper) (k : Nat) (a : Act) (m : AM) (Q Q' : Act → AM → Prop), (∀ a m, Q a m → Q' a m) → AL P w0 cls ops l k a m Q → AL P w0 cls ops l k a m Q' := by
    intro ops cls l
    induction l with
    | nil => intro k a m Q Q' hq h; exact hq _ _ h
    | cons o l ih => intro k a m Q Q' hq h; exact GOp_mono (fun v m' hv => ih _ _ _ _ _ hq hv) h
  induction c with
  | skip => intro a m Q Q' hq h; exact hq _ _ _ h
  | label l => intro a m Q Q' hq h; exact hq _ _ _ h
  | region id ops draw =>
    intro a m Q Q' hq h
    cases draw with
    | false => exact al _ _ _ _ _ _ _ _ (fun a m => hq _ a m) h
    | true => obtain ⟨cls, h⟩ := h; exact ⟨cls, fun hs => VAny_mono (fun a m => hq _ a m) _ _ _ _ (h hs)⟩
  | seq x y ihx ihy =>
    intro a m Q Q' hq h
    refine ihx (fun e a' m' he => ?_) h
    cases e <;> first | exact ihy hq he | exact hq _ _ _ he
  | cond c x y ihx ihy =>
    intro a m Q Q' hq h
    obtain ⟨t, ht, h1, h2⟩ := h
    exact ⟨t, ht, fun e => ihx hq (h1 e), fun e => ihy hq (h2 e)⟩
  | block id c ih =>
    intro a m Q Q' hq h
    refine ih (fun e a' m' he => ?_) h
    cases e <;> first | exact hq _ _ _ he | skip
    rename_i id'
    simp only at he ⊢
    by_cases hid : id' = id
    · rw [if_pos hid] at he ⊢; exact hq _ _ _ he
    · rw [if_neg hid] at he ⊢; exact hq _ _ _ he
  | loop c ih =>
    intro a m Q Q' hq h
    obtain ⟨n, h⟩ := h
    refine ⟨n, ?_⟩
    induction n generalizing a m with
    | zero => exact h
    | succ n ihn =>
      refine ih (fun e a' m' he => ?_) h
      cases e <;> first | exact ihn he | exact hq _ _ _ he
  | exit id => intro a m Q Q' hq h; exact hq _ _ _ h
  | ret => intro a m Q Q' hq h; exact hq _ _ _ h
  | _ => intro a m Q Q' hq h; exact h.elim

theorem vcS_sound {qs : Nat → List (Nat × Nat)} {n : Nat} (c : Code) : ∀ {a : Act} {σ : Sg} {m : AM} {Q : Exit → Sg → AM → Prop} {Q' : Exit → Act → AM → Prop}, codeOk qs n c = true → Fits n a σ →
    (∀ e a σ m, Fits n a σ → Q e σ m → Q' e a m) → vcS P w0 qs c σ m Q → vc P w0 c a m Q' := by
  induction c with
  | skip => intro a σ m Q Q' ho hf hq h; exact hq _ _ _ _ hf h
  | label l => intro a σ m Q Q' ho hf hq h; exact hq _ _ _ _ hf h
  | region id ops draw =>
    intro a σ m Q Q' ho hf hq h
    simp only [codeOk, Bool.and_eq_true] at ho
    cases draw with
    | false =>
      exact alS_sound (Q' := Q' .normal) ho.1 (fun a σ m hf hQ => hq _ _ _ _ hf hQ) ops.toList [] 0 a σ m (by simp) (fun j o hj => ⟨rfl, okClass_three _⟩) hf (fun x hx => by cases hx) h
    | true =>
      have hcl : ∀ j o, ops[j]? = some o → clsOf (qs id) ops j = cl (qs id) j o.op ∧ okClass (clsOf (qs id) ops j) o.op := fun j o hj => by
        unfold clsOf
        rw [hj]
        refine ⟨rfl, ?_⟩
        show okClass (cl (qs id) j o.op) o.op
        unfold cl
        split
        · exact .inr (Nat.le_max_right _ _)
        · exact .inl (Nat.le_refl _)
      refine ⟨clsOf (qs id) ops, fun hs => ?_⟩
      cases hm : (qs (1000000 + id)).isEmpty with
      | true =>
        simp only [hm, Bool.not_true, Bool.false_or, cond_true] at ho
        have h : alS P w0 ops (fun k op => if true then cl (qs id) k op else 3) ops.toList [] 0 σ m (Q .normal) := by
          simpa only [vcS, hm, Bool.not_true, Bool.and_false] using h
        refine VAny_text ho.2 hs ?_
        exact alS_sound (Q' := Q' .normal) ho.1 (fun a σ m hf hQ => hq _ _ _ _ hf hQ) ops.toList [] 0 a σ m (by simp) hcl hf (fun x hx => by cases hx) h
      | false =>
        simp only [hm, Bool.not_true, Bool.false_or, cond_false, Bool.and_eq_true] at ho
        obtain ⟨Q0, hq0, h⟩ : ∃ Q0 : Sg → AM → Prop, (∀ σ m, Q0 σ m → Q .normal σ m) ∧ trS P w0 ops (qs id) Q0 ops.size (Array.replicate ops.size false) σ m := by
          simpa only [vcS, hm, Bool.not_false, Bool.and_true] using h
        exact trS_sound (Q' := Q' .normal) ho.1 (fun a σ m hf hQ => hq _ _ _ _ hf (hq0 _ _ hQ)) ho.2.1 ho.2.2 hcl ops.size _ a σ m hs (fun j oj _ hl => by exfalso; rcases Nat.lt_or_ge j ops.size with h' | h' <;> simp [h'] at hl) hf h
  | seq x y ihx ihy =>
    intro a σ m Q Q' ho hf hq h
    simp only [codeOk, Bool.and_eq_true] at ho
    refine ihx ho.1 hf (fun e a' σ' m' hf' he => ?_) h
    cases e <;> first | exact ihy ho.2 hf' hq he | exact hq _ _ _ _ hf' he
  | cond c x y ihx ihy =>
    intro a σ m Q Q' ho hf hq h
    simp only [codeOk, Bool.and_eq_true] at ho
    have h : condS (evS σ c) (vcS P w0 qs x σ m Q) (vcS P w0 qs y σ m Q) := h
    unfold condS at h
    split at h
    · rename_i t ht
      have h := bcase_iff.1 h
      exact ⟨t, (hf.eval c).trans ht, fun e => ihx ho.1 hf hq (h.1 e), fun e => ihy ho.2 hf hq (h.2 e)⟩
    · exact h.elim
  | block id c ih =>
    intro a σ m Q Q' ho hf hq h
    refine ih ho hf (fun e a' σ' m' hf' he => ?_) h
    cases e <;> first | exact hq _ _ _ _ hf' he | skip
    rename_i id'
    simp only [blockS] at he ⊢
    by_cases hid : id' = id
    · rw [if_pos hid] at he ⊢; exact hq _ _ _ _ hf' he
    · rw [if_neg hid] at he ⊢; exact hq _ _ _ _ hf' he
  | loop c ih =>
    intro a σ m Q Q' ho hf hq h
    obtain ⟨I, N, h0, hr⟩ := h
    refine ⟨N + 1, ?_⟩
    have key : ∀ k j, j < k → ∀ a σ m, Fits n a σ → I j σ m → iterA (fun a m Q => vc P w0 c a m Q) k a m Q' := by
      intro k
      induction k with
      | zero => intro j hj; omega
      | succ k ihk =>
        intro j hn a σ m hf hI
        obtain ⟨Q0, hle, hv⟩ := hr j σ m hI
        refine ih ho hf (fun e a' σ' m' hf' he => ?_) hv
        have he := hle _ _ _ he
        cases e <;> first
          | (obtain ⟨n', hn', hI'⟩ := he; exact ihk n' (by omega) a' σ' m' hf' hI')
          | exact hq _ _ _ _ hf' he
    exact key (N + 1) N (by omega) a σ m hf h0
  | exit id => intro a σ m Q Q' ho hf hq h; exact hq _ _ _ _ hf h
  | ret => intro a σ m Q Q' ho hf hq h; exact hq _ _ _ _ hf h
  | _ => intro a σ m Q Q' ho hf hq h; exact h.elim

/-- What a function hands back. -/
def retS (P : Program) (σ : Sg) (m : AM) : List ResultVar → List Value → (List Value → Prop) → Prop
  | [], acc, K => K acc
  | .tmp t :: r, acc, K => retS P σ m r (acc ++ [σ t]) K
  | .cell x t :: r, acc, K => match σ x with
    | .pointer (some ad) => ldS P t m ad fun v => retS P σ m r (acc ++ [v]) K
    | _ => False

def packS : List Value → Value
  | [v] => v
  | l => .tuple l.toArray

def argS (args : List Value) : Sg := fun t => args.getD t undef

theorem retS_rval {n : Nat} {a : Act} {σ : Sg} (hf : Fits n a σ) {m : AM} : ∀ {l : List ResultVar} {acc : List Value} {K : List Value → Prop}, retS P σ m l acc K →
    ∃ vs, rval P m (l.mapM fun | .tmp t => (pure (a.tmps.getD t undef) : Sem Value) | .cell x t => do loadVar t (← asAddr (a.tmps.getD x undef))) = some vs ∧ K (acc ++ vs)
  | [], acc, K, h => ⟨[], rfl, by rw [List.append_nil]; exact h⟩
  | .tmp t :: r, acc, K, h => by
    obtain ⟨vs, h1, h2⟩ := retS_rval hf (l := r) h
    refine ⟨σ t :: vs, ?_, by simpa using h2⟩
    rw [List.mapM_cons, rval_bind']
    have e : a.tmps.getD t undef = σ t := hf.eval (.tmp t)
    simp only [e, rval_pure, Option.bind_some]
    rw [rval_bind', h1]; rfl
  | .cell x t :: r, acc, K, h => by
    unfold retS at h
    split at h
    · rename_i ad hx
      obtain ⟨v, hv, h⟩ := ldS_rval h
      obtain ⟨vs, h1, h2⟩ := retS_rval hf (l := r) h
      refine ⟨v :: vs, ?_, by simpa using h2⟩
      rw [List.mapM_cons, rval_bind']
      have e : a.tmps.getD x undef = σ x := hf.eval (.tmp x)
      have e2 : rval P m (do loadVar t (← asAddr (a.tmps.getD x undef))) = some v := by
        rw [rval_bind', e, hx]
        exact hv
      rw [e2]
      simp only [Option.bind_some]
      rw [rval_bind', h1]; rfl
    · exact h.elim

def RetP (R : Value → AM → Prop) (v : Value) (m' : AM) : Prop := ∃ m2, m2.le m' ∧ R v m2

/-- What must hold where a function is left. -/
def retQ (P : Program) (fn : Func) (R : Value → AM → Prop) (e : Exit) (σ : Sg) (m' : AM) : Prop :=
  match e with
  | .normal => retS P σ m' fn.results.toList [] fun l => RetP R (packS l) m'
  | .ret => retS P σ m' fn.results.toList [] fun l => RetP R (packS l) m'
  | _ => False

theorem callsA_of {f : FuncId} {fn : Func} {c : Code} {args : List Value} {m : AM} {R : Value → AM → Prop} (hm : P.follows .mixedOrders = true) (hf : P.funcs[f]? = some fn) (hb : fn.body = some c) (qs : Nat → List (Nat × Nat))
    (hn : Nat.ble args.length fn.ntmps = true) (hok : codeOk qs fn.ntmps c = true)
    (h : vcS P w0 qs c (argS args) m (retQ P fn R)) : CallsA P w0 f args.toArray m R := by
  have hn := Nat.le_of_ble_eq_true hn
  intro w hw
  refine calls_of_wp hf hb ?_
  have hfit : Fits fn.ntmps { tmps := args.toArray ++ Array.replicate (fn.ntmps - args.toArray.size) undef, defers := [] } (argS args) := by
    refine ⟨rfl, by simp; omega, fun t ht => ?_, fun t ht => ?_⟩
    · unfold argS
      rcases Nat.lt_or_ge t args.length with hl | hl
      · simp [Array.getElem?_append, hl]
      · simp [Array.getElem?_append, Nat.not_lt.2 hl]
        rw [Array.getElem?_replicate]
        split <;> rfl
    · unfold argS
      simp [List.getElem?_eq_none (show args.length ≤ t by omega)]
  have res : ∀ (a : Act) (σ : Sg) (m' : AM), Fits fn.ntmps a σ → (retS P σ m' fn.results.toList [] fun l => ∃ m2, m2.le m' ∧ R (packS l) m2) → ∃ v, rval P m' (results fn a.tmps) = some v ∧ ∃ m2, m2.le m' ∧ R v m2 := by
    intro a σ m' hf' he
    obtain ⟨vs, h1, m2, h2, h3⟩ := retS_rval (P := P) hf' he
    refine ⟨packS vs, ?_, m2, h2, by simpa using h3⟩
    unfold results
    rw [rval_bind', Array.mapM_eq_mapM_toList, ← bind_pure_comp, rval_bind']
    erw [h1]
    simp only [Option.bind_some, rval_pure]
    match vs with
    | [] => rfl
    | [v] => rfl
    | v :: u :: r => simp [packS]
  have hv := vcS_sound c hok hfit (Q' := fun e a' m' => match e with
      | .normal | .ret => a'.defers = [] ∧ ∃ v, rval P m' (results fn a'.tmps) = some v ∧ ∃ m2, m2.le m' ∧ R v m2
      | _ => False) (fun e a σ m' hf' he => by
        cases e <;> first
          | exact ⟨hf'.defers, res a σ m' hf' he⟩
          | exact he) h
  refine Code.wp_mono (fun e a' w' hq => ?_) (vc_sound hm c _ m _ w hw hv)
  obtain ⟨m', hh, hq⟩ := hq
  cases e <;> first
    | (obtain ⟨hd, v, hr, m2, hle, hR⟩ := hq
       exact ⟨hd, v, rval_run hh _ hr, v, m2, rfl, hh.mono hle, hR⟩)
    | exact hq.elim
/-- A part of a text, by its place. -/
def sub : Code → List Nat → Code
  | c, [] => c
  | .seq x _, 0 :: p => sub x p
  | .seq _ y, 1 :: p => sub y p
  | .cond _ x _, 0 :: p => sub x p
  | .cond _ _ y, 1 :: p => sub y p
  | .block _ c, 0 :: p => sub c p
  | .loop c, 0 :: p => sub c p
  | c, _ => c

def bodyOf (fn : Func) : Code :=
  match fn.body with
  | some c => c
  | none => .skip
end
/-! Readings of slots. -/
def vI : Value → Int
  | .int _ n => n
  | _ => 0
def okI (k : IntKind) : Value → Bool
  | .int k' _ => decide (k' = k)
  | _ => false
def vB : Value → Bool
  | .bool b => b
  | _ => false
def okB : Value → Bool
  | .bool _ => true
  | _ => false
def vSA : Value → Option Addr
  | .slice a _ _ => a
  | _ => none
def vSN : Value → Nat
  | .slice _ n _ => n
  | _ => 0
def vSC : Value → Nat
  | .slice _ _ c => c
  | _ => 0
def okS : Value → Bool
  | .slice .. => true
  | _ => false
def vPO : Value → Option Addr
  | .pointer a => a
  | _ => none
def okPO : Value → Bool
  | .pointer _ => true
  | _ => false
def vP (v : Value) : Nat := match vPO v with
  | some a => a.block
  | none => 0
def vPA (v : Value) : Addr := match vPO v with
  | some a => a
  | none => ⟨0, 0, none⟩
def vM : Value → Option Nat
  | .map r => r
  | _ => none
def okM : Value → Bool
  | .map _ => true
  | _ => false
def vS : Value → ByteArray
  | .string s => s
  | _ => .empty
def okStr : Value → Bool
  | .string _ => true
  | _ => false
def vE (v : Value) (j : Nat) : Value := match v with
  | .agg a => a.getD j undef
  | .tuple a => a.getD j undef
  | _ => undef
theorem ok_int {k : IntKind} {v : Value} (h : okI k v = true) : v = .int k (vI v) := by
  cases v <;> simp_all [okI, vI]
theorem ok_bool {v : Value} (h : okB v = true) : v = .bool (vB v) := by cases v <;> simp_all [okB, vB]
theorem ok_slice {v : Value} (h : okS v = true) : v = .slice (vSA v) (vSN v) (vSC v) := by cases v <;> simp_all [okS, vSA, vSN, vSC]
theorem ok_ptrO {v : Value} (h : okPO v = true) : v = .pointer (vPO v) := by cases v <;> simp_all [okPO, vPO]
theorem ok_map {v : Value} (h : okM v = true) : v = .map (vM v) := by cases v <;> simp_all [okM, vM]
theorem ok_str {v : Value} (h : okStr v = true) : v = .string (vS v) := by cases v <;> simp_all [okStr, vS]
/-- The text of a marked region. -/
def trC (P : Program) (w0 : World) (qs : Nat → List (Nat × Nat)) : Code → Sg → AM → (Sg → AM → Prop) → Prop
  | .region id ops _, σ, m, Q0 => trS P w0 ops (qs id) Q0 ops.size (Array.replicate ops.size false) σ m
  | _, _, _, _ => False
def markB (qs : Nat → List (Nat × Nat)) : Code → Bool
  | .region id _ draw => draw && !(qs (1000000 + id)).isEmpty
  | _ => false
theorem vcS_cut {P : Program} {w0 : World} {qs : Nat → List (Nat × Nat)} {c : Code} {σ : Sg} {m : AM} {Q : Exit → Sg → AM → Prop} {Q0 : Sg → AM → Prop} (hm : markB qs c = true) (h : trC P w0 qs c σ m Q0) (hq : ∀ σ m, Q0 σ m → Q .normal σ m) : vcS P w0 qs c σ m Q := by
  cases c <;> first | cases hm | skip
  rename_i id ops draw
  have hm : (draw && !(qs (1000000 + id)).isEmpty) = true := hm
  unfold vcS
  rw [hm]
  exact ⟨Q0, hq, h⟩
theorem upd_id {σ : Sg} {k : Nat} {v : Value} (h : σ k = v) : upd σ k v = σ := by
  funext i
  unfold upd
  by_cases e : i = k
  · subst e; simp [h]
  · simp [e]
end Go.Alog
