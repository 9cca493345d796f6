/-
  THE ENGINE, PART 1: memory as an array of blocks; what an operation of the model does to it, said of the blocks alone.
-/
import Derived.Still
import Derived.StillTail
import Derived.LoopN
import Derived.Scope
import Derived.Tactics
set_option linter.unusedSimpArgs false
set_option linter.unusedVariables false
set_option maxRecDepth 16000
set_option maxHeartbeats 4000000
namespace Go.Eng
open Go

abbrev Heap := Array Obj

structure Same (w w' : World) : Prop where
  os : w'.os = w.os
  tape : w'.tape = w.tape
  output : w'.output = w.output
  drawn : w.drawn ≤ w'.drawn

theorem Same.refl (w : World) : Same w w := ⟨rfl, rfl, rfl, Nat.le_refl _⟩
theorem Same.trans {a b c : World} (h : Same a b) (k : Same b c) : Same a c := ⟨k.os.trans h.os, k.tape.trans h.tape, k.output.trans h.output, Nat.le_trans h.drawn k.drawn⟩

/-- A call, said of the blocks alone: it returns, and leaves all but memory and draws as it was. -/
def HCalls (P : Program) (f : FuncId) (args : Array Value) (h : Heap) (R : Value → Heap → Prop) : Prop :=
  ∀ w : World, w.heap = h → Calls P f args w fun e w' => Same w w' ∧ ∃ v, e = .returned v ∧ R v w'.heap

theorem HCalls.mono {P : Program} {f : FuncId} {args : Array Value} {h : Heap} {R R' : Value → Heap → Prop} (hc : HCalls P f args h R) (hr : ∀ v h', R v h' → R' v h') : HCalls P f args h R' :=
  fun w hw => (hc w hw).mono fun _ _ ⟨s, v, e, r⟩ => ⟨s, v, e, hr _ _ r⟩

/-- Is it the value of one cell? -/
def single : Value → Bool
  | .agg _ | .tuple _ => false
  | _ => true

def hcell (h : Heap) (a : Addr) : Option Value :=
  match h[a.block]? with
  | some (.cells c _ _) => if a.spot.isSome then none else c[a.off]?
  | _ => none

def hshape (h : Heap) (r : Nat) : Option (TypeId × Nat) :=
  match h[r]? with
  | some (.cells c elem _) => some (elem, c.size)
  | _ => none

def hfrozen (h : Heap) (a : Addr) : Bool :=
  match h[a.block]? with
  | some (.cells _ _ (lo, hi)) => lo ≤ a.off && a.off < hi
  | _ => false

def hfreeze (h : Heap) (a : Addr) (n : Nat) : Heap :=
  if n = 0 then h else
  h.modify a.block fun
      | .cells c elem (lo, hi) => .cells c elem (if lo == hi then (a.off, a.off + n) else (min lo a.off, max hi (a.off + n)))
      | o => o

theorem cell_eq (w : World) (a : Addr) : w.cell? a = hcell w.heap a := rfl
theorem shape_eq (w : World) (r : Nat) : w.shape? r = hshape w.heap r := rfl
theorem frozen_eq (w : World) (a : Addr) : w.frozen? a = hfrozen w.heap a := rfl
theorem freeze_eq (w : World) (a : Addr) (n : Nat) : (w.freeze a n).heap = hfreeze w.heap a n := by
  unfold World.freeze hfreeze
  split <;> rfl

/-- A value read out of memory, without a draw and without a write; none: it is not of that kind, or it fails. -/
def runD {α : Type} (P : Program) : Sem α → Heap → Option α
  | .pure a, _ => some a
  | .load _ a k, h => match hcell h a with
    | some v => runD P (k v) h
    | none => none
  | .shape r k, h => runD P (k (hshape h r)) h
  | .frozen a k, h => runD P (k (hfrozen h a)) h
  | .getObj r k, h => match h[r]? with
    | some (.cells ..) => none
    | some o => runD P (k o) h
    | none => none
  | .program k, h => runD P (k P) h
  | .mark _ k, h => runD P k h
  | _, _ => none

/-- What becomes of memory: the weakest condition, whatever is drawn. -/
def runH {α : Type} (P : Program) : Sem α → Heap → (α → Heap → Prop) → Prop
  | .pure a, h, K => K a h
  | .load _ a k, h, K => match hcell h a with
    | some v => runH P (k v) h K
    | none => False
  | .store _ a v k, h, K =>
    single v = true ∧ match h[a.block]? with
      | some (.cells c e fr) => a.spot = none ∧ a.off < c.size ∧ ¬ (fr.1 ≤ a.off ∧ a.off < fr.2) ∧ runH P k (h.setIfInBounds a.block (.cells (c.setIfInBounds a.off v) e fr)) K
      | _ => False
  | .new o k, h, K => runH P (k h.size) (h.push o) K
  | .shape r k, h, K => runH P (k (hshape h r)) h K
  | .freeze a n k, h, K => runH P k (hfreeze h a n) K
  | .frozen a k, h, K => runH P (k (hfrozen h a)) h K
  | .getObj r k, h, K => match h[r]? with
    | some (.cells ..) => False
    | some o => runH P (k o) h K
    | none => False
  | .setObj r o k, h, K => match h[r]? with
    | some (.cells ..) => False
    | some _ => runH P k (h.setIfInBounds r o) K
    | none => False
  | .choose q k, h, K => if q.forced then runH P (k 0) h K else ∀ t, runH P (k (q.cut t)) h K
  | .sys _ _, _, _ => False
  | .program k, h, K => runH P (k P) h K
  | .mark _ k, h, K => runH P k h K
  | .halt _, _, _ => False

theorem runD_sound {α : Type} {P : Program} (s : Sem α) {w : World} {a : α} (h : runD P s w.heap = some a) : s.run P w = .ok a w := by
  induction s generalizing a with
  | pure x => simp [runD] at h; subst h; rfl
  | load m ad k ih =>
    simp only [runD] at h
    simp only [Sem.run, cell_eq]
    split at h
    · rename_i v hv; rw [hv]; exact ih v h
    · cases h
  | shape r k ih => simp only [runD] at h; simp only [Sem.run, shape_eq]; exact ih _ h
  | frozen ad k ih => simp only [runD] at h; simp only [Sem.run, frozen_eq]; exact ih _ h
  | getObj r k ih =>
    simp only [runD] at h
    simp only [Sem.run]
    split at h
    · cases h
    · rename_i o ho hne
      rw [hne]
      cases o <;> first | exact ih _ h | exact (ho _ _ _ rfl).elim
    · cases h
  | program k ih => simp only [runD] at h; simp only [Sem.run]; exact ih _ h
  | mark m k ih => simp only [runD] at h; simp only [Sem.run]; exact ih h
  | _ => simp [runD] at h

theorem setCell_heap {w : World} {a : Addr} {v : Value} {c : Array Value} {e : TypeId} {fr : Nat × Nat} (hb : w.heap[a.block]? = some (.cells c e fr)) (hs : a.spot = none) :
    (w.setCell a v).heap = w.heap.setIfInBounds a.block (.cells (c.setIfInBounds a.off v) e fr) := by
  apply Array.ext_getElem?
  intro i
  unfold World.setCell
  simp only [Array.getElem?_modify, Array.getElem?_setIfInBounds]
  by_cases hi : a.block = i
  · subst hi
    obtain ⟨hlt, hv⟩ := Array.getElem?_eq_some_iff.1 hb
    simp [hs, hlt, hv]
  · simp [hi]

theorem runH_sound {α : Type} {P : Program} (s : Sem α) {w : World} {K : α → Heap → Prop} (h : runH P s w.heap K) : ∃ a w', s.run P w = .ok a w' ∧ Same w w' ∧ K a w'.heap := by
  induction s generalizing w with
  | pure x => exact ⟨x, w, rfl, Same.refl w, h⟩
  | load m ad k ih =>
    simp only [runH] at h
    simp only [Sem.run, cell_eq]
    split at h
    · rename_i v hv; rw [hv]; exact ih v h
    · exact h.elim
  | store m ad v k ih =>
    simp only [runH] at h
    obtain ⟨h1, h2⟩ := h
    split at h2
    · rename_i c e fr hb
      obtain ⟨hs, hlt, hfr, h3⟩ := h2
      have hc : w.cell? ad = some (c[ad.off]) := by simp [cell_eq, hcell, hb, hs, hlt]
      have hf : w.frozen? ad = false := by
        simp only [frozen_eq, hfrozen, hb]
        obtain ⟨lo, hi⟩ := fr
        simp only [Bool.and_eq_false_iff, decide_eq_false_iff_not]
        simp only [not_and] at hfr
        by_cases hl : lo ≤ ad.off
        · exact .inr (hfr hl)
        · exact .inl hl
      rw [← setCell_heap hb hs] at h3
      obtain ⟨x, w', hr, hs', hk⟩ := ih h3
      have hrun : (Sem.store m ad v k).run P w = k.run P (w.setCell ad v) := by
        cases v <;> first | (simp [Sem.run, hc, hf]; done) | (simp [single] at h1)
      exact ⟨x, w', hrun.trans hr, ⟨hs'.os, hs'.tape, hs'.output, hs'.drawn⟩, hk⟩
    · exact h2.elim
  | new o k ih =>
    simp only [runH] at h
    obtain ⟨x, w', hr, hs', hk⟩ := ih _ (w := { w with heap := w.heap.push o }) h
    exact ⟨x, w', hr, ⟨hs'.os, hs'.tape, hs'.output, hs'.drawn⟩, hk⟩
  | shape r k ih => simp only [runH] at h; simp only [Sem.run, shape_eq]; exact ih _ h
  | freeze ad n k ih =>
    simp only [runH] at h
    rw [← freeze_eq] at h
    obtain ⟨x, w', hr, hs', hk⟩ := ih (w := w.freeze ad n) h
    have e1 : (w.freeze ad n).os = w.os := by unfold World.freeze; split <;> rfl
    have e2 : (w.freeze ad n).tape = w.tape := by unfold World.freeze; split <;> rfl
    have e3 : (w.freeze ad n).output = w.output := by unfold World.freeze; split <;> rfl
    have e4 : (w.freeze ad n).drawn = w.drawn := by unfold World.freeze; split <;> rfl
    exact ⟨x, w', hr, ⟨hs'.os.trans e1, hs'.tape.trans e2, hs'.output.trans e3, e4 ▸ hs'.drawn⟩, hk⟩
  | frozen ad k ih => simp only [runH] at h; simp only [Sem.run, frozen_eq]; exact ih _ h
  | getObj r k ih =>
    simp only [runH] at h
    simp only [Sem.run]
    split at h
    · exact h.elim
    · rename_i o ho hne
      rw [hne]
      cases o <;> first | exact ih _ h | exact (ho _ _ _ rfl).elim
    · exact h.elim
  | setObj r o k ih =>
    simp only [runH] at h
    simp only [Sem.run]
    split at h
    · exact h.elim
    · rename_i o' ho hne
      rw [hne]
      obtain ⟨x, w', hr, hs', hk⟩ := ih (w := { w with heap := w.heap.setIfInBounds r o }) h
      refine ⟨x, w', ?_, ⟨hs'.os, hs'.tape, hs'.output, hs'.drawn⟩, hk⟩
      cases o' <;> first | exact hr | exact (ho _ _ _ rfl).elim
    · exact h.elim
  | choose q k ih =>
    simp only [runH] at h
    simp only [Sem.run]
    split
    · rename_i hf; rw [if_pos hf] at h; exact ih _ h
    · rename_i hf
      rw [if_neg hf] at h
      obtain ⟨x, w', hr, hs', hk⟩ := ih _ (w := { w with drawn := w.drawn + 1 }) (h (w.tape w.drawn q))
      exact ⟨x, w', hr, ⟨hs'.os, hs'.tape, hs'.output, Nat.le_trans (Nat.le_succ _) hs'.drawn⟩, hk⟩
  | sys c k ih => exact h.elim
  | program k ih => simp only [runH] at h; simp only [Sem.run]; exact ih _ h
  | mark m k ih => simp only [runH] at h; simp only [Sem.run]; exact ih h
  | halt x => exact h.elim

theorem runH_bind {α β : Type} {P : Program} (s : Sem α) (f : α → Sem β) (h : Heap) (K : β → Heap → Prop) : runH P (s >>= f) h K = runH P s h (fun a h' => runH P (f a) h' K) := by
  show runH P (s.bind f) h K = _
  induction s generalizing h with
  | pure x => rfl
  | load m ad k ih => simp only [Sem.bind, runH]; split <;> first | rfl | exact ih _ _
  | store m ad v k ih => simp only [Sem.bind, runH]; congr 1; split <;> simp only [ih]
  | new o k ih => exact ih _ _
  | shape r k ih => exact ih _ _
  | freeze ad n k ih => exact ih _
  | frozen ad k ih => exact ih _ _
  | getObj r k ih => simp only [Sem.bind, runH]; split <;> first | rfl | exact ih _ _
  | setObj r o k ih => simp only [Sem.bind, runH]; split <;> first | rfl | exact ih _
  | choose q k ih => simp only [Sem.bind, runH]; split <;> simp only [ih]
  | sys c k ih => rfl
  | program k ih => exact ih _ _
  | mark m k ih => exact ih _
  | halt x => rfl

theorem runD_bind {α β : Type} {P : Program} (s : Sem α) (f : α → Sem β) (h : Heap) : runD P (s >>= f) h = (runD P s h).bind (fun a => runD P (f a) h) := by
  show runD P (s.bind f) h = _
  induction s with
  | pure x => rfl
  | load m ad k ih => simp only [Sem.bind, runD]; split <;> first | rfl | exact ih _
  | shape r k ih => exact ih _
  | frozen ad k ih => exact ih _
  | getObj r k ih => simp only [Sem.bind, runD]; split <;> first | rfl | exact ih _
  | program k ih => exact ih _
  | mark m k ih => exact ih
  | _ => rfl

theorem runH_of_runD {α : Type} {P : Program} (s : Sem α) {h : Heap} {a : α} (hd : runD P s h = some a) (K : α → Heap → Prop) : runH P s h K = K a h := by
  induction s with
  | pure x => simp [runD] at hd; subst hd; rfl
  | load m ad k ih =>
    simp only [runD] at hd
    simp only [runH]
    split at hd
    · exact ih _ hd
    · cases hd
  | shape r k ih => exact ih _ hd
  | frozen ad k ih => exact ih _ hd
  | getObj r k ih =>
    simp only [runD] at hd
    simp only [runH]
    split at hd
    · cases hd
    · rename_i o ho hne
      first | exact ih _ hd | (cases o <;> first | exact ih _ hd | exact (ho _ _ _ rfl).elim)
    · cases hd
  | program k ih => exact ih _ hd
  | mark m k ih => exact ih hd
  | _ => simp [runD] at hd

@[simp] theorem runH_pure {α : Type} {P : Program} (a : α) (h : Heap) (K : α → Heap → Prop) : runH P (pure a : Sem α) h K = K a h := rfl
@[simp] theorem runD_pure {α : Type} {P : Program} (a : α) (h : Heap) : runD P (pure a : Sem α) h = some a := rfl
end Go.Eng
/-
  THE ENGINE, PART 2: what is known of a frame's slots; one operation; a list of operations; a body.
-/
namespace Go.Eng
open Go

/-- What is known of the slots: slot, value, condition (if it is false the slot is empty). -/
inductive Env where
  | nil
  | cons (s : Nat) (v : Value) (c : Bool) (E : Env)

def Env.get : Env → Nat → Option (Value × Bool)
  | .nil, _ => none
  | .cons s v c E, t => bif s == t then some (v, c) else E.get t

def Env.put (E : Env) (d : Option Tmp) (v : Value) (c : Bool) : Env :=
  match d with
  | some s => .cons s v c E
  | none => E

def Env.keep (E : Env) : List Nat → Env
  | [] => .nil
  | s :: l => match E.get s with
    | some (v, c) => .cons s v c (E.keep l)
    | none => E.keep l

def Env.args : Nat → List Value → Env
  | _, [] => .nil
  | k, v :: l => .cons k v true (Env.args (k + 1) l)

def Holds (E : Env) (tmps : Array Value) : Prop := ∀ s v c, E.get s = some (v, c) → tmps[s]? = some (bif c then v else undef)

theorem Holds.put {E : Env} {tmps : Array Value} (hE : Holds E tmps) {d : Option Tmp} {v u : Value} {c : Bool} (hd : ∀ s, d = some s → s < tmps.size) (hu : u = bif c then v else undef) (a : Act) (ha : a.tmps = tmps) :
    Holds (E.put d v c) (a.put d u).tmps := by
  subst ha
  cases d with
  | none => exact hE
  | some s =>
    intro t x y h
    have hlt := hd s rfl
    simp only [Env.put, Env.get] at h
    simp only [Act.put, Array.getElem?_setIfInBounds]
    cases hst : s == t with
    | true =>
      have := eq_of_beq hst
      subst this
      simp only [hst, cond_true, Option.some.injEq, Prod.mk.injEq] at h
      obtain ⟨rfl, rfl⟩ := h
      simp [hlt, hu]
    | false =>
      have hne : s ≠ t := fun e => by subst e; simp at hst
      simp only [hst, cond_false] at h
      rw [if_neg hne]
      exact hE t x y h

theorem keep_get {E : Env} : ∀ (l : List Nat) (s : Nat) (r : Value × Bool), (E.keep l).get s = some r → E.get s = some r
  | [], _, _, h => by simp [Env.keep, Env.get] at h
  | t :: l, s, r, h => by
    simp only [Env.keep] at h
    split at h
    · rename_i v c hv
      simp only [Env.get] at h
      cases hst : t == s with
      | true =>
        have := eq_of_beq hst
        subst this
        simp only [hst, cond_true] at h
        rw [hv]; exact h
      | false =>
        simp only [hst, cond_false] at h
        exact keep_get l s r h
    · exact keep_get l s r h

theorem Holds.keep {E : Env} {tmps : Array Value} (hE : Holds E tmps) (l : List Nat) : Holds (E.keep l) tmps :=
  fun s v c h => hE s v c (keep_get l s _ h)

/-! ### operands -/
/-- An operand's value, under the condition c. -/
def evK (E : Env) (c : Bool) (x : Operand) (K : Value → Prop) : Prop :=
  match x with
  | .tmp t => match E.get t with
    | some (v, cx) => (c = true → cx = true) ∧ K v
    | none => False
  | .const v => K v
  | .global g => K (.pointer (some ⟨g, 0, none⟩))
  | .func f => K (.func (.func f) #[] #[])

theorem evK_sound {E : Env} {c : Bool} {x : Operand} {K : Value → Prop} (h : evK E c x K) {a : Act} (hE : Holds E a.tmps) : ∃ v, K v ∧ (c = true → a.eval x = v) := by
  unfold evK at h
  split at h
  · rename_i t
    split at h
    · rename_i v cx hg
      refine ⟨v, h.2, fun hc => ?_⟩
      have := hE t v cx hg
      rw [h.1 hc] at this
      simp [Act.eval, this]
    · exact h.elim
  · exact ⟨_, h, fun _ => rfl⟩
  · exact ⟨_, h, fun _ => rfl⟩
  · exact ⟨_, h, fun _ => rfl⟩

def evL (E : Env) (c : Bool) : List Operand → (List Value → Prop) → Prop
  | [], K => K []
  | x :: l, K => evK E c x fun v => evL E c l fun vs => K (v :: vs)

theorem evL_sound {E : Env} {c : Bool} {a : Act} (hE : Holds E a.tmps) : ∀ {l : List Operand} {K : List Value → Prop}, evL E c l K → ∃ vs, K vs ∧ (c = true → l.map a.eval = vs)
  | [], _, h => ⟨[], h, fun _ => rfl⟩
  | x :: l, K, h => by
    obtain ⟨v, h1, e1⟩ := evK_sound h hE
    obtain ⟨vs, h2, e2⟩ := evL_sound hE h1
    exact ⟨v :: vs, h2, fun hc => by simp [e1 hc, e2 hc]⟩

def evO (E : Env) (c : Bool) : Option Operand → (Option Value → Prop) → Prop
  | none, K => K none
  | some x, K => evK E c x fun v => K (some v)

theorem evO_sound {E : Env} {c : Bool} {a : Act} (hE : Holds E a.tmps) {x : Option Operand} {K : Option Value → Prop} (h : evO E c x K) : ∃ v, K v ∧ (c = true → x.map a.eval = v) := by
  cases x with
  | none => exact ⟨none, h, fun _ => rfl⟩
  | some x =>
    obtain ⟨v, h1, e1⟩ := evK_sound h hE
    exact ⟨some v, h1, fun hc => by simp [e1 hc]⟩

def evP (E : Env) (c : Bool) : List (Nat × Operand) → (List (Nat × Value) → Prop) → Prop
  | [], K => K []
  | x :: l, K => evK E c x.2 fun v => evP E c l fun vs => K ((x.1, v) :: vs)

theorem evP_sound {E : Env} {c : Bool} {a : Act} (hE : Holds E a.tmps) : ∀ {l : List (Nat × Operand)} {K : List (Nat × Value) → Prop}, evP E c l K → ∃ vs, K vs ∧ (c = true → l.map (fun x => (x.1, a.eval x.2)) = vs)
  | [], _, h => ⟨[], h, fun _ => rfl⟩
  | x :: l, K, h => by
    obtain ⟨v, h1, e1⟩ := evK_sound h hE
    obtain ⟨vs, h2, e2⟩ := evP_sound hE h1
    exact ⟨(x.1, v) :: vs, h2, fun hc => by simp [e1 hc, e2 hc]⟩

/-- What is read; where it fails the condition is false. -/
def rdK (c : Bool) (r : Option Value) (K : Value → Prop) : Prop :=
  match r with
  | some v => K v
  | none => c = false ∧ K undef

theorem rdK_sound {c : Bool} {r : Option Value} {K : Value → Prop} (h : rdK c r K) : ∃ v, K v ∧ (c = true → r = some v) := by
  unfold rdK at h
  split at h
  · exact ⟨_, h, fun _ => rfl⟩
  · exact ⟨undef, h.2, fun hc => by rw [h.1] at hc; cases hc⟩

def nilV : Value → Option Value
  | .pointer none | .nilIface | .nilFunc => none
  | .func (.method _) _ _ => none
  | x => some x

def pickK (c : Bool) (v : Value) (F : Bool → Prop) (K : Value → Prop) : Prop :=
  match v with
  | .bool b => F b
  | _ => c = false ∧ K undef

def convW (P : Program) (s d : TypeId) : Bool :=
  match P.underlying s, P.underlying d with
  | some .string, some (.slice _) => true
  | _, _ => false

/-- A builtin that only reads. -/
def quietB : Builtin → Bool
  | .len | .cap | .max | .min => true
  | _ => false

/-! ### the instructions, closed to the reckoning -/
def iLoadAt (t : TypeId) (a : Value) : Sem Value := Instr.loadAt t a
def iStoreAt (t : TypeId) (a v : Value) : Sem Unit := Instr.storeAt t a v
def iFieldAt (s : TypeId) (a : Value) (f : Nat) : Sem Value := Instr.fieldAt s a f
def iField (s : TypeId) (a : Value) (f : Nat) : Sem Value := Instr.field s a f
def iIndexAt (t : TypeId) (a i : Value) : Sem Value := Instr.indexAt t a i
def iIndex (t : TypeId) (a i : Value) : Sem Value := Instr.index t a i
def iLookup (t : TypeId) (a i : Value) (ok : Bool) : Sem Value := Instr.lookup t a i ok
def iExtract (a : Value) (i : Nat) : Sem Value := Instr.extract a i
def iBuild (t : TypeId) (ps : Array (Nat × Value)) : Sem Value := Instr.build t ps
def iMakeInterface (t : TypeId) (a : Value) : Sem Value := Instr.makeInterface t a
def iEntry (a : Value) : Sem Value := Instr.entry a
def iAlloc (t : TypeId) (b : Bool) (a : Value) : Sem Value := Instr.alloc t b a
def iBox (t : TypeId) (a : Value) : Sem Value := Instr.box t a
def iBuildSlice (t : TypeId) (n : Nat) (ps : Array (Nat × Value)) : Sem Value := Instr.buildSlice t n ps
def iMapUpdate (t : TypeId) (m k v : Value) : Sem Unit := Instr.mapUpdate t m k v
def iMakeMap (t : TypeId) (r : Option Value) : Sem Value := Instr.makeMap t r
def iMakeSlice (t : TypeId) (l c : Value) : Sem Value := Instr.makeSlice t l c
def iRange (t : TypeId) (a : Value) : Sem Value := Instr.range t a
def iNext (a : Value) (s : Bool) (t : TypeId) : Sem Value := Instr.next a s t
def iMapEntry (t : TypeId) (m k : Value) : Sem Value := Instr.mapEntry t m k
def iEntryStore (t : TypeId) (m s v : Value) : Sem Unit := Instr.entryStore t m s v
def iSliceAt (t : TypeId) (a : Value) (l u m : Option Value) : Sem Value := Instr.sliceAt t a l u m
def iUnary (o : UnOp) (a : Value) : Sem Value := Op.unary o a
def iConvert (s d : TypeId) (a : Value) : Sem Value := convert s d a
def iAppend (ts : Array TypeId) (t : TypeId) (as : Array Value) : Sem Value := Builtin.append_ ts t as
def iCopy (ts : Array TypeId) (t : TypeId) (as : Array Value) : Sem Value := Builtin.copy_ ts t as
def iClear (ts : Array TypeId) (t : TypeId) (as : Array Value) : Sem Value := Builtin.clear_ ts t as
def iDelete (ts : Array TypeId) (t : TypeId) (as : Array Value) : Sem Value := Builtin.delete_ ts t as
def iLen (ts : Array TypeId) (t : TypeId) (as : Array Value) : Sem Value := Builtin.len_ ts t as
def iCap (ts : Array TypeId) (t : TypeId) (as : Array Value) : Sem Value := Builtin.cap_ ts t as
def iMax (ts : Array TypeId) (t : TypeId) (as : Array Value) : Sem Value := Builtin.max_ ts t as
def iMin (ts : Array TypeId) (t : TypeId) (as : Array Value) : Sem Value := Builtin.min_ ts t as

def builtinV (b : Builtin) (argTypes : Array TypeId) (type : TypeId) (args : Array Value) : Sem Value :=
  match b with
  | .append => iAppend argTypes type args
  | .cap => iCap argTypes type args
  | .clear => iClear argTypes type args
  | .copy => iCopy argTypes type args
  | .delete => iDelete argTypes type args
  | .len => iLen argTypes type args
  | .max => iMax argTypes type args
  | .min => iMin argTypes type args
  | _ => stuck ""

/-- AN OPERATION THAT ONLY READS. -/
def opR (P : Program) (ty : TypeId) (E : Env) (c : Bool) (h : Heap) (op : Op) (K : Value → Prop) : Prop :=
  match op with
  | .move x => evK E c x K
  | .assign x => evK E c x K
  | .pick cn x y => evK E c cn fun vc => pickK c vc (fun b => evK E (c && b) x fun vx => evK E (c && !b) y fun vy => K (bif b then vx else vy)) K
  | .load t x => evK E c x fun v => rdK c (runD P (iLoadAt t v) h) K
  | .nilCheck x => evK E c x fun v => rdK c (nilV v) K
  | .binOp o xt x y _ => evK E c x fun vx => evK E c y fun vy => rdK c (runD P (do eqGuard o xt x y vx vy; binOp o xt vx vy) h) K
  | .unOp o _ x => evK E c x fun v => rdK c (runD P (iUnary o v) h) K
  | .convert s d x => evK E c x fun v => rdK c (runD P (iConvert s d v) h) K
  | .slice t x lo hi mx => evK E c x fun v => evO E c lo fun l => evO E c hi fun u => evO E c mx fun m => rdK c (runD P (iSliceAt t v l u m) h) K
  | .fieldAddr s x f => evK E c x fun v => rdK c (runD P (iFieldAt s v f) h) K
  | .field s x f => evK E c x fun v => rdK c (runD P (iField s v f) h) K
  | .indexAddr t x i => evK E c x fun v => evK E c i fun vi => rdK c (runD P (iIndexAt t v vi) h) K
  | .index t x i => evK E c x fun v => evK E c i fun vi => rdK c (runD P (iIndex t v vi) h) K
  | .lookup t x i ok => evK E c x fun v => evK E c i fun vi => rdK c (runD P (iLookup t v vi ok) h) K
  | .extract x i => evK E c x fun v => rdK c (runD P (iExtract v i) h) K
  | .build t ps => evP E c ps.toList fun vs => rdK c (runD P (iBuild t vs.toArray) h) K
  | .makeFunc fn f g => evL E c f.toList fun vf => evL E c g.toList fun vg => K (.func fn vf.toArray vg.toArray)
  | .makeInterface t x => evK E c x fun v => rdK c (runD P (iMakeInterface t v) h) K
  | .entry x => evK E c x fun v => rdK c (runD P (iEntry v) h) K
  | .call ⟨.builtin b, args, tys⟩ => quietB b = true ∧ evL E c args.toList fun vs => rdK c (runD P (builtinV b tys ty vs.toArray) h) K
  | _ => False

/-- What writes, under a condition. -/
def wrK (c : Bool) (h : Heap) (X : Prop) (K : Value → Heap → Prop) : Prop := (c = true → X) ∧ (c = false → K undef h)

/-- May a function be called so? -/
def okFn (P : Program) (f : FuncId) : Bool :=
  match P.funcs[f]? with
  | some fn => !(fn.name == "runtime.NumGoroutine") && fn.body.isSome
  | none => false

/-- AN OPERATION. -/
def isW (P : Program) : Op → Bool
  | .alloc _ | .box _ _ | .buildSlice _ _ _ | .store _ _ _ | .mapUpdate _ _ _ _ | .insert _ _ _ _ | .makeMap _ _ | .makeSlice _ _ _ | .range _ _ | .next _ _ | .mapEntry _ _ _ | .entryStore _ _ _ _ => true
  | .convert s d _ => convW P s d
  | .call ⟨.builtin b, _, _⟩ => !quietB b
  | .call _ => true
  | _ => false

def callV (P : Program) (v : Value) (args : List Value) (h : Heap) (K : Value → Heap → Prop) : Prop :=
  match v with
  | .func (.func f) first captured => okFn P f = true ∧ HCalls P f (first ++ args.toArray ++ captured) h K
  | _ => False

def opW (P : Program) (ty : TypeId) (E : Env) (c : Bool) (h : Heap) (op : Op) (K : Value → Heap → Prop) : Prop :=
  match op with
  | .alloc t => wrK c h (runH P (iAlloc t true (.tuple #[])) h K) K
  | .box t x => evK E c x fun v => wrK c h (runH P (iBox t v) h K) K
  | .buildSlice t n ps => evP E c ps.toList fun vs => wrK c h (runH P (iBuildSlice t n vs.toArray) h K) K
  | .store t x y => evK E c x fun v => evK E c y fun u => wrK c h (runH P (iStoreAt t v u) h fun _ h' => K undef h') K
  | .mapUpdate t m k x => evK E c m fun vm => evK E c k fun vk => evK E c x fun v => wrK c h (runH P (iMapUpdate t vm vk v) h fun _ h' => K undef h') K
  | .insert t m k x => evK E c m fun vm => evK E c k fun vk => evK E c x fun v => wrK c h (runH P (iMapUpdate t vm vk v) h fun _ h' => K undef h') K
  | .makeMap t r => evO E c r fun v => wrK c h (runH P (iMakeMap t v) h K) K
  | .makeSlice t x y => evK E c x fun v => evK E c y fun u => wrK c h (runH P (iMakeSlice t v u) h K) K
  | .convert s d x => evK E c x fun v => wrK c h (runH P (iConvert s d v) h K) K
  | .range t x => evK E c x fun v => wrK c h (runH P (iRange t v) h K) K
  | .next x st => evK E c x fun v => wrK c h (runH P (iNext v st ty) h K) K
  | .mapEntry t m k => evK E c m fun vm => evK E c k fun vk => wrK c h (runH P (iMapEntry t vm vk) h K) K
  | .entryStore t m s x => evK E c m fun vm => evK E c s fun vs => evK E c x fun v => wrK c h (runH P (iEntryStore t vm vs v) h fun _ h' => K undef h') K
  | .call ⟨.builtin b, args, tys⟩ => evL E c args.toList fun vs => wrK c h (runH P (builtinV b tys ty vs.toArray) h K) K
  | .call ⟨.value (.func f), args, _⟩ => okFn P f = true ∧ evL E c args.toList fun vs => wrK c h (HCalls P f vs.toArray h K) K
  | .call ⟨.value x, args, _⟩ => evK E c x fun v => evL E c args.toList fun vs => wrK c h (callV P v vs h K) K
  | _ => False

def opH (P : Program) (ty : TypeId) (E : Env) (c : Bool) (h : Heap) (op : Op) (K : Value → Heap → Prop) : Prop :=
  bif isW P op then opW P ty E c h op K else opR P ty E c h op fun v => K v h

end Go.Eng
/-
  THE ENGINE, PART 3: one operation: what it says of memory holds of the machine.
-/
namespace Go.Eng
open Go

theorem some_bind_value {P : Program} {s : Sem Value} {h : Heap} {v : Value} (hs : runD P s h = some v) : runD P (do pure (Next.value (← s)) : Sem Next) h = some (.value v) := by
  rw [runD_bind, hs]; rfl

theorem opR_run {P : Program} {o : Oper} {E : Env} {c : Bool} {h : Heap} {K : Value → Prop} {a : Act} (hE : Holds E a.tmps) (hop : opR P o.type E c h o.op K) :
    ∃ v, K v ∧ (c = true → runD P (execOp a.eval o) h = some (.value v)) := by
  obtain ⟨dst, op, type, pos, after, guard⟩ := o
  simp only at hop ⊢
  cases op <;> simp only [opR] at hop
  case move x => obtain ⟨v, hK, e⟩ := evK_sound hop hE; exact ⟨v, hK, fun hc => by simp [execOp, e hc]⟩
  case assign x => obtain ⟨v, hK, e⟩ := evK_sound hop hE; exact ⟨v, hK, fun hc => by simp [execOp, e hc]⟩
  case pick cn x y =>
    obtain ⟨vc, h1, e1⟩ := evK_sound hop hE
    unfold pickK at h1
    split at h1
    · rename_i b
      obtain ⟨vx, h2, e2⟩ := evK_sound h1 hE
      obtain ⟨vy, h3, e3⟩ := evK_sound h2 hE
      refine ⟨_, h3, fun hc => ?_⟩
      subst hc
      simp only [execOp, e1 rfl]
      cases b
      · simp [e3 (by rfl), asBool]
      · simp [e2 (by rfl), asBool]
    · exact ⟨undef, h1.2, fun hc => by rw [h1.1] at hc; cases hc⟩
  case load t x =>
    obtain ⟨v, h1, e1⟩ := evK_sound hop hE
    obtain ⟨u, hK, e2⟩ := rdK_sound h1
    exact ⟨u, hK, fun hc => by simp only [execOp, e1 hc]; exact some_bind_value (e2 hc)⟩
  case nilCheck x =>
    obtain ⟨v, h1, e1⟩ := evK_sound hop hE
    obtain ⟨u, hK, e2⟩ := rdK_sound h1
    refine ⟨u, hK, fun hc => ?_⟩
    have := e2 hc
    simp only [execOp, e1 hc]
    unfold nilV at this
    split at this
    · cases this
    · cases this
    · cases this
    · cases this
    · rename_i n1 n2 n3 n4
      cases this
      split
      · exact (n1 rfl).elim
      · exact (n2 rfl).elim
      · exact (n3 rfl).elim
      · exact (n4 _ _ _ rfl).elim
      · rfl
  case binOp o xt x y yt =>
    obtain ⟨v, h1, e1⟩ := evK_sound hop hE
    obtain ⟨u, h2, e2⟩ := evK_sound h1 hE
    obtain ⟨r, hK, e3⟩ := rdK_sound h2
    exact ⟨r, hK, fun hc => by simp only [execOp, e1 hc, e2 hc]; exact some_bind_value (e3 hc)⟩
  case unOp o t x =>
    obtain ⟨v, h1, e1⟩ := evK_sound hop hE
    obtain ⟨u, hK, e2⟩ := rdK_sound h1
    exact ⟨u, hK, fun hc => by simp only [execOp, e1 hc]; exact some_bind_value (e2 hc)⟩
  case convert s d x =>
    obtain ⟨v, h1, e1⟩ := evK_sound hop hE
    obtain ⟨u, hK, e2⟩ := rdK_sound h1
    exact ⟨u, hK, fun hc => by simp only [execOp, e1 hc]; exact some_bind_value (e2 hc)⟩
  case slice t x lo hi mx =>
    obtain ⟨v, h1, e1⟩ := evK_sound hop hE
    obtain ⟨l, h2, e2⟩ := evO_sound hE h1
    obtain ⟨u, h3, e3⟩ := evO_sound hE h2
    obtain ⟨m, h4, e4⟩ := evO_sound hE h3
    obtain ⟨r, hK, e5⟩ := rdK_sound h4
    exact ⟨r, hK, fun hc => by simp only [execOp, e1 hc, e2 hc, e3 hc, e4 hc]; exact some_bind_value (e5 hc)⟩
  case fieldAddr s x f =>
    obtain ⟨v, h1, e1⟩ := evK_sound hop hE
    obtain ⟨u, hK, e2⟩ := rdK_sound h1
    exact ⟨u, hK, fun hc => by simp only [execOp, e1 hc]; exact some_bind_value (e2 hc)⟩
  case field s x f =>
    obtain ⟨v, h1, e1⟩ := evK_sound hop hE
    obtain ⟨u, hK, e2⟩ := rdK_sound h1
    exact ⟨u, hK, fun hc => by simp only [execOp, e1 hc]; exact some_bind_value (e2 hc)⟩
  case indexAddr t x i =>
    obtain ⟨v, h1, e1⟩ := evK_sound hop hE
    obtain ⟨u, h2, e2⟩ := evK_sound h1 hE
    obtain ⟨r, hK, e3⟩ := rdK_sound h2
    exact ⟨r, hK, fun hc => by simp only [execOp, e1 hc, e2 hc]; exact some_bind_value (e3 hc)⟩
  case index t x i =>
    obtain ⟨v, h1, e1⟩ := evK_sound hop hE
    obtain ⟨u, h2, e2⟩ := evK_sound h1 hE
    obtain ⟨r, hK, e3⟩ := rdK_sound h2
    exact ⟨r, hK, fun hc => by simp only [execOp, e1 hc, e2 hc]; exact some_bind_value (e3 hc)⟩
  case lookup t x i ok =>
    obtain ⟨v, h1, e1⟩ := evK_sound hop hE
    obtain ⟨u, h2, e2⟩ := evK_sound h1 hE
    obtain ⟨r, hK, e3⟩ := rdK_sound h2
    exact ⟨r, hK, fun hc => by simp only [execOp, e1 hc, e2 hc]; exact some_bind_value (e3 hc)⟩
  case extract x i =>
    obtain ⟨v, h1, e1⟩ := evK_sound hop hE
    obtain ⟨u, hK, e2⟩ := rdK_sound h1
    exact ⟨u, hK, fun hc => by simp only [execOp, e1 hc]; exact some_bind_value (e2 hc)⟩
  case build t ps =>
    obtain ⟨vs, h1, e1⟩ := evP_sound hE hop
    obtain ⟨u, hK, e2⟩ := rdK_sound h1
    refine ⟨u, hK, fun hc => ?_⟩
    have e : ps.map (fun (i, x) => (i, a.eval x)) = vs.toArray := by
      apply Array.toList_inj.1
      rw [Array.toList_map]
      exact e1 hc
    simp only [execOp, e]
    exact some_bind_value (e2 hc)
  case makeFunc fn f g =>
    obtain ⟨vf, h1, e1⟩ := evL_sound hE hop
    obtain ⟨vg, hK, e2⟩ := evL_sound hE h1
    refine ⟨_, hK, fun hc => ?_⟩
    have ef : f.map a.eval = vf.toArray := by apply Array.toList_inj.1; rw [Array.toList_map]; exact e1 hc
    have eg : g.map a.eval = vg.toArray := by apply Array.toList_inj.1; rw [Array.toList_map]; exact e2 hc
    simp only [execOp, ef, eg, Instr.makeFunc]
    rfl
  case makeInterface t x =>
    obtain ⟨v, h1, e1⟩ := evK_sound hop hE
    obtain ⟨u, hK, e2⟩ := rdK_sound h1
    exact ⟨u, hK, fun hc => by simp only [execOp, e1 hc]; exact some_bind_value (e2 hc)⟩
  case entry x =>
    obtain ⟨v, h1, e1⟩ := evK_sound hop hE
    obtain ⟨u, hK, e2⟩ := rdK_sound h1
    exact ⟨u, hK, fun hc => by simp only [execOp, e1 hc]; exact some_bind_value (e2 hc)⟩
  case call cl =>
    obtain ⟨callee, args, tys⟩ := cl
    cases callee <;> simp only at hop
    case builtin b =>
      obtain ⟨hq, hop⟩ := hop
      obtain ⟨vs, h1, e1⟩ := evL_sound hE hop
      obtain ⟨u, hK, e2⟩ := rdK_sound h1
      refine ⟨u, hK, fun hc => ?_⟩
      have ef : args.map a.eval = vs.toArray := by apply Array.toList_inj.1; rw [Array.toList_map]; exact e1 hc
      have e3 := e2 hc
      cases b <;> simp [quietB] at hq <;> simp only [execOp, resolve, invoke, pure_bind, builtin, ef] <;> exact some_bind_value e3
  all_goals exact hop.elim

theorem opR_wp {P : Program} {o : Oper} {E : Env} {c : Bool} {w : World} {K : Value → Prop} {a : Act} (hE : Holds E a.tmps) (hop : opR P o.type E c w.heap o.op K) :
    ∃ v, K v ∧ (c = true → ∀ next Q, next (a.put o.dst v) w → o.wp P a w next Q) := by
  obtain ⟨v, hK, e⟩ := opR_run hE hop
  refine ⟨v, hK, fun hc next Q hn => ?_⟩
  have := runD_sound _ (e hc)
  simp only [Oper.wp, this, Oper.upon]
  exact hn

theorem opR_still {P : Program} {o : Oper} {E : Env} {c : Bool} {w : World} {K : Value → Prop} {a : Act} (hE : Holds E a.tmps) (hop : opR P o.type E c w.heap o.op K) :
    ∃ v, K v ∧ (c = true → ∀ next, next (a.put o.dst v) → o.still P a w next) := by
  obtain ⟨v, hK, e⟩ := opR_run hE hop
  refine ⟨v, hK, fun hc next hn => ?_⟩
  have := runD_sound _ (e hc)
  simp only [Oper.still, this, Oper.stillUpon]
  exact ⟨trivial, hn⟩

/-- What an operation that is no call leaves. -/
def NextOk (K : Value → Heap → Prop) (n : Next) (h : Heap) : Prop :=
  match n with
  | .value v => K v h
  | .skip => K undef h
  | _ => False

theorem wp_of_runH {P : Program} {o : Oper} {a : Act} {w : World} {K : Value → Heap → Prop} (h : runH P (execOp a.eval o) w.heap (NextOk K))
    {next : Act → World → Prop} {Q : Exit → Act → World → Prop} (hn : ∀ v w', Same w w' → K v w'.heap → next (a.put o.dst v) w') : o.wp P a w next Q := by
  obtain ⟨n, w', hr, hs, hk⟩ := runH_sound _ h
  simp only [Oper.wp, hr]
  cases n <;> simp only [NextOk] at hk <;> first | exact hk.elim | exact hn _ _ hs hk

theorem wp_of_enter {P : Program} {o : Oper} {a : Act} {w : World} {f : FuncId} {args : Array Value} {K : Value → Heap → Prop} (h : runD P (execOp a.eval o) w.heap = some (.enter f args)) (hc : HCalls P f args w.heap K)
    {next : Act → World → Prop} {Q : Exit → Act → World → Prop} (hn : ∀ v w', Same w w' → K v w'.heap → next (a.put o.dst v) w') : o.wp P a w next Q := by
  have := runD_sound _ h
  simp only [Oper.wp, this, Oper.upon]
  refine (hc w rfl).mono ?_
  rintro e w' ⟨hs, v, rfl, hk⟩
  exact hn _ _ hs hk

theorem runD_callFunc {P : Program} {f : FuncId} {args : Array Value} {h : Heap} (hf : okFn P f = true) : runD P (callFunc f args) h = some (.enter f args) := by
  unfold okFn at hf
  split at hf
  · rename_i fn hfn
    simp only [Bool.and_eq_true, Bool.not_eq_true'] at hf
    obtain ⟨h1, h2⟩ := hf
    unfold callFunc
    rw [runD_bind]
    have : runD P (program) h = some P := rfl
    rw [this]
    simp only [Option.bind_some, hfn, h1, Bool.false_eq_true, if_false]
    have h3 : fn.body.isNone = false := by cases hb : fn.body <;> simp [hb] at h2 ⊢
    simp [h3]
  · cases hf

theorem runH_value {P : Program} {s : Sem Value} {h : Heap} {K : Value → Heap → Prop} (hs : runH P s h K) : runH P (do pure (Next.value (← s)) : Sem Next) h (NextOk K) := by
  rw [runH_bind]; exact hs

theorem runH_unit {P : Program} {s : Sem Unit} {h : Heap} {K : Value → Heap → Prop} (hs : runH P s h fun _ h' => K undef h') : runH P (do s; pure Next.skip : Sem Next) h (NextOk K) := by
  rw [runH_bind]; exact hs

theorem opW_wp {P : Program} {o : Oper} {E : Env} {c : Bool} {w : World} {K : Value → Heap → Prop} {a : Act} (hE : Holds E a.tmps) (hop : opW P o.type E c w.heap o.op K) :
    (c = true → ∀ next Q, (∀ v w', Same w w' → K v w'.heap → next (a.put o.dst v) w') → o.wp P a w next Q) ∧ (c = false → K undef w.heap) := by
  obtain ⟨dst, op, type, pos, after, guard⟩ := o
  simp only at hop ⊢
  cases op <;> simp only [opW] at hop
  case alloc t => exact ⟨fun hc next Q hn => wp_of_runH (K := K) (runH_value (hop.1 hc)) hn, hop.2⟩
  case box t x =>
    obtain ⟨v, h1, e1⟩ := evK_sound hop hE
    exact ⟨fun hc next Q hn => wp_of_runH (K := K) (by simp only [execOp, e1 hc]; exact runH_value (h1.1 hc)) hn, h1.2⟩
  case buildSlice t n ps =>
    obtain ⟨vs, h1, e1⟩ := evP_sound hE hop
    refine ⟨fun hc next Q hn => wp_of_runH (K := K) ?_ hn, h1.2⟩
    have e : ps.map (fun (i, x) => (i, a.eval x)) = vs.toArray := by
      apply Array.toList_inj.1
      rw [Array.toList_map]
      exact e1 hc
    simp only [execOp, e]
    exact runH_value (h1.1 hc)
  case store t x y =>
    obtain ⟨v, h1, e1⟩ := evK_sound hop hE
    obtain ⟨u, h2, e2⟩ := evK_sound h1 hE
    exact ⟨fun hc next Q hn => wp_of_runH (K := K) (by simp only [execOp, e1 hc, e2 hc]; exact runH_unit (h2.1 hc)) hn, h2.2⟩
  case mapUpdate t m k x =>
    obtain ⟨v, h1, e1⟩ := evK_sound hop hE
    obtain ⟨u, h2, e2⟩ := evK_sound h1 hE
    obtain ⟨r, h3, e3⟩ := evK_sound h2 hE
    exact ⟨fun hc next Q hn => wp_of_runH (K := K) (by simp only [execOp, e1 hc, e2 hc, e3 hc]; exact runH_unit (h3.1 hc)) hn, h3.2⟩
  case insert t m k x =>
    obtain ⟨v, h1, e1⟩ := evK_sound hop hE
    obtain ⟨u, h2, e2⟩ := evK_sound h1 hE
    obtain ⟨r, h3, e3⟩ := evK_sound h2 hE
    exact ⟨fun hc next Q hn => wp_of_runH (K := K) (by simp only [execOp, e1 hc, e2 hc, e3 hc]; exact runH_unit (h3.1 hc)) hn, h3.2⟩
  case makeMap t r =>
    obtain ⟨v, h1, e1⟩ := evO_sound hE hop
    exact ⟨fun hc next Q hn => wp_of_runH (K := K) (by simp only [execOp, e1 hc]; exact runH_value (h1.1 hc)) hn, h1.2⟩
  case makeSlice t x y =>
    obtain ⟨v, h1, e1⟩ := evK_sound hop hE
    obtain ⟨u, h2, e2⟩ := evK_sound h1 hE
    exact ⟨fun hc next Q hn => wp_of_runH (K := K) (by simp only [execOp, e1 hc, e2 hc]; exact runH_value (h2.1 hc)) hn, h2.2⟩
  case convert s d x =>
    obtain ⟨v, h1, e1⟩ := evK_sound hop hE
    exact ⟨fun hc next Q hn => wp_of_runH (K := K) (by simp only [execOp, e1 hc]; exact runH_value (h1.1 hc)) hn, h1.2⟩
  case range t x =>
    obtain ⟨v, h1, e1⟩ := evK_sound hop hE
    exact ⟨fun hc next Q hn => wp_of_runH (K := K) (by simp only [execOp, e1 hc]; exact runH_value (h1.1 hc)) hn, h1.2⟩
  case next x st =>
    obtain ⟨v, h1, e1⟩ := evK_sound hop hE
    exact ⟨fun hc next Q hn => wp_of_runH (K := K) (by simp only [execOp, e1 hc]; exact runH_value (h1.1 hc)) hn, h1.2⟩
  case mapEntry t m k =>
    obtain ⟨v, h1, e1⟩ := evK_sound hop hE
    obtain ⟨u, h2, e2⟩ := evK_sound h1 hE
    exact ⟨fun hc next Q hn => wp_of_runH (K := K) (by simp only [execOp, e1 hc, e2 hc]; exact runH_value (h2.1 hc)) hn, h2.2⟩
  case entryStore t m s x =>
    obtain ⟨v, h1, e1⟩ := evK_sound hop hE
    obtain ⟨u, h2, e2⟩ := evK_sound h1 hE
    obtain ⟨r, h3, e3⟩ := evK_sound h2 hE
    exact ⟨fun hc next Q hn => wp_of_runH (K := K) (by simp only [execOp, e1 hc, e2 hc, e3 hc]; exact runH_unit (h3.1 hc)) hn, h3.2⟩
  case call cl =>
    obtain ⟨callee, args, tys⟩ := cl
    cases callee
    case builtin b =>
      obtain ⟨vs, h1, e1⟩ := evL_sound hE hop
      refine ⟨fun hc next Q hn => wp_of_runH (K := K) ?_ hn, h1.2⟩
      have ef : args.map a.eval = vs.toArray := by apply Array.toList_inj.1; rw [Array.toList_map]; exact e1 hc
      have e3 := h1.1 hc
      cases b <;> first
        | exact False.elim e3
        | (simp only [execOp, resolve, invoke, pure_bind, builtin, ef]; exact runH_value e3)
    case value x =>
      cases x
      case func f =>
        obtain ⟨hf, hop⟩ := hop
        obtain ⟨vs, h1, e1⟩ := evL_sound hE hop
        refine ⟨fun hc next Q hn => wp_of_enter (K := K) (f := f) (args := vs.toArray) ?_ (h1.1 hc) hn, h1.2⟩
        have ef : args.map a.eval = vs.toArray := by apply Array.toList_inj.1; rw [Array.toList_map]; exact e1 hc
        simp only [execOp, resolve, Act.eval, Deferred.ofValue, pure_bind, invoke, ef]
        simpa using runD_callFunc hf
      all_goals
        obtain ⟨v, h1, e1⟩ := evK_sound hop hE
        obtain ⟨vs, h2, e2⟩ := evL_sound hE h1
        refine ⟨fun hc next Q hn => ?_, h2.2⟩
        have h3 := h2.1 hc
        have ef : args.map a.eval = vs.toArray := by apply Array.toList_inj.1; rw [Array.toList_map]; exact e2 hc
        unfold callV at h3
        split at h3
        · obtain ⟨hf, hcall⟩ := h3
          refine wp_of_enter (K := K) ?_ hcall hn
          simp only [execOp, resolve, e1 hc, Deferred.ofValue, pure_bind, invoke, ef]
          exact runD_callFunc hf
        · exact h3.elim
    case invoke => exact hop.elim
  all_goals exact hop.elim

end Go.Eng
/-
  THE ENGINE, PART 3b: a drawn region: a head that only reads, a middle in a fixed order, an end that only reads.
-/
namespace Go.Eng
open Go

section
variable {P : Program} {md : Region.Mode} {ops : Array Oper} {w : World}

/-- Whatever of the head is open, nothing from n on may begin. -/
def Waits (md : Region.Mode) (ops : Array Oper) (n : Nat) : Prop :=
  ∀ listed, HeadInv md ops n listed → ∀ i, i < n → listed.getD i true = false → ∀ t, n ≤ t → t ∉ Region.ready md ops listed

/-- Each operation behind n waits for one that stands ahead of it, not ahead of n. -/
def chainB2 (md : Region.Mode) (ops : Array Oper) (n : Nat) : Bool :=
  (List.range ops.size).all fun t => decide (t ≤ n) || (List.range t).any fun s => decide (n ≤ s) && Region.waitsFor md ops t s

theorem not_ready {t s : Nat} {listed : Array Bool} (hw : Region.waitsFor md ops t s = true) (hu : listed.getD s true = false) : t ∉ Region.ready md ops listed := by
  intro hr
  obtain ⟨oj, hoj, e, he, hb, hon⟩ := Region.waitsFor_spec hw
  obtain ⟨_, ot, hot, hall⟩ := mem_ready.1 hr
  obtain rfl : oj = ot := Option.some.inj (hoj.symm.trans hot)
  have := hall e he hb
  rw [hon, getD_both hu] at this
  cases this

theorem head_waits {n : Nat} {listed : Array Bool} (hs : Region.sinkB md ops n = true) (inv : HeadInv md ops n listed) : ∀ (d i : Nat), n - i ≤ d → i < n → listed.getD i true = false → n ∉ Region.ready md ops listed := by
  intro d
  induction d with
  | zero => intro i hd hi; omega
  | succ d ih =>
    intro i hd hi hun
    obtain ⟨j, hj, hj2⟩ := List.any_eq_true.1 (List.all_eq_true.1 hs i (List.mem_range.2 hi))
    simp only [Bool.and_eq_true, decide_eq_true_eq] at hj2
    have hjn := List.mem_range.1 hj
    by_cases e : j = n
    · subst e; exact not_ready hj2.2 hun
    · refine ih j (by omega) (by omega) ?_
      obtain ⟨oj, hoj, e, he, hb, hon⟩ := Region.waitsFor_spec hj2.2
      cases hl : listed.getD j false with
      | false => exact getD_in (by rw [inv.size]; exact (Array.getElem?_eq_some_iff.1 hoj).1) hl
      | true =>
        have := inv.closed j oj hoj hl e he hb
        rw [hon, getD_both hun] at this
        cases this

theorem waits_of {n : Nat} (hs : Region.sinkB md ops n = true) (hc : chainB2 md ops n = true) : Waits md ops n := by
  intro listed inv i hi hun t ht hr
  by_cases e : t = n
  · subst e; exact head_waits hs inv _ i (Nat.le_refl _) hi hun hr
  · have htlt : t < ops.size := (Array.getElem?_eq_some_iff.1 (mem_ready.1 hr).2.choose_spec.1).1
    have h1 := List.all_eq_true.1 hc t (List.mem_range.2 htlt)
    simp only [Bool.or_eq_true, decide_eq_true_eq] at h1
    obtain ⟨s, hs', h2⟩ := List.any_eq_true.1 (h1.resolve_left (by omega))
    simp only [Bool.and_eq_true, decide_eq_true_eq] at h2
    have := List.mem_range.1 hs'
    exact not_ready h2.2 (inv.tail s h2.1 (by omega)) hr

theorem head_first {n i : Nat} {oi : Oper} {v : Value} {L : Array Bool → Act → Prop} (hW : Waits md ops n) (hi : ops[i]? = some oi) (hsel : ∀ (j : Nat) (o : Oper) cs b, ops[j]? = some o → o.op ≠ .select cs b) (hin : i < n)
    (hdone : ∀ listed a, L listed a → ∀ j ∈ Region.ready md ops listed, n ≤ j) :
    ∀ (f : Nat) (listed : Array Bool) (a : Act), HeadInv md ops n listed →
      (∀ j oj, ops[j]? = some oj → j ≠ i → listed.getD j true = false → (∀ e ∈ oj.after, Region.binds md e = true → e.on ≠ i) → oi.apart ops oj = true) →
      i ∈ Region.ready md ops listed → YieldsAt P ops w oi v a →
      wpAnyL P md ops w n L f (listed.setIfInBounds i true) (a.put oi.dst v) → wpAnyL P md ops w n L (f + 1) listed a := by
  intro f
  induction f with
  | zero =>
    intro listed a inv _ hr hy H
    refine ⟨List.ne_nil_of_mem hr, fun j hj => ?_⟩
    have hjn : j < n := Nat.lt_of_not_le fun h => hW listed inv i hin (mem_ready.1 hr).1 j h hj
    refine ⟨hjn, ?_⟩
    by_cases e : j = i
    · subst e; exact hy.stOp hi H
    · exact absurd (hdone _ _ H j (ready_mono hj e)) (by omega)
  | succ f ih =>
    intro listed a inv hfree hr hy H
    refine ⟨List.ne_nil_of_mem hr, fun j hj => ?_⟩
    have hun := (mem_ready.1 hr).1
    have hjn : j < n := Nat.lt_of_not_le fun h => hW listed inv i hin hun j h hj
    refine ⟨hjn, ?_⟩
    by_cases e : j = i
    · subst e; exact hy.stOp hi H
    · have h1 := (H.2 j (ready_mono hj e)).2
      obtain ⟨hjun, oj, hoj, hall⟩ := mem_ready.1 hj
      have hno : ∀ d ∈ oj.after, Region.binds md d = true → d.on ≠ i := fun d hd hb heq => by
        have := hall d hd hb
        rw [heq, getD_both hun] at this
        cases this
      have h2 := stOp_put hoj (hfree j oj hoj e hjun hno) (fun cs b => hsel i oi cs b hi) (fun cs b => hsel j oj cs b hoj) hy h1
      refine stOp_mono (fun a' h3 => ih (listed.setIfInBounds j true) a' (inv.set hj hjn) (fun k ok hk hki hku hkn => ?_) (ready_mono hr (Ne.symm e)) h3.1 ?_) h2
      · refine hfree k ok hk hki ?_ hkn
        by_cases q : j = k
        · subst q; exact hjun
        · rw [getD_set_ne true q] at hku; exact hku
      · rw [Array.setIfInBounds_comm _ _ e]
        exact h3.2

/-- The head in the order of the text; then B. -/
def headB (md : Region.Mode) (ops : Array Oper) (B : Array Bool → Bool) : Nat → Nat → Array Bool → Bool
  | 0, _, listed => B listed
  | f + 1, k, listed => (Region.ready md ops listed).contains k && Region.free md ops listed k && headB md ops B f (k + 1) (listed.setIfInBounds k true)

theorem head_lex {n : Nat} {Lq : Act → Prop} {B : Array Bool → Bool} (hW : Waits md ops n) (hsel : Region.noSelect ops = true) (hB0 : ∀ listed, B listed = true → ∀ j ∈ Region.ready md ops listed, n ≤ j) :
    ∀ (l : List Oper) (k : Nat) (listed : Array Bool) (a : Act), (∀ j, j < l.length → l[j]? = ops[k + j]?) → k + l.length = n → HeadInv md ops n listed →
    headB md ops B l.length k listed = true → wpStill P ops w Lq l a → wpAnyL P md ops w n (fun listed' a' => B listed' = true ∧ Lq a') l.length listed a
  | [], k, listed, a, _, _, _, hB, h => ⟨hB, h⟩
  | o :: l, k, listed, a, hl, hk, inv, hB, h => by
    have h0 : ops[k]? = some o := by simpa using (hl 0 (by simp)).symm
    simp only [List.length_cons, headB, Bool.and_eq_true] at hB hk
    have hr' : k ∈ Region.ready md ops listed := by simpa using hB.1.1
    have hst : stOp P ops w k (wpStill P ops w Lq l) a := by unfold stOp; simp only [h0]; exact h
    obtain ⟨v, hy, hK⟩ := yieldsAt_of_stOp h0 hst
    exact head_first hW h0 (Region.noSelect_spec hsel) (by omega) (fun listed' a' hL => hB0 listed' hL.1) l.length listed a inv (Region.free_spec h0 hB.1.2) hr' hy
      (head_lex hW hsel hB0 l (k + 1) _ _ (fun j hj => by have := hl (j + 1) (by simp; omega); simpa [Nat.add_assoc, Nat.add_comm 1 j] using this) (by omega) (inv.set hr' (by omega)) hB.2 hK)

/-- The middle in a fixed order; the end, which only reads, in any. -/
def midB (md : Region.Mode) (ops : Array Oper) (r : Nat) : Nat → Nat → Array Bool → Bool
  | 0, k, listed => Region.lexFrom md ops r k listed
  | g + 1, k, listed => decide (Region.ready md ops listed = [k]) && midB md ops r g (k + 1) (listed.setIfInBounds k true)

/-- A list of operations, one behind the other; then K. -/
def wpListK (P : Program) (ops : Array Oper) (Q : Exit → Act → World → Prop) (K : Act → World → Prop) : List Oper → Act → World → Prop
  | [], a, w => K a w
  | o :: l, a, w => if Region.wanted o (yielded ops a.tmps) then o.wp P a w (wpListK P ops Q K l) Q ∨ (o.asks P a w ∧ LetsOut Q) else wpListK P ops Q K l (a.put o.dst undef) w

theorem wpAny_of_mid {Q : Exit → Act → World → Prop} (hsel : Region.noSelect ops = true) (rest : List Oper) : ∀ (l : List Oper) (k : Nat) (listed : Array Bool) (a : Act) (w : World), (∀ j, (l ++ rest)[j]? = ops[k + j]?) →
    midB md ops rest.length l.length k listed = true → wpListK P ops Q (fun a' w' => wpStill P ops w' (fun a'' => Q .normal a'' w') rest a') l a w → wpAny P md ops Q (l.length + rest.length) listed a w
  | [], k, listed, a, w, hl, hB, h => by
    have := wpAnyS_lex (md := md) hsel rest k listed a (by simpa using hl) hB h
    simpa using wpAny_of_still (Q' := Q) (fun _ h => h) _ _ _ this
  | o :: l, k, listed, a, w, hl, hB, h => by
    have h0 : ops[k]? = some o := by simpa using (hl 0).symm
    simp only [List.length_cons, midB, Bool.and_eq_true, decide_eq_true_eq] at hB
    rw [show (o :: l).length + rest.length = (l.length + rest.length) + 1 by simp; omega]
    refine ⟨fun h1 => (by rw [hB.1] at h1; cases h1), fun i hi => ?_⟩
    rw [hB.1] at hi
    obtain rfl : i = k := by simpa using hi
    have hw : wpOp P ops Q i (wpListK P ops Q (fun a' w' => wpStill P ops w' (fun a'' => Q .normal a'' w') rest a') l) a w := by unfold wpOp; simp only [h0]; exact h
    exact wpOp_mono (fun a' w' h' => wpAny_of_mid hsel rest l (i + 1) _ a' w' (fun j => by have := hl (j + 1); simpa [Nat.add_assoc, Nat.add_comm 1 j] using this) hB.2 h') hw

theorem midB_ready {r g k : Nat} {listed : Array Bool} (hg : 0 < g) (h : midB md ops r g k listed = true) : ∀ j ∈ Region.ready md ops listed, k ≤ j := by
  cases g with
  | zero => omega
  | succ g =>
    intro j hj
    simp only [midB, Bool.and_eq_true, decide_eq_true_eq] at h
    rw [h.1] at hj
    have : j = k := by simpa using hj
    omega

/-- n: the head; g: the middle; r: the end. -/
def lexMidB (ops : Array Oper) (n g r : Nat) : Bool :=
  Region.noSelect ops && decide (0 < g) && decide (n + g + r = ops.size) && Region.sinkB .any ops n && chainB2 .any ops n && headB .any ops (midB .any ops r g n) n 0 (Array.replicate ops.size false)

theorem wp_region_mid {id : Nat} {Q : Exit → Act → World → Prop} {a : Act} (n g r : Nat) (hm : P.follows .mixedOrders = true) (hB : lexMidB ops n g r = true)
    (h : wpStill P ops { w with drawn := w.drawn + 1 } (fun a' => wpListK P ops Q (fun a' w' => wpStill P ops w' (fun a'' => Q .normal a'' w') (ops.toList.drop (n + g)) a') ((ops.toList.drop n).take g) a' { w with drawn := w.drawn + 1 }) (ops.toList.take n) a) : (Code.region id ops true).wp P Q a w := by
  simp only [lexMidB, Bool.and_eq_true, decide_eq_true_eq] at hB
  obtain ⟨⟨⟨⟨⟨hsel, hg⟩, hz⟩, hs⟩, hc⟩, hlex⟩ := hB
  have hlen : ops.toList.length = ops.size := by simp
  have l1 : (ops.toList.take n).length = n := by rw [List.length_take, hlen]; omega
  have l2 : ((ops.toList.drop n).take g).length = g := by rw [List.length_take, List.length_drop, hlen]; omega
  have l3 : (ops.toList.drop (n + g)).length = r := by rw [List.length_drop, hlen]; omega
  have inv0 : HeadInv .any ops n (Array.replicate ops.size false) :=
    ⟨by simp, fun j oj _ hl => (by rw [getD_replicate_false] at hl; cases hl), fun t _ ht => getD_in (by simpa using ht) (getD_replicate_false _ _)⟩
  have H := head_lex (md := .any) (B := midB .any ops r g n) (waits_of hs hc) hsel (fun listed hb => midB_ready hg hb) (ops.toList.take n) 0 _ a (fun j hj => by
    rw [l1] at hj; simp [hj]) (by omega) inv0 (by rw [l1]; exact hlex) h
  refine wp_region_any hm ?_
  have := wpAny_of_head (Q' := Q) (g := g + r) (fun listed a' hL => by
    have := wpAny_of_mid (md := .any) (Q := Q) hsel (ops.toList.drop (n + g)) ((ops.toList.drop n).take g) n listed a' { w with drawn := w.drawn + 1 } (fun j => by
      rw [← List.drop_drop, List.take_append_drop, List.getElem?_drop]; simp) (by rw [l2, l3]; exact hL.1) hL.2
    rwa [l2, l3] at this) _ _ _ H
  rw [l1, show n + (g + r) = ops.size by omega] at this
  exact this
end
end Go.Eng
/-
  THE ENGINE, PART 4a: a list of operations.
-/
namespace Go.Eng
open Go

/-- A guard's condition. -/
def gdV (c : Bool) (want : Bool) : Value → Bool
  | .bool b => c && (bif want then b else !b)
  | _ => false

def gdK (ops : Array Oper) (E : Env) (g : Option (Nat × Bool)) (F : Bool → Prop) : Prop :=
  match g with
  | none => F true
  | some (j, want) => match (ops[j]?).bind (·.dst) with
    | some d => match E.get d with
      | some (v, c) => F (gdV c want v)
      | none => False
    | none => False

/-- What goes on behind an operation. -/
def opsK (X : Env → Heap → (Env → Heap → Prop) → Prop) (E : Env) (d : Option Tmp) (c : Bool) (K : Env → Heap → Prop) (v : Value) (h : Heap) : Prop := X (E.put d v c) h K

def devOps (P : Program) (ops : Array Oper) : List Oper → Env → Heap → (Env → Heap → Prop) → Prop
  | [], E, h, K => K E h
  | o :: rest, E, h, K => gdK ops E o.guard fun c => opH P o.type E c h o.op (opsK (devOps P ops rest) E o.dst c K)

theorem gdK_sound {ops : Array Oper} {E : Env} {o : Oper} {F : Bool → Prop} (h : gdK ops E o.guard F) {tmps : Array Value} (hE : Holds E tmps) : ∃ c, F c ∧ Region.wanted o (yielded ops tmps) = c := by
  unfold gdK at h
  split at h
  · rename_i hg
    exact ⟨true, h, by simp [Region.wanted, hg]⟩
  · rename_i j want hg
    split at h
    · rename_i d hd
      split at h
      · rename_i v c hv
        refine ⟨_, h, ?_⟩
        have ht := hE d v c hv
        simp only [Region.wanted, hg, yielded, hd, Option.bind_some, ht]
        cases c with
        | false =>
          have : (bif false then v else undef) = Value.tuple #[] := rfl
          rw [this]
          cases v <;> rfl
        | true =>
          simp only [cond_true]
          cases v <;> simp only [gdV] <;> first | rfl | (rename_i b; cases b <;> cases want <;> rfl)
      · exact h.elim
    · exact h.elim

/-- All destinations are slots of the frame. -/
def dstOk (n : Nat) (o : Oper) : Bool :=
  match o.dst with
  | some d => decide (d < n)
  | none => true

theorem opH_wp {P : Program} {o : Oper} {E : Env} {c : Bool} {w : World} {K : Value → Heap → Prop} {a : Act} (hE : Holds E a.tmps) (hop : opH P o.type E c w.heap o.op K) :
    (c = true → ∀ next Q, (∀ v w', Same w w' → K v w'.heap → next (a.put o.dst v) w') → o.wp P a w next Q) ∧ (c = false → ∃ v, K v w.heap) := by
  unfold opH at hop
  cases hw : isW P o.op with
  | true =>
    rw [hw] at hop
    have := opW_wp hE hop
    exact ⟨this.1, fun hc => ⟨_, this.2 hc⟩⟩
  | false =>
    rw [hw] at hop
    obtain ⟨v, hK, h1⟩ := opR_wp hE hop
    exact ⟨fun hc next Q hn => h1 hc next Q (hn v w (Same.refl w) hK), fun _ => ⟨v, hK⟩⟩

theorem put_size (a : Act) (d : Option Tmp) (v : Value) : (a.put d v).tmps.size = a.tmps.size := by cases d <;> simp [Act.put]
theorem put_defers (a : Act) (d : Option Tmp) (v : Value) : (a.put d v).defers = a.defers := by cases d <;> rfl

theorem devOps_wp {P : Program} {ops : Array Oper} {n : Nat} {K : Env → Heap → Prop} {Q : Exit → Act → World → Prop} {w0 : World}
    (hQ : ∀ E a w, Holds E a.tmps → a.tmps.size = n → a.defers = [] → Same w0 w → K E w.heap → Q .normal a w) :
    ∀ (l : List Oper), l.all (dstOk n) = true → ∀ (E : Env) (a : Act) (w : World), Holds E a.tmps → a.tmps.size = n → a.defers = [] → Same w0 w → devOps P ops l E w.heap K → wpList P ops Q l a w := by
  intro l
  induction l with
  | nil => intro _ E a w hE hn hd hs h; exact hQ E a w hE hn hd hs h
  | cons o rest ih =>
    intro hok E a w hE hn hd hs h
    simp only [List.all_cons, Bool.and_eq_true] at hok
    obtain ⟨ho, hrest⟩ := hok
    have hlt : ∀ s, o.dst = some s → s < a.tmps.size := fun s hs' => by
      unfold dstOk at ho; rw [hs'] at ho; rw [hn]; exact of_decide_eq_true ho
    simp only [devOps] at h
    obtain ⟨c, hF, hw⟩ := gdK_sound h hE
    obtain ⟨h1, h2⟩ := opH_wp hE hF
    unfold wpList
    rw [hw]
    cases c with
    | true =>
      simp only [if_true]
      refine .inl (h1 rfl _ _ fun v w' hs' hK => ?_)
      exact ih hrest _ _ _ (hE.put hlt rfl a rfl) ((put_size _ _ _).trans hn) ((put_defers _ _ _).trans hd) (hs.trans hs') hK
    | false =>
      obtain ⟨v, hK⟩ := h2 rfl
      simp only [Bool.false_eq_true, if_false]
      exact ih hrest _ _ _ (hE.put (v := v) (c := false) hlt rfl a rfl) ((put_size _ _ _).trans hn) ((put_defers _ _ _).trans hd) hs hK

theorem devOps_wpK {P : Program} {ops : Array Oper} {n : Nat} {K : Env → Heap → Prop} {Q : Exit → Act → World → Prop} {Kc : Act → World → Prop} {w0 : World} {rest : List Oper}
    (hQ : ∀ E a w, Holds E a.tmps → a.tmps.size = n → a.defers = [] → Same w0 w → devOps P ops rest E w.heap K → Kc a w) :
    ∀ (l : List Oper), l.all (dstOk n) = true → ∀ (E : Env) (a : Act) (w : World), Holds E a.tmps → a.tmps.size = n → a.defers = [] → Same w0 w → devOps P ops (l ++ rest) E w.heap K → wpListK P ops Q Kc l a w := by
  intro l
  induction l with
  | nil => intro _ E a w hE hn hd hs h; exact hQ E a w hE hn hd hs h
  | cons o rest ih =>
    intro hok E a w hE hn hd hs h
    simp only [List.all_cons, Bool.and_eq_true] at hok
    obtain ⟨ho, hrest⟩ := hok
    have hlt : ∀ s, o.dst = some s → s < a.tmps.size := fun s hs' => by
      unfold dstOk at ho; rw [hs'] at ho; rw [hn]; exact of_decide_eq_true ho
    simp only [List.cons_append, devOps] at h
    obtain ⟨c, hF, hw⟩ := gdK_sound h hE
    obtain ⟨h1, h2⟩ := opH_wp hE hF
    unfold wpListK
    rw [hw]
    cases c with
    | true =>
      simp only [if_true]
      refine .inl (h1 rfl _ _ fun v w' hs' hK => ?_)
      exact ih hrest _ _ _ (hE.put hlt rfl a rfl) ((put_size _ _ _).trans hn) ((put_defers _ _ _).trans hd) (hs.trans hs') hK
    | false =>
      obtain ⟨v, hK⟩ := h2 rfl
      simp only [Bool.false_eq_true, if_false]
      exact ih hrest _ _ _ (hE.put (v := v) (c := false) hlt rfl a rfl) ((put_size _ _ _).trans hn) ((put_defers _ _ _).trans hd) hs hK

/-- The heads: operations that only read. -/
theorem devOps_still {P : Program} {ops : Array Oper} {n : Nat} {K : Env → Heap → Prop} {Q : Act → Prop} {w : World} {tail : List Oper}
    (hQ : ∀ E a, Holds E a.tmps → a.tmps.size = n → a.defers = [] → devOps P ops tail E w.heap K → Q a) :
    ∀ (l : List Oper), l.all (dstOk n) = true → l.all (fun o => !isW P o.op) = true → ∀ (E : Env) (a : Act), Holds E a.tmps → a.tmps.size = n → a.defers = [] → devOps P ops (l ++ tail) E w.heap K → wpStill P ops w Q l a := by
  intro l
  induction l with
  | nil => intro _ _ E a hE hn hd h; exact hQ E a hE hn hd h
  | cons o rest ih =>
    intro hok hr E a hE hn hd h
    simp only [List.all_cons, Bool.and_eq_true, Bool.not_eq_true'] at hok hr
    obtain ⟨ho, hrest⟩ := hok
    obtain ⟨hro, hrr⟩ := hr
    have hlt : ∀ s, o.dst = some s → s < a.tmps.size := fun s hs' => by
      unfold dstOk at ho; rw [hs'] at ho; rw [hn]; exact of_decide_eq_true ho
    simp only [List.cons_append, devOps] at h
    obtain ⟨c, hF, hw⟩ := gdK_sound h hE
    unfold opH at hF
    rw [hro] at hF
    obtain ⟨v, hK, h1⟩ := opR_still hE hF
    unfold wpStill
    rw [hw]
    cases c with
    | true =>
      simp only [if_true]
      exact h1 rfl _ (ih hrest hrr _ _ (hE.put hlt rfl a rfl) ((put_size _ _ _).trans hn) ((put_defers _ _ _).trans hd) hK)
    | false =>
      simp only [Bool.false_eq_true, if_false]
      exact ih hrest hrr _ _ (hE.put (v := v) (c := false) hlt rfl a rfl) ((put_size _ _ _).trans hn) ((put_defers _ _ _).trans hd) hK

/-! ### A region that draws -/
def headN (P : Program) : List Oper → Nat
  | [] => 0
  | o :: l => if isW P o.op then 0 else headN P l + 1

theorem headN_all (P : Program) : ∀ l : List Oper, (l.take (headN P l)).all (fun o => !isW P o.op) = true
  | [] => rfl
  | o :: l => by
    unfold headN
    split
    · rfl
    · rename_i h
      simp only [List.take_succ_cons, List.all_cons, Bool.and_eq_true, Bool.not_eq_true']
      exact ⟨by simpa using h, headN_all P l⟩

/-- How many at the end only read. -/
def endN (P : Program) (ops : Array Oper) : Nat := headN P ops.toList.reverse
theorem endN_all (P : Program) (ops : Array Oper) {m : Nat} (hm : m + endN P ops = ops.size) : (ops.toList.drop m).all (fun o => !isW P o.op) = true := by
  have h := headN_all P ops.toList.reverse
  rw [List.take_reverse, show ops.toList.length - headN P ops.toList.reverse = m by simp only [endN] at hm; rw [Array.length_toList]; omega, List.all_reverse] at h
  exact h

def drawOk (P : Program) (ops : Array Oper) : Bool :=
  let n := headN P ops.toList
  if n = ops.size then Region.lexB .any ops else Region.lexTailB .any ops n || lexMidB ops n (ops.size - n - endN P ops) (endN P ops)

theorem wp_region_tail {P : Program} {id : Nat} {ops : Array Oper} {Q : Exit → Act → World → Prop} {a : Act} {w : World} (n : Nat) (hm : P.follows .mixedOrders = true) (hB : Region.lexTailB .any ops n = true)
    (h : wpStill P ops { w with drawn := w.drawn + 1 } (fun a' => wpList P ops Q (ops.toList.drop n) a' { w with drawn := w.drawn + 1 }) (ops.toList.take n) a) : (Code.region id ops true).wp P Q a w := by
  have := wp_region_still_tail (P := P) (id := id) (Q := Q) (a := a) (w := w) (l := ops.toList) n hm (by simpa using hB) (by simpa using h)
  simpa using this

end Go.Eng
/-
  THE ENGINE, PART 4s: a drawn region in whichever order: what reads may float, and is read again behind each write.
-/
namespace Go.Eng
open Go

/-! ### the slots that an operation looks at -/
def opdT : Operand → List Nat
  | .tmp t => [t]
  | _ => []
def optT : Option Operand → List Nat
  | some x => opdT x
  | none => []
def opT : Op → List Nat
  | .move x => opdT x
  | .assign x => opdT x
  | .pick c x y => opdT c ++ (opdT x ++ opdT y)
  | .load _ x => opdT x
  | .nilCheck x => opdT x
  | .binOp _ _ x y _ => opdT x ++ opdT y
  | .unOp _ _ x => opdT x
  | .convert _ _ x => opdT x
  | .slice _ x lo hi mx => opdT x ++ (optT lo ++ (optT hi ++ optT mx))
  | .fieldAddr _ x _ => opdT x
  | .field _ x _ => opdT x
  | .indexAddr _ x i => opdT x ++ opdT i
  | .index _ x i => opdT x ++ opdT i
  | .lookup _ x i _ => opdT x ++ opdT i
  | .extract x _ => opdT x
  | .build _ ps => ps.toList.flatMap fun x => opdT x.2
  | .makeFunc _ f g => f.toList.flatMap opdT ++ g.toList.flatMap opdT
  | .makeInterface _ x => opdT x
  | .entry x => opdT x
  | .box _ x => opdT x
  | .buildSlice _ _ ps => ps.toList.flatMap fun x => opdT x.2
  | .store _ x y => opdT x ++ opdT y
  | .mapUpdate _ m k x => opdT m ++ (opdT k ++ opdT x)
  | .insert _ m k x => opdT m ++ (opdT k ++ opdT x)
  | .makeMap _ r => optT r
  | .makeSlice _ x y => opdT x ++ opdT y
  | .range _ x => opdT x
  | .next x _ => opdT x
  | .mapEntry _ m k => opdT m ++ opdT k
  | .entryStore _ m s x => opdT m ++ (opdT s ++ opdT x)
  | .call ⟨.value x, args, _⟩ => opdT x ++ args.toList.flatMap opdT
  | .call ⟨_, args, _⟩ => args.toList.flatMap opdT
  | _ => []
def gdT (ops : Array Oper) : Option (Nat × Bool) → List Nat
  | none => []
  | some (j, _) => match (ops[j]?).bind (·.dst) with
    | some d => [d]
    | none => []
def looks (ops : Array Oper) (o : Oper) : List Nat := gdT ops o.guard ++ opT o.op

/-- They know the same of these slots. -/
def AgreeE (S : List Nat) (E E' : Env) : Prop := ∀ t ∈ S, E.get t = E'.get t
theorem AgreeE.left {S T : List Nat} {E E' : Env} (h : AgreeE (S ++ T) E E') : AgreeE S E E' := fun t ht => h t (List.mem_append_left _ ht)
theorem AgreeE.right {S T : List Nat} {E E' : Env} (h : AgreeE (S ++ T) E E') : AgreeE T E E' := fun t ht => h t (List.mem_append_right _ ht)

section
variable {E E' : Env}
theorem evK_cg {x : Operand} (h : AgreeE (opdT x) E E') (c : Bool) : evK E c x = evK E' c x := by
  funext K
  cases x <;> try rfl
  rename_i t
  have := h t (by simp [opdT])
  simp only [evK, this]
theorem evL_cg : ∀ {l : List Operand}, AgreeE (l.flatMap opdT) E E' → ∀ c, evL E c l = evL E' c l
  | [], _, c => rfl
  | x :: l, h, c => by
    have h1 := evK_cg h.left c
    have h2 := evL_cg h.right c
    funext K
    simp only [evL, h1, h2]
theorem evO_cg {x : Option Operand} (h : AgreeE (optT x) E E') (c : Bool) : evO E c x = evO E' c x := by
  cases x with
  | none => rfl
  | some x => funext K; simp only [evO, evK_cg (x := x) h c]
theorem evP_cg : ∀ {l : List (Nat × Operand)}, AgreeE (l.flatMap fun x => opdT x.2) E E' → ∀ c, evP E c l = evP E' c l
  | [], _, c => rfl
  | x :: l, h, c => by
    have h1 := evK_cg (x := x.2) h.left c
    have h2 := evP_cg h.right c
    funext K
    simp only [evP, h1, h2]
theorem gdK_cg {ops : Array Oper} {g : Option (Nat × Bool)} (h : AgreeE (gdT ops g) E E') : gdK ops E g = gdK ops E' g := by
  funext F
  unfold gdK gdT at *
  split at h
  · rfl
  · rename_i j w
    try simp only
    split at h
    · rename_i d hd
      have := h d (by simp)
      simp only [hd, this]
    · rename_i hd
      simp only [hd]

theorem opR_cg {P : Program} {ty : TypeId} {c : Bool} {h : Heap} {op : Op} (ha : AgreeE (opT op) E E') : opR P ty E c h op = opR P ty E' c h op := by
  funext K
  cases op <;> simp only [opR] <;> simp only [opT] at ha
  case move x => rw [evK_cg ha]
  case assign x => rw [evK_cg ha]
  case pick cn x y => simp only [evK_cg ha.left, evK_cg ha.right.left, evK_cg ha.right.right]
  case load t x => rw [evK_cg ha]
  case nilCheck x => rw [evK_cg ha]
  case binOp o t x y u => simp only [evK_cg ha.left, evK_cg ha.right]
  case unOp o t x => rw [evK_cg ha]
  case convert s d x => rw [evK_cg ha]
  case slice t x lo hi mx => simp only [evK_cg ha.left, evO_cg ha.right.left, evO_cg ha.right.right.left, evO_cg ha.right.right.right]
  case fieldAddr s x f => rw [evK_cg ha]
  case field s x f => rw [evK_cg ha]
  case indexAddr t x i => simp only [evK_cg ha.left, evK_cg ha.right]
  case index t x i => simp only [evK_cg ha.left, evK_cg ha.right]
  case lookup t x i ok => simp only [evK_cg ha.left, evK_cg ha.right]
  case extract x i => rw [evK_cg ha]
  case build t ps => rw [evP_cg ha]
  case makeFunc fn f g => simp only [evL_cg ha.left, evL_cg ha.right]
  case makeInterface t x => rw [evK_cg ha]
  case entry x => rw [evK_cg ha]
  case call cl =>
    obtain ⟨callee, args, tys⟩ := cl
    cases callee <;> simp only <;> simp only at ha
    rw [evL_cg ha]

theorem opW_cg {P : Program} {ty : TypeId} {c : Bool} {h : Heap} {op : Op} (ha : AgreeE (opT op) E E') : opW P ty E c h op = opW P ty E' c h op := by
  funext K
  cases op <;> simp only [opW] <;> simp only [opT] at ha
  case box t x => rw [evK_cg ha]
  case buildSlice t n ps => rw [evP_cg ha]
  case store t x y => simp only [evK_cg ha.left, evK_cg ha.right]
  case mapUpdate t m k x => simp only [evK_cg ha.left, evK_cg ha.right.left, evK_cg ha.right.right]
  case insert t m k x => simp only [evK_cg ha.left, evK_cg ha.right.left, evK_cg ha.right.right]
  case makeMap t r => rw [evO_cg ha]
  case makeSlice t x y => simp only [evK_cg ha.left, evK_cg ha.right]
  case convert s d x => rw [evK_cg ha]
  case range t x => rw [evK_cg ha]
  case next x st => rw [evK_cg ha]
  case mapEntry t m k => simp only [evK_cg ha.left, evK_cg ha.right]
  case entryStore t m s x => simp only [evK_cg ha.left, evK_cg ha.right.left, evK_cg ha.right.right]
  case call cl =>
    obtain ⟨callee, args, tys⟩ := cl
    cases callee
    case builtin b => simp only at ha ⊢; rw [evL_cg ha]
    case value x =>
      simp only at ha
      have h1 := evL_cg ha.right
      have h2 := evK_cg ha.left
      cases x <;> simp only [h1, h2]
    all_goals rfl

theorem opH_cg {P : Program} {ty : TypeId} {c : Bool} {h : Heap} {op : Op} (ha : AgreeE (opT op) E E') : opH P ty E c h op = opH P ty E' c h op := by
  funext K
  unfold opH
  rw [opW_cg ha, opR_cg ha]
end

/-! ### what is read is one value -/
def Det {α : Type} (X : (α → Prop) → Prop) : Prop := ∀ K, X K → ∃ v, K v ∧ ∀ K', K' v → X K'
theorem det_pure {α : Type} (v : α) : Det (fun K : α → Prop => K v) := fun _ h => ⟨v, h, fun _ h => h⟩
theorem det_bind {α β : Type} {X : (α → Prop) → Prop} {Y : α → (β → Prop) → Prop} (hX : Det X) (hY : ∀ a, Det (Y a)) : Det (fun K => X fun a => Y a K) := fun K h => by
  obtain ⟨a, h1, h2⟩ := hX _ h
  obtain ⟨b, h3, h4⟩ := hY a _ h1
  exact ⟨b, h3, fun K' hk => h2 _ (h4 _ hk)⟩
theorem det_false {α : Type} : Det (fun _ : α → Prop => False) := fun _ h => h.elim
section
variable {E : Env} {c : Bool}
theorem evK_det {x : Operand} : Det (evK E c x) := by
  cases x
  case tmp t =>
    intro K h
    simp only [evK] at h ⊢
    split at h
    · exact ⟨_, h.2, fun K' hk => ⟨h.1, hk⟩⟩
    · exact h.elim
  all_goals exact det_pure _
theorem evL_det : ∀ {l : List Operand}, Det (evL E c l)
  | [] => det_pure _
  | x :: l => det_bind (Y := fun v (K : List Value → Prop) => evL E c l fun vs => K (v :: vs)) (evK_det (x := x)) fun v => det_bind (Y := fun vs (K : List Value → Prop) => K (v :: vs)) (evL_det (l := l)) fun vs => det_pure _
theorem evO_det {x : Option Operand} : Det (evO E c x) := by
  cases x with
  | none => exact det_pure _
  | some x => exact det_bind (Y := fun v K => K (some v)) evK_det fun v => det_pure _
theorem evP_det : ∀ {l : List (Nat × Operand)}, Det (evP E c l)
  | [] => det_pure _
  | x :: l => det_bind (Y := fun v (K : List (Nat × Value) → Prop) => evP E c l fun vs => K ((x.1, v) :: vs)) (evK_det (x := x.2)) fun v => det_bind (Y := fun vs (K : List (Nat × Value) → Prop) => K ((x.1, v) :: vs)) (evP_det (l := l)) fun vs => det_pure _
theorem rdK_det {r : Option Value} : Det (rdK c r) := by
  cases r with
  | none => intro K h; exact ⟨undef, h.2, fun K' hk => ⟨h.1, hk⟩⟩
  | some v => exact det_pure _
theorem pickK_det {v : Value} {F : Bool → (Value → Prop) → Prop} (hF : ∀ b, Det (F b)) : Det (fun K => pickK c v (fun b => F b K) K) := by
  intro K h
  unfold pickK at h
  split at h
  · obtain ⟨u, h1, h2⟩ := hF _ _ h
    exact ⟨u, h1, fun K' hk => h2 _ hk⟩
  · rename_i hne
    refine ⟨undef, h.2, fun K' hk => ?_⟩
    unfold pickK
    split
    · rename_i b; exact (hne b rfl).elim
    · exact ⟨h.1, hk⟩
theorem gdK_det {ops : Array Oper} {g : Option (Nat × Bool)} : Det (gdK ops E g) := by
  intro F h
  unfold gdK at h
  split at h
  · exact ⟨true, h, fun F' hf => hf⟩
  · rename_i j w
    split at h
    · rename_i d hd
      split at h
      · rename_i v c hv
        exact ⟨_, h, fun F' hf => by simp only [gdK, hd, hv]; exact hf⟩
      · exact h.elim
    · exact h.elim

theorem opR_det {P : Program} {ty : TypeId} {h : Heap} {op : Op} : Det (opR P ty E c h op) := by
  cases op
  case move x => exact evK_det
  case assign x => exact evK_det
  case pick cn x y =>
    exact det_bind (Y := fun vc K => pickK c vc (fun b => evK E (c && b) x fun vx => evK E (c && !b) y fun vy => K (bif b then vx else vy)) K) evK_det fun vc =>
      pickK_det (F := fun b K => evK E (c && b) x fun vx => evK E (c && !b) y fun vy => K (bif b then vx else vy)) fun b => det_bind (Y := fun vx K => evK E (c && !b) y fun vy => K (bif b then vx else vy)) evK_det fun vx => det_bind (Y := fun vy K => K (bif b then vx else vy)) evK_det fun vy => det_pure _
  case load t x => exact det_bind (Y := fun v => rdK c (runD P (iLoadAt t v) h)) evK_det fun v => rdK_det
  case nilCheck x => exact det_bind (Y := fun v => rdK c (nilV v)) evK_det fun v => rdK_det
  case binOp o t x y u => exact det_bind (Y := fun vx K => evK E c y fun vy => rdK c (runD P (do eqGuard o t x y vx vy; binOp o t vx vy) h) K) evK_det fun vx => det_bind (Y := fun vy => rdK c (runD P (do eqGuard o t x y vx vy; binOp o t vx vy) h)) evK_det fun vy => rdK_det
  case unOp o t x => exact det_bind (Y := fun v => rdK c (runD P (iUnary o v) h)) evK_det fun v => rdK_det
  case convert s d x => exact det_bind (Y := fun v => rdK c (runD P (iConvert s d v) h)) evK_det fun v => rdK_det
  case slice t x lo hi mx =>
    exact det_bind (Y := fun v K => evO E c lo fun l => evO E c hi fun u => evO E c mx fun m => rdK c (runD P (iSliceAt t v l u m) h) K) evK_det fun v =>
      det_bind (Y := fun l K => evO E c hi fun u => evO E c mx fun m => rdK c (runD P (iSliceAt t v l u m) h) K) evO_det fun l =>
      det_bind (Y := fun u K => evO E c mx fun m => rdK c (runD P (iSliceAt t v l u m) h) K) evO_det fun u =>
      det_bind (Y := fun m => rdK c (runD P (iSliceAt t v l u m) h)) evO_det fun m => rdK_det
  case fieldAddr s x f => exact det_bind (Y := fun v => rdK c (runD P (iFieldAt s v f) h)) evK_det fun v => rdK_det
  case field s x f => exact det_bind (Y := fun v => rdK c (runD P (iField s v f) h)) evK_det fun v => rdK_det
  case indexAddr t x i => exact det_bind (Y := fun v K => evK E c i fun vi => rdK c (runD P (iIndexAt t v vi) h) K) evK_det fun v => det_bind (Y := fun vi => rdK c (runD P (iIndexAt t v vi) h)) evK_det fun vi => rdK_det
  case index t x i => exact det_bind (Y := fun v K => evK E c i fun vi => rdK c (runD P (iIndex t v vi) h) K) evK_det fun v => det_bind (Y := fun vi => rdK c (runD P (iIndex t v vi) h)) evK_det fun vi => rdK_det
  case lookup t x i ok => exact det_bind (Y := fun v K => evK E c i fun vi => rdK c (runD P (iLookup t v vi ok) h) K) evK_det fun v => det_bind (Y := fun vi => rdK c (runD P (iLookup t v vi ok) h)) evK_det fun vi => rdK_det
  case extract x i => exact det_bind (Y := fun v => rdK c (runD P (iExtract v i) h)) evK_det fun v => rdK_det
  case build t ps => exact det_bind (Y := fun vs => rdK c (runD P (iBuild t vs.toArray) h)) evP_det fun v => rdK_det
  case makeFunc fn f g => exact det_bind (Y := fun vf K => evL E c g.toList fun vg => K (Value.func fn vf.toArray vg.toArray)) evL_det fun vf => det_bind (Y := fun vg K => K (Value.func fn vf.toArray vg.toArray)) evL_det fun vg => det_pure _
  case makeInterface t x => exact det_bind (Y := fun v => rdK c (runD P (iMakeInterface t v) h)) evK_det fun v => rdK_det
  case entry x => exact det_bind (Y := fun v => rdK c (runD P (iEntry v) h)) evK_det fun v => rdK_det
  case call cl =>
    obtain ⟨callee, args, tys⟩ := cl
    cases callee
    case builtin b =>
      intro K hK
      obtain ⟨hq, hK⟩ := hK
      obtain ⟨v, h1, h2⟩ := det_bind (Y := fun vs => rdK c (runD P (builtinV b tys ty vs.toArray) h)) evL_det (fun v => rdK_det) K hK
      exact ⟨v, h1, fun K' hk => ⟨hq, h2 K' hk⟩⟩
    all_goals exact det_false
  all_goals exact det_false
end
end Go.Eng
/-
  THE ENGINE, PART 4t: a drawn region in whichever order: the rule.
-/
namespace Go.Eng
open Go

/-- A plan: which operations write, or stand at the end; which only read; what each waits for; in which order it is reckoned (true: once more). -/
inductive Plan where
  | done
  | rd (i : Nat) (again : Bool) (p : Plan)
  | wr (i : Nat) (p : Plan) (alt : Plan)
  | no
structure Sch where
  wm : Nat
  rm : Nat
  am : List Nat
  l : Plan

def ancHas (am : List Nat) (j i : Nat) : Bool := (am.getD j 0).testBit i
def sameG (c : Bool) (v' : Value) : Option (Value × Bool) → Prop
  | some (v, c0) => c0 = c ∧ (c = true → v' = v)
  | none => False
def sameV (E : Env) (d : Option Tmp) (c : Bool) (v' : Value) : Prop :=
  match d with
  | none => True
  | some s => sameG c v' (E.get s)
def nthO : List Oper → Nat → Option Oper
  | [], _ => none
  | o :: _, 0 => some o
  | _ :: l, n + 1 => nthO l n
theorem nthO_eq : ∀ (l : List Oper) (n : Nat), nthO l n = l[n]?
  | [], _ => by simp [nthO]
  | x :: l, 0 => by simp [nthO]
  | x :: l, n + 1 => by simp [nthO, nthO_eq l n]
/-- One step of a plan. -/
def schO (P : Program) (ops : Array Oper) (X : Env → Heap → (Env → Heap → Prop) → Prop) (E : Env) (h : Heap) (K : Env → Heap → Prop) (again : Bool) : Option Oper → Prop
  | none => False
  | some o => gdK ops E o.guard fun c => bif again then opH P o.type E c h o.op (fun v _ => sameV E o.dst c v ∧ X E h K) else opH P o.type E c h o.op (opsK X E o.dst c K)
def devSched (P : Program) (ops : Array Oper) : Plan → Env → Heap → (Env → Heap → Prop) → Prop
  | .done, E, h, K => K E h
  | .rd i again l, E, h, K => schO P ops (devSched P ops l) E h K again (nthO ops.toList i)
  | .wr i l alt, E, h, K => schO P ops (devSched P ops l) E h K false (nthO ops.toList i) ∧ devSched P ops alt E h K
  | .no, _, _, _ => True
/-- What may write next. -/
def Plan.alts : Plan → List (Nat × Plan)
  | .wr i p alt => (i, p) :: alt.alts
  | _ => []
/-- Each that may write next is among them. -/
def cover (S : Sch) (N dw : Nat) (l : List (Nat × Plan)) : Bool := (List.range N).all fun j => !S.wm.testBit j || dw.testBit j || l.any (fun x => x.1 == j) || ((S.am.getD j 0 &&& S.wm) &&& dw) != (S.am.getD j 0 &&& S.wm)

def complete (S : Sch) (N dw bl du : Nat) : Bool := (List.range N).all fun r => S.wm.testBit r || bl.testBit r || du.testBit r || ((S.am.getD r 0 &&& S.wm) &&& dw) != (S.am.getD r 0 &&& S.wm)
def depsKnown (S : Sch) (i kn : Nat) : Bool := ((S.am.getD i 0 &&& S.rm) &&& kn) == (S.am.getD i 0 &&& S.rm)
def chk (S : Sch) (N : Nat) : Plan → Bool → Nat → Nat → Nat → Nat → Bool
  | .done, b, dw, _, bl, du => !b && complete S N dw bl du && (List.range N).all fun w => !S.wm.testBit w || dw.testBit w
  | .rd i ag l, b, dw, kn, bl, du => !b && decide (i < N) && !S.wm.testBit i && (kn.testBit i == ag) && depsKnown S i kn && chk S N l false dw (kn ||| 2 ^ i) (bl ||| 2 ^ i) du
  | .wr i l alt, b, dw, kn, bl, du => (b || (complete S N dw bl du && cover S N dw (Plan.wr i l alt).alts)) && decide (i < N) && S.wm.testBit i && !dw.testBit i && chk S N l false (dw ||| 2 ^ i) kn 0 (du ||| S.am.getD i 0) && chk S N alt true dw kn bl du
  | .no, b, _, _, _, _ => b

def foldAnc (am : List Nat) : List Edge → Nat → Nat
  | [], m => m
  | e :: r, m => foldAnc am r (bif Region.binds .any e then m ||| 2 ^ e.on ||| am.getD e.on 0 else m)
def eachO (ops : Array Oper) (f : Oper → Nat → Bool) : Bool := (List.range ops.size).all fun j => match ops[j]? with
  | some o => f o j
  | none => false
def schOk (P : Program) (ops : Array Oper) (S : Sch) : Bool :=
  Region.noSelect ops &&
  (eachO ops fun o j => o.after.toList.all fun e => !Region.binds .any e || decide (e.on < j)) &&
  (eachO ops fun o j => S.am.getD j 0 == foldAnc S.am o.after.toList 0) &&
  (eachO ops fun o j => (S.wm.testBit j || !isW P o.op) && (S.rm.testBit j == !S.wm.testBit j)) &&
  (eachO ops fun oj j => S.wm.testBit j || match oj.dst with
    | none => true
    | some d => eachO ops fun oi i => (!(looks ops oi).contains d || (ancHas S.am i j && i != j)) && (i == j || oi.dst != some d)) &&
  chk S ops.size S.l false 0 0 0 0

theorem eachO_spec {ops : Array Oper} {f : Oper → Nat → Bool} (h : eachO ops f = true) {j : Nat} {o : Oper} (ho : ops[j]? = some o) : f o j = true := by
  have := List.all_eq_true.1 h j (List.mem_range.2 (Array.getElem?_eq_some_iff.1 ho).1)
  simpa [ho] using this

structure RF (P : Program) (ops : Array Oper) (S : Sch) : Prop where
  nosel : Region.noSelect ops = true
  edge : ∀ (j : Nat) o, ops[j]? = some o → ∀ e ∈ o.after, Region.binds .any e = true → e.on < j
  anc : ∀ (j : Nat) o, ops[j]? = some o → ∀ i, ancHas S.am j i = true → ∃ e ∈ o.after, Region.binds .any e = true ∧ (e.on = i ∨ ancHas S.am e.on i = true)
  rd : ∀ (j : Nat) o, ops[j]? = some o → S.wm.testBit j = false → isW P o.op = false
  rm : ∀ (j : Nat) o, ops[j]? = some o → S.rm.testBit j = !S.wm.testBit j
  look : ∀ (j : Nat) oj d, ops[j]? = some oj → S.wm.testBit j = false → oj.dst = some d → ∀ (i : Nat) oi, ops[i]? = some oi → d ∈ looks ops oi → ancHas S.am i j = true ∧ i ≠ j
  dst : ∀ (j : Nat) oj d, ops[j]? = some oj → S.wm.testBit j = false → oj.dst = some d → ∀ (i : Nat) oi, ops[i]? = some oi → i ≠ j → oi.dst ≠ some d

theorem foldAnc_spec {am : List Nat} : ∀ (es : List Edge) (m i : Nat), (foldAnc am es m).testBit i = true → m.testBit i = true ∨ ∃ e ∈ es, Region.binds .any e = true ∧ (e.on = i ∨ ancHas am e.on i = true)
  | [], m, i, h => .inl h
  | e :: r, m, i, h => by
    simp only [foldAnc] at h
    rcases foldAnc_spec r _ i h with h | ⟨e', h1, h2⟩
    · cases hb : Region.binds .any e with
      | false => rw [hb] at h; exact .inl h
      | true =>
        rw [hb] at h
        simp only [cond_true, Nat.testBit_or, Bool.or_eq_true, Nat.testBit_two_pow, decide_eq_true_eq] at h
        rcases h with (h | h) | h
        · exact .inl h
        · exact .inr ⟨e, by simp, hb, .inl h⟩
        · exact .inr ⟨e, by simp, hb, .inr h⟩
    · exact .inr ⟨e', by simp [h1], h2⟩

theorem rf_of {P : Program} {ops : Array Oper} {S : Sch} (h : schOk P ops S = true) : RF P ops S ∧ chk S ops.size S.l false 0 0 0 0 = true := by
  simp only [schOk, Bool.and_eq_true] at h
  obtain ⟨⟨⟨⟨⟨h1, h2⟩, h3⟩, h4⟩, h5⟩, h7⟩ := h
  refine ⟨⟨h1, fun j o ho e he hb => ?_, fun j o ho i hi => ?_, fun j o ho hw => ?_, fun j o ho => ?_, fun j oj d hj hw hd i oi hi hl => ?_, fun j oj d hj hw hd i oi hi hne => ?_⟩, h7⟩
  · have := List.all_eq_true.1 (eachO_spec h2 ho) e (by simpa using he)
    simpa [hb] using this
  · have := eachO_spec h3 ho
    simp only [beq_iff_eq] at this
    unfold ancHas at hi
    rw [this] at hi
    rcases foldAnc_spec _ _ _ hi with hz | ⟨e, he, q⟩
    · simp at hz
    · exact ⟨e, by simpa using he, q⟩
  · have := eachO_spec h4 ho
    simp only [Bool.and_eq_true, Bool.or_eq_true, hw, Bool.false_eq_true, false_or, Bool.not_eq_true'] at this
    exact this.1
  · have := eachO_spec h4 ho
    simp only [Bool.and_eq_true, beq_iff_eq] at this
    exact this.2
  · have := eachO_spec h5 hj
    simp only [hw, Bool.false_or, hd] at this
    have := eachO_spec this hi
    simp only [Bool.and_eq_true, Bool.or_eq_true, Bool.not_eq_true', bne_iff_ne] at this
    rcases this.1 with q | q
    · have : (looks ops oi).contains d = true := by simpa using hl
      rw [q] at this; cases this
    · exact q
  · have := eachO_spec h5 hj
    simp only [hw, Bool.false_or, hd] at this
    have := eachO_spec this hi
    simp only [Bool.and_eq_true, Bool.or_eq_true, beq_iff_eq, bne_iff_ne] at this
    exact this.2.resolve_left hne

/-! ### a read that may float -/
def Stable (P : Program) (ops : Array Oper) (o : Oper) (E : Env) (h : Heap) : Prop := gdK ops E o.guard fun c => ∃ v', sameV E o.dst c v' ∧ ∀ K', K' v' → opR P o.type E c h o.op K'
theorem Stable.cg {P : Program} {ops : Array Oper} {o : Oper} {E E' : Env} {h : Heap} (s : Stable P ops o E h) (ha : AgreeE (looks ops o) E E') (hd : ∀ d, o.dst = some d → E.get d = E'.get d) : Stable P ops o E' h := by
  unfold Stable at *
  rw [gdK_cg ha.left] at s
  obtain ⟨c, ⟨v', h1, h2⟩, h3⟩ := gdK_det _ s
  refine h3 _ ⟨v', ?_, fun K' hk => by rw [← opR_cg ha.right]; exact h2 K' hk⟩
  unfold sameV at *
  split at h1
  · trivial
  · rename_i d hdd
    rw [← hd d hdd]; exact h1

theorem keep_mem {E : Env} : ∀ (l : List Nat) (s : Nat) (r : Value × Bool), (E.keep l).get s = some r → s ∈ l
  | [], _, _, h => by simp [Env.keep, Env.get] at h
  | t :: l, s, r, h => by
    simp only [Env.keep] at h
    split at h
    · simp only [Env.get] at h
      cases hst : t == s with
      | true => have := eq_of_beq hst; subst this; simp
      | false => simp only [hst, cond_false] at h; exact List.mem_cons_of_mem _ (keep_mem l s r h)
    · exact List.mem_cons_of_mem _ (keep_mem l s r h)
theorem keep_same {E : Env} : ∀ (l : List Nat) (s : Nat), s ∈ l → (E.keep l).get s = E.get s
  | t :: l, s, h => by
    simp only [Env.keep]
    by_cases e : t = s
    · subst e
      cases hg : E.get t with
      | some x => simp [Env.get]
      | none =>
        try simp only
        cases hk : (E.keep l).get t with
        | none => rfl
        | some r => rw [keep_get l t r hk] at hg; cases hg
    · have hs : s ∈ l := by
        rcases List.mem_cons.1 h with q | q
        · exact (e q.symm).elim
        · exact q
      have ih := keep_same (E := E) l s hs
      cases hg : E.get t with
      | some x =>
        simp only [Env.get]
        have : (t == s) = false := by simpa using e
        rw [this]; simpa using ih
      | none => simpa using ih
theorem keep_agree {E : Env} {l : List Nat} : AgreeE l E (E.keep l) := fun t ht => (keep_same l t ht).symm

theorem or_bit {m i j : Nat} : (m ||| 2 ^ i).testBit j = (m.testBit j || decide (i = j)) := by rw [Nat.testBit_or, Nat.testBit_two_pow]
theorem and_eq_bit {a b c : Nat} (h : (a &&& b) &&& c = (a &&& b)) {i : Nat} (ha : a.testBit i = true) (hb : b.testBit i = true) : c.testBit i = true := by
  have := congrArg (fun x => x.testBit i) h
  simpa [Nat.testBit_and, ha, hb] using this
theorem and_ne_bit {a b c : Nat} (h : (a &&& b) &&& c ≠ (a &&& b)) : ∃ i, a.testBit i = true ∧ b.testBit i = true ∧ c.testBit i = false := by
  refine Classical.byContradiction fun q => h ?_
  apply Nat.eq_of_testBit_eq
  intro i
  rw [Nat.testBit_and, Nat.testBit_and]
  cases ha : a.testBit i with
  | false => rfl
  | true =>
    cases hb : b.testBit i with
    | false => rfl
    | true =>
      cases hc : c.testBit i with
      | true => rfl
      | false => exact (q ⟨i, ha, hb, hc⟩).elim

section
variable {P : Program} {ops : Array Oper} {S : Sch}

def NextW (l : Plan) : Prop := l = .done ∨ ∃ i p alt, l = .wr i p alt

theorem put_get_ne {E : Env} {d : Option Tmp} {v : Value} {c : Bool} {s : Nat} (h : d ≠ some s) : (E.put d v c).get s = E.get s := by
  cases d with
  | none => rfl
  | some t =>
    have : (t == s) = false := by simpa using fun e => h (by rw [e])
    simp [Env.put, Env.get, this]
theorem put_get_eq {E : Env} {v : Value} {c : Bool} {s : Nat} : (E.put (some s) v c).get s = some (v, c) := by simp [Env.put, Env.get]

theorem chk_alt {N dw kn bl du i : Nat} {p : Plan} : ∀ {l : Plan} {b : Bool}, chk S N l b dw kn bl du = true → (i, p) ∈ l.alts → i < N ∧ S.wm.testBit i = true ∧ dw.testBit i = false ∧ chk S N p false (dw ||| 2 ^ i) kn 0 (du ||| S.am.getD i 0) = true
  | .done, _, _, h => by simp [Plan.alts] at h
  | .rd .., _, _, h => by simp [Plan.alts] at h
  | .no, _, _, h => by simp [Plan.alts] at h
  | .wr j q alt, b, hc, h => by
    simp only [chk, Bool.and_eq_true, decide_eq_true_eq, Bool.not_eq_true'] at hc
    rcases List.mem_cons.1 h with e | h
    · cases e
      exact ⟨hc.1.1.1.1.2, hc.1.1.1.2, hc.1.1.2, hc.1.2⟩
    · exact chk_alt hc.2 h
theorem dev_alt {E : Env} {h : Heap} {K : Env → Heap → Prop} {i : Nat} {p : Plan} : ∀ {l : Plan}, devSched P ops l E h K → (i, p) ∈ l.alts → schO P ops (devSched P ops p) E h K false (nthO ops.toList i)
  | .done, _, h => by simp [Plan.alts] at h
  | .rd .., _, h => by simp [Plan.alts] at h
  | .no, _, h => by simp [Plan.alts] at h
  | .wr j q alt, hd, h => by
    rcases List.mem_cons.1 h with e | h
    · cases e; exact hd.1
    · exact dev_alt hd.2 h

theorem block_run (rf : RF P ops S) : ∀ (l : Plan) (E : Env) (h : Heap) (K : Env → Heap → Prop) (dw kn bl du : Nat), chk S ops.size l false dw kn bl du = true → devSched P ops l E h K →
    (∀ (r : Nat) o, ops[r]? = some o → bl.testBit r = true → Stable P ops o E h) → (∀ r, bl.testBit r = true → S.wm.testBit r = false ∧ ∀ j, ancHas S.am r j = true → S.rm.testBit j = true → kn.testBit j = true) → (∀ r, bl.testBit r = true → kn.testBit r = true) →
    ∃ l2 E2 kn2 bl2, chk S ops.size l2 false dw kn2 bl2 du = true ∧ NextW l2 ∧ devSched P ops l2 E2 h K ∧ (∀ (r : Nat) o, ops[r]? = some o → bl2.testBit r = true → Stable P ops o E2 h) ∧ (∀ r, bl2.testBit r = true → S.wm.testBit r = false) ∧ (∀ r, bl2.testBit r = true → kn2.testBit r = true) ∧
      (∀ r, kn.testBit r = true → kn2.testBit r = true) ∧ (∀ s, (∀ (r : Nat) o, ops[r]? = some o → S.wm.testBit r = false → kn.testBit r = false → kn2.testBit r = true → o.dst ≠ some s) → E2.get s = E.get s) := by
  intro l
  induction l with
  | done => intro E h K dw kn bl du hc hd hs hb hbk; exact ⟨.done, E, kn, bl, hc, .inl rfl, hd, hs, fun r hr => (hb r hr).1, hbk, fun _ q => q, fun _ _ => rfl⟩
  | no => intro E h K dw kn bl du hc; simp [chk] at hc
  | wr i p alt _ _ => intro E h K dw kn bl du hc hd hs hb hbk; exact ⟨_, E, kn, bl, hc, .inr ⟨i, p, alt, rfl⟩, hd, hs, fun r hr => (hb r hr).1, hbk, fun _ q => q, fun _ _ => rfl⟩
  | rd i ag l ih =>
    intro E h K dw kn bl du hc hd hs hb hbk
    simp only [chk, Bool.not_false, Bool.true_and, Bool.and_eq_true, decide_eq_true_eq, beq_iff_eq, Bool.not_eq_true'] at hc
    obtain ⟨⟨⟨⟨hi, hw⟩, hk⟩, hdk⟩, hc⟩ := hc
    cases hw0 : S.wm.testBit i with
    | true => rw [hw] at hw0; cases hw0
    | false =>
      have hoi : ops[i]? = some ops[i] := Array.getElem?_eq_getElem hi
      have hdk' : ∀ j, ancHas S.am i j = true → S.rm.testBit j = true → kn.testBit j = true := fun j h1 h2 => by
        simp only [depsKnown, beq_iff_eq] at hdk
        exact and_eq_bit hdk h1 h2
      simp only [devSched, nthO_eq, Array.getElem?_toList, hoi, schO] at hd
      generalize ops[i] = o at hoi hd
      have hr := rf.rd i o hoi hw
      have hb' : ∀ r, (bl ||| 2 ^ i).testBit r = true → S.wm.testBit r = false ∧ ∀ j, ancHas S.am r j = true → S.rm.testBit j = true → (kn ||| 2 ^ i).testBit j = true := by
        intro r q
        rw [or_bit, Bool.or_eq_true, decide_eq_true_eq] at q
        rcases q with q | rfl
        · exact ⟨(hb r q).1, fun j h1 h2 => by rw [or_bit, (hb r q).2 j h1 h2]; rfl⟩
        · exact ⟨hw, fun j h1 h2 => by rw [or_bit, hdk' j h1 h2]; rfl⟩
      have hbk' : ∀ r, (bl ||| 2 ^ i).testBit r = true → (kn ||| 2 ^ i).testBit r = true := by
        intro r q
        rw [or_bit, Bool.or_eq_true] at q ⊢
        exact q.imp (hbk r) id
      cases ag with
      | true =>
        simp only [cond_true] at hd
        obtain ⟨c, hX, hg⟩ := gdK_det _ hd
        unfold opH at hX
        rw [hr] at hX
        simp only [cond_false] at hX
        obtain ⟨v', ⟨h1, h2⟩, h3⟩ := opR_det _ hX
        have st : Stable P ops o E h := hg _ ⟨v', h1, h3⟩
        have hkn : ∀ r, (kn ||| 2 ^ i).testBit r = kn.testBit r := fun r => by
          rw [or_bit]
          by_cases q : i = r
          · subst q; rw [hk]; rfl
          · simp [q]
        obtain ⟨l2, E2, kn2, bl2, r1, r2, r3, r4, r5, r5b, r6, r7⟩ := ih E h K dw _ _ du hc h2 (fun r o' ho' q => by
          rw [or_bit, Bool.or_eq_true, decide_eq_true_eq] at q
          rcases q with q | rfl
          · exact hs r o' ho' q
          · rw [hoi] at ho'; cases ho'; exact st) hb' hbk'
        exact ⟨l2, E2, kn2, bl2, r1, r2, r3, r4, r5, r5b, fun r q => r6 r (by rw [hkn]; exact q), fun s q => r7 s fun r o' ho' hw' hk' => q r o' ho' hw' (by rw [← hkn]; exact hk')⟩
      | false =>
        simp only [cond_false] at hd
        have hX0 : gdK ops E o.guard fun c => opR P o.type E c h o.op fun v => devSched P ops l (E.put o.dst v c) h K := by
          obtain ⟨c, hX, hg⟩ := gdK_det _ hd
          refine hg _ ?_
          unfold opH at hX
          rw [hr] at hX
          exact hX
        obtain ⟨c, hX, hg⟩ := gdK_det _ hX0
        obtain ⟨v, h2, h3⟩ := opR_det _ hX
        have hne : ∀ d, o.dst = some d → d ∉ looks ops o := fun d hd' hl => (rf.look i o d hoi hw hd' i o hoi hl).2 rfl
        have ag1 : AgreeE (looks ops o) E (E.put o.dst v c) := fun t ht => (put_get_ne fun e => hne t e ht).symm
        have st : Stable P ops o (E.put o.dst v c) h := by
          have g1 : gdK ops (E.put o.dst v c) o.guard = gdK ops E o.guard := (gdK_cg ag1.left).symm
          unfold Stable
          rw [g1]
          refine hg _ ⟨v, ?_, fun K' hk' => by rw [← opR_cg ag1.right]; exact h3 K' hk'⟩
          unfold sameV
          split
          · trivial
          · rename_i d hdd
            rw [hdd, put_get_eq]; exact ⟨rfl, fun _ => rfl⟩
        obtain ⟨l2, E2, kn2, bl2, r1, r2, r3, r4, r5, r5b, r6, r7⟩ := ih (E.put o.dst v c) h K dw _ _ du hc h2 (fun r o' ho' q => by
          rw [or_bit, Bool.or_eq_true, decide_eq_true_eq] at q
          by_cases e : i = r
          · subst e; rw [hoi] at ho'; cases ho'; exact st
          · have q := q.resolve_right e
            have hwr := (hb r q).1
            refine (hs r o' ho' q).cg (fun t ht => (put_get_ne fun e' => ?_).symm) fun d hd' => (put_get_ne fun e' => ?_).symm
            · have hanc := (rf.look i o t hoi hw e' r o' ho' ht).1
              have := (hb r q).2 i hanc (by rw [rf.rm i o hoi, hw]; rfl)
              rw [hk] at this; cases this
            · exact rf.dst i o d hoi hw e' r o' ho' (fun z => e z.symm) hd') hb' hbk'
        refine ⟨l2, E2, kn2, bl2, r1, r2, r3, r4, r5, r5b, fun r q => r6 r (by rw [or_bit, q]; rfl), fun s q => ?_⟩
        have e1 := r7 s fun r o' ho' hw' hk' hk2 => q r o' ho' hw' (by rw [or_bit] at hk'; simp at hk'; exact hk'.1) hk2
        rw [e1]
        exact put_get_ne (q i o hoi hw hk (r6 i (by rw [or_bit]; simp)))
end
end Go.Eng
/-
  THE ENGINE, PART 4u: a drawn region by its plan.
-/
namespace Go.Eng
open Go

def cntF : List Bool → Nat
  | [] => 0
  | true :: l => cntF l
  | false :: l => cntF l + 1
theorem cntF_set : ∀ (l : List Bool) (i : Nat), l[i]? = some false → cntF (l.set i true) + 1 = cntF l
  | b :: l, 0, h => by simp at h; subst h; rfl
  | b :: l, i + 1, h => by
    have := cntF_set l i (by simpa using h)
    cases b <;> simp only [List.set_cons_succ, cntF] <;> omega
theorem cntF_zero : ∀ (l : List Bool), cntF l = 0 → ∀ (i : Nat) b, l[i]? = some b → b = true
  | b :: l, h, 0, c, hc => by simp at hc; subst hc; cases b <;> simp [cntF] at h ⊢
  | b :: l, h, i + 1, c, hc => by cases b <;> simp [cntF] at h; exact cntF_zero l h i c (by simpa using hc)

/-- Is it listed? -/
def Lst (listed : Array Bool) (i : Nat) : Prop := listed.getD i false = true
structure LI (ops : Array Oper) (listed : Array Bool) : Prop where
  size : listed.size = ops.size
  closed : ∀ (j : Nat) oj, ops[j]? = some oj → Lst listed j → ∀ e ∈ oj.after, Region.binds .any e = true → Lst listed e.on

theorem lst_set {listed : Array Bool} {i j : Nat} (hi : i < listed.size) : Lst (listed.setIfInBounds i true) j ↔ (i = j ∨ Lst listed j) := by
  unfold Lst
  simp only [Array.getD_eq_getD_getElem?, Array.getElem?_setIfInBounds]
  by_cases e : i = j
  · subst e; simp [hi]
  · simp [e]
theorem lst_lt {listed : Array Bool} {i : Nat} (h : Lst listed i) : i < listed.size := by
  unfold Lst at h
  refine Nat.lt_of_not_le fun q => ?_
  simp [q] at h
theorem not_lst {listed : Array Bool} {i : Nat} (h : listed.getD i true = false) : ¬ Lst listed i ∧ i < listed.size ∧ listed.toList[i]? = some false := by
  have hlt : i < listed.size := Nat.lt_of_not_le fun q => by simp [q] at h
  simp only [Array.getD_eq_getD_getElem?, Array.getElem?_eq_getElem hlt, Option.getD_some] at h
  refine ⟨?_, hlt, by rw [Array.getElem?_toList, Array.getElem?_eq_getElem hlt, h]⟩
  unfold Lst
  simp [hlt, h]

section
variable {P : Program} {ops : Array Oper} {S : Sch}

theorem anc_lst (rf : RF P ops S) {listed : Array Bool} (li : LI ops listed) : ∀ (m j : Nat), j ≤ m → ∀ i, ancHas S.am j i = true → Lst listed j → Lst listed i := by
  intro m
  induction m with
  | zero =>
    intro j hj i ha hl
    have hlt := lst_lt hl
    rw [li.size] at hlt
    obtain ⟨e, he, hb, q⟩ := rf.anc j ops[j] (Array.getElem?_eq_getElem hlt) i ha
    have := rf.edge j _ (Array.getElem?_eq_getElem hlt) e he hb
    omega
  | succ m ih =>
    intro j hj i ha hl
    have hlt := lst_lt hl
    rw [li.size] at hlt
    have ho := Array.getElem?_eq_getElem hlt
    obtain ⟨e, he, hb, q⟩ := rf.anc j ops[j] ho i ha
    have h1 := rf.edge j _ ho e he hb
    have h2 := li.closed j _ ho hl e he hb
    rcases q with rfl | q
    · exact h2
    · exact ih e.on (by omega) i q h2
theorem ready_anc (rf : RF P ops S) {listed : Array Bool} (li : LI ops listed) {j i : Nat} (hr : j ∈ Region.ready .any ops listed) (ha : ancHas S.am j i = true) : Lst listed i := by
  obtain ⟨h1, o, ho, hall⟩ := mem_ready.1 hr
  obtain ⟨e, he, hb, q⟩ := rf.anc j o ho i ha
  have h2 : Lst listed e.on := hall e he hb
  rcases q with rfl | q
  · exact h2
  · exact anc_lst rf li _ e.on (Nat.le_refl _) i q h2
theorem LI.set {listed : Array Bool} (li : LI ops listed) {i : Nat} (hr : i ∈ Region.ready .any ops listed) : LI ops (listed.setIfInBounds i true) := by
  obtain ⟨h1, o, ho, hall⟩ := mem_ready.1 hr
  have hlt := (not_lst h1).2.1
  refine ⟨by simpa using li.size, fun j oj hj hl e he hb => ?_⟩
  rw [lst_set hlt] at hl ⊢
  rcases hl with rfl | hl
  · rw [ho] at hj; cases hj
    exact .inr (hall e he hb)
  · exact .inr (li.closed j oj hj hl e he hb)
/-- The least that is open may be listed. -/
theorem least_ready (rf : RF P ops S) {listed : Array Bool} (li : LI ops listed) (h : Region.ready .any ops listed = []) : ∀ i, i < ops.size → Lst listed i := by
  intro i
  induction i using Nat.strongRecOn with
  | _ i ih =>
    intro hi
    refine Classical.byContradiction fun q => ?_
    have hf : listed.getD i true = false := by
      have hlt : i < listed.size := by rw [li.size]; exact hi
      unfold Lst at q
      simp only [Array.getD_eq_getD_getElem?, Array.getElem?_eq_getElem hlt, Option.getD_some] at q ⊢
      simpa using q
    have : i ∈ Region.ready .any ops listed := mem_ready.2 ⟨hf, ops[i], Array.getElem?_eq_getElem hi, fun e he hb => ih e.on (rf.edge i _ (Array.getElem?_eq_getElem hi) e he hb) (by have := rf.edge i _ (Array.getElem?_eq_getElem hi) e he hb; omega)⟩
    rw [h] at this; cases this

/-- What a frame's slots hold: those of reads that are still open are left out. -/
def Ag (ops : Array Oper) (S : Sch) (listed : Array Bool) (E : Env) (tmps : Array Value) : Prop :=
  ∀ s v c, E.get s = some (v, c) → (∀ (j : Nat) oj, ops[j]? = some oj → S.wm.testBit j = false → oj.dst = some s → Lst listed j) → tmps[s]? = some (bif c then v else undef)
theorem Ag.keep (rf : RF P ops S) {listed : Array Bool} (li : LI ops listed) {E : Env} {tmps : Array Value} (ag : Ag ops S listed E tmps) {i : Nat} {o : Oper} (ho : ops[i]? = some o) (hr : i ∈ Region.ready .any ops listed) : Holds (E.keep (looks ops o)) tmps := by
  intro s v c hg
  refine ag s v c (keep_get _ _ _ hg) fun j oj hj hw hd => ?_
  exact ready_anc rf li hr (rf.look j oj s hj hw hd i o ho (keep_mem _ _ _ hg)).1

structure Rel (ops : Array Oper) (S : Sch) (listed : Array Bool) (dw kn bl du : Nat) : Prop where
  w : ∀ i, i < ops.size → S.wm.testBit i = true → (Lst listed i ↔ dw.testBit i = true)
  r : ∀ i, i < ops.size → S.wm.testBit i = false → Lst listed i → kn.testBit i = true
  u : ∀ r, du.testBit r = true → ∃ w, Lst listed w ∧ ancHas S.am w r = true
  b : ∀ r, bl.testBit r = true → S.wm.testBit r = false ∧ kn.testBit r = true

theorem act_put_get {a : Act} {d : Option Tmp} {v : Value} {s : Nat} (hd : ∀ s, d = some s → s < a.tmps.size) : (a.put d v).tmps[s]? = if d = some s then some v else a.tmps[s]? := by
  cases d with
  | none => simp [Act.put]
  | some t =>
    have := hd t rfl
    simp only [Act.put, Array.getElem?_setIfInBounds, Option.some.injEq]
    by_cases e : t = s
    · subst e; simp [this]
    · simp [e]

theorem any_main (rf : RF P ops S) {n : Nat} {K : Env → Heap → Prop} {Q : Exit → Act → World → Prop} {w0 : World} (hdst : ops.toList.all (dstOk n) = true)
    (hQ : ∀ E a w, Holds E a.tmps → a.tmps.size = n → a.defers = [] → Same w0 w → K E w.heap → Q .normal a w) :
    ∀ (fuel : Nat) (listed : Array Bool) (a : Act) (w : World) (l : Plan) (E : Env) (dw kn bl du : Nat), LI ops listed → cntF listed.toList ≤ fuel → Rel ops S listed dw kn bl du → NextW l → chk S ops.size l false dw kn bl du = true →
    devSched P ops l E w.heap K → (∀ (r : Nat) o, ops[r]? = some o → bl.testBit r = true → Stable P ops o E w.heap) → Ag ops S listed E a.tmps → a.tmps.size = n → a.defers = [] → Same w0 w → wpAny P .any ops Q fuel listed a w := by
  -- the end
  have fin : ∀ (listed : Array Bool) (a : Act) (w : World) (l : Plan) (E : Env) (dw kn bl du : Nat), (∀ i, i < ops.size → Lst listed i) → Rel ops S listed dw kn bl du → NextW l → chk S ops.size l false dw kn bl du = true →
      devSched P ops l E w.heap K → Ag ops S listed E a.tmps → a.tmps.size = n → a.defers = [] → Same w0 w → Q .normal a w := by
    intro listed a w l E dw kn bl du hall rel nx hc hd ag hn hdf hs
    rcases nx with rfl | ⟨i, p, alt, rfl⟩
    · exact hQ E a w (fun s v c hg => ag s v c hg fun j oj hj _ _ => hall j (Array.getElem?_eq_some_iff.1 hj).1) hn hdf hs hd
    · exfalso
      obtain ⟨h1, h2, h3, -⟩ := chk_alt (i := i) (p := p) hc (by simp [Plan.alts])
      have := (rel.w i h1 h2).1 (hall i h1)
      rw [h3] at this
      cases this
  intro fuel
  induction fuel with
  | zero =>
    intro listed a w l E dw kn bl du li hcnt rel nx hc hd hst ag hn hdf hs
    have hall : ∀ i, i < ops.size → Lst listed i := fun i hi => by
      have hlt : i < listed.size := by rw [li.size]; exact hi
      have := cntF_zero listed.toList (by omega) i listed[i] (by rw [Array.getElem?_toList, Array.getElem?_eq_getElem hlt])
      unfold Lst
      simp [hlt, this]
    refine ⟨?_, fin listed a w l E dw kn bl du hall rel nx hc hd ag hn hdf hs⟩
    refine List.eq_nil_iff_forall_not_mem.2 fun i hi => ?_
    obtain ⟨h1, o, ho, -⟩ := mem_ready.1 hi
    exact (not_lst h1).1 (hall i (Array.getElem?_eq_some_iff.1 ho).1)
  | succ fuel ih =>
    intro listed a w l E dw kn bl du li hcnt rel nx hc hd hst ag hn hdf hs
    refine ⟨fun hr => fin listed a w l E dw kn bl du (least_ready rf li hr) rel nx hc hd ag hn hdf hs, fun i hi => ?_⟩
    obtain ⟨h1, o, ho, hdeps⟩ := mem_ready.1 hi
    obtain ⟨hnl, hlt, hf⟩ := not_lst h1
    have hiN : i < ops.size := by rw [← li.size]; exact hlt
    have li' := li.set hi
    have hcnt' : cntF (listed.setIfInBounds i true).toList ≤ fuel := by
      have := cntF_set listed.toList i hf
      rw [Array.toList_setIfInBounds]
      omega
    have hdo : ∀ s, o.dst = some s → s < a.tmps.size := fun s hs' => by
      have := List.all_eq_true.1 hdst o (by rw [List.mem_iff_getElem?]; exact ⟨i, by rw [Array.getElem?_toList]; exact ho⟩)
      unfold dstOk at this; rw [hs'] at this; rw [hn]; exact of_decide_eq_true this
    unfold wpOp
    simp only [ho]
    have hE := ag.keep rf li ho hi
    have agE : AgreeE (looks ops o) E (E.keep (looks ops o)) := keep_agree
    cases hw : S.wm.testBit i with
    | false =>
      -- a read
      have hcomp : bl.testBit i = true := by
        have hcp : complete S ops.size dw bl du = true := by
          rcases nx with rfl | ⟨i', p, alt, rfl⟩
          · simp only [chk, Bool.not_false, Bool.true_and, Bool.and_eq_true] at hc; exact hc.1
          · simp only [chk, Bool.false_or, Bool.and_eq_true] at hc; exact hc.1.1.1.1.1.1
        have := List.all_eq_true.1 hcp i (List.mem_range.2 hiN)
        simp only [hw, Bool.false_or, Bool.or_eq_true, bne_iff_ne] at this
        rcases this with (q | q) | q
        · exact q
        · obtain ⟨w', hw1, hw2⟩ := rel.u i q
          exact (hnl (anc_lst rf li _ w' (Nat.le_refl _) i hw2 hw1)).elim
        · obtain ⟨j, q1, q2, q3⟩ := and_ne_bit q
          have hl := ready_anc rf li hi (show ancHas S.am i j = true from q1)
          have hjN : j < ops.size := by rw [← li.size]; exact lst_lt hl
          rw [(rel.w j hjN q2).1 hl] at q3
          cases q3
      have st := hst i o ho hcomp
      have st' : gdK ops (E.keep (looks ops o)) o.guard fun c => ∃ v', sameV E o.dst c v' ∧ ∀ K', K' v' → opR P o.type (E.keep (looks ops o)) c w.heap o.op K' := by
        rw [← gdK_cg agE.left]
        obtain ⟨c, ⟨v', q1, q2⟩, q3⟩ := gdK_det _ st
        exact q3 _ ⟨v', q1, fun K' hk => by rw [← opR_cg agE.right]; exact q2 K' hk⟩
      obtain ⟨c, ⟨v', hv, hop⟩, hwt⟩ := gdK_sound st' hE
      rw [hwt]
      -- what is put
      have key : ∀ u, u = (bif c then v' else undef) → wpAny P .any ops Q fuel (listed.setIfInBounds i true) (a.put o.dst u) w := by
        intro u hu
        refine ih _ _ w l E dw kn bl du li' hcnt' ⟨fun j hj hwj => ?_, fun j hj hwj hl => ?_, fun r hr => ?_, rel.b⟩ nx hc hd hst ?_ ((put_size _ _ _).trans hn) ((put_defers _ _ _).trans hdf) hs
        · rw [lst_set hlt, ← rel.w j hj hwj]
          exact ⟨fun q => q.resolve_left fun e => (by rw [e, hwj] at hw; cases hw), Or.inr⟩
        · rw [lst_set hlt] at hl
          rcases hl with rfl | hl
          · exact (rel.b _ hcomp).2
          · exact rel.r j hj hwj hl
        · obtain ⟨w', q1, q2⟩ := rel.u r hr
          exact ⟨w', (lst_set hlt).2 (.inr q1), q2⟩
        · intro s v c' hg hcond
          rw [act_put_get hdo]
          by_cases e : o.dst = some s
          · rw [if_pos e, hu]
            unfold sameV at hv
            rw [e] at hv
            simp only [hg, sameG] at hv
            obtain ⟨rfl, hv⟩ := hv
            cases c' with
            | true => rw [hv rfl]
            | false => rfl
          · rw [if_neg e]
            refine ag s v c' hg fun j oj hj hwj hd' => ?_
            have := hcond j oj hj hwj hd'
            rw [lst_set hlt] at this
            refine this.resolve_left fun q => ?_
            subst q
            rw [ho] at hj; cases hj
            exact e hd'
      cases c with
      | true =>
        simp only [if_true]
        obtain ⟨u, rfl, q⟩ := opR_wp (K := fun u => u = v') hE (hop _ rfl)
        exact .inl (q rfl _ _ (key _ rfl))
      | false =>
        simp only [Bool.false_eq_true, if_false]
        exact key _ rfl
    | true =>
      obtain ⟨l', hmem⟩ : ∃ l', (i, l') ∈ l.alts := by
        rcases nx with rfl | ⟨i', p, alt, rfl⟩
        · exfalso
          simp only [chk, Bool.not_false, Bool.true_and, Bool.and_eq_true] at hc
          have := List.all_eq_true.1 hc.2 i (List.mem_range.2 hiN)
          simp only [hw, Bool.not_true, Bool.false_or] at this
          exact hnl ((rel.w i hiN hw).2 this)
        · simp only [chk, Bool.false_or, Bool.and_eq_true] at hc
          have := List.all_eq_true.1 hc.1.1.1.1.1.2 i (List.mem_range.2 hiN)
          simp only [hw, Bool.not_true, Bool.false_or, Bool.or_eq_true, bne_iff_ne] at this
          rcases this with (q | q) | q
          · exact (hnl ((rel.w i hiN hw).2 q)).elim
          · obtain ⟨⟨j, p'⟩, q1, q2⟩ := List.any_eq_true.1 q
            have e : j = i := by simpa using q2
            rw [e] at q1
            exact ⟨p', q1⟩
          · obtain ⟨j, q1, q2, q3⟩ := and_ne_bit q
            have hl := ready_anc rf li hi (show ancHas S.am i j = true from q1)
            have hjN : j < ops.size := by rw [← li.size]; exact lst_lt hl
            rw [(rel.w j hjN q2).1 hl] at q3
            cases q3
      obtain ⟨-, -, -, hc⟩ := chk_alt hc hmem
      have hd := dev_alt hd hmem
      simp only [nthO_eq, Array.getElem?_toList, ho, schO, cond_false] at hd
      have hd' : gdK ops (E.keep (looks ops o)) o.guard fun c => opH P o.type (E.keep (looks ops o)) c w.heap o.op (opsK (devSched P ops l') E o.dst c K) := by
        rw [← gdK_cg agE.left]
        obtain ⟨c, q1, q2⟩ := gdK_det _ hd
        exact q2 _ (by rw [← opH_cg agE.right]; exact q1)
      obtain ⟨c, hop, hwt⟩ := gdK_sound hd' hE
      obtain ⟨p1, p2⟩ := opH_wp hE hop
      rw [hwt]
      have key : ∀ u v w', Same w w' → u = (bif c then v else undef) → devSched P ops l' (E.put o.dst v c) w'.heap K → wpAny P .any ops Q fuel (listed.setIfInBounds i true) (a.put o.dst u) w' := by
        intro u v w' hsame hu hdd
        obtain ⟨l2, E2, kn2, bl2, r1, r2, r3, r4, r5, r5b, r6, r7⟩ := block_run rf l' _ _ K _ kn 0 _ hc hdd (by simp) (by simp) (by simp)
        refine ih _ _ w' l2 E2 _ kn2 bl2 _ li' hcnt' ⟨fun j hj hwj => ?_, fun j hj hwj hl => ?_, fun r hr => ?_, fun r hr => ⟨r5 r hr, r5b r hr⟩⟩ r2 r1 r3 r4 ?_ ((put_size _ _ _).trans hn) ((put_defers _ _ _).trans hdf) (hs.trans hsame)
        · rw [lst_set hlt, or_bit, rel.w j hj hwj, Bool.or_eq_true, decide_eq_true_eq]
          exact Or.comm
        · rw [lst_set hlt] at hl
          rcases hl with rfl | hl
          · rw [hw] at hwj; cases hwj
          · exact r6 j (rel.r j hj hwj hl)
        · rw [Nat.testBit_or, Bool.or_eq_true] at hr
          rcases hr with hr | hr
          · obtain ⟨w', q1, q2⟩ := rel.u r hr
            exact ⟨w', (lst_set hlt).2 (.inr q1), q2⟩
          · exact ⟨i, (lst_set hlt).2 (.inl rfl), hr⟩
        · intro s v' c' hg hcond
          have e2 : E2.get s = (E.put o.dst v c).get s := r7 s fun r o' ho' hwr hkr hk2 hds => by
            have := hcond r o' ho' hwr hds
            rw [lst_set hlt] at this
            rcases this with rfl | this
            · rw [hw] at hwr; cases hwr
            · rw [rel.r r (Array.getElem?_eq_some_iff.1 ho').1 hwr this] at hkr; cases hkr
          rw [e2] at hg
          rw [act_put_get hdo]
          by_cases e : o.dst = some s
          · rw [if_pos e]
            rw [e, put_get_eq] at hg
            cases hg
            rw [hu]
          · rw [if_neg e]
            rw [put_get_ne e] at hg
            refine ag s v' c' hg fun j oj hj hwj hds => ?_
            have := hcond j oj hj hwj hds
            rw [lst_set hlt] at this
            exact this.resolve_left fun q => (by subst q; rw [hw] at hwj; cases hwj)
      cases c with
      | true =>
        simp only [if_true]
        exact .inl (p1 rfl _ _ fun v w' hsame hk => key v v w' hsame rfl hk)
      | false =>
        simp only [Bool.false_eq_true, if_false]
        obtain ⟨v, hk⟩ := p2 rfl
        exact key undef v w (Same.refl w) rfl hk

theorem wp_region_plan {id : Nat} {n : Nat} {K : Env → Heap → Prop} {Q : Exit → Act → World → Prop} {w0 w : World} {E : Env} {a : Act} (hm : P.follows .mixedOrders = true) (hok : schOk P ops S = true) (hdst : ops.toList.all (dstOk n) = true)
    (hQ : ∀ E a w, Holds E a.tmps → a.tmps.size = n → a.defers = [] → Same w0 w → K E w.heap → Q .normal a w) (hE : Holds E a.tmps) (hn : a.tmps.size = n) (hd : a.defers = []) (hs : Same w0 w) (h : devSched P ops S.l E w.heap K) :
    (Code.region id ops true).wp P Q a w := by
  obtain ⟨rf, hc⟩ := rf_of hok
  obtain ⟨l2, E2, kn2, bl2, r1, r2, r3, r4, r5, r5b, r6, r7⟩ := block_run rf S.l E w.heap K 0 0 0 0 hc h (by simp) (by simp) (by simp)
  refine wp_region_any hm ?_
  have hno : ∀ i, ¬ Lst (Array.replicate ops.size false) i := fun i q => by
    have hlt := lst_lt q
    unfold Lst at q
    simp at hlt
    simp [hlt] at q
  have hcnt : ∀ m, cntF (List.replicate m false) = m := by
    intro m
    induction m with
    | zero => rfl
    | succ m ih => simp [List.replicate_succ, cntF, ih]
  refine any_main rf hdst hQ ops.size (Array.replicate ops.size false) a { w with drawn := w.drawn + 1 } l2 E2 0 kn2 bl2 0 ⟨by simp, fun j oj hj hl => (hno j hl).elim⟩ (by simp [hcnt]) ⟨fun j hj hw => ⟨fun q => (hno j q).elim, fun q => by simp at q⟩, fun j hj hw hl => (hno j hl).elim, fun r hr => by simp at hr, fun r hr => ⟨r5 r hr, r5b r hr⟩⟩ r2 r1 r3 r4 ?_ hn hd ⟨hs.os, hs.tape, hs.output, Nat.le_trans hs.drawn (Nat.le_succ _)⟩
  intro s v c hg hcond
  refine hE s v c ?_
  rw [← r7 s fun r o ho hw _ _ hds => (hno r (hcond r o ho hw hds))]
  exact hg
end
end Go.Eng
/-
  THE ENGINE, PART 4: a body; a call.
-/
namespace Go.Eng
open Go

/-! ### A body -/
inductive Ex where
  | normal
  | exit (id : Nat)
  | ret

structure Tab where
  reg : List (Nat × List Nat)
  loops : List (Nat × List Nat)
  sch : List (Nat × Sch)

def schAt : List (Nat × Sch) → Nat → Option Sch
  | [], _ => none
  | (k, s) :: r, i => bif k == i then some s else schAt r i
def regDev (P : Program) (ops : Array Oper) (s : Option Sch) (E : Env) (h : Heap) (K : Env → Heap → Prop) : Prop :=
  match s with
  | none => devOps P ops ops.toList E h K
  | some s => devSched P ops s.l E h K

def tabAt : List (Nat × List Nat) → Nat → List Nat
  | [], _ => []
  | (k, l) :: r, i => bif k == i then l else tabAt r i

def regK (l : List Nat) (Q : Ex → Env → Heap → Prop) (E : Env) (h : Heap) : Prop := Q .normal (E.keep l) h

def seqQ (X : (Ex → Env → Heap → Prop) → Env → Heap → Prop) (Q : Ex → Env → Heap → Prop) : Ex → Env → Heap → Prop
  | .normal => X Q
  | e => Q e

def blockQ (id : Nat) (Q : Ex → Env → Heap → Prop) : Ex → Env → Heap → Prop
  | .exit i => bif i == id then Q .normal else Q (.exit i)
  | e => Q e

def condK (v : Value) (X Y : Prop) : Prop :=
  match v with
  | .bool b => (b = true → X) ∧ (b = false → Y)
  | _ => False

/-- What a test tells of its own slot. -/
def condE (c : Operand) (x : Bool) (E : Env) : Env :=
  match c with
  | .tmp t => .cons t (.bool x) true E
  | _ => E

theorem condE_holds {c : Operand} {x : Bool} {E : Env} {a : Act} (hE : Holds E a.tmps) (hc : a.eval c = .bool x) : Holds (condE c x E) a.tmps := by
  unfold condE
  split
  · rename_i t
    intro s v y h
    simp only [Env.get] at h
    cases hst : t == s with
    | true =>
      have := eq_of_beq hst
      subst this
      simp only [hst, cond_true, Option.some.injEq, Prod.mk.injEq] at h
      obtain ⟨rfl, rfl⟩ := h
      simp only [cond_true]
      simp only [Act.eval, Array.getD_eq_getD_getElem?] at hc
      cases ht : a.tmps[t]? with
      | none => rw [ht] at hc; simp [undef] at hc
      | some u => rw [ht] at hc; simp at hc; rw [hc]
    | false =>
      simp only [hst, cond_false] at h
      exact hE s v y h
  · exact hE

/-- A round: it goes on, or leaves. -/
def roundsQ (I : Env → Heap → Prop) (l : List Nat) (Q : Ex → Env → Heap → Prop) : Ex → Env → Heap → Prop
  | .normal => fun E h => I (E.keep l) h
  | e => Q e

/-- A loop: an invariant with a rank that falls. -/
def loopH (l : List Nat) (X : (Ex → Env → Heap → Prop) → Env → Heap → Prop) (Q : Ex → Env → Heap → Prop) (E : Env) (h : Heap) : Prop :=
  ∃ (I : Nat → Env → Heap → Prop) (n0 : Nat), I n0 (E.keep l) h ∧ ∀ n E h, I n E h → X (roundsQ (fun E' h' => ∃ m, m < n ∧ I m E' h') l Q) E h

/-- The round's end: what holds at the next one's head. -/
def Again {τ : Type} (emb : τ → Env) (I : τ → Heap → Prop) (μ : τ → Heap → Nat) (n : Nat) (E : Env) (h : Heap) : Prop := ∃ t, E = emb t ∧ I t h ∧ μ t h < n

theorem loopH.intro {l : List Nat} {X : (Ex → Env → Heap → Prop) → Env → Heap → Prop} {Q : Ex → Env → Heap → Prop} {E : Env} {h : Heap} {τ : Type} (emb : τ → Env) (I : τ → Heap → Prop) (μ : τ → Heap → Nat) (t0 : τ)
    (hE : E.keep l = emb t0) (h0 : I t0 h) (step : ∀ t h, I t h → X (roundsQ (Again emb I μ (μ t h)) l Q) (emb t) h) : loopH l X Q E h :=
  ⟨fun n E h => ∃ t, E = emb t ∧ I t h ∧ μ t h = n, μ t0 h, ⟨t0, hE, h0, rfl⟩, fun n E h ⟨t, he, hI, hn⟩ => by
    subst he; subst hn
    have e : (fun E' h' => ∃ m, m < μ t h ∧ ∃ t', E' = emb t' ∧ I t' h' ∧ μ t' h' = m) = Again emb I μ (μ t h) := by
      funext E' h'
      apply propext
      constructor
      · rintro ⟨m, hm, t', e1, e2, rfl⟩; exact ⟨t', e1, e2, hm⟩
      · rintro ⟨t', e1, e2, hm⟩; exact ⟨_, hm, t', e1, e2, rfl⟩
    rw [e]
    exact step t h hI⟩

def dev (P : Program) (T : Tab) : Nat → Code → (Ex → Env → Heap → Prop) → Env → Heap → Prop
  | _, .skip, Q, E, h => Q .normal E h
  | _, .region id ops _, Q, E, h => regDev P ops (schAt T.sch id) E h (regK (tabAt T.reg id) Q)
  | b, .seq x y, Q, E, h => dev P T b x (seqQ (dev P T b y) Q) E h
  | b, .cond c x y, Q, E, h => evK E true c fun v => condK v (dev P T b x Q (condE c true E) h) (dev P T b y Q (condE c false E) h)
  | _, .block id c, Q, E, h => dev P T id c (blockQ id Q) E h
  | b, .loop c, Q, E, h => loopH (tabAt T.loops b) (dev P T b c) Q E h
  | _, .exit id, Q, E, h => Q (.exit id) E h
  | b, .scope c, Q, E, h => dev P T b c Q E h
  | _, .label _, Q, E, h => Q .normal E h
  | _, .ret, Q, E, h => Q .ret E h
  | _, _, _, _, _ => False

def codeOk (P : Program) (T : Tab) (n : Nat) : Code → Bool
  | .region id ops draw => ops.toList.all (dstOk n) && match schAt T.sch id with
    | none => !draw || drawOk P ops
    | some s => draw && schOk P ops s
  | .seq x y => codeOk P T n x && codeOk P T n y
  | .cond _ x y => codeOk P T n x && codeOk P T n y
  | .block _ c => codeOk P T n c
  | .loop c => codeOk P T n c
  | .scope c => codeOk P T n c
  | _ => true

def QW (n : Nat) (w0 : World) (Q : Ex → Env → Heap → Prop) : Exit → Act → World → Prop := fun e a w =>
  Same w0 w ∧ a.tmps.size = n ∧ a.defers = [] ∧ ∃ E, Holds E a.tmps ∧ match e with
    | .normal => Q .normal E w.heap
    | .exit i => Q (.exit i) E w.heap
    | .ret => Q .ret E w.heap
    | _ => False

theorem dev_wp {P : Program} {T : Tab} {n : Nat} (hm : P.follows .mixedOrders = true) : ∀ (c : Code), codeOk P T n c = true → ∀ (b : Nat) (Q : Ex → Env → Heap → Prop) (E : Env) (a : Act) (w0 w : World),
    Holds E a.tmps → a.tmps.size = n → a.defers = [] → Same w0 w → dev P T b c Q E w.heap → c.wp P (QW n w0 Q) a w := by
  intro c
  induction c with
  | skip => intro _ b Q E a w0 w hE hn hd hs h; exact wp_skip ⟨hs, hn, hd, E, hE, h⟩
  | region id ops draw =>
    intro hok b Q E a w0 w hE hn hd hs h
    simp only [codeOk, Bool.and_eq_true] at hok
    obtain ⟨hdst, hdraw⟩ := hok
    simp only [dev] at h
    cases hsc : schAt T.sch id with
    | some sc =>
      simp only [hsc, regDev, Bool.and_eq_true] at hdraw h
      obtain ⟨rfl, hdraw⟩ := hdraw
      exact wp_region_plan hm hdraw hdst (fun E a w hE hn hd hs h => ⟨hs, hn, hd, _, hE.keep _, h⟩) hE hn hd hs h
    | none =>
    simp only [hsc, regDev, Bool.or_eq_true, Bool.not_eq_true'] at hdraw h
    have hQ : ∀ E a w, Holds E a.tmps → a.tmps.size = n → a.defers = [] → Same w0 w → regK (tabAt T.reg id) Q E w.heap → QW n w0 Q .normal a w :=
      fun E a w hE hn hd hs h => ⟨hs, hn, hd, _, hE.keep _, h⟩
    cases draw with
    | false => exact wp_region_list (devOps_wp hQ ops.toList hdst E a w hE hn hd hs h)
    | true =>
      have hdraw := hdraw.resolve_left (by simp)
      unfold drawOk at hdraw
      have hs1 : Same w0 { w with drawn := w.drawn + 1 } := ⟨hs.os, hs.tape, hs.output, Nat.le_trans hs.drawn (Nat.le_succ _)⟩
      by_cases hN : headN P ops.toList = ops.size
      · simp only [hN, if_true] at hdraw
        refine wp_region_still hm hdraw ?_
        have hall := headN_all P ops.toList
        rw [hN, ← Array.length_toList, List.take_length] at hall
        exact devOps_still (tail := []) (K := regK (tabAt T.reg id) Q) (fun E a hE hn hd h => hQ E a { w with drawn := w.drawn + 1 } hE hn hd hs1 h) ops.toList hdst hall E a hE hn hd (by rw [List.append_nil]; exact h)
      · simp only [hN, if_false, Bool.or_eq_true] at hdraw
        rcases hdraw with hdraw | hdraw
        case inr =>
          have hz : headN P ops.toList + (ops.size - headN P ops.toList - endN P ops) + endN P ops = ops.size := by
            simp only [lexMidB, Bool.and_eq_true, decide_eq_true_eq] at hdraw
            exact hdraw.1.1.1.2
          refine wp_region_mid (headN P ops.toList) _ _ hm hdraw ?_
          generalize ops.size - headN P ops.toList - endN P ops = g at hz ⊢
          have e := List.take_append_drop (headN P ops.toList) ops.toList
          have e2 := List.take_append_drop g (ops.toList.drop (headN P ops.toList))
          have d1 : (ops.toList.take (headN P ops.toList)).all (dstOk n) = true ∧ (ops.toList.drop (headN P ops.toList)).all (dstOk n) = true := by
            rw [← Bool.and_eq_true, ← List.all_append, e]; exact hdst
          have d2 : ((ops.toList.drop (headN P ops.toList)).take g).all (dstOk n) = true ∧ ((ops.toList.drop (headN P ops.toList)).drop g).all (dstOk n) = true := by
            rw [← Bool.and_eq_true, ← List.all_append, e2]; exact d1.2
          rw [List.drop_drop] at e2 d2
          refine devOps_still (tail := ops.toList.drop (headN P ops.toList)) (K := regK (tabAt T.reg id) Q) (fun E a hE hn hd h => ?_) _ d1.1 (headN_all P ops.toList) E a hE hn hd (by rw [e]; exact h)
          refine devOps_wpK (rest := ops.toList.drop (headN P ops.toList + g)) (K := regK (tabAt T.reg id) Q) (w0 := w0) (fun E a w' hE hn hd hs' h => ?_) _ d2.1 E a { w with drawn := w.drawn + 1 } hE hn hd hs1 (by rw [e2]; exact h)
          exact devOps_still (tail := []) (K := regK (tabAt T.reg id) Q) (fun E a hE hn hd h => hQ E a w' hE hn hd hs' h) _ d2.2 (endN_all P ops hz) E a hE hn hd (by rw [List.append_nil]; exact h)
        refine wp_region_tail (headN P ops.toList) hm hdraw ?_
        have e := List.take_append_drop (headN P ops.toList) ops.toList
        have hd1 : (ops.toList.take (headN P ops.toList)).all (dstOk n) = true ∧ (ops.toList.drop (headN P ops.toList)).all (dstOk n) = true := by
          rw [← Bool.and_eq_true, ← List.all_append, e]; exact hdst
        refine devOps_still (tail := ops.toList.drop (headN P ops.toList)) (K := regK (tabAt T.reg id) Q) (fun E a hE hn hd h => ?_) _ hd1.1 (headN_all P ops.toList) E a hE hn hd (by rw [e]; exact h)
        exact devOps_wp hQ _ hd1.2 E a { w with drawn := w.drawn + 1 } hE hn hd hs1 h
  | seq x y ihx ihy =>
    intro hok b Q E a w0 w hE hn hd hs h
    simp only [codeOk, Bool.and_eq_true] at hok
    refine wp_seq (wp_mono (ihx hok.1 b _ E a w0 w hE hn hd hs h) fun e a' w' hq => ?_)
    obtain ⟨hs', hn', hd', E', hE', hq⟩ := hq
    cases e with
    | normal => exact ihy hok.2 b Q E' a' w0 w' hE' hn' hd' hs' hq
    | exit i => exact ⟨hs', hn', hd', E', hE', hq⟩
    | ret => exact ⟨hs', hn', hd', E', hE', hq⟩
    | goto l => exact hq.elim
    | panic l => exact hq.elim
    | outgrown => exact hq.elim
  | cond c x y ihx ihy =>
    intro hok b Q E a w0 w hE hn hd hs h
    simp only [codeOk, Bool.and_eq_true] at hok
    simp only [dev] at h
    obtain ⟨v, hv, ev⟩ := evK_sound h hE
    unfold condK at hv
    split at hv
    · rename_i t
      exact wp_cond_split (ev rfl) (fun ht => ihx hok.1 b Q _ a w0 w (condE_holds hE (by rw [ev rfl, ht])) hn hd hs (hv.1 ht)) (fun ht => ihy hok.2 b Q _ a w0 w (condE_holds hE (by rw [ev rfl, ht])) hn hd hs (hv.2 ht))
    · exact hv.elim
  | block id c ih =>
    intro hok b Q E a w0 w hE hn hd hs h
    refine wp_block (wp_mono (ih hok id _ E a w0 w hE hn hd hs h) fun e a' w' hq => ?_)
    obtain ⟨hs', hn', hd', E', hE', hq⟩ := hq
    cases e with
    | normal => exact ⟨hs', hn', hd', E', hE', hq⟩
    | exit i =>
      simp only [blockQ] at hq
      simp only [Exit.inBlock]
      cases hi : i == id with
      | true =>
        rw [if_pos (eq_of_beq hi)]
        rw [hi] at hq
        exact ⟨hs', hn', hd', E', hE', hq⟩
      | false =>
        rw [if_neg (fun e => by subst e; simp at hi)]
        rw [hi] at hq
        exact ⟨hs', hn', hd', E', hE', hq⟩
    | ret => exact ⟨hs', hn', hd', E', hE', hq⟩
    | goto l => exact hq.elim
    | panic l => exact hq.elim
    | outgrown => exact hq.elim
  | loop c ih =>
    intro hok b Q E a w0 w hE hn hd hs h
    simp only [dev, loopH] at h
    obtain ⟨I, n0, hI0, hstep⟩ := h
    have key : ∀ m k E a w, k < m → Holds E a.tmps → a.tmps.size = n → a.defers = [] → Same w0 w → I k E w.heap → Code.rounds P c (QW n w0 Q) m a w := by
      intro m
      induction m with
      | zero => intro k E a w hk; omega
      | succ m ihm =>
        intro k E a w hk hE hn hd hs hI
        rw [rounds_succ]
        refine wp_mono (ih hok b _ E a w0 w hE hn hd hs (hstep k E w.heap hI)) fun e a' w' hq => ?_
        obtain ⟨hs', hn', hd', E', hE', hq⟩ := hq
        cases e with
        | normal =>
          obtain ⟨j, hj, hIj⟩ := hq
          exact ihm j _ a' w' (by omega) (hE'.keep _) hn' hd' hs' hIj
        | exit i => exact ⟨hs', hn', hd', E', hE', hq⟩
        | ret => exact ⟨hs', hn', hd', E', hE', hq⟩
        | goto l => exact hq.elim
        | panic l => exact hq.elim
        | outgrown => exact hq.elim
    exact wp_loop_rounds (n0 + 1) (key (n0 + 1) n0 _ a w (by omega) (hE.keep _) hn hd hs hI0)
  | exit id => intro _ b Q E a w0 w hE hn hd hs h; exact wp_exit ⟨hs, hn, hd, E, hE, h⟩
  | scope c ih =>
    intro hok b Q E a w0 w hE hn hd hs h
    refine wp_scope_straight (wp_mono (ih hok b Q E a w0 w hE hn hd hs h) fun e a' w' hq => ?_)
    obtain ⟨hs', hn', hd', E', hE', hq⟩ := hq
    cases e <;> first | exact ⟨hs', hn', hd', E', hE', hq⟩ | exact hq.elim
  | label l => intro _ b Q E a w0 w hE hn hd hs h; exact wp_label ⟨hs, hn, hd, E, hE, h⟩
  | ret => intro _ b Q E a w0 w hE hn hd hs h; exact wp_ret ⟨hs, hn, hd, E, hE, h⟩
  | _ => intro _ b Q E a w0 w hE hn hd hs h; exact h.elim

/-! ### A call -/
def iLoadRes (ty : TypeId) (v : Value) : Sem Value := do loadVar ty (← asAddr v)
def resK (P : Program) (E : Env) (h : Heap) : ResultVar → (Value → Prop) → Prop
  | .tmp t, K => evK E true (.tmp t) K
  | .cell t ty, K => evK E true (.tmp t) fun v => rdK true (runD P (iLoadRes ty v) h) K

def resL (P : Program) (E : Env) (h : Heap) : List ResultVar → (List Value → Prop) → Prop
  | [], K => K []
  | r :: l, K => resK P E h r fun v => resL P E h l fun vs => K (v :: vs)

def resV : List Value → Value
  | [v] => v
  | vs => .tuple vs.toArray

def retQ (P : Program) (rs : List ResultVar) (R : Value → Heap → Prop) : Ex → Env → Heap → Prop
  | .exit _, _, _ => False
  | _, E, h => resL P E h rs fun vs => R (resV vs) h

theorem resL_sound {P : Program} {E : Env} {tmps : Array Value} (hE : Holds E tmps) {h : Heap} : ∀ {rs : List ResultVar} {K : List Value → Prop}, resL P E h rs K → ∃ vs, K vs ∧
    runD P (rs.mapM fun | .tmp t => pure (tmps.getD t undef) | .cell a t => do loadVar t (← asAddr (tmps.getD a undef)) : Sem (List Value)) h = some vs := by
  intro rs
  induction rs with
  | nil => intro K hk; exact ⟨[], hk, rfl⟩
  | cons r l ih =>
    intro K hk
    simp only [resL] at hk
    cases r with
    | tmp t =>
      simp only [resK] at hk
      obtain ⟨v, h1, e1⟩ := evK_sound (a := ⟨tmps, []⟩) hk hE
      obtain ⟨vs, h2, e2⟩ := ih h1
      refine ⟨v :: vs, h2, ?_⟩
      have : tmps.getD t undef = v := e1 rfl
      rw [List.mapM_cons, runD_bind]
      simp only [this, runD_pure, Option.bind_some]
      rw [runD_bind, e2]
      rfl
    | cell t ty =>
      simp only [resK] at hk
      obtain ⟨v, h1, e1⟩ := evK_sound (a := ⟨tmps, []⟩) hk hE
      obtain ⟨u, h1, e3⟩ := rdK_sound h1
      obtain ⟨vs, h2, e2⟩ := ih h1
      refine ⟨u :: vs, h2, ?_⟩
      have : tmps.getD t undef = v := e1 rfl
      have e4 := e3 rfl
      unfold iLoadRes at e4
      rw [List.mapM_cons, runD_bind]
      simp only [this, e4, Option.bind_some]
      rw [runD_bind, e2]
      rfl

theorem results_run {P : Program} {fn : Func} {E : Env} {tmps : Array Value} (hE : Holds E tmps) {w : World} {K : Value → Prop} (h : resL P E w.heap fn.results.toList fun vs => K (resV vs)) :
    ∃ v, K v ∧ (results fn tmps).run P w = .ok v w := by
  obtain ⟨vs, hK, e⟩ := resL_sound hE h
  refine ⟨_, hK, runD_sound _ ?_⟩
  unfold results
  rw [runD_bind]
  have : runD P (fn.results.mapM fun | .tmp t => pure (tmps.getD t undef) | .cell a t => do loadVar t (← asAddr (tmps.getD a undef)) : Sem (Array Value)) w.heap = some vs.toArray := by
    rw [Array.mapM_eq_mapM_toList]
    rw [← bind_pure_comp, runD_bind, e]
    rfl
  refine (congrArg (fun x => Option.bind x _) this).trans ?_
  match vs with
  | [] => rfl
  | [v] => rfl
  | v :: u :: r => simp [resV]

theorem args_get : ∀ (l : List Value) (k s : Nat) (v : Value) (c : Bool), (Env.args k l).get s = some (v, c) → k ≤ s ∧ l[s - k]? = some v ∧ c = true
  | [], _, _, _, _, h => by simp [Env.args, Env.get] at h
  | x :: l, k, s, v, c, h => by
    simp only [Env.args, Env.get] at h
    cases hks : k == s with
    | true =>
      have := eq_of_beq hks
      subst this
      simp only [hks, cond_true, Option.some.injEq, Prod.mk.injEq] at h
      obtain ⟨rfl, rfl⟩ := h
      simp
    | false =>
      simp only [hks, cond_false] at h
      obtain ⟨h1, h2, h3⟩ := args_get l (k + 1) s v c h
      refine ⟨by omega, ?_, h3⟩
      rw [show s - k = (s - (k + 1)) + 1 by omega]
      simpa using h2

theorem HCalls.of_dev {P : Program} {f : FuncId} {fn : Func} {c : Code} {args : List Value} {h0 : Heap} {R : Value → Heap → Prop} (T : Tab)
    (hf : P.funcs[f]? = some fn) (hb : fn.body = some c) (hm : P.follows .mixedOrders = true) (hok : (codeOk P T fn.ntmps c && decide (args.length ≤ fn.ntmps)) = true)
    (h : dev P T 0 c (retQ P fn.results.toList R) (Env.args 0 args) h0) : HCalls P f args.toArray h0 R := by
  simp only [Bool.and_eq_true, decide_eq_true_eq] at hok
  intro w hw
  subst hw
  refine calls_of_wp hf hb ?_
  have hE : Holds (Env.args 0 args) (args.toArray ++ Array.replicate (fn.ntmps - args.toArray.size) undef) := by
    intro s v c hs
    obtain ⟨-, h2, rfl⟩ := args_get args 0 s v c hs
    simp only [Nat.sub_zero] at h2
    obtain ⟨hlt, hv⟩ := List.getElem?_eq_some_iff.1 h2
    rw [Array.getElem?_append_left (by simpa using hlt)]
    simpa using h2
  refine wp_mono (dev_wp (T := T) hm c hok.1 0 _ _ _ w w hE (by simp; omega) rfl (Same.refl w) h) fun e a w' hq => ?_
  obtain ⟨hs, hn, hd, E, hE', hq⟩ := hq
  cases e with
  | normal =>
    have hq' : resL P E w'.heap fn.results.toList (fun vs => R (resV vs) w'.heap) := hq
    obtain ⟨v, hR, hr⟩ := results_run (K := fun v => R v w'.heap) hE' hq'
    exact ⟨hd, v, hr, hs, v, rfl, hR⟩
  | ret =>
    have hq' : resL P E w'.heap fn.results.toList (fun vs => R (resV vs) w'.heap) := hq
    obtain ⟨v, hR, hr⟩ := results_run (K := fun v => R v w'.heap) hE' hq'
    exact ⟨hd, v, hr, hs, v, rfl, hR⟩
  | exit i => exact hq.elim
  | goto l => exact hq.elim
  | panic l => exact hq.elim
  | outgrown => exact hq.elim

end Go.Eng
