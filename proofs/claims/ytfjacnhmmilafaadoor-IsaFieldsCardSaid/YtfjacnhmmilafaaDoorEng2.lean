/-
  THE ENGINE, PART 2: what is known of a frame's slots; one operation; a list of operations; a body.
-/
import Derived.Test.YtfjacnhmmilafaaDoorEng1
namespace Go.Eng
set_option linter.unusedSimpArgs false
set_option linter.unusedVariables false
set_option maxRecDepth 16000
set_option maxHeartbeats 4000000
open Go

/-- What is known of the slots: slot, value, condition (if it is false the slot is empty). -/
inductive Env where
  | nil
  | cons (s : Nat) (v : Value) (c : Bool) (E : Env)

def Env.get : Env → Nat → Option (Value × Bool)
  | .nil, _ => none
  | .cons s v c E, t => bif s == t then some (v, c) else E.get t

def Env.put (E : Env) (d : Option Tmp) (v : Value) (c : Bool) : Env :=
  match d with
  | some s => .cons s v c E
  | none => E

def Env.keep (E : Env) : List Nat → Env
  | [] => .nil
  | s :: l => match E.get s with
    | some (v, c) => .cons s v c (E.keep l)
    | none => E.keep l

def Env.args : Nat → List Value → Env
  | _, [] => .nil
  | k, v :: l => .cons k v true (Env.args (k + 1) l)

def Holds (E : Env) (tmps : Array Value) : Prop := ∀ s v c, E.get s = some (v, c) → tmps[s]? = some (bif c then v else undef)

theorem Holds.put {E : Env} {tmps : Array Value} (hE : Holds E tmps) {d : Option Tmp} {v u : Value} {c : Bool} (hd : ∀ s, d = some s → s < tmps.size) (hu : u = bif c then v else undef) (a : Act) (ha : a.tmps = tmps) :
    Holds (E.put d v c) (a.put d u).tmps := by
  subst ha
  cases d with
  | none => exact hE
  | some s =>
    intro t x y h
    have hlt := hd s rfl
    simp only [Env.put, Env.get] at h
    simp only [Act.put, Array.getElem?_setIfInBounds]
    cases hst : s == t with
    | true =>
      have := eq_of_beq hst
      subst this
      simp only [hst, cond_true, Option.some.injEq, Prod.mk.injEq] at h
      obtain ⟨rfl, rfl⟩ := h
      simp [hlt, hu]
    | false =>
      have hne : s ≠ t := fun e => by subst e; simp at hst
      simp only [hst, cond_false] at h
      rw [if_neg hne]
      exact hE t x y h

theorem keep_get {E : Env} : ∀ (l : List Nat) (s : Nat) (r : Value × Bool), (E.keep l).get s = some r → E.get s = some r
  | [], _, _, h => by simp [Env.keep, Env.get] at h
  | t :: l, s, r, h => by
    simp only [Env.keep] at h
    split at h
    · rename_i v c hv
      simp only [Env.get] at h
      cases hst : t == s with
      | true =>
        have := eq_of_beq hst
        subst this
        simp only [hst, cond_true] at h
        rw [hv]; exact h
      | false =>
        simp only [hst, cond_false] at h
        exact keep_get l s r h
    · exact keep_get l s r h

theorem Holds.keep {E : Env} {tmps : Array Value} (hE : Holds E tmps) (l : List Nat) : Holds (E.keep l) tmps :=
  fun s v c h => hE s v c (keep_get l s _ h)

/-! ### operands -/
/-- An operand's value, under the condition c. -/
def evK (E : Env) (c : Bool) (x : Operand) (K : Value → Prop) : Prop :=
  match x with
  | .tmp t => match E.get t with
    | some (v, cx) => (c = true → cx = true) ∧ K v
    | none => False
  | .const v => K v
  | .global g => K (.pointer (some ⟨g, 0, none⟩))
  | .func f => K (.func (.func f) #[] #[])

theorem evK_sound {E : Env} {c : Bool} {x : Operand} {K : Value → Prop} (h : evK E c x K) {a : Act} (hE : Holds E a.tmps) : ∃ v, K v ∧ (c = true → a.eval x = v) := by
  unfold evK at h
  split at h
  · rename_i t
    split at h
    · rename_i v cx hg
      refine ⟨v, h.2, fun hc => ?_⟩
      have := hE t v cx hg
      rw [h.1 hc] at this
      simp [Act.eval, this]
    · exact h.elim
  · exact ⟨_, h, fun _ => rfl⟩
  · exact ⟨_, h, fun _ => rfl⟩
  · exact ⟨_, h, fun _ => rfl⟩

def evL (E : Env) (c : Bool) : List Operand → (List Value → Prop) → Prop
  | [], K => K []
  | x :: l, K => evK E c x fun v => evL E c l fun vs => K (v :: vs)

theorem evL_sound {E : Env} {c : Bool} {a : Act} (hE : Holds E a.tmps) : ∀ {l : List Operand} {K : List Value → Prop}, evL E c l K → ∃ vs, K vs ∧ (c = true → l.map a.eval = vs)
  | [], _, h => ⟨[], h, fun _ => rfl⟩
  | x :: l, K, h => by
    obtain ⟨v, h1, e1⟩ := evK_sound h hE
    obtain ⟨vs, h2, e2⟩ := evL_sound hE h1
    exact ⟨v :: vs, h2, fun hc => by simp [e1 hc, e2 hc]⟩

def evO (E : Env) (c : Bool) : Option Operand → (Option Value → Prop) → Prop
  | none, K => K none
  | some x, K => evK E c x fun v => K (some v)

theorem evO_sound {E : Env} {c : Bool} {a : Act} (hE : Holds E a.tmps) {x : Option Operand} {K : Option Value → Prop} (h : evO E c x K) : ∃ v, K v ∧ (c = true → x.map a.eval = v) := by
  cases x with
  | none => exact ⟨none, h, fun _ => rfl⟩
  | some x =>
    obtain ⟨v, h1, e1⟩ := evK_sound h hE
    exact ⟨some v, h1, fun hc => by simp [e1 hc]⟩

def evP (E : Env) (c : Bool) : List (Nat × Operand) → (List (Nat × Value) → Prop) → Prop
  | [], K => K []
  | x :: l, K => evK E c x.2 fun v => evP E c l fun vs => K ((x.1, v) :: vs)

theorem evP_sound {E : Env} {c : Bool} {a : Act} (hE : Holds E a.tmps) : ∀ {l : List (Nat × Operand)} {K : List (Nat × Value) → Prop}, evP E c l K → ∃ vs, K vs ∧ (c = true → l.map (fun x => (x.1, a.eval x.2)) = vs)
  | [], _, h => ⟨[], h, fun _ => rfl⟩
  | x :: l, K, h => by
    obtain ⟨v, h1, e1⟩ := evK_sound h hE
    obtain ⟨vs, h2, e2⟩ := evP_sound hE h1
    exact ⟨(x.1, v) :: vs, h2, fun hc => by simp [e1 hc, e2 hc]⟩

/-- What is read; where it fails the condition is false. -/
def rdK (c : Bool) (r : Option Value) (K : Value → Prop) : Prop :=
  match r with
  | some v => K v
  | none => c = false ∧ K undef

theorem rdK_sound {c : Bool} {r : Option Value} {K : Value → Prop} (h : rdK c r K) : ∃ v, K v ∧ (c = true → r = some v) := by
  unfold rdK at h
  split at h
  · exact ⟨_, h, fun _ => rfl⟩
  · exact ⟨undef, h.2, fun hc => by rw [h.1] at hc; cases hc⟩

def nilV : Value → Option Value
  | .pointer none | .nilIface | .nilFunc => none
  | .func (.method _) _ _ => none
  | x => some x

def pickK (c : Bool) (v : Value) (F : Bool → Prop) (K : Value → Prop) : Prop :=
  match v with
  | .bool b => F b
  | _ => c = false ∧ K undef

def convW (P : Program) (s d : TypeId) : Bool :=
  match P.underlying s, P.underlying d with
  | some .string, some (.slice _) => true
  | _, _ => false

/-- A builtin that only reads. -/
def quietB : Builtin → Bool
  | .len | .cap | .max | .min => true
  | _ => false

/-! ### the instructions, closed to the reckoning -/
def iLoadAt (t : TypeId) (a : Value) : Sem Value := Instr.loadAt t a
def iStoreAt (t : TypeId) (a v : Value) : Sem Unit := Instr.storeAt t a v
def iFieldAt (s : TypeId) (a : Value) (f : Nat) : Sem Value := Instr.fieldAt s a f
def iField (s : TypeId) (a : Value) (f : Nat) : Sem Value := Instr.field s a f
def iIndexAt (t : TypeId) (a i : Value) : Sem Value := Instr.indexAt t a i
def iIndex (t : TypeId) (a i : Value) : Sem Value := Instr.index t a i
def iLookup (t : TypeId) (a i : Value) (ok : Bool) : Sem Value := Instr.lookup t a i ok
def iExtract (a : Value) (i : Nat) : Sem Value := Instr.extract a i
def iBuild (t : TypeId) (ps : Array (Nat × Value)) : Sem Value := Instr.build t ps
def iMakeInterface (t : TypeId) (a : Value) : Sem Value := Instr.makeInterface t a
def iEntry (a : Value) : Sem Value := Instr.entry a
def iAlloc (t : TypeId) (b : Bool) (a : Value) : Sem Value := Instr.alloc t b a
def iBox (t : TypeId) (a : Value) : Sem Value := Instr.box t a
def iBuildSlice (t : TypeId) (n : Nat) (ps : Array (Nat × Value)) : Sem Value := Instr.buildSlice t n ps
def iMapUpdate (t : TypeId) (m k v : Value) : Sem Unit := Instr.mapUpdate t m k v
def iMakeMap (t : TypeId) (r : Option Value) : Sem Value := Instr.makeMap t r
def iMakeSlice (t : TypeId) (l c : Value) : Sem Value := Instr.makeSlice t l c
def iRange (t : TypeId) (a : Value) : Sem Value := Instr.range t a
def iNext (a : Value) (s : Bool) (t : TypeId) : Sem Value := Instr.next a s t
def iMapEntry (t : TypeId) (m k : Value) : Sem Value := Instr.mapEntry t m k
def iEntryStore (t : TypeId) (m s v : Value) : Sem Unit := Instr.entryStore t m s v
def iSliceAt (t : TypeId) (a : Value) (l u m : Option Value) : Sem Value := Instr.sliceAt t a l u m
def iUnary (o : UnOp) (a : Value) : Sem Value := Op.unary o a
def iConvert (s d : TypeId) (a : Value) : Sem Value := convert s d a
def iAppend (ts : Array TypeId) (t : TypeId) (as : Array Value) : Sem Value := Builtin.append_ ts t as
def iCopy (ts : Array TypeId) (t : TypeId) (as : Array Value) : Sem Value := Builtin.copy_ ts t as
def iClear (ts : Array TypeId) (t : TypeId) (as : Array Value) : Sem Value := Builtin.clear_ ts t as
def iDelete (ts : Array TypeId) (t : TypeId) (as : Array Value) : Sem Value := Builtin.delete_ ts t as
def iLen (ts : Array TypeId) (t : TypeId) (as : Array Value) : Sem Value := Builtin.len_ ts t as
def iCap (ts : Array TypeId) (t : TypeId) (as : Array Value) : Sem Value := Builtin.cap_ ts t as
def iMax (ts : Array TypeId) (t : TypeId) (as : Array Value) : Sem Value := Builtin.max_ ts t as
def iMin (ts : Array TypeId) (t : TypeId) (as : Array Value) : Sem Value := Builtin.min_ ts t as

def builtinV (b : Builtin) (argTypes : Array TypeId) (type : TypeId) (args : Array Value) : Sem Value :=
  match b with
  | .append => iAppend argTypes type args
  | .cap => iCap argTypes type args
  | .clear => iClear argTypes type args
  | .copy => iCopy argTypes type args
  | .delete => iDelete argTypes type args
  | .len => iLen argTypes type args
  | .max => iMax argTypes type args
  | .min => iMin argTypes type args
  | _ => stuck ""

/-- AN OPERATION THAT ONLY READS. -/
def opR (P : Program) (ty : TypeId) (E : Env) (c : Bool) (h : Heap) (op : Op) (K : Value → Prop) : Prop :=
  match op with
  | .move x => evK E c x K
  | .assign x => evK E c x K
  | .pick cn x y => evK E c cn fun vc => pickK c vc (fun b => evK E (c && b) x fun vx => evK E (c && !b) y fun vy => K (bif b then vx else vy)) K
  | .load t x => evK E c x fun v => rdK c (runD P (iLoadAt t v) h) K
  | .nilCheck x => evK E c x fun v => rdK c (nilV v) K
  | .binOp o xt x y _ => evK E c x fun vx => evK E c y fun vy => rdK c (runD P (do eqGuard o xt x y vx vy; binOp o xt vx vy) h) K
  | .unOp o _ x => evK E c x fun v => rdK c (runD P (iUnary o v) h) K
  | .convert s d x => evK E c x fun v => rdK c (runD P (iConvert s d v) h) K
  | .slice t x lo hi mx => evK E c x fun v => evO E c lo fun l => evO E c hi fun u => evO E c mx fun m => rdK c (runD P (iSliceAt t v l u m) h) K
  | .fieldAddr s x f => evK E c x fun v => rdK c (runD P (iFieldAt s v f) h) K
  | .field s x f => evK E c x fun v => rdK c (runD P (iField s v f) h) K
  | .indexAddr t x i => evK E c x fun v => evK E c i fun vi => rdK c (runD P (iIndexAt t v vi) h) K
  | .index t x i => evK E c x fun v => evK E c i fun vi => rdK c (runD P (iIndex t v vi) h) K
  | .lookup t x i ok => evK E c x fun v => evK E c i fun vi => rdK c (runD P (iLookup t v vi ok) h) K
  | .extract x i => evK E c x fun v => rdK c (runD P (iExtract v i) h) K
  | .build t ps => evP E c ps.toList fun vs => rdK c (runD P (iBuild t vs.toArray) h) K
  | .makeFunc fn f g => evL E c f.toList fun vf => evL E c g.toList fun vg => K (.func fn vf.toArray vg.toArray)
  | .makeInterface t x => evK E c x fun v => rdK c (runD P (iMakeInterface t v) h) K
  | .entry x => evK E c x fun v => rdK c (runD P (iEntry v) h) K
  | .call ⟨.builtin b, args, tys⟩ => quietB b = true ∧ evL E c args.toList fun vs => rdK c (runD P (builtinV b tys ty vs.toArray) h) K
  | _ => False

/-- What writes, under a condition. -/
def wrK (c : Bool) (h : Heap) (X : Prop) (K : Value → Heap → Prop) : Prop := (c = true → X) ∧ (c = false → K undef h)

/-- May a function be called so? -/
def okFn (P : Program) (f : FuncId) : Bool :=
  match P.funcs[f]? with
  | some fn => !(fn.name == "runtime.NumGoroutine") && fn.body.isSome
  | none => false

/-- AN OPERATION. -/
def isW (P : Program) : Op → Bool
  | .alloc _ | .box _ _ | .buildSlice _ _ _ | .store _ _ _ | .mapUpdate _ _ _ _ | .insert _ _ _ _ | .makeMap _ _ | .makeSlice _ _ _ | .range _ _ | .next _ _ | .mapEntry _ _ _ | .entryStore _ _ _ _ => true
  | .convert s d _ => convW P s d
  | .call ⟨.builtin b, _, _⟩ => !quietB b
  | .call _ => true
  | _ => false

def callV (P : Program) (v : Value) (args : List Value) (h : Heap) (K : Value → Heap → Prop) : Prop :=
  match v with
  | .func (.func f) first captured => okFn P f = true ∧ HCalls P f (first ++ args.toArray ++ captured) h K
  | _ => False

def opW (P : Program) (ty : TypeId) (E : Env) (c : Bool) (h : Heap) (op : Op) (K : Value → Heap → Prop) : Prop :=
  match op with
  | .alloc t => wrK c h (runH P (iAlloc t true (.tuple #[])) h K) K
  | .box t x => evK E c x fun v => wrK c h (runH P (iBox t v) h K) K
  | .buildSlice t n ps => evP E c ps.toList fun vs => wrK c h (runH P (iBuildSlice t n vs.toArray) h K) K
  | .store t x y => evK E c x fun v => evK E c y fun u => wrK c h (runH P (iStoreAt t v u) h fun _ h' => K undef h') K
  | .mapUpdate t m k x => evK E c m fun vm => evK E c k fun vk => evK E c x fun v => wrK c h (runH P (iMapUpdate t vm vk v) h fun _ h' => K undef h') K
  | .insert t m k x => evK E c m fun vm => evK E c k fun vk => evK E c x fun v => wrK c h (runH P (iMapUpdate t vm vk v) h fun _ h' => K undef h') K
  | .makeMap t r => evO E c r fun v => wrK c h (runH P (iMakeMap t v) h K) K
  | .makeSlice t x y => evK E c x fun v => evK E c y fun u => wrK c h (runH P (iMakeSlice t v u) h K) K
  | .convert s d x => evK E c x fun v => wrK c h (runH P (iConvert s d v) h K) K
  | .range t x => evK E c x fun v => wrK c h (runH P (iRange t v) h K) K
  | .next x st => evK E c x fun v => wrK c h (runH P (iNext v st ty) h K) K
  | .mapEntry t m k => evK E c m fun vm => evK E c k fun vk => wrK c h (runH P (iMapEntry t vm vk) h K) K
  | .entryStore t m s x => evK E c m fun vm => evK E c s fun vs => evK E c x fun v => wrK c h (runH P (iEntryStore t vm vs v) h fun _ h' => K undef h') K
  | .call ⟨.builtin b, args, tys⟩ => evL E c args.toList fun vs => wrK c h (runH P (builtinV b tys ty vs.toArray) h K) K
  | .call ⟨.value (.func f), args, _⟩ => okFn P f = true ∧ evL E c args.toList fun vs => wrK c h (HCalls P f vs.toArray h K) K
  | .call ⟨.value x, args, _⟩ => evK E c x fun v => evL E c args.toList fun vs => wrK c h (callV P v vs h K) K
  | _ => False

def opH (P : Program) (ty : TypeId) (E : Env) (c : Bool) (h : Heap) (op : Op) (K : Value → Heap → Prop) : Prop :=
  bif isW P op then opW P ty E c h op K else opR P ty E c h op fun v => K v h

end Go.Eng
