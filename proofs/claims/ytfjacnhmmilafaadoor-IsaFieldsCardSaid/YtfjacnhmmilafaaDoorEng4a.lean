/-
  THE ENGINE, PART 4a: a list of operations.
-/
import Derived.Test.YtfjacnhmmilafaaDoorEng3b
namespace Go.Eng
set_option linter.unusedSimpArgs false
set_option linter.unusedVariables false
set_option maxRecDepth 16000
set_option maxHeartbeats 4000000
open Go

/-- A guard's condition. -/
def gdV (c : Bool) (want : Bool) : Value → Bool
  | .bool b => c && (bif want then b else !b)
  | _ => false

def gdK (ops : Array Oper) (E : Env) (g : Option (Nat × Bool)) (F : Bool → Prop) : Prop :=
  match g with
  | none => F true
  | some (j, want) => match (ops[j]?).bind (·.dst) with
    | some d => match E.get d with
      | some (v, c) => F (gdV c want v)
      | none => False
    | none => False

/-- What goes on behind an operation. -/
def opsK (X : Env → Heap → (Env → Heap → Prop) → Prop) (E : Env) (d : Option Tmp) (c : Bool) (K : Env → Heap → Prop) (v : Value) (h : Heap) : Prop := X (E.put d v c) h K

def devOps (P : Program) (ops : Array Oper) : List Oper → Env → Heap → (Env → Heap → Prop) → Prop
  | [], E, h, K => K E h
  | o :: rest, E, h, K => gdK ops E o.guard fun c => opH P o.type E c h o.op (opsK (devOps P ops rest) E o.dst c K)

theorem gdK_sound {ops : Array Oper} {E : Env} {o : Oper} {F : Bool → Prop} (h : gdK ops E o.guard F) {tmps : Array Value} (hE : Holds E tmps) : ∃ c, F c ∧ Region.wanted o (yielded ops tmps) = c := by
  unfold gdK at h
  split at h
  · rename_i hg
    exact ⟨true, h, by simp [Region.wanted, hg]⟩
  · rename_i j want hg
    split at h
    · rename_i d hd
      split at h
      · rename_i v c hv
        refine ⟨_, h, ?_⟩
        have ht := hE d v c hv
        simp only [Region.wanted, hg, yielded, hd, Option.bind_some, ht]
        cases c with
        | false =>
          have : (bif false then v else undef) = Value.tuple #[] := rfl
          rw [this]
          cases v <;> rfl
        | true =>
          simp only [cond_true]
          cases v <;> simp only [gdV] <;> first | rfl | (rename_i b; cases b <;> cases want <;> rfl)
      · exact h.elim
    · exact h.elim

/-- All destinations are slots of the frame. -/
def dstOk (n : Nat) (o : Oper) : Bool :=
  match o.dst with
  | some d => decide (d < n)
  | none => true

theorem opH_wp {P : Program} {o : Oper} {E : Env} {c : Bool} {w : World} {K : Value → Heap → Prop} {a : Act} (hE : Holds E a.tmps) (hop : opH P o.type E c w.heap o.op K) :
    (c = true → ∀ next Q, (∀ v w', Same w w' → K v w'.heap → next (a.put o.dst v) w') → o.wp P a w next Q) ∧ (c = false → ∃ v, K v w.heap) := by
  unfold opH at hop
  cases hw : isW P o.op with
  | true =>
    rw [hw] at hop
    have := opW_wp hE hop
    exact ⟨this.1, fun hc => ⟨_, this.2 hc⟩⟩
  | false =>
    rw [hw] at hop
    obtain ⟨v, hK, h1⟩ := opR_wp hE hop
    exact ⟨fun hc next Q hn => h1 hc next Q (hn v w (Same.refl w) hK), fun _ => ⟨v, hK⟩⟩

theorem put_size (a : Act) (d : Option Tmp) (v : Value) : (a.put d v).tmps.size = a.tmps.size := by cases d <;> simp [Act.put]
theorem put_defers (a : Act) (d : Option Tmp) (v : Value) : (a.put d v).defers = a.defers := by cases d <;> rfl

theorem devOps_wp {P : Program} {ops : Array Oper} {n : Nat} {K : Env → Heap → Prop} {Q : Exit → Act → World → Prop} {w0 : World}
    (hQ : ∀ E a w, Holds E a.tmps → a.tmps.size = n → a.defers = [] → Same w0 w → K E w.heap → Q .normal a w) :
    ∀ (l : List Oper), l.all (dstOk n) = true → ∀ (E : Env) (a : Act) (w : World), Holds E a.tmps → a.tmps.size = n → a.defers = [] → Same w0 w → devOps P ops l E w.heap K → wpList P ops Q l a w := by
  intro l
  induction l with
  | nil => intro _ E a w hE hn hd hs h; exact hQ E a w hE hn hd hs h
  | cons o rest ih =>
    intro hok E a w hE hn hd hs h
    simp only [List.all_cons, Bool.and_eq_true] at hok
    obtain ⟨ho, hrest⟩ := hok
    have hlt : ∀ s, o.dst = some s → s < a.tmps.size := fun s hs' => by
      unfold dstOk at ho; rw [hs'] at ho; rw [hn]; exact of_decide_eq_true ho
    simp only [devOps] at h
    obtain ⟨c, hF, hw⟩ := gdK_sound h hE
    obtain ⟨h1, h2⟩ := opH_wp hE hF
    unfold wpList
    rw [hw]
    cases c with
    | true =>
      simp only [if_true]
      refine .inl (h1 rfl _ _ fun v w' hs' hK => ?_)
      exact ih hrest _ _ _ (hE.put hlt rfl a rfl) ((put_size _ _ _).trans hn) ((put_defers _ _ _).trans hd) (hs.trans hs') hK
    | false =>
      obtain ⟨v, hK⟩ := h2 rfl
      simp only [Bool.false_eq_true, if_false]
      exact ih hrest _ _ _ (hE.put (v := v) (c := false) hlt rfl a rfl) ((put_size _ _ _).trans hn) ((put_defers _ _ _).trans hd) hs hK

theorem devOps_wpK {P : Program} {ops : Array Oper} {n : Nat} {K : Env → Heap → Prop} {Q : Exit → Act → World → Prop} {Kc : Act → World → Prop} {w0 : World} {rest : List Oper}
    (hQ : ∀ E a w, Holds E a.tmps → a.tmps.size = n → a.defers = [] → Same w0 w → devOps P ops rest E w.heap K → Kc a w) :
    ∀ (l : List Oper), l.all (dstOk n) = true → ∀ (E : Env) (a : Act) (w : World), Holds E a.tmps → a.tmps.size = n → a.defers = [] → Same w0 w → devOps P ops (l ++ rest) E w.heap K → wpListK P ops Q Kc l a w := by
  intro l
  induction l with
  | nil => intro _ E a w hE hn hd hs h; exact hQ E a w hE hn hd hs h
  | cons o rest ih =>
    intro hok E a w hE hn hd hs h
    simp only [List.all_cons, Bool.and_eq_true] at hok
    obtain ⟨ho, hrest⟩ := hok
    have hlt : ∀ s, o.dst = some s → s < a.tmps.size := fun s hs' => by
      unfold dstOk at ho; rw [hs'] at ho; rw [hn]; exact of_decide_eq_true ho
    simp only [List.cons_append, devOps] at h
    obtain ⟨c, hF, hw⟩ := gdK_sound h hE
    obtain ⟨h1, h2⟩ := opH_wp hE hF
    unfold wpListK
    rw [hw]
    cases c with
    | true =>
      simp only [if_true]
      refine .inl (h1 rfl _ _ fun v w' hs' hK => ?_)
      exact ih hrest _ _ _ (hE.put hlt rfl a rfl) ((put_size _ _ _).trans hn) ((put_defers _ _ _).trans hd) (hs.trans hs') hK
    | false =>
      obtain ⟨v, hK⟩ := h2 rfl
      simp only [Bool.false_eq_true, if_false]
      exact ih hrest _ _ _ (hE.put (v := v) (c := false) hlt rfl a rfl) ((put_size _ _ _).trans hn) ((put_defers _ _ _).trans hd) hs hK

/-- The heads: operations that only read. -/
theorem devOps_still {P : Program} {ops : Array Oper} {n : Nat} {K : Env → Heap → Prop} {Q : Act → Prop} {w : World} {tail : List Oper}
    (hQ : ∀ E a, Holds E a.tmps → a.tmps.size = n → a.defers = [] → devOps P ops tail E w.heap K → Q a) :
    ∀ (l : List Oper), l.all (dstOk n) = true → l.all (fun o => !isW P o.op) = true → ∀ (E : Env) (a : Act), Holds E a.tmps → a.tmps.size = n → a.defers = [] → devOps P ops (l ++ tail) E w.heap K → wpStill P ops w Q l a := by
  intro l
  induction l with
  | nil => intro _ _ E a hE hn hd h; exact hQ E a hE hn hd h
  | cons o rest ih =>
    intro hok hr E a hE hn hd h
    simp only [List.all_cons, Bool.and_eq_true, Bool.not_eq_true'] at hok hr
    obtain ⟨ho, hrest⟩ := hok
    obtain ⟨hro, hrr⟩ := hr
    have hlt : ∀ s, o.dst = some s → s < a.tmps.size := fun s hs' => by
      unfold dstOk at ho; rw [hs'] at ho; rw [hn]; exact of_decide_eq_true ho
    simp only [List.cons_append, devOps] at h
    obtain ⟨c, hF, hw⟩ := gdK_sound h hE
    unfold opH at hF
    rw [hro] at hF
    obtain ⟨v, hK, h1⟩ := opR_still hE hF
    unfold wpStill
    rw [hw]
    cases c with
    | true =>
      simp only [if_true]
      exact h1 rfl _ (ih hrest hrr _ _ (hE.put hlt rfl a rfl) ((put_size _ _ _).trans hn) ((put_defers _ _ _).trans hd) hK)
    | false =>
      simp only [Bool.false_eq_true, if_false]
      exact ih hrest hrr _ _ (hE.put (v := v) (c := false) hlt rfl a rfl) ((put_size _ _ _).trans hn) ((put_defers _ _ _).trans hd) hK

/-! ### A region that draws -/
def headN (P : Program) : List Oper → Nat
  | [] => 0
  | o :: l => if isW P o.op then 0 else headN P l + 1

theorem headN_le (P : Program) : ∀ l, headN P l ≤ l.length
  | [] => Nat.le_refl _
  | o :: l => by unfold headN; split; · omega
                 · have := headN_le P l; simp; omega

theorem headN_all (P : Program) : ∀ l : List Oper, (l.take (headN P l)).all (fun o => !isW P o.op) = true
  | [] => rfl
  | o :: l => by
    unfold headN
    split
    · rfl
    · rename_i h
      simp only [List.take_succ_cons, List.all_cons, Bool.and_eq_true, Bool.not_eq_true']
      exact ⟨by simpa using h, headN_all P l⟩

/-- How many at the end only read. -/
def endN (P : Program) (ops : Array Oper) : Nat := headN P ops.toList.reverse
theorem endN_all (P : Program) (ops : Array Oper) {m : Nat} (hm : m + endN P ops = ops.size) : (ops.toList.drop m).all (fun o => !isW P o.op) = true := by
  have h := headN_all P ops.toList.reverse
  rw [List.take_reverse, show ops.toList.length - headN P ops.toList.reverse = m by simp only [endN] at hm; rw [Array.length_toList]; omega, List.all_reverse] at h
  exact h

def drawOk (P : Program) (ops : Array Oper) : Bool :=
  let n := headN P ops.toList
  if n = ops.size then Region.lexB .any ops else Region.lexTailB .any ops n || lexMidB ops n (ops.size - n - endN P ops) (endN P ops)

theorem wp_region_tail {P : Program} {id : Nat} {ops : Array Oper} {Q : Exit → Act → World → Prop} {a : Act} {w : World} (n : Nat) (hm : P.follows .mixedOrders = true) (hB : Region.lexTailB .any ops n = true)
    (h : wpStill P ops { w with drawn := w.drawn + 1 } (fun a' => wpList P ops Q (ops.toList.drop n) a' { w with drawn := w.drawn + 1 }) (ops.toList.take n) a) : (Code.region id ops true).wp P Q a w := by
  have := wp_region_still_tail (P := P) (id := id) (Q := Q) (a := a) (w := w) (l := ops.toList) n hm (by simpa using hB) (by simpa using h)
  simpa using this

end Go.Eng
