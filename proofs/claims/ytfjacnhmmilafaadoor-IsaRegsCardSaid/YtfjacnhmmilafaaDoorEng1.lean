/-
  THE ENGINE, PART 1: memory as an array of blocks; what an operation of the model does to it, said of the blocks alone.
-/
import Derived.Still
import Derived.StillTail
import Derived.LoopN
import Derived.Scope
import Derived.Tactics
namespace Go.Eng
set_option linter.unusedSimpArgs false
set_option linter.unusedVariables false
set_option maxRecDepth 16000
set_option maxHeartbeats 4000000
open Go

abbrev Heap := Array Obj

structure Same (w w' : World) : Prop where
  os : w'.os = w.os
  tape : w'.tape = w.tape
  output : w'.output = w.output
  drawn : w.drawn ≤ w'.drawn

theorem Same.refl (w : World) : Same w w := ⟨rfl, rfl, rfl, Nat.le_refl _⟩
theorem Same.trans {a b c : World} (h : Same a b) (k : Same b c) : Same a c := ⟨k.os.trans h.os, k.tape.trans h.tape, k.output.trans h.output, Nat.le_trans h.drawn k.drawn⟩

/-- A call, said of the blocks alone: it returns, and leaves all but memory and draws as it was. -/
def HCalls (P : Program) (f : FuncId) (args : Array Value) (h : Heap) (R : Value → Heap → Prop) : Prop :=
  ∀ w : World, w.heap = h → Calls P f args w fun e w' => Same w w' ∧ ∃ v, e = .returned v ∧ R v w'.heap

theorem HCalls.mono {P : Program} {f : FuncId} {args : Array Value} {h : Heap} {R R' : Value → Heap → Prop} (hc : HCalls P f args h R) (hr : ∀ v h', R v h' → R' v h') : HCalls P f args h R' :=
  fun w hw => (hc w hw).mono fun _ _ ⟨s, v, e, r⟩ => ⟨s, v, e, hr _ _ r⟩

/-- Is it the value of one cell? -/
def single : Value → Bool
  | .agg _ | .tuple _ => false
  | _ => true

def hcell (h : Heap) (a : Addr) : Option Value :=
  match h[a.block]? with
  | some (.cells c _ _) => if a.spot.isSome then none else c[a.off]?
  | _ => none

def hshape (h : Heap) (r : Nat) : Option (TypeId × Nat) :=
  match h[r]? with
  | some (.cells c elem _) => some (elem, c.size)
  | _ => none

def hfrozen (h : Heap) (a : Addr) : Bool :=
  match h[a.block]? with
  | some (.cells _ _ (lo, hi)) => lo ≤ a.off && a.off < hi
  | _ => false

def hfreeze (h : Heap) (a : Addr) (n : Nat) : Heap :=
  if n = 0 then h else
  h.modify a.block fun
      | .cells c elem (lo, hi) => .cells c elem (if lo == hi then (a.off, a.off + n) else (min lo a.off, max hi (a.off + n)))
      | o => o

theorem cell_eq (w : World) (a : Addr) : w.cell? a = hcell w.heap a := rfl
theorem shape_eq (w : World) (r : Nat) : w.shape? r = hshape w.heap r := rfl
theorem frozen_eq (w : World) (a : Addr) : w.frozen? a = hfrozen w.heap a := rfl
theorem freeze_eq (w : World) (a : Addr) (n : Nat) : (w.freeze a n).heap = hfreeze w.heap a n := by
  unfold World.freeze hfreeze
  split <;> rfl

/-- A value read out of memory, without a draw and without a write; none: it is not of that kind, or it fails. -/
def runD {α : Type} (P : Program) : Sem α → Heap → Option α
  | .pure a, _ => some a
  | .load _ a k, h => match hcell h a with
    | some v => runD P (k v) h
    | none => none
  | .shape r k, h => runD P (k (hshape h r)) h
  | .frozen a k, h => runD P (k (hfrozen h a)) h
  | .getObj r k, h => match h[r]? with
    | some (.cells ..) => none
    | some o => runD P (k o) h
    | none => none
  | .program k, h => runD P (k P) h
  | .mark _ k, h => runD P k h
  | _, _ => none

/-- What becomes of memory: the weakest condition, whatever is drawn. -/
def runH {α : Type} (P : Program) : Sem α → Heap → (α → Heap → Prop) → Prop
  | .pure a, h, K => K a h
  | .load _ a k, h, K => match hcell h a with
    | some v => runH P (k v) h K
    | none => False
  | .store _ a v k, h, K =>
    single v = true ∧ match h[a.block]? with
      | some (.cells c e fr) => a.spot = none ∧ a.off < c.size ∧ ¬ (fr.1 ≤ a.off ∧ a.off < fr.2) ∧ runH P k (h.setIfInBounds a.block (.cells (c.setIfInBounds a.off v) e fr)) K
      | _ => False
  | .new o k, h, K => runH P (k h.size) (h.push o) K
  | .shape r k, h, K => runH P (k (hshape h r)) h K
  | .freeze a n k, h, K => runH P k (hfreeze h a n) K
  | .frozen a k, h, K => runH P (k (hfrozen h a)) h K
  | .getObj r k, h, K => match h[r]? with
    | some (.cells ..) => False
    | some o => runH P (k o) h K
    | none => False
  | .setObj r o k, h, K => match h[r]? with
    | some (.cells ..) => False
    | some _ => runH P k (h.setIfInBounds r o) K
    | none => False
  | .choose q k, h, K => if q.forced then runH P (k 0) h K else ∀ t, runH P (k (q.cut t)) h K
  | .sys _ _, _, _ => False
  | .program k, h, K => runH P (k P) h K
  | .mark _ k, h, K => runH P k h K
  | .halt _, _, _ => False

theorem runD_sound {α : Type} {P : Program} (s : Sem α) {w : World} {a : α} (h : runD P s w.heap = some a) : s.run P w = .ok a w := by
  induction s generalizing a with
  | pure x => simp [runD] at h; subst h; rfl
  | load m ad k ih =>
    simp only [runD] at h
    simp only [Sem.run, cell_eq]
    split at h
    · rename_i v hv; rw [hv]; exact ih v h
    · cases h
  | shape r k ih => simp only [runD] at h; simp only [Sem.run, shape_eq]; exact ih _ h
  | frozen ad k ih => simp only [runD] at h; simp only [Sem.run, frozen_eq]; exact ih _ h
  | getObj r k ih =>
    simp only [runD] at h
    simp only [Sem.run]
    split at h
    · cases h
    · rename_i o ho hne
      rw [hne]
      cases o <;> first | exact ih _ h | exact (ho _ _ _ rfl).elim
    · cases h
  | program k ih => simp only [runD] at h; simp only [Sem.run]; exact ih _ h
  | mark m k ih => simp only [runD] at h; simp only [Sem.run]; exact ih h
  | _ => simp [runD] at h

theorem setCell_heap {w : World} {a : Addr} {v : Value} {c : Array Value} {e : TypeId} {fr : Nat × Nat} (hb : w.heap[a.block]? = some (.cells c e fr)) (hs : a.spot = none) :
    (w.setCell a v).heap = w.heap.setIfInBounds a.block (.cells (c.setIfInBounds a.off v) e fr) := by
  apply Array.ext_getElem?
  intro i
  unfold World.setCell
  simp only [Array.getElem?_modify, Array.getElem?_setIfInBounds]
  by_cases hi : a.block = i
  · subst hi
    obtain ⟨hlt, hv⟩ := Array.getElem?_eq_some_iff.1 hb
    simp [hs, hlt, hv]
  · simp [hi]

theorem runH_sound {α : Type} {P : Program} (s : Sem α) {w : World} {K : α → Heap → Prop} (h : runH P s w.heap K) : ∃ a w', s.run P w = .ok a w' ∧ Same w w' ∧ K a w'.heap := by
  induction s generalizing w with
  | pure x => exact ⟨x, w, rfl, Same.refl w, h⟩
  | load m ad k ih =>
    simp only [runH] at h
    simp only [Sem.run, cell_eq]
    split at h
    · rename_i v hv; rw [hv]; exact ih v h
    · exact h.elim
  | store m ad v k ih =>
    simp only [runH] at h
    obtain ⟨h1, h2⟩ := h
    split at h2
    · rename_i c e fr hb
      obtain ⟨hs, hlt, hfr, h3⟩ := h2
      have hc : w.cell? ad = some (c[ad.off]) := by simp [cell_eq, hcell, hb, hs, hlt]
      have hf : w.frozen? ad = false := by
        simp only [frozen_eq, hfrozen, hb]
        obtain ⟨lo, hi⟩ := fr
        simp only [Bool.and_eq_false_iff, decide_eq_false_iff_not]
        simp only [not_and] at hfr
        by_cases hl : lo ≤ ad.off
        · exact .inr (hfr hl)
        · exact .inl hl
      rw [← setCell_heap hb hs] at h3
      obtain ⟨x, w', hr, hs', hk⟩ := ih h3
      have hrun : (Sem.store m ad v k).run P w = k.run P (w.setCell ad v) := by
        cases v <;> first | (simp [Sem.run, hc, hf]; done) | (simp [single] at h1)
      exact ⟨x, w', hrun.trans hr, ⟨hs'.os, hs'.tape, hs'.output, hs'.drawn⟩, hk⟩
    · exact h2.elim
  | new o k ih =>
    simp only [runH] at h
    obtain ⟨x, w', hr, hs', hk⟩ := ih _ (w := { w with heap := w.heap.push o }) h
    exact ⟨x, w', hr, ⟨hs'.os, hs'.tape, hs'.output, hs'.drawn⟩, hk⟩
  | shape r k ih => simp only [runH] at h; simp only [Sem.run, shape_eq]; exact ih _ h
  | freeze ad n k ih =>
    simp only [runH] at h
    rw [← freeze_eq] at h
    obtain ⟨x, w', hr, hs', hk⟩ := ih (w := w.freeze ad n) h
    have e1 : (w.freeze ad n).os = w.os := by unfold World.freeze; split <;> rfl
    have e2 : (w.freeze ad n).tape = w.tape := by unfold World.freeze; split <;> rfl
    have e3 : (w.freeze ad n).output = w.output := by unfold World.freeze; split <;> rfl
    have e4 : (w.freeze ad n).drawn = w.drawn := by unfold World.freeze; split <;> rfl
    exact ⟨x, w', hr, ⟨hs'.os.trans e1, hs'.tape.trans e2, hs'.output.trans e3, e4 ▸ hs'.drawn⟩, hk⟩
  | frozen ad k ih => simp only [runH] at h; simp only [Sem.run, frozen_eq]; exact ih _ h
  | getObj r k ih =>
    simp only [runH] at h
    simp only [Sem.run]
    split at h
    · exact h.elim
    · rename_i o ho hne
      rw [hne]
      cases o <;> first | exact ih _ h | exact (ho _ _ _ rfl).elim
    · exact h.elim
  | setObj r o k ih =>
    simp only [runH] at h
    simp only [Sem.run]
    split at h
    · exact h.elim
    · rename_i o' ho hne
      rw [hne]
      obtain ⟨x, w', hr, hs', hk⟩ := ih (w := { w with heap := w.heap.setIfInBounds r o }) h
      refine ⟨x, w', ?_, ⟨hs'.os, hs'.tape, hs'.output, hs'.drawn⟩, hk⟩
      cases o' <;> first | exact hr | exact (ho _ _ _ rfl).elim
    · exact h.elim
  | choose q k ih =>
    simp only [runH] at h
    simp only [Sem.run]
    split
    · rename_i hf; rw [if_pos hf] at h; exact ih _ h
    · rename_i hf
      rw [if_neg hf] at h
      obtain ⟨x, w', hr, hs', hk⟩ := ih _ (w := { w with drawn := w.drawn + 1 }) (h (w.tape w.drawn q))
      exact ⟨x, w', hr, ⟨hs'.os, hs'.tape, hs'.output, Nat.le_trans (Nat.le_succ _) hs'.drawn⟩, hk⟩
  | sys c k ih => exact h.elim
  | program k ih => simp only [runH] at h; simp only [Sem.run]; exact ih _ h
  | mark m k ih => simp only [runH] at h; simp only [Sem.run]; exact ih h
  | halt x => exact h.elim

theorem runH_bind {α β : Type} {P : Program} (s : Sem α) (f : α → Sem β) (h : Heap) (K : β → Heap → Prop) : runH P (s >>= f) h K = runH P s h (fun a h' => runH P (f a) h' K) := by
  show runH P (s.bind f) h K = _
  induction s generalizing h with
  | pure x => rfl
  | load m ad k ih => simp only [Sem.bind, runH]; split <;> first | rfl | exact ih _ _
  | store m ad v k ih => simp only [Sem.bind, runH]; congr 1; split <;> simp only [ih]
  | new o k ih => exact ih _ _
  | shape r k ih => exact ih _ _
  | freeze ad n k ih => exact ih _
  | frozen ad k ih => exact ih _ _
  | getObj r k ih => simp only [Sem.bind, runH]; split <;> first | rfl | exact ih _ _
  | setObj r o k ih => simp only [Sem.bind, runH]; split <;> first | rfl | exact ih _
  | choose q k ih => simp only [Sem.bind, runH]; split <;> simp only [ih]
  | sys c k ih => rfl
  | program k ih => exact ih _ _
  | mark m k ih => exact ih _
  | halt x => rfl

theorem runD_bind {α β : Type} {P : Program} (s : Sem α) (f : α → Sem β) (h : Heap) : runD P (s >>= f) h = (runD P s h).bind (fun a => runD P (f a) h) := by
  show runD P (s.bind f) h = _
  induction s with
  | pure x => rfl
  | load m ad k ih => simp only [Sem.bind, runD]; split <;> first | rfl | exact ih _
  | shape r k ih => exact ih _
  | frozen ad k ih => exact ih _
  | getObj r k ih => simp only [Sem.bind, runD]; split <;> first | rfl | exact ih _
  | program k ih => exact ih _
  | mark m k ih => exact ih
  | _ => rfl

theorem runH_of_runD {α : Type} {P : Program} (s : Sem α) {h : Heap} {a : α} (hd : runD P s h = some a) (K : α → Heap → Prop) : runH P s h K = K a h := by
  induction s with
  | pure x => simp [runD] at hd; subst hd; rfl
  | load m ad k ih =>
    simp only [runD] at hd
    simp only [runH]
    split at hd
    · exact ih _ hd
    · cases hd
  | shape r k ih => exact ih _ hd
  | frozen ad k ih => exact ih _ hd
  | getObj r k ih =>
    simp only [runD] at hd
    simp only [runH]
    split at hd
    · cases hd
    · rename_i o ho hne
      first | exact ih _ hd | (cases o <;> first | exact ih _ hd | exact (ho _ _ _ rfl).elim)
    · cases hd
  | program k ih => exact ih _ hd
  | mark m k ih => exact ih hd
  | _ => simp [runD] at hd

@[simp] theorem runH_pure {α : Type} {P : Program} (a : α) (h : Heap) (K : α → Heap → Prop) : runH P (pure a : Sem α) h K = K a h := rfl
@[simp] theorem runD_pure {α : Type} {P : Program} (a : α) (h : Heap) : runD P (pure a : Sem α) h = some a := rfl
end Go.Eng
