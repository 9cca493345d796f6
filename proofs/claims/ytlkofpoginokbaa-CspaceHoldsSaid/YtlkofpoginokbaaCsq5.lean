/-
  Layer 12: lists of acts; what its laws share.
-/
import Derived.Test.YtlkofpoginokbaaCsq2
import Derived.Test.YtlkofpoginokbaaCsq3
namespace Go.Eng
set_option linter.unusedSimpArgs false
set_option linter.unusedVariables false
set_option maxRecDepth 16000
set_option maxHeartbeats 4000000
open Go Go.Proofs
theorem hreadO_of {ob : Option Obj} {o n : Nat} {l : List Value} (hl : l.length = n) (hn : 0 < n) (h : ∀ j, j < n → hcellO ob (o + j) = l[j]?) : hreadO ob o n = some l.toArray := by
  have h0 := h (n - 1) (by omega)
  rw [List.getElem?_eq_getElem (by omega)] at h0
  cases ob with
  | none => cases h0
  | some ob =>
    cases ob with
    | cells c e fr =>
      have hle : o + (n - 1) < c.size := (Array.getElem?_eq_some_iff.1 h0).1
      rw [hreadO_arr (by omega)]
      congr 1
      apply Array.ext_getElem?
      intro j
      have el : l.toArray[j]? = l[j]? := List.getElem?_toArray
      rw [Array.getElem?_extract, el]
      split
      · exact h j (by omega)
      · rw [List.getElem?_eq_none (by omega)]
    | _ => cases h0
theorem hreadO_lt {h : Heap} {b o n : Nat} {l : Array Value} (e : hreadO h[b]? o n = some l) : b < h.size := by
  cases hb : h[b]? with
  | none => rw [hb] at e; cases e
  | some x => exact lt_of_get hb
/-- A slice of acts. -/
def ActsC (h : Heap) (sl : Option Addr) (n : Nat) (A : Nat → CAct) : Prop :=
  n ≤ 9223372036854775807 ∧ ∀ i, i < n → (A i).fit ∧ ∃ b o, sl = some ⟨b, o, none⟩ ∧ hreadO h[b]? (o + i * 15) 15 = some (A i).cells.toArray
theorem ActsC.ext {h h' : Heap} {sl : Option Addr} {n : Nat} {A : Nat → CAct} (a : ActsC h sl n A) (e : Ext h h') : ActsC h' sl n A := by
  refine ⟨a.1, fun i hi => ?_⟩
  obtain ⟨f, b, o, hs, hc⟩ := a.2 i hi
  exact ⟨f, b, o, hs, by rw [e.get b (hreadO_lt hc)]; exact hc⟩
theorem Sat.refSpNil {h : Heap} {F : List SP} {qb : Nat} {ty : TypeId} (hs : Sat h (cellAt qb (.cells [.slice none 0 0].toArray ty (0, 0)) :: F)) : Sat h (refSpS qb [] :: F) :=
  refSp_iff.2 ⟨.slice none 0 0, ty, [], rfl, (Sat.nilS hs).swap⟩
end Go.Eng
