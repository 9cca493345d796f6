/-
  THE ENGINE: contracts of the kit, as calls told of heaps.
-/
import Derived.Test.YtfjacnhmmilafaaDoorEng16
import Derived.Laws.RangeString
namespace Go.Eng
set_option linter.unusedSimpArgs false
set_option linter.unusedVariables false
set_option maxRecDepth 16000
set_option maxHeartbeats 4000000
open Go
theorem HCalls.of_pure {P : Program} {f : FuncId} {args : Array Value} {v : Value} {h : Heap} (hc : ∀ w : World, Calls P f args w fun e w' => e = .returned v ∧ w' = w) : HCalls P f args h fun r h' => r = v ∧ h' = h := by
  intro w hw
  refine (hc w).mono ?_
  rintro e w' ⟨rfl, rfl⟩
  exact ⟨Same.refl _, v, rfl, rfl, hw⟩
theorem HCalls.of_iter {P : Program} {f : FuncId} {args : Array Value} {v : Value} {s : ByteArray} {h : Heap} (hc : ∀ w : World, Calls P f args w fun e w' => e = .returned v ∧ ∃ pos, w' = w.iter s pos) : HCalls P f args h fun r h' => r = v ∧ Ext h h' := by
  intro w hw
  subst hw
  refine (hc w).mono ?_
  rintro e w' ⟨rfl, pos, rfl⟩
  exact ⟨⟨rfl, rfl, rfl, Nat.le_refl _⟩, v, rfl, rfl, Ext.push _ _⟩
end Go.Eng
