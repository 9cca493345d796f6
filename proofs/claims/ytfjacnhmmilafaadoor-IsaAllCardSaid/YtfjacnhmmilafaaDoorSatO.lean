/-
  THE ENGINE: what was made beside what was there.
-/
import Derived.Test.YtfjacnhmmilafaaDoorEng16
namespace Go.Eng
set_option linter.unusedSimpArgs false
set_option linter.unusedVariables false
set_option maxRecDepth 16000
set_option maxHeartbeats 4000000
open Go
/-- What was made beside what was there. -/
theorem Sat.over {h h' : Heap} {A : SP} {F : List SP} (hF : Sat h F) (hs : Sat h' [A, oldS h]) : Sat h' (A :: F) := by
  have he : Ext h h' := (hs.front 1).ext
  obtain ⟨a, b, h1, h2, h3, h4, c, d, k1, k2, k3, k4, -⟩ := hs
  refine ⟨a, hp h, fun i => ?_, h2, fun i o q => he.some q, h4, hF⟩
  by_cases hi : i < h.size
  · left
    have e : c i = h[i]? := k4 i hi
    rw [Array.getElem?_eq_getElem hi] at e
    rcases h1 i with q | q
    · exact q
    · rw [k2 i _ e] at q; cases q
  · right
    simp only [hp]
    exact Array.getElem?_eq_none (by omega)
end Go.Eng
