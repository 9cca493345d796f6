/-
  Lists of refs.
-/
import Derived.Test.YtlkofpoginokbaaTy
import Derived.Test.YtlkofpoginokbaaEng16
namespace Go.Eng
set_option linter.unusedSimpArgs false
set_option linter.unusedVariables false
set_option maxRecDepth 16000
set_option maxHeartbeats 4000000
open Go
def refC (x : Int × Int) : List Value := [.int .i64 x.1, .int .i64 x.2]
theorem refC_len (x : Int × Int) : (refC x).length = 2 := rfl
theorem refC_single (x : Int × Int) : ∀ y ∈ refC x, single y = true := by simp [refC, single]
def refsL (Z : List (Int × Int)) : List Value := Z.flatMap refC
theorem refsL_len (Z : List (Int × Int)) : (refsL Z).length = Z.length * 2 := flat_len refC_len Z
theorem refsL_get (Z : List (Int × Int)) (i j : Nat) (hj : j < 2) : (refsL Z)[i * 2 + j]? = (Z[i]?).bind fun x => (refC x)[j]? := flat_get refC_len Z i j hj
theorem refsL_append (Z Y : List (Int × Int)) : refsL (Z ++ Y) = refsL Z ++ refsL Y := by simp [refsL]
theorem refsL_one (x : Int × Int) : refsL [x] = refC x := by simp [refsL]
end Go.Eng
