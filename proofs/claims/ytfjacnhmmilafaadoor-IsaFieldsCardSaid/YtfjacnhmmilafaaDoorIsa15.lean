/-
  One field changed: plain.
-/
import Derived.Test.YtfjacnhmmilafaaDoorIsa14
namespace Go.Eng
set_option linter.unusedSimpArgs false
set_option linter.unusedVariables false
set_option maxRecDepth 16000
set_option maxHeartbeats 4000000
open Go Go.Proofs
theorem right_A {i : Ins} {n : Int} (r : rightI i = true) : rightI { i with A := n } = fieldP (kd i.Op) 97 n 15 := by
  unfold rightI at *
  simp only [Bool.and_eq_true] at r
  simp only [r, Bool.true_and, Bool.and_true]
theorem right_B {i : Ins} {n : Int} (r : rightI i = true) : rightI { i with B := n } = fieldP (kd i.Op) 98 n 15 := by
  unfold rightI at *
  simp only [Bool.and_eq_true] at r
  simp only [r, Bool.true_and, Bool.and_true]
theorem right_C {i : Ins} {n : Int} (r : rightI i = true) : rightI { i with C := n } = fieldP (kd i.Op) 99 n 15 := by
  unfold rightI at *
  simp only [Bool.and_eq_true] at r
  simp only [r, Bool.true_and, Bool.and_true]
theorem right_I {i : Ins} {n : Int} (r : rightI i = true) : rightI { i with I := n } = fieldP (kd i.Op) 105 n 65535 := by
  unfold rightI at *
  simp only [Bool.and_eq_true] at r
  simp only [r, Bool.true_and, Bool.and_true]
end Go.Eng
