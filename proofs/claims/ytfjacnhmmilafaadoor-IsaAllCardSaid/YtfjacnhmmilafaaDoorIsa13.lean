/-
  Words and instructions: plain.
-/
import Derived.Test.YtfjacnhmmilafaaDoorIsa12
namespace Go.Eng
set_option linter.unusedSimpArgs false
set_option linter.unusedVariables false
set_option maxRecDepth 16000
set_option maxHeartbeats 4000000
open Go Go.Proofs
theorem right_form {i : Ins} (r : rightI i = true) : if hasB (kd i.Op) 99 then i.I = 0 else i.C = 0 := by
  have hc := kd_nine i.Op
  unfold rightI at r
  simp only [neB_eq, fieldP] at r
  generalize kd i.Op = k at *
  rcases hc with rfl | rfl | rfl | rfl | rfl | rfl | rfl | rfl | rfl
  all_goals simp [hasB] at r ⊢
  all_goals omega
theorem dec_word {i : Ins} (r : rightI i = true) : decI (wordI i).toNat = i := by
  have b := rightI_B r
  have f := right_form r
  obtain ⟨op, a, bb, c, m⟩ := i
  obtain ⟨o1, o2, a1, a2, b1, b2, c1, c2, m1, m2, z⟩ := b
  simp only at *
  have ho : ((((wordI ⟨op, a, bb, c, m⟩).toNat / 16777216 : Nat)) : Int) = op := by
    simp only [wordI]
    omega
  unfold decI
  rw [ho]
  cases hh : hasB (kd op) 99 with
  | true =>
    rw [hh, if_pos rfl] at f
    simp only [if_true, Ins.mk.injEq, wordI]
    refine ⟨trivial, ?_, ?_, ?_, ?_⟩ <;> omega
  | false =>
    rw [hh, if_neg Bool.false_ne_true] at f
    simp only [Bool.false_eq_true, if_false, Ins.mk.injEq, wordI]
    refine ⟨trivial, ?_, ?_, ?_, ?_⟩ <;> omega
theorem word_inj {i j : Ins} (r : rightI i = true) (q : rightI j = true) : wordI i = wordI j ↔ i = j :=
  ⟨fun e => by rw [← dec_word r, e, dec_word q], fun e => by rw [e]⟩
theorem word_lt {i : Ins} (r : rightI i = true) : 0 ≤ wordI i ∧ wordI i < 4294967296 := by
  obtain ⟨o1, o2, a1, a2, b1, b2, c1, c2, m1, m2, z⟩ := rightI_B r
  unfold wordI
  omega
end Go.Eng
