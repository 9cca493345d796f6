/-
  UntypedSizes: the document's Size; the law.
-/
import Derived.Test.YtadabopmgphelaaUnt6
namespace Go.Eng
set_option linter.unusedSimpArgs false
set_option linter.unusedVariables false
set_option maxRecDepth 16000
set_option maxHeartbeats 4000000
open Go Go.Proofs

def sizeI (frames n : Int) : Prop :=
  n = 1 ∨ (n = 2 ∧ 1 < frames) ∨ (n = 4 ∧ 2 < frames) ∨ (n = 8 ∧ 4 < frames) ∨ (n = 16 ∧ 8 < frames) ∨ (n = 32 ∧ 16 < frames) ∨ (n = 64 ∧ 32 < frames) ∨ (n = 128 ∧ 64 < frames) ∨ (n = 256 ∧ 128 < frames) ∨ (n = 512 ∧ 256 < frames)
theorem sizeI_bd {frames n : Int} (h : sizeI frames n) : 1 ≤ n ∧ n ≤ 512 := by unfold sizeI at h; omega
theorem sizeI_next {frames n : Int} (h : sizeI frames n) (h1 : n < 512) (h2 : n < frames) : sizeI frames (2 * n) := by unfold sizeI at h ⊢; omega
theorem isPow_eq (n : Int) : isPow n = true ↔ (n = 1 ∨ n = 2 ∨ n = 4 ∨ n = 8 ∨ n = 16 ∨ n = 32 ∨ n = 64 ∨ n = 128 ∨ n = 256 ∨ n = 512) := by
  simp only [isPow, Bool.or_eq_true, beq_iff_eq, or_assoc]
theorem sizeI_end {frames n : Int} (h : sizeI frames n) (h1 : ¬ (n < 512 ∧ n < frames)) : isPow frames = true ↔ n = frames := by
  rw [isPow_eq]; unfold sizeI at h; omega

set_option maxHeartbeats 1000000 in
theorem refSize_spec (kind frames : Int) (h : Heap) : HCalls Try.prog 11 #[.int .i64 kind, .int .i64 frames] h fun v h' => v = pairI (sizeM kind frames) ∧ h' = h := by
  refine HCalls.via fun R hR => ?_
  refine HCalls.of_dev T11 Try.func11 rfl mixed (by kernel_rfl) ?_; rw [Try.results11]
  simp (maxSteps := 2000000) only [↓condK_decide, go_sem, Nat.reduceBEq, Nat.reduceAdd, Nat.reduceMul, Nat.reduceSub, Nat.reduceEqDiff, Nat.reduceLeDiff, Nat.reduceLT, Int.reduceEq, Int.reduceAdd, Int.reduceSub, Int.reduceMul, Int.reduceNeg, Int.reduceLT, Int.reduceLE, Int.reduceToNat, Int.reduceBEq, Int.reduceNe]
  refine ⟨fun hk => ?_, fun hk => ?_⟩
  · have e0 : sizeM kind frames = if isPow frames then (frames, 0) else (0, 140) := by unfold sizeM; rw [if_pos hk]
    refine loopH.intro (fun n : Int => .cons 1 (.int .i64 frames) true (.cons 6 (.int .i64 n) true .nil)) (fun n h' => h' = h ∧ sizeI frames n) (fun n _ => (512 - n).toNat) 1 ?_ ⟨rfl, .inl rfl⟩ ?_
    · simp (maxSteps := 2000000) only [↓condK_decide, go_sem, Nat.reduceBEq, Nat.reduceAdd, Nat.reduceMul, Nat.reduceSub, Nat.reduceEqDiff, Nat.reduceLeDiff, Nat.reduceLT, Int.reduceEq, Int.reduceAdd, Int.reduceSub, Int.reduceMul, Int.reduceNeg, Int.reduceLT, Int.reduceLE, Int.reduceToNat, Int.reduceBEq, Int.reduceNe]
    · rintro n h' ⟨rfl, I⟩
      have b := sizeI_bd I
      have w : IntKind.i64.wrap (2 * n) = 2 * n := w64_id (by omega) (by omega)
      have fin : ¬ (n < 512 ∧ n < frames) → (n = frames → R (pairI (n, 0)) h') ∧ (¬ n = frames → R (pairI (0, 140)) h') := by
        intro hn
        have e := sizeI_end I hn
        refine ⟨fun q => hR _ _ ⟨?_, rfl⟩, fun q => hR _ _ ⟨?_, rfl⟩⟩
        · rw [e0, if_pos (e.2 q), q]
        · rw [e0, if_neg (fun z => q (e.1 z))]
      simp (maxSteps := 2000000) only [↓condK_decide, go_sem, Nat.reduceBEq, Nat.reduceAdd, Nat.reduceMul, Nat.reduceSub, Nat.reduceEqDiff, Nat.reduceLeDiff, Nat.reduceLT, Int.reduceEq, Int.reduceAdd, Int.reduceSub, Int.reduceMul, Int.reduceNeg, Int.reduceLT, Int.reduceLE, Int.reduceToNat, Int.reduceBEq, Int.reduceNe, w]
      simp only [Bool.and_eq_true, decide_eq_true_eq]
      refine ⟨fun hn => ⟨2 * n, rfl, ⟨rfl, sizeI_next I hn.1 hn.2⟩, by simp only; omega⟩, fun hn => ?_⟩
      have hn' : ¬ (n < 512 ∧ n < frames) := by
        rintro ⟨a, b⟩; simp [a, b] at hn
      have f := fin hn'
      exact ⟨fun q => f.2 q, fun q => f.1 (Classical.not_not.1 q)⟩
  · refine ⟨fun q => hR _ _ ⟨?_, rfl⟩, fun q => ⟨fun p => hR _ _ ⟨?_, rfl⟩, fun p => hR _ _ ⟨?_, rfl⟩⟩⟩
    · simp only [Bool.or_eq_true, decide_eq_true_eq] at q
      unfold sizeM; rw [if_neg hk, if_neg (by omega)]; rfl
    · simp only [Bool.or_eq_false_iff, decide_eq_false_iff_not] at q
      unfold sizeM; rw [if_neg hk, if_pos (by omega), if_neg p]; rfl
    · simp only [Bool.or_eq_false_iff, decide_eq_false_iff_not] at q
      unfold sizeM; rw [if_neg hk, if_pos (by omega), if_pos (Classical.not_not.1 p)]; rfl

theorem untypedSizes_spec (kind frames : Int) (h : Heap) : HCalls Try.prog 3 #[.int .i64 kind, .int .i64 frames] h fun v h' => v = .bool true ∧ Ext h h' := by
  refine HCalls.of_dev T3 Try.func3 rfl mixed (by kernel_rfl) ?_; rw [Try.results3]
  simp (maxSteps := 2000000) only [↓condK_decide, go_sem, Nat.reduceBEq, Nat.reduceAdd, Nat.reduceMul, Nat.reduceSub, Nat.reduceEqDiff, Nat.reduceLeDiff, Nat.reduceLT, Int.reduceEq, Int.reduceAdd, Int.reduceSub, Int.reduceMul, Int.reduceNeg, Int.reduceLT, Int.reduceLE, Int.reduceToNat, Int.reduceBEq, Int.reduceNe]
  refine (awake_spec h).mono ?_
  rintro v h1 ⟨rfl, e1⟩
  simp (maxSteps := 2000000) only [↓condK_decide, go_sem, Nat.reduceBEq, Nat.reduceAdd, Nat.reduceMul, Nat.reduceSub, Nat.reduceEqDiff, Nat.reduceLeDiff, Nat.reduceLT, Int.reduceEq, Int.reduceAdd, Int.reduceSub, Int.reduceMul, Int.reduceNeg, Int.reduceLT, Int.reduceLE, Int.reduceToNat, Int.reduceBEq, Int.reduceNe]
  refine (Size_spec kind frames h1).mono ?_
  rintro v h2 ⟨rfl, rfl⟩
  simp (maxSteps := 2000000) only [↓condK_decide, go_sem, Nat.reduceBEq, Nat.reduceAdd, Nat.reduceMul, Nat.reduceSub, Nat.reduceEqDiff, Nat.reduceLeDiff, Nat.reduceLT, Int.reduceEq, Int.reduceAdd, Int.reduceSub, Int.reduceMul, Int.reduceNeg, Int.reduceLT, Int.reduceLE, Int.reduceToNat, Int.reduceBEq, Int.reduceNe]
  refine (refSize_spec kind frames h2).mono ?_
  rintro v h3 ⟨rfl, rfl⟩
  simp (maxSteps := 2000000) only [↓condK_decide, go_sem, Nat.reduceBEq, Nat.reduceAdd, Nat.reduceMul, Nat.reduceSub, Nat.reduceEqDiff, Nat.reduceLeDiff, Nat.reduceLT, Int.reduceEq, Int.reduceAdd, Int.reduceSub, Int.reduceMul, Int.reduceNeg, Int.reduceLT, Int.reduceLE, Int.reduceToNat, Int.reduceBEq, Int.reduceNe]
  exact ⟨by simp, e1⟩
end Go.Eng
