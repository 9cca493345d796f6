/-
  package untyped: sizes, regions, rooms.
-/
import Derived.Test.YtadabopmgphelaaTy
namespace Go.Eng
set_option linter.unusedSimpArgs false
set_option linter.unusedVariables false
set_option maxRecDepth 16000
set_option maxHeartbeats 4000000
open Go Go.Proofs

/-! ### sizes -/
def isPow (n : Int) : Bool := n == 1 || n == 2 || n == 4 || n == 8 || n == 16 || n == 32 || n == 64 || n == 128 || n == 256 || n == 512

def sizeM (kind frames : Int) : Int × Int :=
  if kind = 1 then (if isPow frames then (frames, 0) else (0, 140))
  else if 2 ≤ kind ∧ kind ≤ 8 then (if frames = 1 then (1, 0) else (0, 140))
  else (0, 141)

def pairI (x : Int × Int) : Value := .tuple #[.int .i64 x.1, .int .i64 x.2]

theorem shl_pow (i : Nat) (hi : i < 10) : IntKind.i64.wrap (1 * 2 ^ (min (i : Int).toNat 64)) = 2 ^ i := by
  have : i = 0 ∨ i = 1 ∨ i = 2 ∨ i = 3 ∨ i = 4 ∨ i = 5 ∨ i = 6 ∨ i = 7 ∨ i = 8 ∨ i = 9 := by omega
  rcases this with rfl | rfl | rfl | rfl | rfl | rfl | rfl | rfl | rfl | rfl <;> decide

theorem isPow_iff (n : Int) : isPow n = true ↔ ∃ i : Nat, i < 10 ∧ n = 2 ^ i := by
  unfold isPow
  constructor
  · intro h
    simp only [Bool.or_eq_true, beq_iff_eq] at h
    rcases h with (((((((((rfl | rfl) | rfl) | rfl) | rfl) | rfl) | rfl) | rfl) | rfl) | rfl)
    · exact ⟨0, by decide⟩
    · exact ⟨1, by decide⟩
    · exact ⟨2, by decide⟩
    · exact ⟨3, by decide⟩
    · exact ⟨4, by decide⟩
    · exact ⟨5, by decide⟩
    · exact ⟨6, by decide⟩
    · exact ⟨7, by decide⟩
    · exact ⟨8, by decide⟩
    · exact ⟨9, by decide⟩
  · rintro ⟨i, hi, rfl⟩
    have : i = 0 ∨ i = 1 ∨ i = 2 ∨ i = 3 ∨ i = 4 ∨ i = 5 ∨ i = 6 ∨ i = 7 ∨ i = 8 ∨ i = 9 := by omega
    rcases this with rfl | rfl | rfl | rfl | rfl | rfl | rfl | rfl | rfl | rfl <;> decide

set_option maxRecDepth 4000 in
theorem size_spec (kind frames : Int) (h : Heap) : HCalls Try.prog 26 #[.int .i64 kind, .int .i64 frames] h fun v h' => v = pairI (sizeM kind frames) ∧ h' = h := by
  refine HCalls.of_dev T26 Try.func26 rfl mixed (by kernel_rfl) ?_; rw [Try.results26]
  simp (maxSteps := 2000000) only [↓condK_decide, go_sem, Nat.reduceBEq, Nat.reduceAdd, Nat.reduceMul, Nat.reduceSub, Nat.reduceEqDiff, Nat.reduceLeDiff, Nat.reduceLT, Int.reduceEq, Int.reduceAdd, Int.reduceSub, Int.reduceMul, Int.reduceNeg, Int.reduceLT, Int.reduceLE, Int.reduceToNat, Int.reduceBEq, Int.reduceNe]
  refine ⟨fun hk => ?_, fun hk => ?_⟩
  · subst hk
    refine loopH.intro (fun i : Nat => .cons 1 (.int .i64 frames) true (.cons 10 (.int .i64 i) true .nil)) (fun i h' => h' = h ∧ i ≤ 10 ∧ ∀ j : Nat, j < i → frames ≠ 2 ^ j) (fun i _ => 10 - i) 0 ?_ ⟨rfl, by omega, by omega⟩ ?_
    · simp (maxSteps := 2000000) only [↓condK_decide, go_sem, Nat.reduceBEq, Nat.reduceAdd, Nat.reduceMul, Nat.reduceSub, Nat.reduceEqDiff, Nat.reduceLeDiff, Nat.reduceLT, Int.reduceEq, Int.reduceAdd, Int.reduceSub, Int.reduceMul, Int.reduceNeg, Int.reduceLT, Int.reduceLE, Int.reduceToNat, Int.reduceBEq, Int.reduceNe]; rfl
    · rintro i h' ⟨rfl, hi, hno⟩
      simp (maxSteps := 2000000) only [↓condK_decide, go_sem, Nat.reduceBEq, Nat.reduceAdd, Nat.reduceMul, Nat.reduceSub, Nat.reduceEqDiff, Nat.reduceLeDiff, Nat.reduceLT, Int.reduceEq, Int.reduceAdd, Int.reduceSub, Int.reduceMul, Int.reduceNeg, Int.reduceLT, Int.reduceLE, Int.reduceToNat, Int.reduceBEq, Int.reduceNe]
      refine ⟨fun hlt => ?_, fun hlt => ?_⟩
      · have hlt' : i < 10 := by omega
        rw [shl_pow i hlt']
        refine ⟨fun he => ?_, fun he => ?_⟩
        · simp [sizeM, (isPow_iff frames).2 ⟨i, hlt', he⟩, pairI]
        · refine ⟨i + 1, ?_, ⟨rfl, by omega, fun j hj => ?_⟩, by simp only; omega⟩
          · rw [w64_id (by omega) (by omega)]; rfl
          · by_cases hji : j = i
            · subst hji; exact he
            · exact hno j (by omega)
      · have h10 : i = 10 := by omega
        subst h10
        have : isPow frames = false := by
          rw [Bool.eq_false_iff]; intro hp
          obtain ⟨j, hj, e⟩ := (isPow_iff frames).1 hp
          exact hno j hj e
        simp [sizeM, this, pairI]
  · by_cases hr : 2 ≤ kind ∧ kind ≤ 8
    · by_cases hf : frames = 1
      · simp only [sizeM, hk, hr, hf, if_true, if_false, and_self]
        simp [pairI]; omega
      · simp only [sizeM, hk, hr, hf, if_true, if_false, and_self]
        simp [pairI]; omega
    · simp only [sizeM, hk, hr, if_false]
      simp [pairI]; omega
end Go.Eng
