/-
  Reads.
-/
import Derived.Test.YtfjacnhmmilafaaDoorIsa8
namespace Go.Eng
set_option linter.unusedSimpArgs false
set_option linter.unusedVariables false
set_option maxRecDepth 16000
set_option maxHeartbeats 4000000
open Go Go.Proofs
def two (a b : Int) : List Int := if a = b then [a] else if a < b then [a, b] else [b, a]
def rdP (i : Ins) : List Int :=
  if i.Op = 2 ∨ i.Op = 3 ∨ i.Op = 4 ∨ i.Op = 5 ∨ i.Op = 6 then two i.B i.C
  else if i.Op = 7 ∨ i.Op = 9 ∨ i.Op = 16 ∨ i.Op = 20 ∨ i.Op = 23 then two i.B i.B
  else if i.Op = 8 ∨ i.Op = 10 ∨ i.Op = 11 ∨ i.Op = 12 ∨ i.Op = 13 then two i.A i.B else []
def rdI (i : Ins) : List Int := if rightI i then rdP i else []
section
variable {h : Heap}
theorem refReads_S (i : Ins) : HCalls Tryd.prog 18 #[.agg i.cells.toArray] h fun v h' => Sat h' [sliceS 1 (rdI i).length v ((rdI i).map (Value.int .i64)), oldS h] := by
  refine HCalls.via fun R hR => ?_
  refine HCalls.of_dev T18 Tryd.func18 rfl mixed (by kernel_rfl) ?_; rw [Tryd.results18]
  simp (maxSteps := 2000000) (disch := first | (simp only [go_sem, Nat.reduceBEq, Nat.reduceAdd, Nat.reduceMul, Nat.reduceSub, Nat.reduceEqDiff, Nat.reduceLeDiff, Nat.reduceLT, Int.reduceEq, Int.reduceAdd, Int.reduceSub, Int.reduceMul, Int.reduceNeg, Int.reduceLT, Int.reduceLE, Int.reduceToNat, Int.reduceBEq, Int.reduceNe, reduceCtorEq]; done) | omega | (simp only [go_sem, Nat.reduceBEq, Nat.reduceAdd, Nat.reduceMul, Nat.reduceSub, Nat.reduceEqDiff, Nat.reduceLeDiff, Nat.reduceLT, Int.reduceEq, Int.reduceAdd, Int.reduceSub, Int.reduceMul, Int.reduceNeg, Int.reduceLT, Int.reduceLE, Int.reduceToNat, Int.reduceBEq, Int.reduceNe, reduceCtorEq]; omega)) only [go_sem, Nat.reduceBEq, Nat.reduceAdd, Nat.reduceMul, Nat.reduceSub, Nat.reduceEqDiff, Nat.reduceLeDiff, Nat.reduceLT, Int.reduceEq, Int.reduceAdd, Int.reduceSub, Int.reduceMul, Int.reduceNeg, Int.reduceLT, Int.reduceLE, Int.reduceToNat, Int.reduceBEq, Int.reduceNe, reduceCtorEq, w64_id, w8_id, w16_id, w32_id, tmod_pos, tdiv_pos, Bool.or_true, Bool.true_or, Bool.or_false, Bool.false_or, Bool.and_false, Bool.false_and, condK_decide]
  have s1 := ((Sat.init h).push (.cells i.cells.toArray 23 (0, 0)))
  simp only [Ins.cells_eq] at s1
  refine (refRight_S _).mono ?_
  rintro v h1 ⟨rfl, x1⟩
  have s2 := s1.grow x1
  have n0 : rdI i = [] → R (.slice none 0 0) h1 := fun e => hR _ _ (by rw [e]; exact s2.tail.nilS)
  have n1 : ∀ a, rdI i = [a] → R (.slice (some ⟨h1.size, 0, none⟩) 1 1) (h1.push (.cells #[.int .i64 a] 3 (0, 0))) := fun a e => hR _ _ (by
    rw [e]
    exact (s2.tail.push (.cells #[.int .i64 a] 3 (0, 0))).toSlice rfl (by simp [single]) (Nat.le_refl _) rfl (fun k _ => by simp))
  have n2 : ∀ a b, rdI i = [a, b] → R (.slice (some ⟨h1.size, 0, none⟩) 2 2) (h1.push (.cells #[.int .i64 a, .int .i64 b] 3 (0, 0))) := fun a b e => hR _ _ (by
    rw [e]
    exact (s2.tail.push (.cells #[.int .i64 a, .int .i64 b] 3 (0, 0))).toSlice rfl (by simp [single]) (Nat.le_refl _) rfl (fun k _ => by simp))
  unfold rdI at n0 n1 n2
  cases r : rightI i with
  | false =>
    simp (maxSteps := 2000000) (disch := first | (simp only [go_sem, Nat.reduceBEq, Nat.reduceAdd, Nat.reduceMul, Nat.reduceSub, Nat.reduceEqDiff, Nat.reduceLeDiff, Nat.reduceLT, Int.reduceEq, Int.reduceAdd, Int.reduceSub, Int.reduceMul, Int.reduceNeg, Int.reduceLT, Int.reduceLE, Int.reduceToNat, Int.reduceBEq, Int.reduceNe, reduceCtorEq, s2.get, r]; done) | omega | (simp only [go_sem, Nat.reduceBEq, Nat.reduceAdd, Nat.reduceMul, Nat.reduceSub, Nat.reduceEqDiff, Nat.reduceLeDiff, Nat.reduceLT, Int.reduceEq, Int.reduceAdd, Int.reduceSub, Int.reduceMul, Int.reduceNeg, Int.reduceLT, Int.reduceLE, Int.reduceToNat, Int.reduceBEq, Int.reduceNe, reduceCtorEq, s2.get, r]; omega)) only [go_sem, Nat.reduceBEq, Nat.reduceAdd, Nat.reduceMul, Nat.reduceSub, Nat.reduceEqDiff, Nat.reduceLeDiff, Nat.reduceLT, Int.reduceEq, Int.reduceAdd, Int.reduceSub, Int.reduceMul, Int.reduceNeg, Int.reduceLT, Int.reduceLE, Int.reduceToNat, Int.reduceBEq, Int.reduceNe, reduceCtorEq, w64_id, w8_id, w16_id, w32_id, tmod_pos, tdiv_pos, Bool.or_true, Bool.true_or, Bool.or_false, Bool.false_or, Bool.and_false, Bool.false_and, condK_decide, s2.get, r]
    exact n0 (by rw [r]; rfl)
  | true =>
    simp (maxSteps := 2000000) (disch := first | (simp only [go_sem, Nat.reduceBEq, Nat.reduceAdd, Nat.reduceMul, Nat.reduceSub, Nat.reduceEqDiff, Nat.reduceLeDiff, Nat.reduceLT, Int.reduceEq, Int.reduceAdd, Int.reduceSub, Int.reduceMul, Int.reduceNeg, Int.reduceLT, Int.reduceLE, Int.reduceToNat, Int.reduceBEq, Int.reduceNe, reduceCtorEq, s2.get, r]; done) | omega | (simp only [go_sem, Nat.reduceBEq, Nat.reduceAdd, Nat.reduceMul, Nat.reduceSub, Nat.reduceEqDiff, Nat.reduceLeDiff, Nat.reduceLT, Int.reduceEq, Int.reduceAdd, Int.reduceSub, Int.reduceMul, Int.reduceNeg, Int.reduceLT, Int.reduceLE, Int.reduceToNat, Int.reduceBEq, Int.reduceNe, reduceCtorEq, s2.get, r]; omega)) only [go_sem, Nat.reduceBEq, Nat.reduceAdd, Nat.reduceMul, Nat.reduceSub, Nat.reduceEqDiff, Nat.reduceLeDiff, Nat.reduceLT, Int.reduceEq, Int.reduceAdd, Int.reduceSub, Int.reduceMul, Int.reduceNeg, Int.reduceLT, Int.reduceLE, Int.reduceToNat, Int.reduceBEq, Int.reduceNe, reduceCtorEq, w64_id, w8_id, w16_id, w32_id, tmod_pos, tdiv_pos, Bool.or_true, Bool.true_or, Bool.or_false, Bool.false_or, Bool.and_false, Bool.false_and, condK_decide, s2.get, r]
    simp only [r, if_true] at n0 n1 n2
    clear hR
    unfold rdP two at n0 n1 n2
    repeat' (first | apply And.intro | intro _)
    all_goals first
      | exact n0 (by simp [*])
      | exact n1 _ (by simp [*])
      | exact n2 _ _ (by simp [*])
end
end Go.Eng
