/-
  package cspace: Slot, Lookup.
-/
import Derived.Test.YtlkofpoginokbaaCsp4
namespace Go.Eng
set_option linter.unusedSimpArgs false
set_option linter.unusedVariables false
set_option maxRecDepth 16000
set_option maxHeartbeats 4000000
open Go Go.Proofs
def slotN (L : List Nd) (root : Cap) (w depth : Int) : Int × Int × Int :=
  if (resolveN L root w depth).2.2.2 = 0 ∧ 0 < (resolveN L root w depth).2.2.1 then (0, 0, 123) else ((resolveN L root w depth).1, (resolveN L root w depth).2.1, (resolveN L root w depth).2.2.2)
def slotI (x : Int × Int × Int) : Value := .tuple #[.agg #[.int .i64 x.1, .int .i64 x.2.1], .int .i64 x.2.2]
def lookupN (L : List Nd) (root : Cap) (w : Int) : Cap × Int × Int × Int :=
  if (resolveN L root w 16).2.2.2 ≠ 0 then (Cap.zero, 0, 0, (resolveN L root w 16).2.2.2)
  else if (getN L (resolveN L root w 16).1 (resolveN L root w 16).2.1).1 = Cap.zero then (Cap.zero, 0, 0, 121)
  else ((getN L (resolveN L root w 16).1 (resolveN L root w 16).2.1).1, (resolveN L root w 16).1, (resolveN L root w 16).2.1, 0)
def lookI (x : Cap × Int × Int × Int) : Value := .tuple #[.agg x.1.cells.toArray, .agg #[.int .i64 x.2.1, .int .i64 x.2.2.1], .int .i64 x.2.2.2]
section
variable {h : Heap} {F : List SP} {sb : Nat} {L : List Nd}
theorem slot_S (hs : Sat h (spaceS sb L :: F)) (hw : wfL L) (root : Cap) (hf : root.fit) (w depth : Int) (hb : 0 ≤ w ∧ w ≤ 4294967295) : HCalls Try.prog 26 #[.pointer (some ⟨sb, 0, none⟩), .agg root.cells.toArray, .int .u32 w, .int .i64 depth] h fun v h' => v = slotI (slotN L root w depth) ∧ Ext h h' := by
  refine HCalls.via fun R hR => ?_
  refine HCalls.of_dev T26 Try.func26 rfl mixed (by kernel_rfl) ?_; rw [Try.results26]
  unfold slotN at hR
  simp (maxSteps := 2000000) (disch := first | (simp only [go_sem, Nat.reduceBEq, Nat.reduceAdd, Nat.reduceMul, Nat.reduceSub, Nat.reduceEqDiff, Nat.reduceLeDiff, Nat.reduceLT, Int.reduceEq, Int.reduceAdd, Int.reduceSub, Int.reduceMul, Int.reduceNeg, Int.reduceLT, Int.reduceLE, Int.reduceToNat, Int.reduceBEq, Int.reduceNe, reduceCtorEq]; done) | omega | (simp only [go_sem, Nat.reduceBEq, Nat.reduceAdd, Nat.reduceMul, Nat.reduceSub, Nat.reduceEqDiff, Nat.reduceLeDiff, Nat.reduceLT, Int.reduceEq, Int.reduceAdd, Int.reduceSub, Int.reduceMul, Int.reduceNeg, Int.reduceLT, Int.reduceLE, Int.reduceToNat, Int.reduceBEq, Int.reduceNe, reduceCtorEq]; omega)) only [go_sem, Nat.reduceBEq, Nat.reduceAdd, Nat.reduceMul, Nat.reduceSub, Nat.reduceEqDiff, Nat.reduceLeDiff, Nat.reduceLT, Int.reduceEq, Int.reduceAdd, Int.reduceSub, Int.reduceMul, Int.reduceNeg, Int.reduceLT, Int.reduceLE, Int.reduceToNat, Int.reduceBEq, Int.reduceNe, reduceCtorEq, w64_id, w8_id, w16_id, w32_id, tmod_pos, tdiv_pos, Bool.or_true, Bool.true_or, Bool.or_false, Bool.false_or, Bool.and_false, Bool.false_and, condK_decide]
  have s1 := ((Sat.init h).push (.cells root.cells.toArray 24 (0, 0))).push (.cells [.int .i64 0, .int .i64 0].toArray 27 (0, 0))
  rw [size_push'] at s1
  simp only [Cap.cells_eq] at s1
  refine (resolve_S (hs.grow (s1.front 2).ext) hw root hf w depth hb).mono ?_
  rintro v k ⟨rfl, xk⟩
  have s2 := s1.grow xk
  clear s1
  generalize resolveN L root w depth = x at *
  obtain ⟨n, i, l, e⟩ := x
  simp only [resI] at *
  have s3 := s2.push (.cells [.int .i64 n, .int .i64 i].toArray 27 (0, 0))
  have s4 := (s3.front 1).set (.cells [.int .i64 0, .int .i64 0].toArray 27 (0, 0))
  have s5 := (s3.front 1).set (.cells [.int .i64 n, .int .i64 i].toArray 27 (0, 0))
  by_cases e0 : e = 0
  · by_cases l0 : 0 < l
    · rw [if_pos ⟨e0, l0⟩] at hR
      simp (maxSteps := 2000000) (disch := first | (simp only [go_sem, Nat.reduceBEq, Nat.reduceAdd, Nat.reduceMul, Nat.reduceSub, Nat.reduceEqDiff, Nat.reduceLeDiff, Nat.reduceLT, Int.reduceEq, Int.reduceAdd, Int.reduceSub, Int.reduceMul, Int.reduceNeg, Int.reduceLT, Int.reduceLE, Int.reduceToNat, Int.reduceBEq, Int.reduceNe, reduceCtorEq, (s3.front 1).get, s4.get, e0, l0]; done) | omega | (simp only [go_sem, Nat.reduceBEq, Nat.reduceAdd, Nat.reduceMul, Nat.reduceSub, Nat.reduceEqDiff, Nat.reduceLeDiff, Nat.reduceLT, Int.reduceEq, Int.reduceAdd, Int.reduceSub, Int.reduceMul, Int.reduceNeg, Int.reduceLT, Int.reduceLE, Int.reduceToNat, Int.reduceBEq, Int.reduceNe, reduceCtorEq, (s3.front 1).get, s4.get, e0, l0]; omega)) only [go_sem, Nat.reduceBEq, Nat.reduceAdd, Nat.reduceMul, Nat.reduceSub, Nat.reduceEqDiff, Nat.reduceLeDiff, Nat.reduceLT, Int.reduceEq, Int.reduceAdd, Int.reduceSub, Int.reduceMul, Int.reduceNeg, Int.reduceLT, Int.reduceLE, Int.reduceToNat, Int.reduceBEq, Int.reduceNe, reduceCtorEq, w64_id, w8_id, w16_id, w32_id, tmod_pos, tdiv_pos, Bool.or_true, Bool.true_or, Bool.or_false, Bool.false_or, Bool.and_false, Bool.false_and, condK_decide, (s3.front 1).get, s4.get, e0, l0]
      exact hR _ _ ⟨rfl, (s4.front 3).ext⟩
    · rw [if_neg (fun q => l0 q.2)] at hR
      simp (maxSteps := 2000000) (disch := first | (simp only [go_sem, Nat.reduceBEq, Nat.reduceAdd, Nat.reduceMul, Nat.reduceSub, Nat.reduceEqDiff, Nat.reduceLeDiff, Nat.reduceLT, Int.reduceEq, Int.reduceAdd, Int.reduceSub, Int.reduceMul, Int.reduceNeg, Int.reduceLT, Int.reduceLE, Int.reduceToNat, Int.reduceBEq, Int.reduceNe, reduceCtorEq, (s3.front 1).get, s3.get, s5.get, e0, l0]; done) | omega | (simp only [go_sem, Nat.reduceBEq, Nat.reduceAdd, Nat.reduceMul, Nat.reduceSub, Nat.reduceEqDiff, Nat.reduceLeDiff, Nat.reduceLT, Int.reduceEq, Int.reduceAdd, Int.reduceSub, Int.reduceMul, Int.reduceNeg, Int.reduceLT, Int.reduceLE, Int.reduceToNat, Int.reduceBEq, Int.reduceNe, reduceCtorEq, (s3.front 1).get, s3.get, s5.get, e0, l0]; omega)) only [go_sem, Nat.reduceBEq, Nat.reduceAdd, Nat.reduceMul, Nat.reduceSub, Nat.reduceEqDiff, Nat.reduceLeDiff, Nat.reduceLT, Int.reduceEq, Int.reduceAdd, Int.reduceSub, Int.reduceMul, Int.reduceNeg, Int.reduceLT, Int.reduceLE, Int.reduceToNat, Int.reduceBEq, Int.reduceNe, reduceCtorEq, w64_id, w8_id, w16_id, w32_id, tmod_pos, tdiv_pos, Bool.or_true, Bool.true_or, Bool.or_false, Bool.false_or, Bool.and_false, Bool.false_and, condK_decide, (s3.front 1).get, s3.get, s5.get, e0, l0]
      exact hR _ _ ⟨by rw [e0]; rfl, (s5.front 3).ext⟩
  · rw [if_neg (fun q => e0 q.1)] at hR
    simp (maxSteps := 2000000) (disch := first | (simp only [go_sem, Nat.reduceBEq, Nat.reduceAdd, Nat.reduceMul, Nat.reduceSub, Nat.reduceEqDiff, Nat.reduceLeDiff, Nat.reduceLT, Int.reduceEq, Int.reduceAdd, Int.reduceSub, Int.reduceMul, Int.reduceNeg, Int.reduceLT, Int.reduceLE, Int.reduceToNat, Int.reduceBEq, Int.reduceNe, reduceCtorEq, (s3.front 1).get, s3.get, s5.get, e0]; done) | omega | (simp only [go_sem, Nat.reduceBEq, Nat.reduceAdd, Nat.reduceMul, Nat.reduceSub, Nat.reduceEqDiff, Nat.reduceLeDiff, Nat.reduceLT, Int.reduceEq, Int.reduceAdd, Int.reduceSub, Int.reduceMul, Int.reduceNeg, Int.reduceLT, Int.reduceLE, Int.reduceToNat, Int.reduceBEq, Int.reduceNe, reduceCtorEq, (s3.front 1).get, s3.get, s5.get, e0]; omega)) only [go_sem, Nat.reduceBEq, Nat.reduceAdd, Nat.reduceMul, Nat.reduceSub, Nat.reduceEqDiff, Nat.reduceLeDiff, Nat.reduceLT, Int.reduceEq, Int.reduceAdd, Int.reduceSub, Int.reduceMul, Int.reduceNeg, Int.reduceLT, Int.reduceLE, Int.reduceToNat, Int.reduceBEq, Int.reduceNe, reduceCtorEq, w64_id, w8_id, w16_id, w32_id, tmod_pos, tdiv_pos, Bool.or_true, Bool.true_or, Bool.or_false, Bool.false_or, Bool.and_false, Bool.false_and, condK_decide, (s3.front 1).get, s3.get, s5.get, e0]
    exact hR _ _ ⟨rfl, (s5.front 3).ext⟩
theorem lookup_S (hs : Sat h (spaceS sb L :: F)) (hw : wfL L) (root : Cap) (hf : root.fit) (w : Int) (hb : 0 ≤ w ∧ w ≤ 4294967295) : HCalls Try.prog 32 #[.pointer (some ⟨sb, 0, none⟩), .agg root.cells.toArray, .int .u32 w] h fun v h' => v = lookI (lookupN L root w) ∧ Ext h h' := by
  refine HCalls.via fun R hR => ?_
  refine HCalls.of_dev T32 Try.func32 rfl mixed (by kernel_rfl) ?_; rw [Try.results32]
  unfold lookupN at hR
  simp (maxSteps := 2000000) (disch := first | (simp only [go_sem, Nat.reduceBEq, Nat.reduceAdd, Nat.reduceMul, Nat.reduceSub, Nat.reduceEqDiff, Nat.reduceLeDiff, Nat.reduceLT, Int.reduceEq, Int.reduceAdd, Int.reduceSub, Int.reduceMul, Int.reduceNeg, Int.reduceLT, Int.reduceLE, Int.reduceToNat, Int.reduceBEq, Int.reduceNe, reduceCtorEq]; done) | omega | (simp only [go_sem, Nat.reduceBEq, Nat.reduceAdd, Nat.reduceMul, Nat.reduceSub, Nat.reduceEqDiff, Nat.reduceLeDiff, Nat.reduceLT, Int.reduceEq, Int.reduceAdd, Int.reduceSub, Int.reduceMul, Int.reduceNeg, Int.reduceLT, Int.reduceLE, Int.reduceToNat, Int.reduceBEq, Int.reduceNe, reduceCtorEq]; omega)) only [go_sem, Nat.reduceBEq, Nat.reduceAdd, Nat.reduceMul, Nat.reduceSub, Nat.reduceEqDiff, Nat.reduceLeDiff, Nat.reduceLT, Int.reduceEq, Int.reduceAdd, Int.reduceSub, Int.reduceMul, Int.reduceNeg, Int.reduceLT, Int.reduceLE, Int.reduceToNat, Int.reduceBEq, Int.reduceNe, reduceCtorEq, w64_id, w8_id, w16_id, w32_id, tmod_pos, tdiv_pos, Bool.or_true, Bool.true_or, Bool.or_false, Bool.false_or, Bool.and_false, Bool.false_and, condK_decide]
  have s1 := (((Sat.init h).push (.cells root.cells.toArray 24 (0, 0))).push (.cells Cap.zero.cells.toArray 24 (0, 0))).push (.cells [.int .i64 0, .int .i64 0].toArray 27 (0, 0))
  simp only [size_push', Cap.cells_eq, Cap.zero] at s1
  refine (resolve_S (hs.grow (s1.front 3).ext) hw root hf w 16 hb).mono ?_
  rintro v k ⟨rfl, xk⟩
  have s2 := s1.grow xk
  clear s1
  generalize resolveN L root w 16 = x at *
  obtain ⟨n, i, l, e⟩ := x
  simp only [resI] at *
  have s3 := s2.push (.cells [.int .i64 n, .int .i64 i].toArray 27 (0, 0))
  by_cases e0 : e = 0
  · subst e0
    rw [if_neg (by simp)] at hR
    simp (maxSteps := 2000000) (disch := first | (simp only [go_sem, Nat.reduceBEq, Nat.reduceAdd, Nat.reduceMul, Nat.reduceSub, Nat.reduceEqDiff, Nat.reduceLeDiff, Nat.reduceLT, Int.reduceEq, Int.reduceAdd, Int.reduceSub, Int.reduceMul, Int.reduceNeg, Int.reduceLT, Int.reduceLE, Int.reduceToNat, Int.reduceBEq, Int.reduceNe, reduceCtorEq, s3.get]; done) | omega | (simp only [go_sem, Nat.reduceBEq, Nat.reduceAdd, Nat.reduceMul, Nat.reduceSub, Nat.reduceEqDiff, Nat.reduceLeDiff, Nat.reduceLT, Int.reduceEq, Int.reduceAdd, Int.reduceSub, Int.reduceMul, Int.reduceNeg, Int.reduceLT, Int.reduceLE, Int.reduceToNat, Int.reduceBEq, Int.reduceNe, reduceCtorEq, s3.get]; omega)) only [go_sem, Nat.reduceBEq, Nat.reduceAdd, Nat.reduceMul, Nat.reduceSub, Nat.reduceEqDiff, Nat.reduceLeDiff, Nat.reduceLT, Int.reduceEq, Int.reduceAdd, Int.reduceSub, Int.reduceMul, Int.reduceNeg, Int.reduceLT, Int.reduceLE, Int.reduceToNat, Int.reduceBEq, Int.reduceNe, reduceCtorEq, w64_id, w8_id, w16_id, w32_id, tmod_pos, tdiv_pos, Bool.or_true, Bool.true_or, Bool.or_false, Bool.false_or, Bool.and_false, Bool.false_and, condK_decide, s3.get]
    refine (cget_S (hs.grow (s3.front 4).ext) n i).mono ?_
    rintro v k2 ⟨rfl, xk2⟩
    have s4 := s3.grow xk2
    clear s3
    unfold capI
    generalize (getN L n i) = y at *
    obtain ⟨c, e⟩ := y
    simp only at hR ⊢
    have s5 := s4.push (.cells c.cells.toArray 24 (0, 0))
    simp only [Cap.cells_eq] at s5
    simp (maxSteps := 2000000) (disch := first | (simp only [go_sem, Nat.reduceBEq, Nat.reduceAdd, Nat.reduceMul, Nat.reduceSub, Nat.reduceEqDiff, Nat.reduceLeDiff, Nat.reduceLT, Int.reduceEq, Int.reduceAdd, Int.reduceSub, Int.reduceMul, Int.reduceNeg, Int.reduceLT, Int.reduceLE, Int.reduceToNat, Int.reduceBEq, Int.reduceNe, reduceCtorEq, s4.get, s5.get]; done) | omega | (simp only [go_sem, Nat.reduceBEq, Nat.reduceAdd, Nat.reduceMul, Nat.reduceSub, Nat.reduceEqDiff, Nat.reduceLeDiff, Nat.reduceLT, Int.reduceEq, Int.reduceAdd, Int.reduceSub, Int.reduceMul, Int.reduceNeg, Int.reduceLT, Int.reduceLE, Int.reduceToNat, Int.reduceBEq, Int.reduceNe, reduceCtorEq, s4.get, s5.get]; omega)) only [go_sem, Nat.reduceBEq, Nat.reduceAdd, Nat.reduceMul, Nat.reduceSub, Nat.reduceEqDiff, Nat.reduceLeDiff, Nat.reduceLT, Int.reduceEq, Int.reduceAdd, Int.reduceSub, Int.reduceMul, Int.reduceNeg, Int.reduceLT, Int.reduceLE, Int.reduceToNat, Int.reduceBEq, Int.reduceNe, reduceCtorEq, w64_id, w8_id, w16_id, w32_id, tmod_pos, tdiv_pos, Bool.or_true, Bool.true_or, Bool.or_false, Bool.false_or, Bool.and_false, Bool.false_and, condK_decide, s4.get, s5.get]
    refine (empty_S c).mono ?_
    rintro v k3 ⟨rfl, xk3⟩
    have s6 := s5.grow xk3
    by_cases z : c = Cap.zero
    · rw [if_pos z] at hR
      have s7 := (s6.front 3).set (.cells [.int .i64 0, .int .i64 0, .int .i64 0, .int .i64 0, .int .i64 0, .int .i64 0, .int .i64 0, .bool false].toArray 24 (0, 0))
      have s8 := (s7.front 3).set (.cells [.int .i64 0, .int .i64 0].toArray 27 (0, 0))
      simp (maxSteps := 2000000) (disch := first | (simp only [go_sem, Nat.reduceBEq, Nat.reduceAdd, Nat.reduceMul, Nat.reduceSub, Nat.reduceEqDiff, Nat.reduceLeDiff, Nat.reduceLT, Int.reduceEq, Int.reduceAdd, Int.reduceSub, Int.reduceMul, Int.reduceNeg, Int.reduceLT, Int.reduceLE, Int.reduceToNat, Int.reduceBEq, Int.reduceNe, reduceCtorEq, z, (s6.front 3).get, (s7.front 3).get, s8.get, (s8.front 1).get]; done) | omega | (simp only [go_sem, Nat.reduceBEq, Nat.reduceAdd, Nat.reduceMul, Nat.reduceSub, Nat.reduceEqDiff, Nat.reduceLeDiff, Nat.reduceLT, Int.reduceEq, Int.reduceAdd, Int.reduceSub, Int.reduceMul, Int.reduceNeg, Int.reduceLT, Int.reduceLE, Int.reduceToNat, Int.reduceBEq, Int.reduceNe, reduceCtorEq, z, (s6.front 3).get, (s7.front 3).get, s8.get, (s8.front 1).get]; omega)) only [go_sem, Nat.reduceBEq, Nat.reduceAdd, Nat.reduceMul, Nat.reduceSub, Nat.reduceEqDiff, Nat.reduceLeDiff, Nat.reduceLT, Int.reduceEq, Int.reduceAdd, Int.reduceSub, Int.reduceMul, Int.reduceNeg, Int.reduceLT, Int.reduceLE, Int.reduceToNat, Int.reduceBEq, Int.reduceNe, reduceCtorEq, w64_id, w8_id, w16_id, w32_id, tmod_pos, tdiv_pos, Bool.or_true, Bool.true_or, Bool.or_false, Bool.false_or, Bool.and_false, Bool.false_and, condK_decide, z, (s6.front 3).get, (s7.front 3).get, s8.get, (s8.front 1).get]
      exact hR _ _ ⟨rfl, (s8.front 5).ext⟩
    · rw [if_neg z] at hR
      have s7 := (s6.front 3).set (.cells [.int .i64 c.K, .int .i64 c.O, .int .i64 c.R, .int .i64 c.B, .int .i64 c.X, .int .i64 c.G, .int .i64 c.W, .bool c.D].toArray 24 (0, 0))
      have s8 := (s7.front 3).set (.cells [.int .i64 n, .int .i64 i].toArray 27 (0, 0))
      simp (maxSteps := 2000000) (disch := first | (simp only [go_sem, Nat.reduceBEq, Nat.reduceAdd, Nat.reduceMul, Nat.reduceSub, Nat.reduceEqDiff, Nat.reduceLeDiff, Nat.reduceLT, Int.reduceEq, Int.reduceAdd, Int.reduceSub, Int.reduceMul, Int.reduceNeg, Int.reduceLT, Int.reduceLE, Int.reduceToNat, Int.reduceBEq, Int.reduceNe, reduceCtorEq, z, s6.get, (s6.front 1).get, (s6.front 3).get, (s7.front 2).get, (s7.front 3).get, s8.get, (s8.front 1).get]; done) | omega | (simp only [go_sem, Nat.reduceBEq, Nat.reduceAdd, Nat.reduceMul, Nat.reduceSub, Nat.reduceEqDiff, Nat.reduceLeDiff, Nat.reduceLT, Int.reduceEq, Int.reduceAdd, Int.reduceSub, Int.reduceMul, Int.reduceNeg, Int.reduceLT, Int.reduceLE, Int.reduceToNat, Int.reduceBEq, Int.reduceNe, reduceCtorEq, z, s6.get, (s6.front 1).get, (s6.front 3).get, (s7.front 2).get, (s7.front 3).get, s8.get, (s8.front 1).get]; omega)) only [go_sem, Nat.reduceBEq, Nat.reduceAdd, Nat.reduceMul, Nat.reduceSub, Nat.reduceEqDiff, Nat.reduceLeDiff, Nat.reduceLT, Int.reduceEq, Int.reduceAdd, Int.reduceSub, Int.reduceMul, Int.reduceNeg, Int.reduceLT, Int.reduceLE, Int.reduceToNat, Int.reduceBEq, Int.reduceNe, reduceCtorEq, w64_id, w8_id, w16_id, w32_id, tmod_pos, tdiv_pos, Bool.or_true, Bool.true_or, Bool.or_false, Bool.false_or, Bool.and_false, Bool.false_and, condK_decide, z, s6.get, (s6.front 1).get, (s6.front 3).get, (s7.front 2).get, (s7.front 3).get, s8.get, (s8.front 1).get]
      exact hR _ _ ⟨rfl, (s8.front 5).ext⟩
  · rw [if_pos e0] at hR
    have s4 := (s3.front 2).set (.cells [.int .i64 0, .int .i64 0, .int .i64 0, .int .i64 0, .int .i64 0, .int .i64 0, .int .i64 0, .bool false].toArray 24 (0, 0))
    have s5 := (s4.front 2).set (.cells [.int .i64 0, .int .i64 0].toArray 27 (0, 0))
    simp (maxSteps := 2000000) (disch := first | (simp only [go_sem, Nat.reduceBEq, Nat.reduceAdd, Nat.reduceMul, Nat.reduceSub, Nat.reduceEqDiff, Nat.reduceLeDiff, Nat.reduceLT, Int.reduceEq, Int.reduceAdd, Int.reduceSub, Int.reduceMul, Int.reduceNeg, Int.reduceLT, Int.reduceLE, Int.reduceToNat, Int.reduceBEq, Int.reduceNe, reduceCtorEq, (s3.front 1).get, (s3.front 2).get, (s4.front 2).get, s5.get, (s5.front 1).get, e0]; done) | omega | (simp only [go_sem, Nat.reduceBEq, Nat.reduceAdd, Nat.reduceMul, Nat.reduceSub, Nat.reduceEqDiff, Nat.reduceLeDiff, Nat.reduceLT, Int.reduceEq, Int.reduceAdd, Int.reduceSub, Int.reduceMul, Int.reduceNeg, Int.reduceLT, Int.reduceLE, Int.reduceToNat, Int.reduceBEq, Int.reduceNe, reduceCtorEq, (s3.front 1).get, (s3.front 2).get, (s4.front 2).get, s5.get, (s5.front 1).get, e0]; omega)) only [go_sem, Nat.reduceBEq, Nat.reduceAdd, Nat.reduceMul, Nat.reduceSub, Nat.reduceEqDiff, Nat.reduceLeDiff, Nat.reduceLT, Int.reduceEq, Int.reduceAdd, Int.reduceSub, Int.reduceMul, Int.reduceNeg, Int.reduceLT, Int.reduceLE, Int.reduceToNat, Int.reduceBEq, Int.reduceNe, reduceCtorEq, w64_id, w8_id, w16_id, w32_id, tmod_pos, tdiv_pos, Bool.or_true, Bool.true_or, Bool.or_false, Bool.false_or, Bool.and_false, Bool.false_and, condK_decide, (s3.front 1).get, (s3.front 2).get, (s4.front 2).get, s5.get, (s5.front 1).get, e0]
    exact hR _ _ ⟨rfl, (s5.front 4).ext⟩
end
end Go.Eng
