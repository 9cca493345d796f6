/-
  The law CpuReckons.
-/
import Derived.Test.YtpmmbmmopbmopaaGreatDoorZj20
namespace Go.Eng
set_option linter.unusedSimpArgs false
set_option linter.unusedVariables false
set_option maxRecDepth 16000
set_option maxHeartbeats 4000000
open Go Go.Proofs
def pcC (c : Cp) (p : Int) : Cp := ⟨c.Regs, p, c.Sys⟩
theorem nth_regs {regs : List Int} (hr : regs.length = 16) {b : Nat} (hb : b < 16) : nthL (regs.map (Value.int .u32)) b = some (.int .u32 (rg (cpuOf regs) b)) := by
  rw [nthL_eq, List.getElem?_map]
  unfold rg cpuOf
  rw [Int.toNat_natCast, List.getD_eq_getElem?_getD, List.getElem?_eq_getElem (by omega)]
  rfl
theorem reckon_bd {op x y : Int} (h : 2 ≤ op) : 0 ≤ reckon op x y 0 ∧ reckon op x y 0 < 4294967296 := by
  unfold reckon
  rw [if_neg (by omega)]
  split
  · omega
  split
  · omega
  split
  · exact and_do_bd _ _
  split
  · exact xor_do_bd _ _
  · exact shl_do_bd _ _
section
variable {h : Heap}
theorem reckons_law (op a b c m : Int) (regs : List Int) (hr : regs.length = 16) (hb : ∀ x ∈ regs, 0 ≤ x ∧ x < 4294967296) :
    HCalls Tryz.prog 3 #[.int .i64 op, .agg (regs.map (Value.int .u32)).toArray, .int .i64 a, .int .i64 b, .int .i64 c, .int .i64 m] h fun v h' => v = .bool true ∧ Ext h h' := by
  refine HCalls.via fun R hR => ?_
  refine HCalls.of_dev T3 Tryz.func3 rfl mixed (by kernel_rfl) ?_; rw [Tryz.results3]
  simp (maxSteps := 2000000) (disch := first | (simp only [go_sem, Nat.reduceBEq, Nat.reduceAdd, Nat.reduceMul, Nat.reduceSub, Nat.reduceEqDiff, Nat.reduceLeDiff, Nat.reduceLT, Int.reduceEq, Int.reduceAdd, Int.reduceSub, Int.reduceMul, Int.reduceNeg, Int.reduceLT, Int.reduceLE, Int.reduceToNat, Int.reduceBEq, Int.reduceNe, reduceCtorEq]; done) | omega | (simp only [go_sem, Nat.reduceBEq, Nat.reduceAdd, Nat.reduceMul, Nat.reduceSub, Nat.reduceEqDiff, Nat.reduceLeDiff, Nat.reduceLT, Int.reduceEq, Int.reduceAdd, Int.reduceSub, Int.reduceMul, Int.reduceNeg, Int.reduceLT, Int.reduceLE, Int.reduceToNat, Int.reduceBEq, Int.reduceNe, reduceCtorEq]; omega)) only [go_sem, Nat.reduceBEq, Nat.reduceAdd, Nat.reduceMul, Nat.reduceSub, Nat.reduceEqDiff, Nat.reduceLeDiff, Nat.reduceLT, Int.reduceEq, Int.reduceAdd, Int.reduceSub, Int.reduceMul, Int.reduceNeg, Int.reduceLT, Int.reduceLE, Int.reduceToNat, Int.reduceBEq, Int.reduceNe, reduceCtorEq, w64_id, w8_id, w16_id, w32_id, tmod_pos, tdiv_pos, Bool.or_true, Bool.true_or, Bool.or_false, Bool.false_or, Bool.and_false, Bool.false_and, condK_decide]
  refine awake_S.mono ?_
  rintro v h1 ⟨rfl, x1⟩
  have s1 := ((Sat.init h).push (.cells (regs.map (Value.int .u32)).toArray 23 (0, 0))).grow x1
  have out : R (.bool true) h1 := hR _ _ ⟨rfl, (s1.front 1).ext⟩
  by_cases c0 : op < 1
  · simp (maxSteps := 2000000) (disch := first | (simp only [go_sem, Nat.reduceBEq, Nat.reduceAdd, Nat.reduceMul, Nat.reduceSub, Nat.reduceEqDiff, Nat.reduceLeDiff, Nat.reduceLT, Int.reduceEq, Int.reduceAdd, Int.reduceSub, Int.reduceMul, Int.reduceNeg, Int.reduceLT, Int.reduceLE, Int.reduceToNat, Int.reduceBEq, Int.reduceNe, reduceCtorEq, c0]; done) | omega | (simp only [go_sem, Nat.reduceBEq, Nat.reduceAdd, Nat.reduceMul, Nat.reduceSub, Nat.reduceEqDiff, Nat.reduceLeDiff, Nat.reduceLT, Int.reduceEq, Int.reduceAdd, Int.reduceSub, Int.reduceMul, Int.reduceNeg, Int.reduceLT, Int.reduceLE, Int.reduceToNat, Int.reduceBEq, Int.reduceNe, reduceCtorEq, c0]; omega)) only [go_sem, Nat.reduceBEq, Nat.reduceAdd, Nat.reduceMul, Nat.reduceSub, Nat.reduceEqDiff, Nat.reduceLeDiff, Nat.reduceLT, Int.reduceEq, Int.reduceAdd, Int.reduceSub, Int.reduceMul, Int.reduceNeg, Int.reduceLT, Int.reduceLE, Int.reduceToNat, Int.reduceBEq, Int.reduceNe, reduceCtorEq, w64_id, w8_id, w16_id, w32_id, tmod_pos, tdiv_pos, Bool.or_true, Bool.true_or, Bool.or_false, Bool.false_or, Bool.and_false, Bool.false_and, condK_decide, c0]
    repeat (first | exact out | refine rdK_any fun _ => ?_)
  by_cases c1 : 6 < op
  · simp (maxSteps := 2000000) (disch := first | (simp only [go_sem, Nat.reduceBEq, Nat.reduceAdd, Nat.reduceMul, Nat.reduceSub, Nat.reduceEqDiff, Nat.reduceLeDiff, Nat.reduceLT, Int.reduceEq, Int.reduceAdd, Int.reduceSub, Int.reduceMul, Int.reduceNeg, Int.reduceLT, Int.reduceLE, Int.reduceToNat, Int.reduceBEq, Int.reduceNe, reduceCtorEq, c0, c1]; done) | omega | (simp only [go_sem, Nat.reduceBEq, Nat.reduceAdd, Nat.reduceMul, Nat.reduceSub, Nat.reduceEqDiff, Nat.reduceLeDiff, Nat.reduceLT, Int.reduceEq, Int.reduceAdd, Int.reduceSub, Int.reduceMul, Int.reduceNeg, Int.reduceLT, Int.reduceLE, Int.reduceToNat, Int.reduceBEq, Int.reduceNe, reduceCtorEq, c0, c1]; omega)) only [go_sem, Nat.reduceBEq, Nat.reduceAdd, Nat.reduceMul, Nat.reduceSub, Nat.reduceEqDiff, Nat.reduceLeDiff, Nat.reduceLT, Int.reduceEq, Int.reduceAdd, Int.reduceSub, Int.reduceMul, Int.reduceNeg, Int.reduceLT, Int.reduceLE, Int.reduceToNat, Int.reduceBEq, Int.reduceNe, reduceCtorEq, w64_id, w8_id, w16_id, w32_id, tmod_pos, tdiv_pos, Bool.or_true, Bool.true_or, Bool.or_false, Bool.false_or, Bool.and_false, Bool.false_and, condK_decide, c0, c1]
    repeat (first | exact out | refine rdK_any fun _ => ?_)
  by_cases c2 : a < 0
  · simp (maxSteps := 2000000) (disch := first | (simp only [go_sem, Nat.reduceBEq, Nat.reduceAdd, Nat.reduceMul, Nat.reduceSub, Nat.reduceEqDiff, Nat.reduceLeDiff, Nat.reduceLT, Int.reduceEq, Int.reduceAdd, Int.reduceSub, Int.reduceMul, Int.reduceNeg, Int.reduceLT, Int.reduceLE, Int.reduceToNat, Int.reduceBEq, Int.reduceNe, reduceCtorEq, c0, c1, c2]; done) | omega | (simp only [go_sem, Nat.reduceBEq, Nat.reduceAdd, Nat.reduceMul, Nat.reduceSub, Nat.reduceEqDiff, Nat.reduceLeDiff, Nat.reduceLT, Int.reduceEq, Int.reduceAdd, Int.reduceSub, Int.reduceMul, Int.reduceNeg, Int.reduceLT, Int.reduceLE, Int.reduceToNat, Int.reduceBEq, Int.reduceNe, reduceCtorEq, c0, c1, c2]; omega)) only [go_sem, Nat.reduceBEq, Nat.reduceAdd, Nat.reduceMul, Nat.reduceSub, Nat.reduceEqDiff, Nat.reduceLeDiff, Nat.reduceLT, Int.reduceEq, Int.reduceAdd, Int.reduceSub, Int.reduceMul, Int.reduceNeg, Int.reduceLT, Int.reduceLE, Int.reduceToNat, Int.reduceBEq, Int.reduceNe, reduceCtorEq, w64_id, w8_id, w16_id, w32_id, tmod_pos, tdiv_pos, Bool.or_true, Bool.true_or, Bool.or_false, Bool.false_or, Bool.and_false, Bool.false_and, condK_decide, c0, c1, c2]
    repeat (first | exact out | refine rdK_any fun _ => ?_)
  by_cases c3 : 15 < a
  · simp (maxSteps := 2000000) (disch := first | (simp only [go_sem, Nat.reduceBEq, Nat.reduceAdd, Nat.reduceMul, Nat.reduceSub, Nat.reduceEqDiff, Nat.reduceLeDiff, Nat.reduceLT, Int.reduceEq, Int.reduceAdd, Int.reduceSub, Int.reduceMul, Int.reduceNeg, Int.reduceLT, Int.reduceLE, Int.reduceToNat, Int.reduceBEq, Int.reduceNe, reduceCtorEq, c0, c1, c2, c3]; done) | omega | (simp only [go_sem, Nat.reduceBEq, Nat.reduceAdd, Nat.reduceMul, Nat.reduceSub, Nat.reduceEqDiff, Nat.reduceLeDiff, Nat.reduceLT, Int.reduceEq, Int.reduceAdd, Int.reduceSub, Int.reduceMul, Int.reduceNeg, Int.reduceLT, Int.reduceLE, Int.reduceToNat, Int.reduceBEq, Int.reduceNe, reduceCtorEq, c0, c1, c2, c3]; omega)) only [go_sem, Nat.reduceBEq, Nat.reduceAdd, Nat.reduceMul, Nat.reduceSub, Nat.reduceEqDiff, Nat.reduceLeDiff, Nat.reduceLT, Int.reduceEq, Int.reduceAdd, Int.reduceSub, Int.reduceMul, Int.reduceNeg, Int.reduceLT, Int.reduceLE, Int.reduceToNat, Int.reduceBEq, Int.reduceNe, reduceCtorEq, w64_id, w8_id, w16_id, w32_id, tmod_pos, tdiv_pos, Bool.or_true, Bool.true_or, Bool.or_false, Bool.false_or, Bool.and_false, Bool.false_and, condK_decide, c0, c1, c2, c3]
    repeat (first | exact out | refine rdK_any fun _ => ?_)
  by_cases c4 : b < 0
  · simp (maxSteps := 2000000) (disch := first | (simp only [go_sem, Nat.reduceBEq, Nat.reduceAdd, Nat.reduceMul, Nat.reduceSub, Nat.reduceEqDiff, Nat.reduceLeDiff, Nat.reduceLT, Int.reduceEq, Int.reduceAdd, Int.reduceSub, Int.reduceMul, Int.reduceNeg, Int.reduceLT, Int.reduceLE, Int.reduceToNat, Int.reduceBEq, Int.reduceNe, reduceCtorEq, c0, c1, c2, c3, c4]; done) | omega | (simp only [go_sem, Nat.reduceBEq, Nat.reduceAdd, Nat.reduceMul, Nat.reduceSub, Nat.reduceEqDiff, Nat.reduceLeDiff, Nat.reduceLT, Int.reduceEq, Int.reduceAdd, Int.reduceSub, Int.reduceMul, Int.reduceNeg, Int.reduceLT, Int.reduceLE, Int.reduceToNat, Int.reduceBEq, Int.reduceNe, reduceCtorEq, c0, c1, c2, c3, c4]; omega)) only [go_sem, Nat.reduceBEq, Nat.reduceAdd, Nat.reduceMul, Nat.reduceSub, Nat.reduceEqDiff, Nat.reduceLeDiff, Nat.reduceLT, Int.reduceEq, Int.reduceAdd, Int.reduceSub, Int.reduceMul, Int.reduceNeg, Int.reduceLT, Int.reduceLE, Int.reduceToNat, Int.reduceBEq, Int.reduceNe, reduceCtorEq, w64_id, w8_id, w16_id, w32_id, tmod_pos, tdiv_pos, Bool.or_true, Bool.true_or, Bool.or_false, Bool.false_or, Bool.and_false, Bool.false_and, condK_decide, c0, c1, c2, c3, c4]
    repeat (first | exact out | refine rdK_any fun _ => ?_)
  by_cases c5 : 15 < b
  · simp (maxSteps := 2000000) (disch := first | (simp only [go_sem, Nat.reduceBEq, Nat.reduceAdd, Nat.reduceMul, Nat.reduceSub, Nat.reduceEqDiff, Nat.reduceLeDiff, Nat.reduceLT, Int.reduceEq, Int.reduceAdd, Int.reduceSub, Int.reduceMul, Int.reduceNeg, Int.reduceLT, Int.reduceLE, Int.reduceToNat, Int.reduceBEq, Int.reduceNe, reduceCtorEq, c0, c1, c2, c3, c4, c5]; done) | omega | (simp only [go_sem, Nat.reduceBEq, Nat.reduceAdd, Nat.reduceMul, Nat.reduceSub, Nat.reduceEqDiff, Nat.reduceLeDiff, Nat.reduceLT, Int.reduceEq, Int.reduceAdd, Int.reduceSub, Int.reduceMul, Int.reduceNeg, Int.reduceLT, Int.reduceLE, Int.reduceToNat, Int.reduceBEq, Int.reduceNe, reduceCtorEq, c0, c1, c2, c3, c4, c5]; omega)) only [go_sem, Nat.reduceBEq, Nat.reduceAdd, Nat.reduceMul, Nat.reduceSub, Nat.reduceEqDiff, Nat.reduceLeDiff, Nat.reduceLT, Int.reduceEq, Int.reduceAdd, Int.reduceSub, Int.reduceMul, Int.reduceNeg, Int.reduceLT, Int.reduceLE, Int.reduceToNat, Int.reduceBEq, Int.reduceNe, reduceCtorEq, w64_id, w8_id, w16_id, w32_id, tmod_pos, tdiv_pos, Bool.or_true, Bool.true_or, Bool.or_false, Bool.false_or, Bool.and_false, Bool.false_and, condK_decide, c0, c1, c2, c3, c4, c5]
    repeat (first | exact out | refine rdK_any fun _ => ?_)
  by_cases c6 : c < 0
  · simp (maxSteps := 2000000) (disch := first | (simp only [go_sem, Nat.reduceBEq, Nat.reduceAdd, Nat.reduceMul, Nat.reduceSub, Nat.reduceEqDiff, Nat.reduceLeDiff, Nat.reduceLT, Int.reduceEq, Int.reduceAdd, Int.reduceSub, Int.reduceMul, Int.reduceNeg, Int.reduceLT, Int.reduceLE, Int.reduceToNat, Int.reduceBEq, Int.reduceNe, reduceCtorEq, c0, c1, c2, c3, c4, c5, c6]; done) | omega | (simp only [go_sem, Nat.reduceBEq, Nat.reduceAdd, Nat.reduceMul, Nat.reduceSub, Nat.reduceEqDiff, Nat.reduceLeDiff, Nat.reduceLT, Int.reduceEq, Int.reduceAdd, Int.reduceSub, Int.reduceMul, Int.reduceNeg, Int.reduceLT, Int.reduceLE, Int.reduceToNat, Int.reduceBEq, Int.reduceNe, reduceCtorEq, c0, c1, c2, c3, c4, c5, c6]; omega)) only [go_sem, Nat.reduceBEq, Nat.reduceAdd, Nat.reduceMul, Nat.reduceSub, Nat.reduceEqDiff, Nat.reduceLeDiff, Nat.reduceLT, Int.reduceEq, Int.reduceAdd, Int.reduceSub, Int.reduceMul, Int.reduceNeg, Int.reduceLT, Int.reduceLE, Int.reduceToNat, Int.reduceBEq, Int.reduceNe, reduceCtorEq, w64_id, w8_id, w16_id, w32_id, tmod_pos, tdiv_pos, Bool.or_true, Bool.true_or, Bool.or_false, Bool.false_or, Bool.and_false, Bool.false_and, condK_decide, c0, c1, c2, c3, c4, c5, c6]
    repeat (first | exact out | refine rdK_any fun _ => ?_)
  by_cases c7 : 15 < c
  · simp (maxSteps := 2000000) (disch := first | (simp only [go_sem, Nat.reduceBEq, Nat.reduceAdd, Nat.reduceMul, Nat.reduceSub, Nat.reduceEqDiff, Nat.reduceLeDiff, Nat.reduceLT, Int.reduceEq, Int.reduceAdd, Int.reduceSub, Int.reduceMul, Int.reduceNeg, Int.reduceLT, Int.reduceLE, Int.reduceToNat, Int.reduceBEq, Int.reduceNe, reduceCtorEq, c0, c1, c2, c3, c4, c5, c6, c7]; done) | omega | (simp only [go_sem, Nat.reduceBEq, Nat.reduceAdd, Nat.reduceMul, Nat.reduceSub, Nat.reduceEqDiff, Nat.reduceLeDiff, Nat.reduceLT, Int.reduceEq, Int.reduceAdd, Int.reduceSub, Int.reduceMul, Int.reduceNeg, Int.reduceLT, Int.reduceLE, Int.reduceToNat, Int.reduceBEq, Int.reduceNe, reduceCtorEq, c0, c1, c2, c3, c4, c5, c6, c7]; omega)) only [go_sem, Nat.reduceBEq, Nat.reduceAdd, Nat.reduceMul, Nat.reduceSub, Nat.reduceEqDiff, Nat.reduceLeDiff, Nat.reduceLT, Int.reduceEq, Int.reduceAdd, Int.reduceSub, Int.reduceMul, Int.reduceNeg, Int.reduceLT, Int.reduceLE, Int.reduceToNat, Int.reduceBEq, Int.reduceNe, reduceCtorEq, w64_id, w8_id, w16_id, w32_id, tmod_pos, tdiv_pos, Bool.or_true, Bool.true_or, Bool.or_false, Bool.false_or, Bool.and_false, Bool.false_and, condK_decide, c0, c1, c2, c3, c4, c5, c6, c7]
    repeat (first | exact out | refine rdK_any fun _ => ?_)
  by_cases c8 : m < 0
  · simp (maxSteps := 2000000) (disch := first | (simp only [go_sem, Nat.reduceBEq, Nat.reduceAdd, Nat.reduceMul, Nat.reduceSub, Nat.reduceEqDiff, Nat.reduceLeDiff, Nat.reduceLT, Int.reduceEq, Int.reduceAdd, Int.reduceSub, Int.reduceMul, Int.reduceNeg, Int.reduceLT, Int.reduceLE, Int.reduceToNat, Int.reduceBEq, Int.reduceNe, reduceCtorEq, c0, c1, c2, c3, c4, c5, c6, c7, c8]; done) | omega | (simp only [go_sem, Nat.reduceBEq, Nat.reduceAdd, Nat.reduceMul, Nat.reduceSub, Nat.reduceEqDiff, Nat.reduceLeDiff, Nat.reduceLT, Int.reduceEq, Int.reduceAdd, Int.reduceSub, Int.reduceMul, Int.reduceNeg, Int.reduceLT, Int.reduceLE, Int.reduceToNat, Int.reduceBEq, Int.reduceNe, reduceCtorEq, c0, c1, c2, c3, c4, c5, c6, c7, c8]; omega)) only [go_sem, Nat.reduceBEq, Nat.reduceAdd, Nat.reduceMul, Nat.reduceSub, Nat.reduceEqDiff, Nat.reduceLeDiff, Nat.reduceLT, Int.reduceEq, Int.reduceAdd, Int.reduceSub, Int.reduceMul, Int.reduceNeg, Int.reduceLT, Int.reduceLE, Int.reduceToNat, Int.reduceBEq, Int.reduceNe, reduceCtorEq, w64_id, w8_id, w16_id, w32_id, tmod_pos, tdiv_pos, Bool.or_true, Bool.true_or, Bool.or_false, Bool.false_or, Bool.and_false, Bool.false_and, condK_decide, c0, c1, c2, c3, c4, c5, c6, c7, c8]
    repeat (first | exact out | refine rdK_any fun _ => ?_)
  by_cases c9 : 65535 < m
  · simp (maxSteps := 2000000) (disch := first | (simp only [go_sem, Nat.reduceBEq, Nat.reduceAdd, Nat.reduceMul, Nat.reduceSub, Nat.reduceEqDiff, Nat.reduceLeDiff, Nat.reduceLT, Int.reduceEq, Int.reduceAdd, Int.reduceSub, Int.reduceMul, Int.reduceNeg, Int.reduceLT, Int.reduceLE, Int.reduceToNat, Int.reduceBEq, Int.reduceNe, reduceCtorEq, c0, c1, c2, c3, c4, c5, c6, c7, c8, c9]; done) | omega | (simp only [go_sem, Nat.reduceBEq, Nat.reduceAdd, Nat.reduceMul, Nat.reduceSub, Nat.reduceEqDiff, Nat.reduceLeDiff, Nat.reduceLT, Int.reduceEq, Int.reduceAdd, Int.reduceSub, Int.reduceMul, Int.reduceNeg, Int.reduceLT, Int.reduceLE, Int.reduceToNat, Int.reduceBEq, Int.reduceNe, reduceCtorEq, c0, c1, c2, c3, c4, c5, c6, c7, c8, c9]; omega)) only [go_sem, Nat.reduceBEq, Nat.reduceAdd, Nat.reduceMul, Nat.reduceSub, Nat.reduceEqDiff, Nat.reduceLeDiff, Nat.reduceLT, Int.reduceEq, Int.reduceAdd, Int.reduceSub, Int.reduceMul, Int.reduceNeg, Int.reduceLT, Int.reduceLE, Int.reduceToNat, Int.reduceBEq, Int.reduceNe, reduceCtorEq, w64_id, w8_id, w16_id, w32_id, tmod_pos, tdiv_pos, Bool.or_true, Bool.true_or, Bool.or_false, Bool.false_or, Bool.and_false, Bool.false_and, condK_decide, c0, c1, c2, c3, c4, c5, c6, c7, c8, c9]
    repeat (first | exact out | refine rdK_any fun _ => ?_)
  obtain ⟨op, rfl⟩ := Int.eq_ofNat_of_zero_le (show 0 ≤ op by omega)
  obtain ⟨a, rfl⟩ := Int.eq_ofNat_of_zero_le (show 0 ≤ a by omega)
  obtain ⟨b, rfl⟩ := Int.eq_ofNat_of_zero_le (show 0 ≤ b by omega)
  obtain ⟨c, rfl⟩ := Int.eq_ofNat_of_zero_le (show 0 ≤ c by omega)
  obtain ⟨m, rfl⟩ := Int.eq_ofNat_of_zero_le (show 0 ≤ m by omega)
  have s2 := s1.push (.cells (⟨op, a, b, c, 0⟩ : Ins).cells.toArray 26 (0, 0))
  by_cases o1 : (op : Int) = 1
  · have s3 := s1.push (.cells (⟨1, a, 0, 0, m⟩ : Ins).cells.toArray 26 (0, 0))
    simp (maxSteps := 2000000) (disch := first | (simp only [go_sem, Nat.reduceBEq, Nat.reduceAdd, Nat.reduceMul, Nat.reduceSub, Nat.reduceEqDiff, Nat.reduceLeDiff, Nat.reduceLT, Int.reduceEq, Int.reduceAdd, Int.reduceSub, Int.reduceMul, Int.reduceNeg, Int.reduceLT, Int.reduceLE, Int.reduceToNat, Int.reduceBEq, Int.reduceNe, reduceCtorEq, c0, c1, c2, c3, c4, c5, c6, c7, c8, c9, o1]; done) | omega | (simp only [go_sem, Nat.reduceBEq, Nat.reduceAdd, Nat.reduceMul, Nat.reduceSub, Nat.reduceEqDiff, Nat.reduceLeDiff, Nat.reduceLT, Int.reduceEq, Int.reduceAdd, Int.reduceSub, Int.reduceMul, Int.reduceNeg, Int.reduceLT, Int.reduceLE, Int.reduceToNat, Int.reduceBEq, Int.reduceNe, reduceCtorEq, c0, c1, c2, c3, c4, c5, c6, c7, c8, c9, o1]; omega)) only [go_sem, Nat.reduceBEq, Nat.reduceAdd, Nat.reduceMul, Nat.reduceSub, Nat.reduceEqDiff, Nat.reduceLeDiff, Nat.reduceLT, Int.reduceEq, Int.reduceAdd, Int.reduceSub, Int.reduceMul, Int.reduceNeg, Int.reduceLT, Int.reduceLE, Int.reduceToNat, Int.reduceBEq, Int.reduceNe, reduceCtorEq, w64_id, w8_id, w16_id, w32_id, tmod_pos, tdiv_pos, Bool.or_true, Bool.true_or, Bool.or_false, Bool.false_or, Bool.and_false, Bool.false_and, condK_decide, c0, c1, c2, c3, c4, c5, c6, c7, c8, c9, o1]
    have r := reck1_right (a := a) (m := m) (by omega) (by omega)
    obtain ⟨w0, w1⟩ := word_lt r
    refine (example_S ⟨1, a, 0, 0, m⟩ false).mono ?_
    rintro v h2 ⟨v1, v2, rfl, r1, r2, x2⟩
    have s4 := s3.grow x2
    simp (maxSteps := 2000000) (disch := first | (simp only [go_sem, Nat.reduceBEq, Nat.reduceAdd, Nat.reduceMul, Nat.reduceSub, Nat.reduceEqDiff, Nat.reduceLeDiff, Nat.reduceLT, Int.reduceEq, Int.reduceAdd, Int.reduceSub, Int.reduceMul, Int.reduceNeg, Int.reduceLT, Int.reduceLE, Int.reduceToNat, Int.reduceBEq, Int.reduceNe, reduceCtorEq]; done) | omega | (simp only [go_sem, Nat.reduceBEq, Nat.reduceAdd, Nat.reduceMul, Nat.reduceSub, Nat.reduceEqDiff, Nat.reduceLeDiff, Nat.reduceLT, Int.reduceEq, Int.reduceAdd, Int.reduceSub, Int.reduceMul, Int.reduceNeg, Int.reduceLT, Int.reduceLE, Int.reduceToNat, Int.reduceBEq, Int.reduceNe, reduceCtorEq]; omega)) only [go_sem, Nat.reduceBEq, Nat.reduceAdd, Nat.reduceMul, Nat.reduceSub, Nat.reduceEqDiff, Nat.reduceLeDiff, Nat.reduceLT, Int.reduceEq, Int.reduceAdd, Int.reduceSub, Int.reduceMul, Int.reduceNeg, Int.reduceLT, Int.reduceLE, Int.reduceToNat, Int.reduceBEq, Int.reduceNe, reduceCtorEq, w64_id, w8_id, w16_id, w32_id, tmod_pos, tdiv_pos, Bool.or_true, Bool.true_or, Bool.or_false, Bool.false_or, Bool.and_false, Bool.false_and, condK_decide]
    refine (madeEx_S ⟨1, a, 0, 0, m⟩ false ⟨by rw [if_pos r]; exact w0, by rw [if_pos r]; exact w1⟩ r1 r2).mono ?_
    rintro v h3 ⟨rb, tb, p, y1, y2, y3, rfl, m1⟩
    have s5 := s4.over m1
    have s6 := s5.push (.cells #[.pointer (some ⟨rb, 0, none⟩), .pointer (some ⟨tb, 0, none⟩), .pointer p, .pointer y1, .pointer y2, .pointer y3] 38 (0, 0))
    have tkR : takeN (regs.map (Value.int .u32)) 16 = some (regs.map (Value.int .u32)) := by rw [takeN_eq, List.length_map, hr, if_pos (Nat.le_refl _), List.take_of_length_le (by simp [hr])]
    have bc := fun h => build_cpu (h := h) hr
    have f0 := cpuOf_fit hr hb
    have gr := (s6.front 3).get
    have s7 := s6.push (.cells (tzeroD Tryz.prog 48).cells 48 (0, 0))
    simp only [tzeroD_48, size_push'] at s7
    simp (maxSteps := 2000000) (disch := first | (simp only [go_sem, Nat.reduceBEq, Nat.reduceAdd, Nat.reduceMul, Nat.reduceSub, Nat.reduceEqDiff, Nat.reduceLeDiff, Nat.reduceLT, Int.reduceEq, Int.reduceAdd, Int.reduceSub, Int.reduceMul, Int.reduceNeg, Int.reduceLT, Int.reduceLE, Int.reduceToNat, Int.reduceBEq, Int.reduceNe, reduceCtorEq, gr, tkR, bc]; done) | omega | (simp only [go_sem, Nat.reduceBEq, Nat.reduceAdd, Nat.reduceMul, Nat.reduceSub, Nat.reduceEqDiff, Nat.reduceLeDiff, Nat.reduceLT, Int.reduceEq, Int.reduceAdd, Int.reduceSub, Int.reduceMul, Int.reduceNeg, Int.reduceLT, Int.reduceLE, Int.reduceToNat, Int.reduceBEq, Int.reduceNe, reduceCtorEq, gr, tkR, bc]; omega)) only [go_sem, Nat.reduceBEq, Nat.reduceAdd, Nat.reduceMul, Nat.reduceSub, Nat.reduceEqDiff, Nat.reduceLeDiff, Nat.reduceLT, Int.reduceEq, Int.reduceAdd, Int.reduceSub, Int.reduceMul, Int.reduceNeg, Int.reduceLT, Int.reduceLE, Int.reduceToNat, Int.reduceBEq, Int.reduceNe, reduceCtorEq, w64_id, w8_id, w16_id, w32_id, tmod_pos, tdiv_pos, Bool.or_true, Bool.true_or, Bool.or_false, Bool.false_or, Bool.and_false, Bool.false_and, condK_decide, gr, tkR, bc]
    refine store_cpu f0 s7.get (by rfl) ?_
    have s8 := s7.set (.cells (cpuOf regs).cells.toArray 48 (0, 0))
    have gm := (s8.front 1).get
    have tkc := take_cpu f0
    simp (maxSteps := 2000000) (disch := first | (simp only [go_sem, Nat.reduceBEq, Nat.reduceAdd, Nat.reduceMul, Nat.reduceSub, Nat.reduceEqDiff, Nat.reduceLeDiff, Nat.reduceLT, Int.reduceEq, Int.reduceAdd, Int.reduceSub, Int.reduceMul, Int.reduceNeg, Int.reduceLT, Int.reduceLE, Int.reduceToNat, Int.reduceBEq, Int.reduceNe, reduceCtorEq, gm, s8.get, tkc]; done) | omega | (simp only [go_sem, Nat.reduceBEq, Nat.reduceAdd, Nat.reduceMul, Nat.reduceSub, Nat.reduceEqDiff, Nat.reduceLeDiff, Nat.reduceLT, Int.reduceEq, Int.reduceAdd, Int.reduceSub, Int.reduceMul, Int.reduceNeg, Int.reduceLT, Int.reduceLE, Int.reduceToNat, Int.reduceBEq, Int.reduceNe, reduceCtorEq, gm, s8.get, tkc]; omega)) only [go_sem, Nat.reduceBEq, Nat.reduceAdd, Nat.reduceMul, Nat.reduceSub, Nat.reduceEqDiff, Nat.reduceLeDiff, Nat.reduceLT, Int.reduceEq, Int.reduceAdd, Int.reduceSub, Int.reduceMul, Int.reduceNeg, Int.reduceLT, Int.reduceLE, Int.reduceToNat, Int.reduceBEq, Int.reduceNe, reduceCtorEq, w64_id, w8_id, w16_id, w32_id, tmod_pos, tdiv_pos, Bool.or_true, Bool.true_or, Bool.or_false, Bool.false_or, Bool.and_false, Bool.false_and, condK_decide, gm, s8.get, tkc]
    have s9 := s6.push (.cells (cpuOf regs).cells.toArray 48 (0, 0))
    simp only [size_push'] at s9
    refine (stepM_S f0 (s9.front 2) 1 3 0 (fun o A B C I _ e => opIn_of (exFetch r rfl rfl) e (fun o h => by unfold opIn; simp only at h; omega))).mono ?_
    rintro v h4 ⟨rfl, f1, t1⟩
    simp (maxSteps := 2000000) (disch := first | (simp only [go_sem, Nat.reduceBEq, Nat.reduceAdd, Nat.reduceMul, Nat.reduceSub, Nat.reduceEqDiff, Nat.reduceLeDiff, Nat.reduceLT, Int.reduceEq, Int.reduceAdd, Int.reduceSub, Int.reduceMul, Int.reduceNeg, Int.reduceLT, Int.reduceLE, Int.reduceToNat, Int.reduceBEq, Int.reduceNe, reduceCtorEq]; done) | omega | (simp only [go_sem, Nat.reduceBEq, Nat.reduceAdd, Nat.reduceMul, Nat.reduceSub, Nat.reduceEqDiff, Nat.reduceLeDiff, Nat.reduceLT, Int.reduceEq, Int.reduceAdd, Int.reduceSub, Int.reduceMul, Int.reduceNeg, Int.reduceLT, Int.reduceLE, Int.reduceToNat, Int.reduceBEq, Int.reduceNe, reduceCtorEq]; omega)) only [go_sem, Nat.reduceBEq, Nat.reduceAdd, Nat.reduceMul, Nat.reduceSub, Nat.reduceEqDiff, Nat.reduceLeDiff, Nat.reduceLT, Int.reduceEq, Int.reduceAdd, Int.reduceSub, Int.reduceMul, Int.reduceNeg, Int.reduceLT, Int.reduceLE, Int.reduceToNat, Int.reduceBEq, Int.reduceNe, reduceCtorEq, w64_id, w8_id, w16_id, w32_id, tmod_pos, tdiv_pos, Bool.or_true, Bool.true_or, Bool.or_false, Bool.false_or, Bool.and_false, Bool.false_and, condK_decide]
    simp only [Bool.false_eq_true, if_false] at f1 t1
    have hst : stepP 16 ⟨exM ⟨1, a, 0, 0, m⟩, noT, none⟩ (cpuOf regs) 1 3 0 = ⟨⟨exM ⟨1, a, 0, 0, m⟩, exT, none⟩, pcC (setR (cpuOf regs) a m) 4, okT⟩ := by
      have := exStep r false (cpuOf regs) rfl rfl
      rw [if_neg (by simp [guestO])] at this
      exact this.trans (by kernel_rfl)
    rw [hst] at f1 t1
    simp only [hst]
    simp only at f1 t1
    obtain ⟨z, hz⟩ : ∃ z : Int, (m : Int) = z := ⟨_, rfl⟩
    have hzb : 0 ≤ z ∧ z < 4294967296 := by omega
    rw [hz] at f1 ⊢
    obtain ⟨d, hd⟩ : ∃ d : Cp, pcC (setR (cpuOf regs) a z) 4 = d := ⟨_, rfl⟩
    rw [hd] at f1 ⊢
    have q0 := (t1.push (.cells (tzeroD Tryz.prog 48).cells 48 (0, 0))).push (.cells okT.cells.toArray 52 (0, 0))
    simp only [tzeroD_48, Trp.cells_eq, okT, okF, size_push'] at q0
    simp only [okT, okF]
    refine store_cpu f1 (q0.front 1).get (by rfl) ?_
    have q1 := (q0.front 1).set (.cells d.cells.toArray 48 (0, 0))
    have q2 := (t1.push (.cells d.cells.toArray 48 (0, 0))).push (.cells okT.cells.toArray 52 (0, 0))
    simp only [Trp.cells_eq, okT, okF, size_push'] at q2
    have gt := (q1.front 1).get
    have gr2 := (q2.front 6).get
    have gin := (q2.front 3).get
    have q3 := (q2.front 3).set (.cells (setR (cpuOf regs) a z).cells.toArray 48 (0, 0))
    have q4 := q3.set (.cells d.cells.toArray 48 (0, 0))
    have g3 := q3.get
    have g4 := q4.get
    have g5 := (q4.front 1).get
    have g6 := (q4.front 2).get
    have a0 : (0 : Int) ≤ a := by omega
    have a1 : (a : Int) < 16 := by omega
    have b0 : (0 : Int) ≤ b := by omega
    have b1 : (b : Int) < 16 := by omega
    have k0 : (0 : Int) ≤ c := by omega
    have k1 : (c : Int) < 16 := by omega
    have l1 : a < (cpuOf regs).cells.length := by rw [Cp.len f0]; omega
    have sc := setR_cells f0 (show a < 16 by omega) (v := z)
    have f2 := setR_fit f0 (a := a) (v := z) hzb
    have l2 : 16 < (setR (cpuOf regs) a z).cells.length := by rw [Cp.len f2]; omega
    have spc : (setR (cpuOf regs) a z).cells.set 16 (.int .i64 4) = d.cells := by rw [setPc_cells f2, ← hd]; rfl
    have tkd := take_cpu f1
    have be := fun (h : Heap) (x y : Operand) => binD_eql_flat (h := h) (x := x) (y := y) (P := Tryz.prog) (t := 48) (by kernel_rfl) (fitC f1) (fitC f1)
    rw [eqC f1 f1, decide_eq_true rfl] at be
    have nb : nthL (regs.map (Value.int .u32)) b = some (.int .u32 (rg (cpuOf regs) b)) := nth_regs hr (by omega)
    have nc : nthL (regs.map (Value.int .u32)) c = some (.int .u32 (rg (cpuOf regs) c)) := nth_regs hr (by omega)
    simp (maxSteps := 2000000) (disch := first | (simp only [go_sem, Nat.reduceBEq, Nat.reduceAdd, Nat.reduceMul, Nat.reduceSub, Nat.reduceEqDiff, Nat.reduceLeDiff, Nat.reduceLT, Int.reduceEq, Int.reduceAdd, Int.reduceSub, Int.reduceMul, Int.reduceNeg, Int.reduceLT, Int.reduceLE, Int.reduceToNat, Int.reduceBEq, Int.reduceNe, reduceCtorEq, gt, gr2, gin, l1, sc, g3, l2, spc, g4, g5, g6, a0, a1, b0, b1, k0, k1, nb, nc, tkd, be, eqls_52, hz]; done) | omega | (simp only [go_sem, Nat.reduceBEq, Nat.reduceAdd, Nat.reduceMul, Nat.reduceSub, Nat.reduceEqDiff, Nat.reduceLeDiff, Nat.reduceLT, Int.reduceEq, Int.reduceAdd, Int.reduceSub, Int.reduceMul, Int.reduceNeg, Int.reduceLT, Int.reduceLE, Int.reduceToNat, Int.reduceBEq, Int.reduceNe, reduceCtorEq, gt, gr2, gin, l1, sc, g3, l2, spc, g4, g5, g6, a0, a1, b0, b1, k0, k1, nb, nc, tkd, be, eqls_52, hz]; omega)) only [go_sem, Nat.reduceBEq, Nat.reduceAdd, Nat.reduceMul, Nat.reduceSub, Nat.reduceEqDiff, Nat.reduceLeDiff, Nat.reduceLT, Int.reduceEq, Int.reduceAdd, Int.reduceSub, Int.reduceMul, Int.reduceNeg, Int.reduceLT, Int.reduceLE, Int.reduceToNat, Int.reduceBEq, Int.reduceNe, reduceCtorEq, w64_id, w8_id, w16_id, w32_id, tmod_pos, tdiv_pos, Bool.or_true, Bool.true_or, Bool.or_false, Bool.false_or, Bool.and_false, Bool.false_and, condK_decide, gt, gr2, gin, l1, sc, g3, l2, spc, g4, g5, g6, a0, a1, b0, b1, k0, k1, nb, nc, tkd, be, eqls_52, hz]
    exact hR _ _ ⟨rfl, (q4.front 7).ext⟩
  · simp (maxSteps := 2000000) (disch := first | (simp only [go_sem, Nat.reduceBEq, Nat.reduceAdd, Nat.reduceMul, Nat.reduceSub, Nat.reduceEqDiff, Nat.reduceLeDiff, Nat.reduceLT, Int.reduceEq, Int.reduceAdd, Int.reduceSub, Int.reduceMul, Int.reduceNeg, Int.reduceLT, Int.reduceLE, Int.reduceToNat, Int.reduceBEq, Int.reduceNe, reduceCtorEq, c0, c1, c2, c3, c4, c5, c6, c7, c8, c9, o1]; done) | omega | (simp only [go_sem, Nat.reduceBEq, Nat.reduceAdd, Nat.reduceMul, Nat.reduceSub, Nat.reduceEqDiff, Nat.reduceLeDiff, Nat.reduceLT, Int.reduceEq, Int.reduceAdd, Int.reduceSub, Int.reduceMul, Int.reduceNeg, Int.reduceLT, Int.reduceLE, Int.reduceToNat, Int.reduceBEq, Int.reduceNe, reduceCtorEq, c0, c1, c2, c3, c4, c5, c6, c7, c8, c9, o1]; omega)) only [go_sem, Nat.reduceBEq, Nat.reduceAdd, Nat.reduceMul, Nat.reduceSub, Nat.reduceEqDiff, Nat.reduceLeDiff, Nat.reduceLT, Int.reduceEq, Int.reduceAdd, Int.reduceSub, Int.reduceMul, Int.reduceNeg, Int.reduceLT, Int.reduceLE, Int.reduceToNat, Int.reduceBEq, Int.reduceNe, reduceCtorEq, w64_id, w8_id, w16_id, w32_id, tmod_pos, tdiv_pos, Bool.or_true, Bool.true_or, Bool.or_false, Bool.false_or, Bool.and_false, Bool.false_and, condK_decide, c0, c1, c2, c3, c4, c5, c6, c7, c8, c9, o1]
    have s3 := s1.push (.cells (⟨op, a, b, c, 0⟩ : Ins).cells.toArray 26 (0, 0))
    have r := reckN_right (op := op) (a := a) (b := b) (c := c) (by omega) (by omega) (by omega) (by omega) (by omega)
    obtain ⟨w0, w1⟩ := word_lt r
    refine (example_S ⟨op, a, b, c, 0⟩ false).mono ?_
    rintro v h2 ⟨v1, v2, rfl, r1, r2, x2⟩
    have s4 := s3.grow x2
    simp (maxSteps := 2000000) (disch := first | (simp only [go_sem, Nat.reduceBEq, Nat.reduceAdd, Nat.reduceMul, Nat.reduceSub, Nat.reduceEqDiff, Nat.reduceLeDiff, Nat.reduceLT, Int.reduceEq, Int.reduceAdd, Int.reduceSub, Int.reduceMul, Int.reduceNeg, Int.reduceLT, Int.reduceLE, Int.reduceToNat, Int.reduceBEq, Int.reduceNe, reduceCtorEq]; done) | omega | (simp only [go_sem, Nat.reduceBEq, Nat.reduceAdd, Nat.reduceMul, Nat.reduceSub, Nat.reduceEqDiff, Nat.reduceLeDiff, Nat.reduceLT, Int.reduceEq, Int.reduceAdd, Int.reduceSub, Int.reduceMul, Int.reduceNeg, Int.reduceLT, Int.reduceLE, Int.reduceToNat, Int.reduceBEq, Int.reduceNe, reduceCtorEq]; omega)) only [go_sem, Nat.reduceBEq, Nat.reduceAdd, Nat.reduceMul, Nat.reduceSub, Nat.reduceEqDiff, Nat.reduceLeDiff, Nat.reduceLT, Int.reduceEq, Int.reduceAdd, Int.reduceSub, Int.reduceMul, Int.reduceNeg, Int.reduceLT, Int.reduceLE, Int.reduceToNat, Int.reduceBEq, Int.reduceNe, reduceCtorEq, w64_id, w8_id, w16_id, w32_id, tmod_pos, tdiv_pos, Bool.or_true, Bool.true_or, Bool.or_false, Bool.false_or, Bool.and_false, Bool.false_and, condK_decide]
    refine (madeEx_S ⟨op, a, b, c, 0⟩ false ⟨by rw [if_pos r]; exact w0, by rw [if_pos r]; exact w1⟩ r1 r2).mono ?_
    rintro v h3 ⟨rb, tb, p, y1, y2, y3, rfl, m1⟩
    have s5 := s4.over m1
    have s6 := s5.push (.cells #[.pointer (some ⟨rb, 0, none⟩), .pointer (some ⟨tb, 0, none⟩), .pointer p, .pointer y1, .pointer y2, .pointer y3] 38 (0, 0))
    have tkR : takeN (regs.map (Value.int .u32)) 16 = some (regs.map (Value.int .u32)) := by rw [takeN_eq, List.length_map, hr, if_pos (Nat.le_refl _), List.take_of_length_le (by simp [hr])]
    have bc := fun h => build_cpu (h := h) hr
    have f0 := cpuOf_fit hr hb
    have gr := (s6.front 3).get
    have s7 := s6.push (.cells (tzeroD Tryz.prog 48).cells 48 (0, 0))
    simp only [tzeroD_48, size_push'] at s7
    simp (maxSteps := 2000000) (disch := first | (simp only [go_sem, Nat.reduceBEq, Nat.reduceAdd, Nat.reduceMul, Nat.reduceSub, Nat.reduceEqDiff, Nat.reduceLeDiff, Nat.reduceLT, Int.reduceEq, Int.reduceAdd, Int.reduceSub, Int.reduceMul, Int.reduceNeg, Int.reduceLT, Int.reduceLE, Int.reduceToNat, Int.reduceBEq, Int.reduceNe, reduceCtorEq, gr, tkR, bc]; done) | omega | (simp only [go_sem, Nat.reduceBEq, Nat.reduceAdd, Nat.reduceMul, Nat.reduceSub, Nat.reduceEqDiff, Nat.reduceLeDiff, Nat.reduceLT, Int.reduceEq, Int.reduceAdd, Int.reduceSub, Int.reduceMul, Int.reduceNeg, Int.reduceLT, Int.reduceLE, Int.reduceToNat, Int.reduceBEq, Int.reduceNe, reduceCtorEq, gr, tkR, bc]; omega)) only [go_sem, Nat.reduceBEq, Nat.reduceAdd, Nat.reduceMul, Nat.reduceSub, Nat.reduceEqDiff, Nat.reduceLeDiff, Nat.reduceLT, Int.reduceEq, Int.reduceAdd, Int.reduceSub, Int.reduceMul, Int.reduceNeg, Int.reduceLT, Int.reduceLE, Int.reduceToNat, Int.reduceBEq, Int.reduceNe, reduceCtorEq, w64_id, w8_id, w16_id, w32_id, tmod_pos, tdiv_pos, Bool.or_true, Bool.true_or, Bool.or_false, Bool.false_or, Bool.and_false, Bool.false_and, condK_decide, gr, tkR, bc]
    refine store_cpu f0 s7.get (by rfl) ?_
    have s8 := s7.set (.cells (cpuOf regs).cells.toArray 48 (0, 0))
    have gm := (s8.front 1).get
    have tkc := take_cpu f0
    simp (maxSteps := 2000000) (disch := first | (simp only [go_sem, Nat.reduceBEq, Nat.reduceAdd, Nat.reduceMul, Nat.reduceSub, Nat.reduceEqDiff, Nat.reduceLeDiff, Nat.reduceLT, Int.reduceEq, Int.reduceAdd, Int.reduceSub, Int.reduceMul, Int.reduceNeg, Int.reduceLT, Int.reduceLE, Int.reduceToNat, Int.reduceBEq, Int.reduceNe, reduceCtorEq, gm, s8.get, tkc]; done) | omega | (simp only [go_sem, Nat.reduceBEq, Nat.reduceAdd, Nat.reduceMul, Nat.reduceSub, Nat.reduceEqDiff, Nat.reduceLeDiff, Nat.reduceLT, Int.reduceEq, Int.reduceAdd, Int.reduceSub, Int.reduceMul, Int.reduceNeg, Int.reduceLT, Int.reduceLE, Int.reduceToNat, Int.reduceBEq, Int.reduceNe, reduceCtorEq, gm, s8.get, tkc]; omega)) only [go_sem, Nat.reduceBEq, Nat.reduceAdd, Nat.reduceMul, Nat.reduceSub, Nat.reduceEqDiff, Nat.reduceLeDiff, Nat.reduceLT, Int.reduceEq, Int.reduceAdd, Int.reduceSub, Int.reduceMul, Int.reduceNeg, Int.reduceLT, Int.reduceLE, Int.reduceToNat, Int.reduceBEq, Int.reduceNe, reduceCtorEq, w64_id, w8_id, w16_id, w32_id, tmod_pos, tdiv_pos, Bool.or_true, Bool.true_or, Bool.or_false, Bool.false_or, Bool.and_false, Bool.false_and, condK_decide, gm, s8.get, tkc]
    have s9 := s6.push (.cells (cpuOf regs).cells.toArray 48 (0, 0))
    simp only [size_push'] at s9
    refine (stepM_S f0 (s9.front 2) 1 3 0 (fun o A B C I _ e => opIn_of (exFetch r rfl rfl) e (fun o h => by unfold opIn; simp only at h; omega))).mono ?_
    rintro v h4 ⟨rfl, f1, t1⟩
    simp (maxSteps := 2000000) (disch := first | (simp only [go_sem, Nat.reduceBEq, Nat.reduceAdd, Nat.reduceMul, Nat.reduceSub, Nat.reduceEqDiff, Nat.reduceLeDiff, Nat.reduceLT, Int.reduceEq, Int.reduceAdd, Int.reduceSub, Int.reduceMul, Int.reduceNeg, Int.reduceLT, Int.reduceLE, Int.reduceToNat, Int.reduceBEq, Int.reduceNe, reduceCtorEq]; done) | omega | (simp only [go_sem, Nat.reduceBEq, Nat.reduceAdd, Nat.reduceMul, Nat.reduceSub, Nat.reduceEqDiff, Nat.reduceLeDiff, Nat.reduceLT, Int.reduceEq, Int.reduceAdd, Int.reduceSub, Int.reduceMul, Int.reduceNeg, Int.reduceLT, Int.reduceLE, Int.reduceToNat, Int.reduceBEq, Int.reduceNe, reduceCtorEq]; omega)) only [go_sem, Nat.reduceBEq, Nat.reduceAdd, Nat.reduceMul, Nat.reduceSub, Nat.reduceEqDiff, Nat.reduceLeDiff, Nat.reduceLT, Int.reduceEq, Int.reduceAdd, Int.reduceSub, Int.reduceMul, Int.reduceNeg, Int.reduceLT, Int.reduceLE, Int.reduceToNat, Int.reduceBEq, Int.reduceNe, reduceCtorEq, w64_id, w8_id, w16_id, w32_id, tmod_pos, tdiv_pos, Bool.or_true, Bool.true_or, Bool.or_false, Bool.false_or, Bool.and_false, Bool.false_and, condK_decide]
    simp only [Bool.false_eq_true, if_false] at f1 t1
    have hst : stepP 16 ⟨exM ⟨op, a, b, c, 0⟩, noT, none⟩ (cpuOf regs) 1 3 0 = ⟨⟨exM ⟨op, a, b, c, 0⟩, exT, none⟩, pcC (setR (cpuOf regs) a (reckon op (rg (cpuOf regs) b) (rg (cpuOf regs) c) 0)) 4, okT⟩ := by
      have := exStep r false (cpuOf regs) rfl rfl
      rw [if_neg (by simp [guestO]; omega)] at this
      refine this.trans ?_
      unfold doP
      rw [if_pos (show (op : Int) ≤ 6 by omega)]
      rfl
    rw [hst] at f1 t1
    simp only [hst]
    simp only at f1 t1
    obtain ⟨z, hz⟩ : ∃ z : Int, reckon op (rg (cpuOf regs) b) (rg (cpuOf regs) c) 0 = z := ⟨_, rfl⟩
    have hzb : 0 ≤ z ∧ z < 4294967296 := by rw [← hz]; exact reckon_bd (by omega)
    rw [hz] at f1 ⊢
    obtain ⟨d, hd⟩ : ∃ d : Cp, pcC (setR (cpuOf regs) a z) 4 = d := ⟨_, rfl⟩
    rw [hd] at f1 ⊢
    clear hst r w0 w1 x2 r1 r2
    have hop : op = 2 ∨ op = 3 ∨ op = 4 ∨ op = 5 ∨ op = 6 := by omega
    obtain ⟨yb0, yb1⟩ := rg_bd f0 (i := (c : Int)) (by omega) (by omega)
    rcases hop with rfl | rfl | rfl | rfl | rfl
    · have n2 : ((2 : Nat) : Int) = 2 := rfl
      have ez : IntKind.u32.wrap (rg (cpuOf regs) b + rg (cpuOf regs) c) = z := by rw [wu32, ← hz]; rfl
      have q0 := (t1.push (.cells (tzeroD Tryz.prog 48).cells 48 (0, 0))).push (.cells okT.cells.toArray 52 (0, 0))
      simp only [tzeroD_48, Trp.cells_eq, okT, okF, size_push'] at q0
      simp only [okT, okF]
      refine store_cpu f1 (q0.front 1).get (by rfl) ?_
      have q1 := (q0.front 1).set (.cells d.cells.toArray 48 (0, 0))
      have q2 := (t1.push (.cells d.cells.toArray 48 (0, 0))).push (.cells okT.cells.toArray 52 (0, 0))
      simp only [Trp.cells_eq, okT, okF, size_push'] at q2
      have gt := (q1.front 1).get
      have gr2 := (q2.front 6).get
      have gin := (q2.front 3).get
      have q3 := (q2.front 3).set (.cells (setR (cpuOf regs) a z).cells.toArray 48 (0, 0))
      have q4 := q3.set (.cells d.cells.toArray 48 (0, 0))
      have g3 := q3.get
      have g4 := q4.get
      have g5 := (q4.front 1).get
      have g6 := (q4.front 2).get
      have a0 : (0 : Int) ≤ a := by omega
      have a1 : (a : Int) < 16 := by omega
      have b0 : (0 : Int) ≤ b := by omega
      have b1 : (b : Int) < 16 := by omega
      have k0 : (0 : Int) ≤ c := by omega
      have k1 : (c : Int) < 16 := by omega
      have l1 : a < (cpuOf regs).cells.length := by rw [Cp.len f0]; omega
      have sc := setR_cells f0 (show a < 16 by omega) (v := z)
      have f2 := setR_fit f0 (a := a) (v := z) hzb
      have l2 : 16 < (setR (cpuOf regs) a z).cells.length := by rw [Cp.len f2]; omega
      have spc : (setR (cpuOf regs) a z).cells.set 16 (.int .i64 4) = d.cells := by rw [setPc_cells f2, ← hd]; rfl
      have tkd := take_cpu f1
      have be := fun (h : Heap) (x y : Operand) => binD_eql_flat (h := h) (x := x) (y := y) (P := Tryz.prog) (t := 48) (by kernel_rfl) (fitC f1) (fitC f1)
      rw [eqC f1 f1, decide_eq_true rfl] at be
      have nb : nthL (regs.map (Value.int .u32)) b = some (.int .u32 (rg (cpuOf regs) b)) := nth_regs hr (by omega)
      have nc : nthL (regs.map (Value.int .u32)) c = some (.int .u32 (rg (cpuOf regs) c)) := nth_regs hr (by omega)
      simp (maxSteps := 2000000) (disch := first | (simp only [go_sem, Nat.reduceBEq, Nat.reduceAdd, Nat.reduceMul, Nat.reduceSub, Nat.reduceEqDiff, Nat.reduceLeDiff, Nat.reduceLT, Int.reduceEq, Int.reduceAdd, Int.reduceSub, Int.reduceMul, Int.reduceNeg, Int.reduceLT, Int.reduceLE, Int.reduceToNat, Int.reduceBEq, Int.reduceNe, reduceCtorEq, gt, gr2, gin, l1, sc, g3, l2, spc, g4, g5, g6, a0, a1, b0, b1, k0, k1, nb, nc, tkd, be, eqls_52, n2, ↓ez]; done) | omega | (simp only [go_sem, Nat.reduceBEq, Nat.reduceAdd, Nat.reduceMul, Nat.reduceSub, Nat.reduceEqDiff, Nat.reduceLeDiff, Nat.reduceLT, Int.reduceEq, Int.reduceAdd, Int.reduceSub, Int.reduceMul, Int.reduceNeg, Int.reduceLT, Int.reduceLE, Int.reduceToNat, Int.reduceBEq, Int.reduceNe, reduceCtorEq, gt, gr2, gin, l1, sc, g3, l2, spc, g4, g5, g6, a0, a1, b0, b1, k0, k1, nb, nc, tkd, be, eqls_52, n2, ↓ez]; omega)) only [go_sem, Nat.reduceBEq, Nat.reduceAdd, Nat.reduceMul, Nat.reduceSub, Nat.reduceEqDiff, Nat.reduceLeDiff, Nat.reduceLT, Int.reduceEq, Int.reduceAdd, Int.reduceSub, Int.reduceMul, Int.reduceNeg, Int.reduceLT, Int.reduceLE, Int.reduceToNat, Int.reduceBEq, Int.reduceNe, reduceCtorEq, w64_id, w8_id, w16_id, w32_id, tmod_pos, tdiv_pos, Bool.or_true, Bool.true_or, Bool.or_false, Bool.false_or, Bool.and_false, Bool.false_and, condK_decide, gt, gr2, gin, l1, sc, g3, l2, spc, g4, g5, g6, a0, a1, b0, b1, k0, k1, nb, nc, tkd, be, eqls_52, n2, ↓ez]
      exact hR _ _ ⟨rfl, (q4.front 7).ext⟩
    · have n2 : ((3 : Nat) : Int) = 3 := rfl
      have ez : IntKind.u32.wrap (rg (cpuOf regs) b - rg (cpuOf regs) c) = z := by rw [wu32, ← hz]; rfl
      have q0 := (t1.push (.cells (tzeroD Tryz.prog 48).cells 48 (0, 0))).push (.cells okT.cells.toArray 52 (0, 0))
      simp only [tzeroD_48, Trp.cells_eq, okT, okF, size_push'] at q0
      simp only [okT, okF]
      refine store_cpu f1 (q0.front 1).get (by rfl) ?_
      have q1 := (q0.front 1).set (.cells d.cells.toArray 48 (0, 0))
      have q2 := (t1.push (.cells d.cells.toArray 48 (0, 0))).push (.cells okT.cells.toArray 52 (0, 0))
      simp only [Trp.cells_eq, okT, okF, size_push'] at q2
      have gt := (q1.front 1).get
      have gr2 := (q2.front 6).get
      have gin := (q2.front 3).get
      have q3 := (q2.front 3).set (.cells (setR (cpuOf regs) a z).cells.toArray 48 (0, 0))
      have q4 := q3.set (.cells d.cells.toArray 48 (0, 0))
      have g3 := q3.get
      have g4 := q4.get
      have g5 := (q4.front 1).get
      have g6 := (q4.front 2).get
      have a0 : (0 : Int) ≤ a := by omega
      have a1 : (a : Int) < 16 := by omega
      have b0 : (0 : Int) ≤ b := by omega
      have b1 : (b : Int) < 16 := by omega
      have k0 : (0 : Int) ≤ c := by omega
      have k1 : (c : Int) < 16 := by omega
      have l1 : a < (cpuOf regs).cells.length := by rw [Cp.len f0]; omega
      have sc := setR_cells f0 (show a < 16 by omega) (v := z)
      have f2 := setR_fit f0 (a := a) (v := z) hzb
      have l2 : 16 < (setR (cpuOf regs) a z).cells.length := by rw [Cp.len f2]; omega
      have spc : (setR (cpuOf regs) a z).cells.set 16 (.int .i64 4) = d.cells := by rw [setPc_cells f2, ← hd]; rfl
      have tkd := take_cpu f1
      have be := fun (h : Heap) (x y : Operand) => binD_eql_flat (h := h) (x := x) (y := y) (P := Tryz.prog) (t := 48) (by kernel_rfl) (fitC f1) (fitC f1)
      rw [eqC f1 f1, decide_eq_true rfl] at be
      have nb : nthL (regs.map (Value.int .u32)) b = some (.int .u32 (rg (cpuOf regs) b)) := nth_regs hr (by omega)
      have nc : nthL (regs.map (Value.int .u32)) c = some (.int .u32 (rg (cpuOf regs) c)) := nth_regs hr (by omega)
      simp (maxSteps := 2000000) (disch := first | (simp only [go_sem, Nat.reduceBEq, Nat.reduceAdd, Nat.reduceMul, Nat.reduceSub, Nat.reduceEqDiff, Nat.reduceLeDiff, Nat.reduceLT, Int.reduceEq, Int.reduceAdd, Int.reduceSub, Int.reduceMul, Int.reduceNeg, Int.reduceLT, Int.reduceLE, Int.reduceToNat, Int.reduceBEq, Int.reduceNe, reduceCtorEq, gt, gr2, gin, l1, sc, g3, l2, spc, g4, g5, g6, a0, a1, b0, b1, k0, k1, nb, nc, tkd, be, eqls_52, n2, ↓ez]; done) | omega | (simp only [go_sem, Nat.reduceBEq, Nat.reduceAdd, Nat.reduceMul, Nat.reduceSub, Nat.reduceEqDiff, Nat.reduceLeDiff, Nat.reduceLT, Int.reduceEq, Int.reduceAdd, Int.reduceSub, Int.reduceMul, Int.reduceNeg, Int.reduceLT, Int.reduceLE, Int.reduceToNat, Int.reduceBEq, Int.reduceNe, reduceCtorEq, gt, gr2, gin, l1, sc, g3, l2, spc, g4, g5, g6, a0, a1, b0, b1, k0, k1, nb, nc, tkd, be, eqls_52, n2, ↓ez]; omega)) only [go_sem, Nat.reduceBEq, Nat.reduceAdd, Nat.reduceMul, Nat.reduceSub, Nat.reduceEqDiff, Nat.reduceLeDiff, Nat.reduceLT, Int.reduceEq, Int.reduceAdd, Int.reduceSub, Int.reduceMul, Int.reduceNeg, Int.reduceLT, Int.reduceLE, Int.reduceToNat, Int.reduceBEq, Int.reduceNe, reduceCtorEq, w64_id, w8_id, w16_id, w32_id, tmod_pos, tdiv_pos, Bool.or_true, Bool.true_or, Bool.or_false, Bool.false_or, Bool.and_false, Bool.false_and, condK_decide, gt, gr2, gin, l1, sc, g3, l2, spc, g4, g5, g6, a0, a1, b0, b1, k0, k1, nb, nc, tkd, be, eqls_52, n2, ↓ez]
      exact hR _ _ ⟨rfl, (q4.front 7).ext⟩
    · have n2 : ((4 : Nat) : Int) = 4 := rfl
      have ez : ((BitVec.ofInt IntKind.u32.bits (rg (cpuOf regs) b) &&& BitVec.ofInt IntKind.u32.bits (rg (cpuOf regs) c)).toNat : Int) = z := by rw [← hz]; rfl
      have q0 := (t1.push (.cells (tzeroD Tryz.prog 48).cells 48 (0, 0))).push (.cells okT.cells.toArray 52 (0, 0))
      simp only [tzeroD_48, Trp.cells_eq, okT, okF, size_push'] at q0
      simp only [okT, okF]
      refine store_cpu f1 (q0.front 1).get (by rfl) ?_
      have q1 := (q0.front 1).set (.cells d.cells.toArray 48 (0, 0))
      have q2 := (t1.push (.cells d.cells.toArray 48 (0, 0))).push (.cells okT.cells.toArray 52 (0, 0))
      simp only [Trp.cells_eq, okT, okF, size_push'] at q2
      have gt := (q1.front 1).get
      have gr2 := (q2.front 6).get
      have gin := (q2.front 3).get
      have q3 := (q2.front 3).set (.cells (setR (cpuOf regs) a z).cells.toArray 48 (0, 0))
      have q4 := q3.set (.cells d.cells.toArray 48 (0, 0))
      have g3 := q3.get
      have g4 := q4.get
      have g5 := (q4.front 1).get
      have g6 := (q4.front 2).get
      have a0 : (0 : Int) ≤ a := by omega
      have a1 : (a : Int) < 16 := by omega
      have b0 : (0 : Int) ≤ b := by omega
      have b1 : (b : Int) < 16 := by omega
      have k0 : (0 : Int) ≤ c := by omega
      have k1 : (c : Int) < 16 := by omega
      have l1 : a < (cpuOf regs).cells.length := by rw [Cp.len f0]; omega
      have sc := setR_cells f0 (show a < 16 by omega) (v := z)
      have f2 := setR_fit f0 (a := a) (v := z) hzb
      have l2 : 16 < (setR (cpuOf regs) a z).cells.length := by rw [Cp.len f2]; omega
      have spc : (setR (cpuOf regs) a z).cells.set 16 (.int .i64 4) = d.cells := by rw [setPc_cells f2, ← hd]; rfl
      have tkd := take_cpu f1
      have be := fun (h : Heap) (x y : Operand) => binD_eql_flat (h := h) (x := x) (y := y) (P := Tryz.prog) (t := 48) (by kernel_rfl) (fitC f1) (fitC f1)
      rw [eqC f1 f1, decide_eq_true rfl] at be
      have nb : nthL (regs.map (Value.int .u32)) b = some (.int .u32 (rg (cpuOf regs) b)) := nth_regs hr (by omega)
      have nc : nthL (regs.map (Value.int .u32)) c = some (.int .u32 (rg (cpuOf regs) c)) := nth_regs hr (by omega)
      simp (maxSteps := 2000000) (disch := first | (simp only [go_sem, Nat.reduceBEq, Nat.reduceAdd, Nat.reduceMul, Nat.reduceSub, Nat.reduceEqDiff, Nat.reduceLeDiff, Nat.reduceLT, Int.reduceEq, Int.reduceAdd, Int.reduceSub, Int.reduceMul, Int.reduceNeg, Int.reduceLT, Int.reduceLE, Int.reduceToNat, Int.reduceBEq, Int.reduceNe, reduceCtorEq, gt, gr2, gin, l1, sc, g3, l2, spc, g4, g5, g6, a0, a1, b0, b1, k0, k1, nb, nc, tkd, be, eqls_52, n2, ↓ez]; done) | omega | (simp only [go_sem, Nat.reduceBEq, Nat.reduceAdd, Nat.reduceMul, Nat.reduceSub, Nat.reduceEqDiff, Nat.reduceLeDiff, Nat.reduceLT, Int.reduceEq, Int.reduceAdd, Int.reduceSub, Int.reduceMul, Int.reduceNeg, Int.reduceLT, Int.reduceLE, Int.reduceToNat, Int.reduceBEq, Int.reduceNe, reduceCtorEq, gt, gr2, gin, l1, sc, g3, l2, spc, g4, g5, g6, a0, a1, b0, b1, k0, k1, nb, nc, tkd, be, eqls_52, n2, ↓ez]; omega)) only [go_sem, Nat.reduceBEq, Nat.reduceAdd, Nat.reduceMul, Nat.reduceSub, Nat.reduceEqDiff, Nat.reduceLeDiff, Nat.reduceLT, Int.reduceEq, Int.reduceAdd, Int.reduceSub, Int.reduceMul, Int.reduceNeg, Int.reduceLT, Int.reduceLE, Int.reduceToNat, Int.reduceBEq, Int.reduceNe, reduceCtorEq, w64_id, w8_id, w16_id, w32_id, tmod_pos, tdiv_pos, Bool.or_true, Bool.true_or, Bool.or_false, Bool.false_or, Bool.and_false, Bool.false_and, condK_decide, gt, gr2, gin, l1, sc, g3, l2, spc, g4, g5, g6, a0, a1, b0, b1, k0, k1, nb, nc, tkd, be, eqls_52, n2, ↓ez]
      exact hR _ _ ⟨rfl, (q4.front 7).ext⟩
    · have n2 : ((5 : Nat) : Int) = 5 := rfl
      have ez : ((BitVec.ofInt IntKind.u32.bits (rg (cpuOf regs) b) ^^^ BitVec.ofInt IntKind.u32.bits (rg (cpuOf regs) c)).toNat : Int) = z := by rw [← hz]; rfl
      have q0 := (t1.push (.cells (tzeroD Tryz.prog 48).cells 48 (0, 0))).push (.cells okT.cells.toArray 52 (0, 0))
      simp only [tzeroD_48, Trp.cells_eq, okT, okF, size_push'] at q0
      simp only [okT, okF]
      refine store_cpu f1 (q0.front 1).get (by rfl) ?_
      have q1 := (q0.front 1).set (.cells d.cells.toArray 48 (0, 0))
      have q2 := (t1.push (.cells d.cells.toArray 48 (0, 0))).push (.cells okT.cells.toArray 52 (0, 0))
      simp only [Trp.cells_eq, okT, okF, size_push'] at q2
      have gt := (q1.front 1).get
      have gr2 := (q2.front 6).get
      have gin := (q2.front 3).get
      have q3 := (q2.front 3).set (.cells (setR (cpuOf regs) a z).cells.toArray 48 (0, 0))
      have q4 := q3.set (.cells d.cells.toArray 48 (0, 0))
      have g3 := q3.get
      have g4 := q4.get
      have g5 := (q4.front 1).get
      have g6 := (q4.front 2).get
      have a0 : (0 : Int) ≤ a := by omega
      have a1 : (a : Int) < 16 := by omega
      have b0 : (0 : Int) ≤ b := by omega
      have b1 : (b : Int) < 16 := by omega
      have k0 : (0 : Int) ≤ c := by omega
      have k1 : (c : Int) < 16 := by omega
      have l1 : a < (cpuOf regs).cells.length := by rw [Cp.len f0]; omega
      have sc := setR_cells f0 (show a < 16 by omega) (v := z)
      have f2 := setR_fit f0 (a := a) (v := z) hzb
      have l2 : 16 < (setR (cpuOf regs) a z).cells.length := by rw [Cp.len f2]; omega
      have spc : (setR (cpuOf regs) a z).cells.set 16 (.int .i64 4) = d.cells := by rw [setPc_cells f2, ← hd]; rfl
      have tkd := take_cpu f1
      have be := fun (h : Heap) (x y : Operand) => binD_eql_flat (h := h) (x := x) (y := y) (P := Tryz.prog) (t := 48) (by kernel_rfl) (fitC f1) (fitC f1)
      rw [eqC f1 f1, decide_eq_true rfl] at be
      have nb : nthL (regs.map (Value.int .u32)) b = some (.int .u32 (rg (cpuOf regs) b)) := nth_regs hr (by omega)
      have nc : nthL (regs.map (Value.int .u32)) c = some (.int .u32 (rg (cpuOf regs) c)) := nth_regs hr (by omega)
      simp (maxSteps := 2000000) (disch := first | (simp only [go_sem, Nat.reduceBEq, Nat.reduceAdd, Nat.reduceMul, Nat.reduceSub, Nat.reduceEqDiff, Nat.reduceLeDiff, Nat.reduceLT, Int.reduceEq, Int.reduceAdd, Int.reduceSub, Int.reduceMul, Int.reduceNeg, Int.reduceLT, Int.reduceLE, Int.reduceToNat, Int.reduceBEq, Int.reduceNe, reduceCtorEq, gt, gr2, gin, l1, sc, g3, l2, spc, g4, g5, g6, a0, a1, b0, b1, k0, k1, nb, nc, tkd, be, eqls_52, n2, ↓ez]; done) | omega | (simp only [go_sem, Nat.reduceBEq, Nat.reduceAdd, Nat.reduceMul, Nat.reduceSub, Nat.reduceEqDiff, Nat.reduceLeDiff, Nat.reduceLT, Int.reduceEq, Int.reduceAdd, Int.reduceSub, Int.reduceMul, Int.reduceNeg, Int.reduceLT, Int.reduceLE, Int.reduceToNat, Int.reduceBEq, Int.reduceNe, reduceCtorEq, gt, gr2, gin, l1, sc, g3, l2, spc, g4, g5, g6, a0, a1, b0, b1, k0, k1, nb, nc, tkd, be, eqls_52, n2, ↓ez]; omega)) only [go_sem, Nat.reduceBEq, Nat.reduceAdd, Nat.reduceMul, Nat.reduceSub, Nat.reduceEqDiff, Nat.reduceLeDiff, Nat.reduceLT, Int.reduceEq, Int.reduceAdd, Int.reduceSub, Int.reduceMul, Int.reduceNeg, Int.reduceLT, Int.reduceLE, Int.reduceToNat, Int.reduceBEq, Int.reduceNe, reduceCtorEq, w64_id, w8_id, w16_id, w32_id, tmod_pos, tdiv_pos, Bool.or_true, Bool.true_or, Bool.or_false, Bool.false_or, Bool.and_false, Bool.false_and, condK_decide, gt, gr2, gin, l1, sc, g3, l2, spc, g4, g5, g6, a0, a1, b0, b1, k0, k1, nb, nc, tkd, be, eqls_52, n2, ↓ez]
      exact hR _ _ ⟨rfl, (q4.front 7).ext⟩
    · have n2 : ((6 : Nat) : Int) = 6 := rfl
      have ez : IntKind.u32.wrap (rg (cpuOf regs) b * 2 ^ min (rg (cpuOf regs) c % 32).toNat 32) = z := by rw [wu32, show min (rg (cpuOf regs) c % 32).toNat 32 = (rg (cpuOf regs) c % 32).toNat by omega, ← hz]; rfl
      have q0 := (t1.push (.cells (tzeroD Tryz.prog 48).cells 48 (0, 0))).push (.cells okT.cells.toArray 52 (0, 0))
      simp only [tzeroD_48, Trp.cells_eq, okT, okF, size_push'] at q0
      simp only [okT, okF]
      refine store_cpu f1 (q0.front 1).get (by rfl) ?_
      have q1 := (q0.front 1).set (.cells d.cells.toArray 48 (0, 0))
      have q2 := (t1.push (.cells d.cells.toArray 48 (0, 0))).push (.cells okT.cells.toArray 52 (0, 0))
      simp only [Trp.cells_eq, okT, okF, size_push'] at q2
      have gt := (q1.front 1).get
      have gr2 := (q2.front 6).get
      have gin := (q2.front 3).get
      have q3 := (q2.front 3).set (.cells (setR (cpuOf regs) a z).cells.toArray 48 (0, 0))
      have q4 := q3.set (.cells d.cells.toArray 48 (0, 0))
      have g3 := q3.get
      have g4 := q4.get
      have g5 := (q4.front 1).get
      have g6 := (q4.front 2).get
      have a0 : (0 : Int) ≤ a := by omega
      have a1 : (a : Int) < 16 := by omega
      have b0 : (0 : Int) ≤ b := by omega
      have b1 : (b : Int) < 16 := by omega
      have k0 : (0 : Int) ≤ c := by omega
      have k1 : (c : Int) < 16 := by omega
      have l1 : a < (cpuOf regs).cells.length := by rw [Cp.len f0]; omega
      have sc := setR_cells f0 (show a < 16 by omega) (v := z)
      have f2 := setR_fit f0 (a := a) (v := z) hzb
      have l2 : 16 < (setR (cpuOf regs) a z).cells.length := by rw [Cp.len f2]; omega
      have spc : (setR (cpuOf regs) a z).cells.set 16 (.int .i64 4) = d.cells := by rw [setPc_cells f2, ← hd]; rfl
      have tkd := take_cpu f1
      have be := fun (h : Heap) (x y : Operand) => binD_eql_flat (h := h) (x := x) (y := y) (P := Tryz.prog) (t := 48) (by kernel_rfl) (fitC f1) (fitC f1)
      rw [eqC f1 f1, decide_eq_true rfl] at be
      have nb : nthL (regs.map (Value.int .u32)) b = some (.int .u32 (rg (cpuOf regs) b)) := nth_regs hr (by omega)
      have nc : nthL (regs.map (Value.int .u32)) c = some (.int .u32 (rg (cpuOf regs) c)) := nth_regs hr (by omega)
      simp (maxSteps := 2000000) (disch := first | (simp only [go_sem, Nat.reduceBEq, Nat.reduceAdd, Nat.reduceMul, Nat.reduceSub, Nat.reduceEqDiff, Nat.reduceLeDiff, Nat.reduceLT, Int.reduceEq, Int.reduceAdd, Int.reduceSub, Int.reduceMul, Int.reduceNeg, Int.reduceLT, Int.reduceLE, Int.reduceToNat, Int.reduceBEq, Int.reduceNe, reduceCtorEq, gt, gr2, gin, l1, sc, g3, l2, spc, g4, g5, g6, a0, a1, b0, b1, k0, k1, nb, nc, tkd, be, eqls_52, n2, ↓ez]; done) | omega | (simp only [go_sem, Nat.reduceBEq, Nat.reduceAdd, Nat.reduceMul, Nat.reduceSub, Nat.reduceEqDiff, Nat.reduceLeDiff, Nat.reduceLT, Int.reduceEq, Int.reduceAdd, Int.reduceSub, Int.reduceMul, Int.reduceNeg, Int.reduceLT, Int.reduceLE, Int.reduceToNat, Int.reduceBEq, Int.reduceNe, reduceCtorEq, gt, gr2, gin, l1, sc, g3, l2, spc, g4, g5, g6, a0, a1, b0, b1, k0, k1, nb, nc, tkd, be, eqls_52, n2, ↓ez]; omega)) only [go_sem, Nat.reduceBEq, Nat.reduceAdd, Nat.reduceMul, Nat.reduceSub, Nat.reduceEqDiff, Nat.reduceLeDiff, Nat.reduceLT, Int.reduceEq, Int.reduceAdd, Int.reduceSub, Int.reduceMul, Int.reduceNeg, Int.reduceLT, Int.reduceLE, Int.reduceToNat, Int.reduceBEq, Int.reduceNe, reduceCtorEq, w64_id, w8_id, w16_id, w32_id, tmod_pos, tdiv_pos, Bool.or_true, Bool.true_or, Bool.or_false, Bool.false_or, Bool.and_false, Bool.false_and, condK_decide, gt, gr2, gin, l1, sc, g3, l2, spc, g4, g5, g6, a0, a1, b0, b1, k0, k1, nb, nc, tkd, be, eqls_52, n2, ↓ez]
      exact hR _ _ ⟨rfl, (q4.front 7).ext⟩
end
end Go.Eng
