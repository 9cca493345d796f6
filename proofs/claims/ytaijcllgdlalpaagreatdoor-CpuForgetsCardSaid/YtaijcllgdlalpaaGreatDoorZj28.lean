/-
  viceroyref04: entry, Single.
-/
import Derived.Test.YtaijcllgdlalpaaGreatDoorZj26
import Derived.Test.YtaijcllgdlalpaaGreatDoorZj11
import Derived.Test.YtaijcllgdlalpaaGreatDoorZj12
namespace Go.Eng
set_option linter.unusedSimpArgs false
set_option linter.unusedVariables false
set_option maxRecDepth 16000
set_option maxHeartbeats 4000000
open Go Go.Proofs
theorem refFrames_S {h : Heap} {F : List SP} {rb n : Nat} {mem : Nat → Int} (hs : Sat h (refRamS rb n mem :: F)) : HCalls Tryz.prog 70 #[.pointer (some ⟨rb, 0, none⟩)] h fun v h' => v = .int .i64 n ∧ h' = h := by
  obtain ⟨⟨hb, hn⟩, v, ty, s⟩ := refRamS_iff.1 hs
  obtain ⟨_, _, rfl, -⟩ := (s.front 1).elems
  refine HCalls.via fun R hR => ?_
  refine HCalls.of_dev T70 Tryz.func70 rfl mixed (by kernel_rfl) ?_; rw [Tryz.results70]
  simp (maxSteps := 2000000) (disch := first | (simp only [go_sem, Nat.reduceBEq, Nat.reduceAdd, Nat.reduceMul, Nat.reduceSub, Nat.reduceEqDiff, Nat.reduceLeDiff, Nat.reduceLT, Int.reduceEq, Int.reduceAdd, Int.reduceSub, Int.reduceMul, Int.reduceNeg, Int.reduceLT, Int.reduceLE, Int.reduceToNat, Int.reduceBEq, Int.reduceNe, reduceCtorEq, s.get] <;> omega) | omega) only [go_sem, Nat.reduceBEq, Nat.reduceAdd, Nat.reduceMul, Nat.reduceSub, Nat.reduceEqDiff, Nat.reduceLeDiff, Nat.reduceLT, Int.reduceEq, Int.reduceAdd, Int.reduceSub, Int.reduceMul, Int.reduceNeg, Int.reduceLT, Int.reduceLE, Int.reduceToNat, Int.reduceBEq, Int.reduceNe, reduceCtorEq, w64_id, w8_id, w16_id, w32_id, tmod_pos, tdiv_pos, Bool.or_true, Bool.true_or, Bool.or_false, Bool.false_or, Bool.and_false, Bool.false_and, condK_decide, s.get]
  rw [show ((64 * n : Nat) : Int) / 64 = n by omega]
  exact hR _ _ ⟨rfl, rfl⟩
section
variable {h : Heap} {F : List SP} {rb n : Nat} {mem : Nat → Int}
theorem rentry_S (hs : Sat h (refRamS rb n mem :: F)) (t p l : Int) (hl : l = 0 ∨ l = 1) : HCalls Tryz.prog 36 #[.pointer (some ⟨rb, 0, none⟩), .int .i64 t, .int .i64 p, .int .i64 l] h fun v h' => v = .tuple #[.agg (stepE n mem t p l).1.cells.toArray, .int .i64 (stepE n mem t p l).2] ∧ Ext h h' := by
  refine HCalls.via fun R hR => ?_
  have s1 := (hs.push (.cells zeroE.cells.toArray 51 (0, 0))).swap
  have e1 := (Sat.init h).push (.cells zeroE.cells.toArray 51 (0, 0))
  simp only [Ent.cells_eq, zeroE] at s1 e1
  refine HCalls.of_dev T36 Tryz.func36 rfl mixed (by kernel_rfl) ?_; rw [Tryz.results36]
  by_cases c1 : t < 0
  · have he : stepE n mem t p l = (zeroE, 3) := by unfold stepE; rw [if_pos (.inl c1)]
    rw [he] at hR
    simp (maxSteps := 2000000) (disch := first | (simp only [go_sem, Nat.reduceBEq, Nat.reduceAdd, Nat.reduceMul, Nat.reduceSub, Nat.reduceEqDiff, Nat.reduceLeDiff, Nat.reduceLT, Int.reduceEq, Int.reduceAdd, Int.reduceSub, Int.reduceMul, Int.reduceNeg, Int.reduceLT, Int.reduceLE, Int.reduceToNat, Int.reduceBEq, Int.reduceNe, reduceCtorEq, c1] <;> omega) | omega) only [go_sem, Nat.reduceBEq, Nat.reduceAdd, Nat.reduceMul, Nat.reduceSub, Nat.reduceEqDiff, Nat.reduceLeDiff, Nat.reduceLT, Int.reduceEq, Int.reduceAdd, Int.reduceSub, Int.reduceMul, Int.reduceNeg, Int.reduceLT, Int.reduceLE, Int.reduceToNat, Int.reduceBEq, Int.reduceNe, reduceCtorEq, w64_id, w8_id, w16_id, w32_id, tmod_pos, tdiv_pos, Bool.or_true, Bool.true_or, Bool.or_false, Bool.false_or, Bool.and_false, Bool.false_and, condK_decide, c1]
    exact rdK_any fun _ => hR _ _ ⟨rfl, (e1.front 1).ext⟩
  simp (maxSteps := 2000000) (disch := first | (simp only [go_sem, Nat.reduceBEq, Nat.reduceAdd, Nat.reduceMul, Nat.reduceSub, Nat.reduceEqDiff, Nat.reduceLeDiff, Nat.reduceLT, Int.reduceEq, Int.reduceAdd, Int.reduceSub, Int.reduceMul, Int.reduceNeg, Int.reduceLT, Int.reduceLE, Int.reduceToNat, Int.reduceBEq, Int.reduceNe, reduceCtorEq, c1] <;> omega) | omega) only [go_sem, Nat.reduceBEq, Nat.reduceAdd, Nat.reduceMul, Nat.reduceSub, Nat.reduceEqDiff, Nat.reduceLeDiff, Nat.reduceLT, Int.reduceEq, Int.reduceAdd, Int.reduceSub, Int.reduceMul, Int.reduceNeg, Int.reduceLT, Int.reduceLE, Int.reduceToNat, Int.reduceBEq, Int.reduceNe, reduceCtorEq, w64_id, w8_id, w16_id, w32_id, tmod_pos, tdiv_pos, Bool.or_true, Bool.true_or, Bool.or_false, Bool.false_or, Bool.and_false, Bool.false_and, condK_decide, c1]
  refine (refFrames_S s1).mono ?_
  rintro v h' ⟨rfl, rfl⟩
  by_cases c2 : (n : Int) ≤ t
  · have he : stepE n mem t p l = (zeroE, 3) := by unfold stepE; rw [if_pos (.inr c2)]
    rw [he] at hR
    simp (maxSteps := 2000000) (disch := first | (simp only [go_sem, Nat.reduceBEq, Nat.reduceAdd, Nat.reduceMul, Nat.reduceSub, Nat.reduceEqDiff, Nat.reduceLeDiff, Nat.reduceLT, Int.reduceEq, Int.reduceAdd, Int.reduceSub, Int.reduceMul, Int.reduceNeg, Int.reduceLT, Int.reduceLE, Int.reduceToNat, Int.reduceBEq, Int.reduceNe, reduceCtorEq, c2] <;> omega) | omega) only [go_sem, Nat.reduceBEq, Nat.reduceAdd, Nat.reduceMul, Nat.reduceSub, Nat.reduceEqDiff, Nat.reduceLeDiff, Nat.reduceLT, Int.reduceEq, Int.reduceAdd, Int.reduceSub, Int.reduceMul, Int.reduceNeg, Int.reduceLT, Int.reduceLE, Int.reduceToNat, Int.reduceBEq, Int.reduceNe, reduceCtorEq, w64_id, w8_id, w16_id, w32_id, tmod_pos, tdiv_pos, Bool.or_true, Bool.true_or, Bool.or_false, Bool.false_or, Bool.and_false, Bool.false_and, condK_decide, c2]
    exact hR _ _ ⟨rfl, (e1.front 1).ext⟩
  simp (maxSteps := 2000000) (disch := first | (simp only [go_sem, Nat.reduceBEq, Nat.reduceAdd, Nat.reduceMul, Nat.reduceSub, Nat.reduceEqDiff, Nat.reduceLeDiff, Nat.reduceLT, Int.reduceEq, Int.reduceAdd, Int.reduceSub, Int.reduceMul, Int.reduceNeg, Int.reduceLT, Int.reduceLE, Int.reduceToNat, Int.reduceBEq, Int.reduceNe, reduceCtorEq, c2] <;> omega) | omega) only [go_sem, Nat.reduceBEq, Nat.reduceAdd, Nat.reduceMul, Nat.reduceSub, Nat.reduceEqDiff, Nat.reduceLeDiff, Nat.reduceLT, Int.reduceEq, Int.reduceAdd, Int.reduceSub, Int.reduceMul, Int.reduceNeg, Int.reduceLT, Int.reduceLE, Int.reduceToNat, Int.reduceBEq, Int.reduceNe, reduceCtorEq, w64_id, w8_id, w16_id, w32_id, tmod_pos, tdiv_pos, Bool.or_true, Bool.true_or, Bool.or_false, Bool.false_or, Bool.and_false, Bool.false_and, condK_decide, c2]
  refine (rptIndex_S p l).mono ?_
  rintro v h' ⟨rfl, rfl⟩
  simp (maxSteps := 2000000) (disch := first | (simp only [go_sem, Nat.reduceBEq, Nat.reduceAdd, Nat.reduceMul, Nat.reduceSub, Nat.reduceEqDiff, Nat.reduceLeDiff, Nat.reduceLT, Int.reduceEq, Int.reduceAdd, Int.reduceSub, Int.reduceMul, Int.reduceNeg, Int.reduceLT, Int.reduceLE, Int.reduceToNat, Int.reduceBEq, Int.reduceNe, reduceCtorEq] <;> omega) | omega) only [go_sem, Nat.reduceBEq, Nat.reduceAdd, Nat.reduceMul, Nat.reduceSub, Nat.reduceEqDiff, Nat.reduceLeDiff, Nat.reduceLT, Int.reduceEq, Int.reduceAdd, Int.reduceSub, Int.reduceMul, Int.reduceNeg, Int.reduceLT, Int.reduceLE, Int.reduceToNat, Int.reduceBEq, Int.reduceNe, reduceCtorEq, w64_id, w8_id, w16_id, w32_id, tmod_pos, tdiv_pos, Bool.or_true, Bool.true_or, Bool.or_false, Bool.false_or, Bool.and_false, Bool.false_and, condK_decide]
  refine (rptGet_S s1 t (idxE p l)).mono ?_
  rintro v h2 ⟨rfl, x2⟩
  have hst : ∀ g, g = getE n mem t (idxE p l) → (g.2 = 0 → g.1.V = true → g.1.L = decide (l = 1) → stepE n mem t p l = (g.1, 0)) ∧ (¬ (g.2 = 0 ∧ g.1.V = true ∧ g.1.L = decide (l = 1)) → stepE n mem t p l = (zeroE, 1)) := by
    rintro g rfl
    unfold stepE
    rw [if_neg (by omega)]
    exact ⟨fun a b c => if_pos ⟨a, b, c⟩, fun a => if_neg a⟩
  have hst2 := hst _ rfl
  clear hst
  generalize getE n mem t (idxE p l) = g at *
  obtain ⟨⟨gV, gL, gR, gF⟩, ge⟩ := g
  simp only at hst2
  generalize stepE n mem t p l = st at *
  have s5 := (e1.grow x2).push (.cells #[.bool gV, .bool gL, .int .i64 gR, .int .i64 gF] 51 (0, 0))
  have s6 := (s5.front 1).set (.cells #[.bool gV, .bool gL, .int .i64 gR, .int .i64 gF] 51 (0, 0))
  have s7 := (s5.front 1).set (.cells #[.bool false, .bool false, .int .i64 0, .int .i64 0] 51 (0, 0))
  have g5 := (s5.front 1).get
  by_cases k : ge = 0
  · subst k
    rcases hl with rfl | rfl
    all_goals cases gV <;> cases gL
    all_goals simp (maxSteps := 2000000) (disch := first | (simp only [go_sem, Nat.reduceBEq, Nat.reduceAdd, Nat.reduceMul, Nat.reduceSub, Nat.reduceEqDiff, Nat.reduceLeDiff, Nat.reduceLT, Int.reduceEq, Int.reduceAdd, Int.reduceSub, Int.reduceMul, Int.reduceNeg, Int.reduceLT, Int.reduceLE, Int.reduceToNat, Int.reduceBEq, Int.reduceNe, reduceCtorEq, s5.get, s6.get, s7.get, g5] <;> omega) | omega) only [go_sem, Nat.reduceBEq, Nat.reduceAdd, Nat.reduceMul, Nat.reduceSub, Nat.reduceEqDiff, Nat.reduceLeDiff, Nat.reduceLT, Int.reduceEq, Int.reduceAdd, Int.reduceSub, Int.reduceMul, Int.reduceNeg, Int.reduceLT, Int.reduceLE, Int.reduceToNat, Int.reduceBEq, Int.reduceNe, reduceCtorEq, w64_id, w8_id, w16_id, w32_id, tmod_pos, tdiv_pos, Bool.or_true, Bool.true_or, Bool.or_false, Bool.false_or, Bool.and_false, Bool.false_and, condK_decide, s5.get, s6.get, s7.get, g5]
    all_goals first
      | (have he := hst2.1 rfl rfl rfl
         subst he
         exact hR _ _ ⟨rfl, (s6.front 2).ext⟩)
      | (have he := hst2.2 (by simp)
         subst he
         exact hR _ _ ⟨rfl, (s7.front 2).ext⟩)
  · simp (maxSteps := 2000000) (disch := first | (simp only [go_sem, Nat.reduceBEq, Nat.reduceAdd, Nat.reduceMul, Nat.reduceSub, Nat.reduceEqDiff, Nat.reduceLeDiff, Nat.reduceLT, Int.reduceEq, Int.reduceAdd, Int.reduceSub, Int.reduceMul, Int.reduceNeg, Int.reduceLT, Int.reduceLE, Int.reduceToNat, Int.reduceBEq, Int.reduceNe, reduceCtorEq, s5.get, k, g5, s7.get] <;> omega) | omega) only [go_sem, Nat.reduceBEq, Nat.reduceAdd, Nat.reduceMul, Nat.reduceSub, Nat.reduceEqDiff, Nat.reduceLeDiff, Nat.reduceLT, Int.reduceEq, Int.reduceAdd, Int.reduceSub, Int.reduceMul, Int.reduceNeg, Int.reduceLT, Int.reduceLE, Int.reduceToNat, Int.reduceBEq, Int.reduceNe, reduceCtorEq, w64_id, w8_id, w16_id, w32_id, tmod_pos, tdiv_pos, Bool.or_true, Bool.true_or, Bool.or_false, Bool.false_or, Bool.and_false, Bool.false_and, condK_decide, s5.get, k, g5, s7.get]
    have he := hst2.2 (fun z => k z.1)
    subst he
    repeat (first | exact hR _ _ ⟨rfl, (s7.front 2).ext⟩ | refine rdK_any fun _ => ?_)
theorem rsingle_S (hs : Sat h (refRamS rb n mem :: F)) (root p : Int) : HCalls Tryz.prog 9 #[.pointer (some ⟨rb, 0, none⟩), .int .i64 root, .int .i64 p] h fun v h' => v = (sgW n mem root p).val ∧ Ext h h' := by
  refine HCalls.via fun R hR => ?_
  have s1 := (hs.push (.cells okF.cells.toArray 47 (0, 0))).swap
  have e1 := (Sat.init h).push (.cells okF.cells.toArray 47 (0, 0))
  have e9 := (Sat.init h).push (.cells (⟨3, 0, 0, false, 0⟩ : Flt).cells.toArray 47 (0, 0))
  simp only [Flt.cells_eq, okF] at s1 e1 e9
  unfold sgW Wlk.val at hR
  refine HCalls.of_dev T9 Tryz.func9 rfl mixed (by kernel_rfl) ?_; rw [Tryz.results9]
  by_cases c : p < 0 ∨ 1024 ≤ p
  · rw [if_pos c] at hR
    by_cases c1 : p < 0
    · simp (maxSteps := 2000000) (disch := first | (simp only [go_sem, Nat.reduceBEq, Nat.reduceAdd, Nat.reduceMul, Nat.reduceSub, Nat.reduceEqDiff, Nat.reduceLeDiff, Nat.reduceLT, Int.reduceEq, Int.reduceAdd, Int.reduceSub, Int.reduceMul, Int.reduceNeg, Int.reduceLT, Int.reduceLE, Int.reduceToNat, Int.reduceBEq, Int.reduceNe, reduceCtorEq, c1, e1.get, e9.get] <;> omega) | omega) only [go_sem, Nat.reduceBEq, Nat.reduceAdd, Nat.reduceMul, Nat.reduceSub, Nat.reduceEqDiff, Nat.reduceLeDiff, Nat.reduceLT, Int.reduceEq, Int.reduceAdd, Int.reduceSub, Int.reduceMul, Int.reduceNeg, Int.reduceLT, Int.reduceLE, Int.reduceToNat, Int.reduceBEq, Int.reduceNe, reduceCtorEq, w64_id, w8_id, w16_id, w32_id, tmod_pos, tdiv_pos, Bool.or_true, Bool.true_or, Bool.or_false, Bool.false_or, Bool.and_false, Bool.false_and, condK_decide, c1, e1.get, e9.get]
      exact hR _ _ ⟨rfl, (e9.front 1).ext⟩
    · have c2 : 1023 < p := by omega
      simp (maxSteps := 2000000) (disch := first | (simp only [go_sem, Nat.reduceBEq, Nat.reduceAdd, Nat.reduceMul, Nat.reduceSub, Nat.reduceEqDiff, Nat.reduceLeDiff, Nat.reduceLT, Int.reduceEq, Int.reduceAdd, Int.reduceSub, Int.reduceMul, Int.reduceNeg, Int.reduceLT, Int.reduceLE, Int.reduceToNat, Int.reduceBEq, Int.reduceNe, reduceCtorEq, c1, c2, e1.get, e9.get] <;> omega) | omega) only [go_sem, Nat.reduceBEq, Nat.reduceAdd, Nat.reduceMul, Nat.reduceSub, Nat.reduceEqDiff, Nat.reduceLeDiff, Nat.reduceLT, Int.reduceEq, Int.reduceAdd, Int.reduceSub, Int.reduceMul, Int.reduceNeg, Int.reduceLT, Int.reduceLE, Int.reduceToNat, Int.reduceBEq, Int.reduceNe, reduceCtorEq, w64_id, w8_id, w16_id, w32_id, tmod_pos, tdiv_pos, Bool.or_true, Bool.true_or, Bool.or_false, Bool.false_or, Bool.and_false, Bool.false_and, condK_decide, c1, c2, e1.get, e9.get]
      exact hR _ _ ⟨rfl, (e9.front 1).ext⟩
  have c1 : ¬ p < 0 := by omega
  have c2 : ¬ 1023 < p := by omega
  rw [if_neg c] at hR
  simp (maxSteps := 2000000) (disch := first | (simp only [go_sem, Nat.reduceBEq, Nat.reduceAdd, Nat.reduceMul, Nat.reduceSub, Nat.reduceEqDiff, Nat.reduceLeDiff, Nat.reduceLT, Int.reduceEq, Int.reduceAdd, Int.reduceSub, Int.reduceMul, Int.reduceNeg, Int.reduceLT, Int.reduceLE, Int.reduceToNat, Int.reduceBEq, Int.reduceNe, reduceCtorEq, c1, c2] <;> omega) | omega) only [go_sem, Nat.reduceBEq, Nat.reduceAdd, Nat.reduceMul, Nat.reduceSub, Nat.reduceEqDiff, Nat.reduceLeDiff, Nat.reduceLT, Int.reduceEq, Int.reduceAdd, Int.reduceSub, Int.reduceMul, Int.reduceNeg, Int.reduceLT, Int.reduceLE, Int.reduceToNat, Int.reduceBEq, Int.reduceNe, reduceCtorEq, w64_id, w8_id, w16_id, w32_id, tmod_pos, tdiv_pos, Bool.or_true, Bool.true_or, Bool.or_false, Bool.false_or, Bool.and_false, Bool.false_and, condK_decide, c1, c2]
  refine (rentry_S s1 root p 0 (.inl rfl)).mono ?_
  rintro v h2 ⟨rfl, x2⟩
  generalize hst : stepE n mem root p 0 = st at *
  obtain ⟨⟨gV, gL, gR, gF⟩, ge⟩ := st
  have s5 := (s1.grow x2).push (.cells #[.bool gV, .bool gL, .int .i64 gR, .int .i64 gF] 51 (0, 0))
  have e5 := (e1.grow x2).push (.cells #[.bool gV, .bool gL, .int .i64 gR, .int .i64 gF] 51 (0, 0))
  by_cases k : ge = 0
  · rw [if_neg (by simpa using k)] at hR
    simp (maxSteps := 2000000) (disch := first | (simp only [go_sem, Nat.reduceBEq, Nat.reduceAdd, Nat.reduceMul, Nat.reduceSub, Nat.reduceEqDiff, Nat.reduceLeDiff, Nat.reduceLT, Int.reduceEq, Int.reduceAdd, Int.reduceSub, Int.reduceMul, Int.reduceNeg, Int.reduceLT, Int.reduceLE, Int.reduceToNat, Int.reduceBEq, Int.reduceNe, reduceCtorEq, s5.get, k] <;> omega) | omega) only [go_sem, Nat.reduceBEq, Nat.reduceAdd, Nat.reduceMul, Nat.reduceSub, Nat.reduceEqDiff, Nat.reduceLeDiff, Nat.reduceLT, Int.reduceEq, Int.reduceAdd, Int.reduceSub, Int.reduceMul, Int.reduceNeg, Int.reduceLT, Int.reduceLE, Int.reduceToNat, Int.reduceBEq, Int.reduceNe, reduceCtorEq, w64_id, w8_id, w16_id, w32_id, tmod_pos, tdiv_pos, Bool.or_true, Bool.true_or, Bool.or_false, Bool.false_or, Bool.and_false, Bool.false_and, condK_decide, s5.get, k]
    refine (rentry_S (s5.front 1) gF p 1 (.inr rfl)).mono ?_
    rintro v h3 ⟨rfl, x3⟩
    simp only at hR
    generalize hst2 : stepE n mem gF p 1 = st2 at *
    obtain ⟨⟨kV, kL, kR, kF⟩, ke⟩ := st2
    have e6 := (e5.grow x3).push (.cells #[.bool kV, .bool kL, .int .i64 kR, .int .i64 kF] 51 (0, 0))
    have g6 := (e6.front 2).get
    by_cases k2 : ke = 0
    · rw [if_neg (by simpa using k2)] at hR
      have e7 := (e6.front 2).set (.cells okF.cells.toArray 47 (0, 0))
      simp only [Flt.cells_eq, okF] at e7
      simp (maxSteps := 2000000) (disch := first | (simp only [go_sem, Nat.reduceBEq, Nat.reduceAdd, Nat.reduceMul, Nat.reduceSub, Nat.reduceEqDiff, Nat.reduceLeDiff, Nat.reduceLT, Int.reduceEq, Int.reduceAdd, Int.reduceSub, Int.reduceMul, Int.reduceNeg, Int.reduceLT, Int.reduceLE, Int.reduceToNat, Int.reduceBEq, Int.reduceNe, reduceCtorEq, e6.get, k2, g6, e7.get] <;> omega) | omega) only [go_sem, Nat.reduceBEq, Nat.reduceAdd, Nat.reduceMul, Nat.reduceSub, Nat.reduceEqDiff, Nat.reduceLeDiff, Nat.reduceLT, Int.reduceEq, Int.reduceAdd, Int.reduceSub, Int.reduceMul, Int.reduceNeg, Int.reduceLT, Int.reduceLE, Int.reduceToNat, Int.reduceBEq, Int.reduceNe, reduceCtorEq, w64_id, w8_id, w16_id, w32_id, tmod_pos, tdiv_pos, Bool.or_true, Bool.true_or, Bool.or_false, Bool.false_or, Bool.and_false, Bool.false_and, condK_decide, e6.get, k2, g6, e7.get]
      exact hR _ _ ⟨rfl, (e7.front 3).ext⟩
    · rw [if_pos k2] at hR
      have e7 := (e6.front 2).set (.cells (⟨ke, 2, 1, false, p⟩ : Flt).cells.toArray 47 (0, 0))
      simp only [Flt.cells_eq] at e7
      simp (maxSteps := 2000000) (disch := first | (simp only [go_sem, Nat.reduceBEq, Nat.reduceAdd, Nat.reduceMul, Nat.reduceSub, Nat.reduceEqDiff, Nat.reduceLeDiff, Nat.reduceLT, Int.reduceEq, Int.reduceAdd, Int.reduceSub, Int.reduceMul, Int.reduceNeg, Int.reduceLT, Int.reduceLE, Int.reduceToNat, Int.reduceBEq, Int.reduceNe, reduceCtorEq, e6.get, k2, g6, e7.get] <;> omega) | omega) only [go_sem, Nat.reduceBEq, Nat.reduceAdd, Nat.reduceMul, Nat.reduceSub, Nat.reduceEqDiff, Nat.reduceLeDiff, Nat.reduceLT, Int.reduceEq, Int.reduceAdd, Int.reduceSub, Int.reduceMul, Int.reduceNeg, Int.reduceLT, Int.reduceLE, Int.reduceToNat, Int.reduceBEq, Int.reduceNe, reduceCtorEq, w64_id, w8_id, w16_id, w32_id, tmod_pos, tdiv_pos, Bool.or_true, Bool.true_or, Bool.or_false, Bool.false_or, Bool.and_false, Bool.false_and, condK_decide, e6.get, k2, g6, e7.get]
      exact hR _ _ ⟨rfl, (e7.front 3).ext⟩
  · rw [if_pos k] at hR
    have g6 := (e5.front 1).get
    have e7 := (e5.front 1).set (.cells (⟨ge, 2, 0, false, p⟩ : Flt).cells.toArray 47 (0, 0))
    simp only [Flt.cells_eq] at e7
    simp (maxSteps := 2000000) (disch := first | (simp only [go_sem, Nat.reduceBEq, Nat.reduceAdd, Nat.reduceMul, Nat.reduceSub, Nat.reduceEqDiff, Nat.reduceLeDiff, Nat.reduceLT, Int.reduceEq, Int.reduceAdd, Int.reduceSub, Int.reduceMul, Int.reduceNeg, Int.reduceLT, Int.reduceLE, Int.reduceToNat, Int.reduceBEq, Int.reduceNe, reduceCtorEq, s5.get, k, g6, e7.get] <;> omega) | omega) only [go_sem, Nat.reduceBEq, Nat.reduceAdd, Nat.reduceMul, Nat.reduceSub, Nat.reduceEqDiff, Nat.reduceLeDiff, Nat.reduceLT, Int.reduceEq, Int.reduceAdd, Int.reduceSub, Int.reduceMul, Int.reduceNeg, Int.reduceLT, Int.reduceLE, Int.reduceToNat, Int.reduceBEq, Int.reduceNe, reduceCtorEq, w64_id, w8_id, w16_id, w32_id, tmod_pos, tdiv_pos, Bool.or_true, Bool.true_or, Bool.or_false, Bool.false_or, Bool.and_false, Bool.false_and, condK_decide, s5.get, k, g6, e7.get]
    exact hR _ _ ⟨rfl, (e7.front 2).ext⟩
end
end Go.Eng
/-
  package tlb: FlushAll.
-/
namespace Go.Eng
set_option linter.unusedSimpArgs false
set_option linter.unusedVariables false
set_option maxRecDepth 16000
set_option maxHeartbeats 4000000
open Go Go.Proofs
section
variable {h : Heap} {F : List SP} {tb : Nat} {T : List Ln}
theorem allC_S (x : Ln) : HCalls Tryz.prog 44 (#[] ++ #[.agg x.cells.toArray] ++ #[]) h fun r h'' => r = .bool true ∧ Ext h h'' := by
  rw [show (#[] ++ #[.agg x.cells.toArray] ++ #[] : Array Value) = #[.agg x.cells.toArray] by simp]
  refine HCalls.via fun R hR => ?_
  refine HCalls.of_dev T44 Tryz.func44 rfl mixed (by kernel_rfl) ?_; rw [Tryz.results44]
  simp (maxSteps := 2000000) (disch := first | (simp only [go_sem, Nat.reduceBEq, Nat.reduceAdd, Nat.reduceMul, Nat.reduceSub, Nat.reduceEqDiff, Nat.reduceLeDiff, Nat.reduceLT, Int.reduceEq, Int.reduceAdd, Int.reduceSub, Int.reduceMul, Int.reduceNeg, Int.reduceLT, Int.reduceLE, Int.reduceToNat, Int.reduceBEq, Int.reduceNe, reduceCtorEq] <;> omega) | omega) only [go_sem, Nat.reduceBEq, Nat.reduceAdd, Nat.reduceMul, Nat.reduceSub, Nat.reduceEqDiff, Nat.reduceLeDiff, Nat.reduceLT, Int.reduceEq, Int.reduceAdd, Int.reduceSub, Int.reduceMul, Int.reduceNeg, Int.reduceLT, Int.reduceLE, Int.reduceToNat, Int.reduceBEq, Int.reduceNe, reduceCtorEq, w64_id, w8_id, w16_id, w32_id, tmod_pos, tdiv_pos, Bool.or_true, Bool.true_or, Bool.or_false, Bool.false_or, Bool.and_false, Bool.false_and, condK_decide]
  exact hR _ _ ⟨rfl, Ext.push _ _⟩
theorem flushAll_S (hs : Sat h (tlbS tb T :: F)) : HCalls Tryz.prog 12 #[.pointer (some ⟨tb, 0, none⟩)] h fun r h' => (∃ n, r = .int .i64 n) ∧ Sat h' (tlbS tb (flushT T fun _ => true) :: F) := by
  refine HCalls.via fun R hR => ?_
  refine HCalls.of_dev T12 Tryz.func12 rfl mixed (by kernel_rfl) ?_; rw [Tryz.results12]
  simp (maxSteps := 2000000) (disch := first | (simp only [go_sem, Nat.reduceBEq, Nat.reduceAdd, Nat.reduceMul, Nat.reduceSub, Nat.reduceEqDiff, Nat.reduceLeDiff, Nat.reduceLT, Int.reduceEq, Int.reduceAdd, Int.reduceSub, Int.reduceMul, Int.reduceNeg, Int.reduceLT, Int.reduceLE, Int.reduceToNat, Int.reduceBEq, Int.reduceNe, reduceCtorEq] <;> omega) | omega) only [go_sem, Nat.reduceBEq, Nat.reduceAdd, Nat.reduceMul, Nat.reduceSub, Nat.reduceEqDiff, Nat.reduceLeDiff, Nat.reduceLT, Int.reduceEq, Int.reduceAdd, Int.reduceSub, Int.reduceMul, Int.reduceNeg, Int.reduceLT, Int.reduceLE, Int.reduceToNat, Int.reduceBEq, Int.reduceNe, reduceCtorEq, w64_id, w8_id, w16_id, w32_id, tmod_pos, tdiv_pos, Bool.or_true, Bool.true_or, Bool.or_false, Bool.false_or, Bool.and_false, Bool.false_and, condK_decide]
  refine (flush_S (F := F) hs (fun _ => true) 44 [] (by kernel_rfl) (fun A h' x q => allC_S x)).mono ?_
  rintro r h3 ⟨⟨n, rfl⟩, s3⟩
  simp (maxSteps := 2000000) (disch := first | (simp only [go_sem, Nat.reduceBEq, Nat.reduceAdd, Nat.reduceMul, Nat.reduceSub, Nat.reduceEqDiff, Nat.reduceLeDiff, Nat.reduceLT, Int.reduceEq, Int.reduceAdd, Int.reduceSub, Int.reduceMul, Int.reduceNeg, Int.reduceLT, Int.reduceLE, Int.reduceToNat, Int.reduceBEq, Int.reduceNe, reduceCtorEq] <;> omega) | omega) only [go_sem, Nat.reduceBEq, Nat.reduceAdd, Nat.reduceMul, Nat.reduceSub, Nat.reduceEqDiff, Nat.reduceLeDiff, Nat.reduceLT, Int.reduceEq, Int.reduceAdd, Int.reduceSub, Int.reduceMul, Int.reduceNeg, Int.reduceLT, Int.reduceLE, Int.reduceToNat, Int.reduceBEq, Int.reduceNe, reduceCtorEq, w64_id, w8_id, w16_id, w32_id, tmod_pos, tdiv_pos, Bool.or_true, Bool.true_or, Bool.or_false, Bool.false_or, Bool.and_false, Bool.false_and, condK_decide]
  exact hR _ _ ⟨⟨_, rfl⟩, s3⟩
theorem flush_all_zero : ∀ l ∈ flushT T fun _ => true, l = zeroL := by
  intro l hl
  unfold flushT at hl
  obtain ⟨x, hx, e⟩ := List.mem_map.1 hl
  split at e
  · exact e.symm
  · rename_i q
    simp at q
    rw [← e, q]
end
end Go.Eng
