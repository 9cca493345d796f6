/-
  package cspace: Resolve.
-/
import Derived.Test.YtlkofpoginokbaaCsp3
namespace Go.Eng
set_option linter.unusedSimpArgs false
set_option linter.unusedVariables false
set_option maxRecDepth 16000
set_option maxHeartbeats 4000000
open Go Go.Proofs
/-- The way of an address: node, index, bits left, error. -/
def resM (L : List Nd) (w : Int) : Nat → Cap → Int → Int × Int × Int × Int
  | 0, _, _ => (0, 0, 0, 0)
  | f + 1, c, left =>
    if left < c.W then (0, 0, 0, 122)
    else if takeV w left c.W ≠ c.G then (0, 0, 0, 122)
    else if left - c.W < c.X then (0, 0, 0, 123)
    else if radixN L c.O ≠ c.X then (0, 0, 0, 120)
    else if left - c.W - c.X = 0 ∨ (getN L c.O (takeV w (left - c.W) c.X)).1.K ≠ 2 then (c.O, takeV w (left - c.W) c.X, left - c.W - c.X, 0)
    else resM L w f (getN L c.O (takeV w (left - c.W) c.X)).1 (left - c.W - c.X)
def resolveN (L : List Nd) (root : Cap) (w depth : Int) : Int × Int × Int × Int :=
  if root.K ≠ 2 ∨ ¬ RightP root then (0, 0, 0, 121) else if depth < 1 ∨ 16 < depth then (0, 0, 0, 123) else resM L w 16 root depth
def resI (x : Int × Int × Int × Int) : Value := .tuple #[.agg #[.int .i64 x.1, .int .i64 x.2.1], .int .i64 x.2.2.1, .int .i64 x.2.2.2]
theorem takeV_lt (w left n : Int) : 0 ≤ takeV w left n ∧ takeV w left n < 2 ^ n.toNat := by
  unfold takeV
  have : (0 : Int) < 2 ^ n.toNat := Int.pow_pos (by decide)
  exact ⟨Int.emod_nonneg _ (by omega), Int.emod_lt_of_pos _ this⟩
section
variable {h : Heap} {F : List SP} {sb : Nat} {L : List Nd}
theorem resolve_S (hs : Sat h (spaceS sb L :: F)) (hw : wfL L) (root : Cap) (hf : root.fit) (w depth : Int) (hb : 0 ≤ w ∧ w ≤ 4294967295) : HCalls Try.prog 12 #[.pointer (some ⟨sb, 0, none⟩), .agg root.cells.toArray, .int .u32 w, .int .i64 depth] h fun v h' => v = resI (resolveN L root w depth) ∧ Ext h h' := by
  refine HCalls.via fun R hR => ?_
  obtain ⟨K, O, P, B, X, G, W, D⟩ := root
  refine HCalls.of_dev T12 Try.func12 rfl mixed (by kernel_rfl) ?_; rw [Try.results12]
  by_cases k : K = 2
  · subst k
    simp (maxSteps := 2000000) (disch := first | (simp only [go_sem, Nat.reduceBEq, Nat.reduceAdd, Nat.reduceMul, Nat.reduceSub, Nat.reduceEqDiff, Nat.reduceLeDiff, Nat.reduceLT, Int.reduceEq, Int.reduceAdd, Int.reduceSub, Int.reduceMul, Int.reduceNeg, Int.reduceLT, Int.reduceLE, Int.reduceToNat, Int.reduceBEq, Int.reduceNe, reduceCtorEq]; done) | omega | (simp only [go_sem, Nat.reduceBEq, Nat.reduceAdd, Nat.reduceMul, Nat.reduceSub, Nat.reduceEqDiff, Nat.reduceLeDiff, Nat.reduceLT, Int.reduceEq, Int.reduceAdd, Int.reduceSub, Int.reduceMul, Int.reduceNeg, Int.reduceLT, Int.reduceLE, Int.reduceToNat, Int.reduceBEq, Int.reduceNe, reduceCtorEq]; omega)) only [go_sem, Nat.reduceBEq, Nat.reduceAdd, Nat.reduceMul, Nat.reduceSub, Nat.reduceEqDiff, Nat.reduceLeDiff, Nat.reduceLT, Int.reduceEq, Int.reduceAdd, Int.reduceSub, Int.reduceMul, Int.reduceNeg, Int.reduceLT, Int.reduceLE, Int.reduceToNat, Int.reduceBEq, Int.reduceNe, reduceCtorEq, w64_id, w8_id, w16_id, w32_id, tmod_pos, tdiv_pos, Bool.or_true, Bool.true_or, Bool.or_false, Bool.false_or, Bool.and_false, Bool.false_and, condK_decide]
    refine (right_S ⟨2, O, P, B, X, G, W, D⟩ hf).mono ?_
    rintro v h1 ⟨rfl, hx1⟩
    have s1 := (((Sat.init h).push (.cells [.int .i64 2, .int .i64 O, .int .i64 P, .int .i64 B, .int .i64 X, .int .i64 G, .int .i64 W, .bool D].toArray 24 (0, 0))).push (.cells [.int .i64 0, .int .i64 0].toArray 27 (0, 0))).grow hx1
    rw [size_push'] at s1
    have f1 := s1.get
    have f2 := (s1.front 1).get
    have s1z := s1.set (.cells [.int .i64 0, .int .i64 0].toArray 27 (0, 0))
    have f1z := s1z.get
    by_cases r : RightP ⟨2, O, P, B, X, G, W, D⟩
    · by_cases d1 : depth < 1
      · have er : resolveN L ⟨2, O, P, B, X, G, W, D⟩ w depth = (0, 0, 0, 123) := by unfold resolveN; rw [if_neg (by simp [r]), if_pos (by omega)]
        rw [er] at hR
        simp (maxSteps := 2000000) (disch := first | (simp only [go_sem, Nat.reduceBEq, Nat.reduceAdd, Nat.reduceMul, Nat.reduceSub, Nat.reduceEqDiff, Nat.reduceLeDiff, Nat.reduceLT, Int.reduceEq, Int.reduceAdd, Int.reduceSub, Int.reduceMul, Int.reduceNeg, Int.reduceLT, Int.reduceLE, Int.reduceToNat, Int.reduceBEq, Int.reduceNe, reduceCtorEq, r, d1, f1, f1z]; done) | omega | (simp only [go_sem, Nat.reduceBEq, Nat.reduceAdd, Nat.reduceMul, Nat.reduceSub, Nat.reduceEqDiff, Nat.reduceLeDiff, Nat.reduceLT, Int.reduceEq, Int.reduceAdd, Int.reduceSub, Int.reduceMul, Int.reduceNeg, Int.reduceLT, Int.reduceLE, Int.reduceToNat, Int.reduceBEq, Int.reduceNe, reduceCtorEq, r, d1, f1, f1z]; omega)) only [go_sem, Nat.reduceBEq, Nat.reduceAdd, Nat.reduceMul, Nat.reduceSub, Nat.reduceEqDiff, Nat.reduceLeDiff, Nat.reduceLT, Int.reduceEq, Int.reduceAdd, Int.reduceSub, Int.reduceMul, Int.reduceNeg, Int.reduceLT, Int.reduceLE, Int.reduceToNat, Int.reduceBEq, Int.reduceNe, reduceCtorEq, w64_id, w8_id, w16_id, w32_id, tmod_pos, tdiv_pos, Bool.or_true, Bool.true_or, Bool.or_false, Bool.false_or, Bool.and_false, Bool.false_and, condK_decide, r, d1, f1, f1z]
        exact hR _ _ ⟨rfl, (s1z.front 2).ext⟩
      by_cases d2 : 16 < depth
      · have er : resolveN L ⟨2, O, P, B, X, G, W, D⟩ w depth = (0, 0, 0, 123) := by unfold resolveN; rw [if_neg (by simp [r]), if_pos (by omega)]
        rw [er] at hR
        simp (maxSteps := 2000000) (disch := first | (simp only [go_sem, Nat.reduceBEq, Nat.reduceAdd, Nat.reduceMul, Nat.reduceSub, Nat.reduceEqDiff, Nat.reduceLeDiff, Nat.reduceLT, Int.reduceEq, Int.reduceAdd, Int.reduceSub, Int.reduceMul, Int.reduceNeg, Int.reduceLT, Int.reduceLE, Int.reduceToNat, Int.reduceBEq, Int.reduceNe, reduceCtorEq, r, d1, d2, f1, f1z]; done) | omega | (simp only [go_sem, Nat.reduceBEq, Nat.reduceAdd, Nat.reduceMul, Nat.reduceSub, Nat.reduceEqDiff, Nat.reduceLeDiff, Nat.reduceLT, Int.reduceEq, Int.reduceAdd, Int.reduceSub, Int.reduceMul, Int.reduceNeg, Int.reduceLT, Int.reduceLE, Int.reduceToNat, Int.reduceBEq, Int.reduceNe, reduceCtorEq, r, d1, d2, f1, f1z]; omega)) only [go_sem, Nat.reduceBEq, Nat.reduceAdd, Nat.reduceMul, Nat.reduceSub, Nat.reduceEqDiff, Nat.reduceLeDiff, Nat.reduceLT, Int.reduceEq, Int.reduceAdd, Int.reduceSub, Int.reduceMul, Int.reduceNeg, Int.reduceLT, Int.reduceLE, Int.reduceToNat, Int.reduceBEq, Int.reduceNe, reduceCtorEq, w64_id, w8_id, w16_id, w32_id, tmod_pos, tdiv_pos, Bool.or_true, Bool.true_or, Bool.or_false, Bool.false_or, Bool.and_false, Bool.false_and, condK_decide, r, d1, d2, f1, f1z]
        exact hR _ _ ⟨rfl, (s1z.front 2).ext⟩
      have er : resolveN L ⟨2, O, P, B, X, G, W, D⟩ w depth = resM L w 16 ⟨2, O, P, B, X, G, W, D⟩ depth := by unfold resolveN; rw [if_neg (by simp [r]), if_neg (by omega)]
      rw [er] at hR
      have s2 := s1.push (.cells [.int .u32 w, .int .i64 depth].toArray 69 (0, 0))
      have s3 := s2.push (.cells [.int .i64 2, .int .i64 O, .int .i64 P, .int .i64 B, .int .i64 X, .int .i64 G, .int .i64 W, .bool D].toArray 24 (0, 0))
      rw [size_push'] at s3
      have f2' := (s2.front 2).get
      simp (maxSteps := 2000000) (disch := first | (simp only [go_sem, Nat.reduceBEq, Nat.reduceAdd, Nat.reduceMul, Nat.reduceSub, Nat.reduceEqDiff, Nat.reduceLeDiff, Nat.reduceLT, Int.reduceEq, Int.reduceAdd, Int.reduceSub, Int.reduceMul, Int.reduceNeg, Int.reduceLT, Int.reduceLE, Int.reduceToNat, Int.reduceBEq, Int.reduceNe, reduceCtorEq, r, d1, d2, f2']; done) | omega | (simp only [go_sem, Nat.reduceBEq, Nat.reduceAdd, Nat.reduceMul, Nat.reduceSub, Nat.reduceEqDiff, Nat.reduceLeDiff, Nat.reduceLT, Int.reduceEq, Int.reduceAdd, Int.reduceSub, Int.reduceMul, Int.reduceNeg, Int.reduceLT, Int.reduceLE, Int.reduceToNat, Int.reduceBEq, Int.reduceNe, reduceCtorEq, r, d1, d2, f2']; omega)) only [go_sem, Nat.reduceBEq, Nat.reduceAdd, Nat.reduceMul, Nat.reduceSub, Nat.reduceEqDiff, Nat.reduceLeDiff, Nat.reduceLT, Int.reduceEq, Int.reduceAdd, Int.reduceSub, Int.reduceMul, Int.reduceNeg, Int.reduceLT, Int.reduceLE, Int.reduceToNat, Int.reduceBEq, Int.reduceNe, reduceCtorEq, w64_id, w8_id, w16_id, w32_id, tmod_pos, tdiv_pos, Bool.or_true, Bool.true_or, Bool.or_false, Bool.false_or, Bool.and_false, Bool.false_and, condK_decide, r, d1, d2, f2']
      generalize h1.size = bb at *
      refine loopH.intro (fun _ : Nat × Cap × Int × Int × Int => (.cons 0 (.pointer (some ⟨sb, 0, none⟩)) true (.cons 8 (.pointer (some ⟨h.size + 1, 0, none⟩)) true (.cons 11 (.pointer (some ⟨bb, 0, none⟩)) true (.cons 12 (.pointer (some ⟨bb + 1, 0, none⟩)) true .nil)))))
        (fun t h' => Sat h' [cellAt (bb + 1) (.cells t.2.1.cells.toArray 24 (0, 0)), cellAt bb (.cells [.int .u32 w, .int .i64 t.2.2.1].toArray 69 (0, 0)), cellAt (h.size + 1) (.cells [.int .i64 t.2.2.2.1, .int .i64 t.2.2.2.2].toArray 27 (0, 0)), oldS h] ∧
          1 ≤ t.2.2.1 ∧ t.2.2.1 ≤ 16 ∧ t.2.2.1 ≤ t.1 ∧ t.2.1.K = 2 ∧ RightP t.2.1 ∧ t.2.1.fit ∧ resM L w t.1 t.2.1 t.2.2.1 = resM L w 16 ⟨2, O, P, B, X, G, W, D⟩ depth) (fun t _ => t.1) (16, ⟨2, O, P, B, X, G, W, D⟩, depth, 0, 0) ?_ ⟨by have q := (s3.front 3).tail; simp only [Cap.cells_eq]; exact q, by simp only; omega, by simp only; omega, by simp only; omega, rfl, r, hf, rfl⟩ ?_
      · simp (maxSteps := 2000000) (disch := first | (simp only [go_sem, Nat.reduceBEq, Nat.reduceAdd, Nat.reduceMul, Nat.reduceSub, Nat.reduceEqDiff, Nat.reduceLeDiff, Nat.reduceLT, Int.reduceEq, Int.reduceAdd, Int.reduceSub, Int.reduceMul, Int.reduceNeg, Int.reduceLT, Int.reduceLE, Int.reduceToNat, Int.reduceBEq, Int.reduceNe, reduceCtorEq]; done) | omega | (simp only [go_sem, Nat.reduceBEq, Nat.reduceAdd, Nat.reduceMul, Nat.reduceSub, Nat.reduceEqDiff, Nat.reduceLeDiff, Nat.reduceLT, Int.reduceEq, Int.reduceAdd, Int.reduceSub, Int.reduceMul, Int.reduceNeg, Int.reduceLT, Int.reduceLE, Int.reduceToNat, Int.reduceBEq, Int.reduceNe, reduceCtorEq]; omega)) only [go_sem, Nat.reduceBEq, Nat.reduceAdd, Nat.reduceMul, Nat.reduceSub, Nat.reduceEqDiff, Nat.reduceLeDiff, Nat.reduceLT, Int.reduceEq, Int.reduceAdd, Int.reduceSub, Int.reduceMul, Int.reduceNeg, Int.reduceLT, Int.reduceLE, Int.reduceToNat, Int.reduceBEq, Int.reduceNe, reduceCtorEq, w64_id, w8_id, w16_id, w32_id, tmod_pos, tdiv_pos, Bool.or_true, Bool.true_or, Bool.or_false, Bool.false_or, Bool.and_false, Bool.false_and, condK_decide]
      clear s1 s2 s3 f1 f2 f1z f2' s1z r hf er hx1 d1 d2
      rintro ⟨f, c, left, an, ai⟩ h' ⟨s, b1, b2, b3, ck, cr, cf, re⟩
      simp only at s b1 b2 b3 ck cr cf re
      have hx := (s.front 3).ext
      have hs' := hs.grow hx
      obtain ⟨g, rfl⟩ : ∃ g, f = g + 1 := ⟨f - 1, by omega⟩
      have cr2 : 1 ≤ c.X ∧ c.X ≤ 4 ∧ guardP c.G c.W := by
        have := cr.2.2.2.2.2.2.2
        rwa [if_pos ck] at this
      have gW : 0 ≤ c.W ∧ c.W ≤ 16 := ⟨cr2.2.2.1, cr2.2.2.2.1⟩
      rw [resM] at re
      simp (maxSteps := 2000000) (disch := first | (simp only [go_sem, Nat.reduceBEq, Nat.reduceAdd, Nat.reduceMul, Nat.reduceSub, Nat.reduceEqDiff, Nat.reduceLeDiff, Nat.reduceLT, Int.reduceEq, Int.reduceAdd, Int.reduceSub, Int.reduceMul, Int.reduceNeg, Int.reduceLT, Int.reduceLE, Int.reduceToNat, Int.reduceBEq, Int.reduceNe, reduceCtorEq, (s.front 0).get, (s.front 1).get, (s.front 2).get]; done) | omega | (simp only [go_sem, Nat.reduceBEq, Nat.reduceAdd, Nat.reduceMul, Nat.reduceSub, Nat.reduceEqDiff, Nat.reduceLeDiff, Nat.reduceLT, Int.reduceEq, Int.reduceAdd, Int.reduceSub, Int.reduceMul, Int.reduceNeg, Int.reduceLT, Int.reduceLE, Int.reduceToNat, Int.reduceBEq, Int.reduceNe, reduceCtorEq, (s.front 0).get, (s.front 1).get, (s.front 2).get]; omega)) only [go_sem, Nat.reduceBEq, Nat.reduceAdd, Nat.reduceMul, Nat.reduceSub, Nat.reduceEqDiff, Nat.reduceLeDiff, Nat.reduceLT, Int.reduceEq, Int.reduceAdd, Int.reduceSub, Int.reduceMul, Int.reduceNeg, Int.reduceLT, Int.reduceLE, Int.reduceToNat, Int.reduceBEq, Int.reduceNe, reduceCtorEq, w64_id, w8_id, w16_id, w32_id, tmod_pos, tdiv_pos, Bool.or_true, Bool.true_or, Bool.or_false, Bool.false_or, Bool.and_false, Bool.false_and, condK_decide, (s.front 0).get, (s.front 1).get, (s.front 2).get]
      refine (take_S (s.front 1) hb ⟨by omega, b2⟩ c.W gW.1).mono ?_
      rintro v h2 (⟨e1, rfl, rfl⟩ | ⟨e1, rfl, rfl⟩)
      · rw [if_pos e1] at re
        rw [← re] at hR
        have s1 := (s.front 2).set (.cells [.int .i64 0, .int .i64 0].toArray 27 (0, 0))
        simp (maxSteps := 2000000) (disch := first | (simp only [go_sem, Nat.reduceBEq, Nat.reduceAdd, Nat.reduceMul, Nat.reduceSub, Nat.reduceEqDiff, Nat.reduceLeDiff, Nat.reduceLT, Int.reduceEq, Int.reduceAdd, Int.reduceSub, Int.reduceMul, Int.reduceNeg, Int.reduceLT, Int.reduceLE, Int.reduceToNat, Int.reduceBEq, Int.reduceNe, reduceCtorEq, (s.front 2).get, s1.get]; done) | omega | (simp only [go_sem, Nat.reduceBEq, Nat.reduceAdd, Nat.reduceMul, Nat.reduceSub, Nat.reduceEqDiff, Nat.reduceLeDiff, Nat.reduceLT, Int.reduceEq, Int.reduceAdd, Int.reduceSub, Int.reduceMul, Int.reduceNeg, Int.reduceLT, Int.reduceLE, Int.reduceToNat, Int.reduceBEq, Int.reduceNe, reduceCtorEq, (s.front 2).get, s1.get]; omega)) only [go_sem, Nat.reduceBEq, Nat.reduceAdd, Nat.reduceMul, Nat.reduceSub, Nat.reduceEqDiff, Nat.reduceLeDiff, Nat.reduceLT, Int.reduceEq, Int.reduceAdd, Int.reduceSub, Int.reduceMul, Int.reduceNeg, Int.reduceLT, Int.reduceLE, Int.reduceToNat, Int.reduceBEq, Int.reduceNe, reduceCtorEq, w64_id, w8_id, w16_id, w32_id, tmod_pos, tdiv_pos, Bool.or_true, Bool.true_or, Bool.or_false, Bool.false_or, Bool.and_false, Bool.false_and, condK_decide, (s.front 2).get, s1.get]
        refine rdK_any fun _ => rdK_any fun _ => ?_
        exact hR _ _ ⟨rfl, (s1.front 3).ext⟩
      · rw [if_neg (by omega)] at re
        have s2 := (s.front 1).set (.cells [.int .u32 w, .int .i64 (left - c.W)].toArray 69 (0, 0))
        by_cases eg : takeV w left c.W = c.G
        · rw [if_neg (by simpa using eg)] at re
          simp (maxSteps := 2000000) (disch := first | (simp only [go_sem, Nat.reduceBEq, Nat.reduceAdd, Nat.reduceMul, Nat.reduceSub, Nat.reduceEqDiff, Nat.reduceLeDiff, Nat.reduceLT, Int.reduceEq, Int.reduceAdd, Int.reduceSub, Int.reduceMul, Int.reduceNeg, Int.reduceLT, Int.reduceLE, Int.reduceToNat, Int.reduceBEq, Int.reduceNe, reduceCtorEq, (s2.front 0).get, (s2.front 1).get, (s2.front 2).get, eg]; done) | omega | (simp only [go_sem, Nat.reduceBEq, Nat.reduceAdd, Nat.reduceMul, Nat.reduceSub, Nat.reduceEqDiff, Nat.reduceLeDiff, Nat.reduceLT, Int.reduceEq, Int.reduceAdd, Int.reduceSub, Int.reduceMul, Int.reduceNeg, Int.reduceLT, Int.reduceLE, Int.reduceToNat, Int.reduceBEq, Int.reduceNe, reduceCtorEq, (s2.front 0).get, (s2.front 1).get, (s2.front 2).get, eg]; omega)) only [go_sem, Nat.reduceBEq, Nat.reduceAdd, Nat.reduceMul, Nat.reduceSub, Nat.reduceEqDiff, Nat.reduceLeDiff, Nat.reduceLT, Int.reduceEq, Int.reduceAdd, Int.reduceSub, Int.reduceMul, Int.reduceNeg, Int.reduceLT, Int.reduceLE, Int.reduceToNat, Int.reduceBEq, Int.reduceNe, reduceCtorEq, w64_id, w8_id, w16_id, w32_id, tmod_pos, tdiv_pos, Bool.or_true, Bool.true_or, Bool.or_false, Bool.false_or, Bool.and_false, Bool.false_and, condK_decide, (s2.front 0).get, (s2.front 1).get, (s2.front 2).get, eg]
          refine (take_S s2 hb (show 0 ≤ left - c.W ∧ left - c.W ≤ 16 by omega) c.X (by omega)).mono ?_
          rintro v h3 (⟨e2, rfl, rfl⟩ | ⟨e2, rfl, rfl⟩)
          · rw [if_pos e2] at re
            rw [← re] at hR
            have s1 := (s2.front 2).set (.cells [.int .i64 0, .int .i64 0].toArray 27 (0, 0))
            simp (maxSteps := 2000000) (disch := first | (simp only [go_sem, Nat.reduceBEq, Nat.reduceAdd, Nat.reduceMul, Nat.reduceSub, Nat.reduceEqDiff, Nat.reduceLeDiff, Nat.reduceLT, Int.reduceEq, Int.reduceAdd, Int.reduceSub, Int.reduceMul, Int.reduceNeg, Int.reduceLT, Int.reduceLE, Int.reduceToNat, Int.reduceBEq, Int.reduceNe, reduceCtorEq, (s2.front 2).get, s1.get]; done) | omega | (simp only [go_sem, Nat.reduceBEq, Nat.reduceAdd, Nat.reduceMul, Nat.reduceSub, Nat.reduceEqDiff, Nat.reduceLeDiff, Nat.reduceLT, Int.reduceEq, Int.reduceAdd, Int.reduceSub, Int.reduceMul, Int.reduceNeg, Int.reduceLT, Int.reduceLE, Int.reduceToNat, Int.reduceBEq, Int.reduceNe, reduceCtorEq, (s2.front 2).get, s1.get]; omega)) only [go_sem, Nat.reduceBEq, Nat.reduceAdd, Nat.reduceMul, Nat.reduceSub, Nat.reduceEqDiff, Nat.reduceLeDiff, Nat.reduceLT, Int.reduceEq, Int.reduceAdd, Int.reduceSub, Int.reduceMul, Int.reduceNeg, Int.reduceLT, Int.reduceLE, Int.reduceToNat, Int.reduceBEq, Int.reduceNe, reduceCtorEq, w64_id, w8_id, w16_id, w32_id, tmod_pos, tdiv_pos, Bool.or_true, Bool.true_or, Bool.or_false, Bool.false_or, Bool.and_false, Bool.false_and, condK_decide, (s2.front 2).get, s1.get]
            exact hR _ _ ⟨rfl, (s1.front 3).ext⟩
          · rw [if_neg (by omega)] at re
            have s3 := s2.set (.cells [.int .u32 w, .int .i64 (left - c.W - c.X)].toArray 69 (0, 0))
            have hx3 := (s3.front 3).ext
            simp (maxSteps := 2000000) (disch := first | (simp only [go_sem, Nat.reduceBEq, Nat.reduceAdd, Nat.reduceMul, Nat.reduceSub, Nat.reduceEqDiff, Nat.reduceLeDiff, Nat.reduceLT, Int.reduceEq, Int.reduceAdd, Int.reduceSub, Int.reduceMul, Int.reduceNeg, Int.reduceLT, Int.reduceLE, Int.reduceToNat, Int.reduceBEq, Int.reduceNe, reduceCtorEq, (s3.front 0).get, (s3.front 1).get, (s3.front 2).get]; done) | omega | (simp only [go_sem, Nat.reduceBEq, Nat.reduceAdd, Nat.reduceMul, Nat.reduceSub, Nat.reduceEqDiff, Nat.reduceLeDiff, Nat.reduceLT, Int.reduceEq, Int.reduceAdd, Int.reduceSub, Int.reduceMul, Int.reduceNeg, Int.reduceLT, Int.reduceLE, Int.reduceToNat, Int.reduceBEq, Int.reduceNe, reduceCtorEq, (s3.front 0).get, (s3.front 1).get, (s3.front 2).get]; omega)) only [go_sem, Nat.reduceBEq, Nat.reduceAdd, Nat.reduceMul, Nat.reduceSub, Nat.reduceEqDiff, Nat.reduceLeDiff, Nat.reduceLT, Int.reduceEq, Int.reduceAdd, Int.reduceSub, Int.reduceMul, Int.reduceNeg, Int.reduceLT, Int.reduceLE, Int.reduceToNat, Int.reduceBEq, Int.reduceNe, reduceCtorEq, w64_id, w8_id, w16_id, w32_id, tmod_pos, tdiv_pos, Bool.or_true, Bool.true_or, Bool.or_false, Bool.false_or, Bool.and_false, Bool.false_and, condK_decide, (s3.front 0).get, (s3.front 1).get, (s3.front 2).get]
            refine (radix_S (hs.grow hx3) hw c.O).mono ?_
            rintro v h4 ⟨rfl, rfl⟩
            by_cases er : radixN L c.O = c.X
            · rw [if_neg (by simpa using er)] at re
              simp (maxSteps := 2000000) (disch := first | (simp only [go_sem, Nat.reduceBEq, Nat.reduceAdd, Nat.reduceMul, Nat.reduceSub, Nat.reduceEqDiff, Nat.reduceLeDiff, Nat.reduceLT, Int.reduceEq, Int.reduceAdd, Int.reduceSub, Int.reduceMul, Int.reduceNeg, Int.reduceLT, Int.reduceLE, Int.reduceToNat, Int.reduceBEq, Int.reduceNe, reduceCtorEq, (s3.front 0).get, (s3.front 1).get, (s3.front 2).get, er]; done) | omega | (simp only [go_sem, Nat.reduceBEq, Nat.reduceAdd, Nat.reduceMul, Nat.reduceSub, Nat.reduceEqDiff, Nat.reduceLeDiff, Nat.reduceLT, Int.reduceEq, Int.reduceAdd, Int.reduceSub, Int.reduceMul, Int.reduceNeg, Int.reduceLT, Int.reduceLE, Int.reduceToNat, Int.reduceBEq, Int.reduceNe, reduceCtorEq, (s3.front 0).get, (s3.front 1).get, (s3.front 2).get, er]; omega)) only [go_sem, Nat.reduceBEq, Nat.reduceAdd, Nat.reduceMul, Nat.reduceSub, Nat.reduceEqDiff, Nat.reduceLeDiff, Nat.reduceLT, Int.reduceEq, Int.reduceAdd, Int.reduceSub, Int.reduceMul, Int.reduceNeg, Int.reduceLT, Int.reduceLE, Int.reduceToNat, Int.reduceBEq, Int.reduceNe, reduceCtorEq, w64_id, w8_id, w16_id, w32_id, tmod_pos, tdiv_pos, Bool.or_true, Bool.true_or, Bool.or_false, Bool.false_or, Bool.and_false, Bool.false_and, condK_decide, (s3.front 0).get, (s3.front 1).get, (s3.front 2).get, er]
              have s4 := (s3.front 2).set (.cells [.int .i64 c.O, .int .i64 (takeV w (left - c.W) c.X)].toArray 27 (0, 0))
              obtain ⟨n, hn, hnX⟩ : ∃ n, findN L c.O = some n ∧ (n.X : Int) = c.X := by
                unfold radixN at er
                cases hn : findN L c.O with
                | none => rw [hn] at er; simp only at er; omega
                | some n => rw [hn] at er; exact ⟨n, rfl, er⟩
              obtain ⟨mb, ty, es, clk, q1, q2, q3, -, q5⟩ := space_look (hs.grow (s4.front 3).ext)
              obtain ⟨hm, hi, lb, p1, p2, -⟩ := q5 c.O n hn
              have wn := hw.1 n hm
              have hlen : (n.S.length : Int) = 2 ^ c.X.toNat := by rw [wn.2.2.2.2.1, ← hnX]; simp
              have ht := takeV_lt w (left - c.W) c.X
              generalize takeV w (left - c.W) c.X = tv at *
              obtain ⟨i, rfl⟩ := Int.eq_ofNat_of_zero_le ht.1
              have hil : i < n.S.length := by omega
              have cc := caps_cut (List.getElem?_eq_getElem hil)
              have hget : (getN L c.O i).1 = n.S[i] := by
                unfold getN
                rw [hn]
                simp [List.getElem?_eq_getElem hil]
              rw [hget] at re
              have wc := wn.2.2.2.2.2 n.S[i] (List.getElem_mem hil)
              generalize hk : (Array.setIfInBounds (Array.setIfInBounds (Array.setIfInBounds h' bb _) bb _) (h.size + 1) _) = k4 at *
              have ks : k4.size = h'.size := by rw [← hk]; simp
              clear hk hx3 s3 s2 hs' hx s
              have s5 := s4.push (.cells Cap.zero.cells.toArray 24 (0, 0))
              have x5 := Ext.push k4 (.cells Cap.zero.cells.toArray 24 (0, 0))
              have s6 := s5.set (.cells n.S[i].cells.toArray 24 (0, 0))
              have y1 := x5.some q1
              have y2 := x5.some q2
              have y3 := x5.some p2
              have s7 := (s6.front 1).set (.cells [.int .i64 c.O, .int .i64 i].toArray 27 (0, 0))
              have s8 := (s6.front 3).set (.cells n.S[i].cells.toArray 24 (0, 0))
              have g0 := s6.get
              have g1 := (s6.front 1).get
              have g2 := (s6.front 2).get
              have g3 := (s6.front 3).get
              have u1 := s7.get
              have u2 := (s7.front 2).get
              simp only [Cap.cells_eq, Cap.zero, ks] at s5 y1 y2 y3 s6 s7 s8 g0 g1 g2 g3 u1 u2
              by_cases z1 : left - c.W - c.X = 0
              · rw [if_pos (.inl z1)] at re
                rw [← re] at hR
                simp (maxSteps := 2000000) (disch := first | (simp only [go_sem, Nat.reduceBEq, Nat.reduceAdd, Nat.reduceMul, Nat.reduceSub, Nat.reduceEqDiff, Nat.reduceLeDiff, Nat.reduceLT, Int.reduceEq, Int.reduceAdd, Int.reduceSub, Int.reduceMul, Int.reduceNeg, Int.reduceLT, Int.reduceLE, Int.reduceToNat, Int.reduceBEq, Int.reduceNe, reduceCtorEq, s4.get, (s4.front 1).get, (s4.front 2).get, q1, q2, q3, p1, p2, cc, s5.get, (s5.front 1).get, (s5.front 2).get, (s5.front 3).get, y1, y2, y3, ks, g0, g1, g2, g3, z1, u1, u2]; done) | omega | (simp only [go_sem, Nat.reduceBEq, Nat.reduceAdd, Nat.reduceMul, Nat.reduceSub, Nat.reduceEqDiff, Nat.reduceLeDiff, Nat.reduceLT, Int.reduceEq, Int.reduceAdd, Int.reduceSub, Int.reduceMul, Int.reduceNeg, Int.reduceLT, Int.reduceLE, Int.reduceToNat, Int.reduceBEq, Int.reduceNe, reduceCtorEq, s4.get, (s4.front 1).get, (s4.front 2).get, q1, q2, q3, p1, p2, cc, s5.get, (s5.front 1).get, (s5.front 2).get, (s5.front 3).get, y1, y2, y3, ks, g0, g1, g2, g3, z1, u1, u2]; omega)) only [go_sem, Nat.reduceBEq, Nat.reduceAdd, Nat.reduceMul, Nat.reduceSub, Nat.reduceEqDiff, Nat.reduceLeDiff, Nat.reduceLT, Int.reduceEq, Int.reduceAdd, Int.reduceSub, Int.reduceMul, Int.reduceNeg, Int.reduceLT, Int.reduceLE, Int.reduceToNat, Int.reduceBEq, Int.reduceNe, reduceCtorEq, w64_id, w8_id, w16_id, w32_id, tmod_pos, tdiv_pos, Bool.or_true, Bool.true_or, Bool.or_false, Bool.false_or, Bool.and_false, Bool.false_and, condK_decide, s4.get, (s4.front 1).get, (s4.front 2).get, q1, q2, q3, p1, p2, cc, s5.get, (s5.front 1).get, (s5.front 2).get, (s5.front 3).get, y1, y2, y3, ks, g0, g1, g2, g3, z1, u1, u2]
                exact hR _ _ ⟨by rw [z1]; rfl, (s7.front 4).ext⟩
              by_cases z2 : n.S[i].K = 2
              · rw [if_neg (by simp [z1, z2])] at re
                have hz2 : (¬ n.S[i].K = 2) = False := by simp [z2]
                simp (maxSteps := 2000000) (disch := first | (simp only [go_sem, Nat.reduceBEq, Nat.reduceAdd, Nat.reduceMul, Nat.reduceSub, Nat.reduceEqDiff, Nat.reduceLeDiff, Nat.reduceLT, Int.reduceEq, Int.reduceAdd, Int.reduceSub, Int.reduceMul, Int.reduceNeg, Int.reduceLT, Int.reduceLE, Int.reduceToNat, Int.reduceBEq, Int.reduceNe, reduceCtorEq, s4.get, (s4.front 1).get, (s4.front 2).get, q1, q2, q3, p1, p2, cc, s5.get, (s5.front 1).get, (s5.front 2).get, (s5.front 3).get, y1, y2, y3, ks, g0, g1, g2, g3, z1, hz2, u1, u2]; done) | omega | (simp only [go_sem, Nat.reduceBEq, Nat.reduceAdd, Nat.reduceMul, Nat.reduceSub, Nat.reduceEqDiff, Nat.reduceLeDiff, Nat.reduceLT, Int.reduceEq, Int.reduceAdd, Int.reduceSub, Int.reduceMul, Int.reduceNeg, Int.reduceLT, Int.reduceLE, Int.reduceToNat, Int.reduceBEq, Int.reduceNe, reduceCtorEq, s4.get, (s4.front 1).get, (s4.front 2).get, q1, q2, q3, p1, p2, cc, s5.get, (s5.front 1).get, (s5.front 2).get, (s5.front 3).get, y1, y2, y3, ks, g0, g1, g2, g3, z1, hz2, u1, u2]; omega)) only [go_sem, Nat.reduceBEq, Nat.reduceAdd, Nat.reduceMul, Nat.reduceSub, Nat.reduceEqDiff, Nat.reduceLeDiff, Nat.reduceLT, Int.reduceEq, Int.reduceAdd, Int.reduceSub, Int.reduceMul, Int.reduceNeg, Int.reduceLT, Int.reduceLE, Int.reduceToNat, Int.reduceBEq, Int.reduceNe, reduceCtorEq, w64_id, w8_id, w16_id, w32_id, tmod_pos, tdiv_pos, Bool.or_true, Bool.true_or, Bool.or_false, Bool.false_or, Bool.and_false, Bool.false_and, condK_decide, s4.get, (s4.front 1).get, (s4.front 2).get, q1, q2, q3, p1, p2, cc, s5.get, (s5.front 1).get, (s5.front 2).get, (s5.front 3).get, y1, y2, y3, ks, g0, g1, g2, g3, z1, hz2, u1, u2]
                exact ⟨(g, n.S[i], left - c.W - c.X, c.O, i), rfl, ⟨s8.re [0, 3, 2, 4], by simp only; omega, by simp only; omega, by simp only; omega, z2, wc.1, wc.2, re⟩, by simp only; omega⟩
              · rw [if_pos (.inr z2)] at re
                rw [← re] at hR
                simp (maxSteps := 2000000) (disch := first | (simp only [go_sem, Nat.reduceBEq, Nat.reduceAdd, Nat.reduceMul, Nat.reduceSub, Nat.reduceEqDiff, Nat.reduceLeDiff, Nat.reduceLT, Int.reduceEq, Int.reduceAdd, Int.reduceSub, Int.reduceMul, Int.reduceNeg, Int.reduceLT, Int.reduceLE, Int.reduceToNat, Int.reduceBEq, Int.reduceNe, reduceCtorEq, s4.get, (s4.front 1).get, (s4.front 2).get, q1, q2, q3, p1, p2, cc, s5.get, (s5.front 1).get, (s5.front 2).get, (s5.front 3).get, y1, y2, y3, ks, g0, g1, g2, g3, z1, z2, u1, u2]; done) | omega | (simp only [go_sem, Nat.reduceBEq, Nat.reduceAdd, Nat.reduceMul, Nat.reduceSub, Nat.reduceEqDiff, Nat.reduceLeDiff, Nat.reduceLT, Int.reduceEq, Int.reduceAdd, Int.reduceSub, Int.reduceMul, Int.reduceNeg, Int.reduceLT, Int.reduceLE, Int.reduceToNat, Int.reduceBEq, Int.reduceNe, reduceCtorEq, s4.get, (s4.front 1).get, (s4.front 2).get, q1, q2, q3, p1, p2, cc, s5.get, (s5.front 1).get, (s5.front 2).get, (s5.front 3).get, y1, y2, y3, ks, g0, g1, g2, g3, z1, z2, u1, u2]; omega)) only [go_sem, Nat.reduceBEq, Nat.reduceAdd, Nat.reduceMul, Nat.reduceSub, Nat.reduceEqDiff, Nat.reduceLeDiff, Nat.reduceLT, Int.reduceEq, Int.reduceAdd, Int.reduceSub, Int.reduceMul, Int.reduceNeg, Int.reduceLT, Int.reduceLE, Int.reduceToNat, Int.reduceBEq, Int.reduceNe, reduceCtorEq, w64_id, w8_id, w16_id, w32_id, tmod_pos, tdiv_pos, Bool.or_true, Bool.true_or, Bool.or_false, Bool.false_or, Bool.and_false, Bool.false_and, condK_decide, s4.get, (s4.front 1).get, (s4.front 2).get, q1, q2, q3, p1, p2, cc, s5.get, (s5.front 1).get, (s5.front 2).get, (s5.front 3).get, y1, y2, y3, ks, g0, g1, g2, g3, z1, z2, u1, u2]
                exact hR _ _ ⟨rfl, (s7.front 4).ext⟩
            · rw [if_pos er] at re
              rw [← re] at hR
              have s1 := (s3.front 2).set (.cells [.int .i64 0, .int .i64 0].toArray 27 (0, 0))
              simp (maxSteps := 2000000) (disch := first | (simp only [go_sem, Nat.reduceBEq, Nat.reduceAdd, Nat.reduceMul, Nat.reduceSub, Nat.reduceEqDiff, Nat.reduceLeDiff, Nat.reduceLT, Int.reduceEq, Int.reduceAdd, Int.reduceSub, Int.reduceMul, Int.reduceNeg, Int.reduceLT, Int.reduceLE, Int.reduceToNat, Int.reduceBEq, Int.reduceNe, reduceCtorEq, (s3.front 0).get, (s3.front 1).get, (s3.front 2).get, s1.get, er]; done) | omega | (simp only [go_sem, Nat.reduceBEq, Nat.reduceAdd, Nat.reduceMul, Nat.reduceSub, Nat.reduceEqDiff, Nat.reduceLeDiff, Nat.reduceLT, Int.reduceEq, Int.reduceAdd, Int.reduceSub, Int.reduceMul, Int.reduceNeg, Int.reduceLT, Int.reduceLE, Int.reduceToNat, Int.reduceBEq, Int.reduceNe, reduceCtorEq, (s3.front 0).get, (s3.front 1).get, (s3.front 2).get, s1.get, er]; omega)) only [go_sem, Nat.reduceBEq, Nat.reduceAdd, Nat.reduceMul, Nat.reduceSub, Nat.reduceEqDiff, Nat.reduceLeDiff, Nat.reduceLT, Int.reduceEq, Int.reduceAdd, Int.reduceSub, Int.reduceMul, Int.reduceNeg, Int.reduceLT, Int.reduceLE, Int.reduceToNat, Int.reduceBEq, Int.reduceNe, reduceCtorEq, w64_id, w8_id, w16_id, w32_id, tmod_pos, tdiv_pos, Bool.or_true, Bool.true_or, Bool.or_false, Bool.false_or, Bool.and_false, Bool.false_and, condK_decide, (s3.front 0).get, (s3.front 1).get, (s3.front 2).get, s1.get, er]
              exact hR _ _ ⟨rfl, (s1.front 3).ext⟩
        · rw [if_pos eg] at re
          rw [← re] at hR
          have s1 := (s2.front 2).set (.cells [.int .i64 0, .int .i64 0].toArray 27 (0, 0))
          simp (maxSteps := 2000000) (disch := first | (simp only [go_sem, Nat.reduceBEq, Nat.reduceAdd, Nat.reduceMul, Nat.reduceSub, Nat.reduceEqDiff, Nat.reduceLeDiff, Nat.reduceLT, Int.reduceEq, Int.reduceAdd, Int.reduceSub, Int.reduceMul, Int.reduceNeg, Int.reduceLT, Int.reduceLE, Int.reduceToNat, Int.reduceBEq, Int.reduceNe, reduceCtorEq, (s2.front 0).get, (s2.front 1).get, (s2.front 2).get, s1.get, eg]; done) | omega | (simp only [go_sem, Nat.reduceBEq, Nat.reduceAdd, Nat.reduceMul, Nat.reduceSub, Nat.reduceEqDiff, Nat.reduceLeDiff, Nat.reduceLT, Int.reduceEq, Int.reduceAdd, Int.reduceSub, Int.reduceMul, Int.reduceNeg, Int.reduceLT, Int.reduceLE, Int.reduceToNat, Int.reduceBEq, Int.reduceNe, reduceCtorEq, (s2.front 0).get, (s2.front 1).get, (s2.front 2).get, s1.get, eg]; omega)) only [go_sem, Nat.reduceBEq, Nat.reduceAdd, Nat.reduceMul, Nat.reduceSub, Nat.reduceEqDiff, Nat.reduceLeDiff, Nat.reduceLT, Int.reduceEq, Int.reduceAdd, Int.reduceSub, Int.reduceMul, Int.reduceNeg, Int.reduceLT, Int.reduceLE, Int.reduceToNat, Int.reduceBEq, Int.reduceNe, reduceCtorEq, w64_id, w8_id, w16_id, w32_id, tmod_pos, tdiv_pos, Bool.or_true, Bool.true_or, Bool.or_false, Bool.false_or, Bool.and_false, Bool.false_and, condK_decide, (s2.front 0).get, (s2.front 1).get, (s2.front 2).get, s1.get, eg]
          exact hR _ _ ⟨rfl, (s1.front 3).ext⟩
    · have er : resolveN L ⟨2, O, P, B, X, G, W, D⟩ w depth = (0, 0, 0, 121) := by unfold resolveN; rw [if_pos (.inr r)]
      rw [er] at hR
      simp (maxSteps := 2000000) (disch := first | (simp only [go_sem, Nat.reduceBEq, Nat.reduceAdd, Nat.reduceMul, Nat.reduceSub, Nat.reduceEqDiff, Nat.reduceLeDiff, Nat.reduceLT, Int.reduceEq, Int.reduceAdd, Int.reduceSub, Int.reduceMul, Int.reduceNeg, Int.reduceLT, Int.reduceLE, Int.reduceToNat, Int.reduceBEq, Int.reduceNe, reduceCtorEq, r, f1, f1z]; done) | omega | (simp only [go_sem, Nat.reduceBEq, Nat.reduceAdd, Nat.reduceMul, Nat.reduceSub, Nat.reduceEqDiff, Nat.reduceLeDiff, Nat.reduceLT, Int.reduceEq, Int.reduceAdd, Int.reduceSub, Int.reduceMul, Int.reduceNeg, Int.reduceLT, Int.reduceLE, Int.reduceToNat, Int.reduceBEq, Int.reduceNe, reduceCtorEq, r, f1, f1z]; omega)) only [go_sem, Nat.reduceBEq, Nat.reduceAdd, Nat.reduceMul, Nat.reduceSub, Nat.reduceEqDiff, Nat.reduceLeDiff, Nat.reduceLT, Int.reduceEq, Int.reduceAdd, Int.reduceSub, Int.reduceMul, Int.reduceNeg, Int.reduceLT, Int.reduceLE, Int.reduceToNat, Int.reduceBEq, Int.reduceNe, reduceCtorEq, w64_id, w8_id, w16_id, w32_id, tmod_pos, tdiv_pos, Bool.or_true, Bool.true_or, Bool.or_false, Bool.false_or, Bool.and_false, Bool.false_and, condK_decide, r, f1, f1z]
      exact hR _ _ ⟨rfl, (s1z.front 2).ext⟩
  · have er : resolveN L ⟨K, O, P, B, X, G, W, D⟩ w depth = (0, 0, 0, 121) := by unfold resolveN; rw [if_pos (.inl k)]
    rw [er] at hR
    simp (maxSteps := 2000000) (disch := first | (simp only [go_sem, Nat.reduceBEq, Nat.reduceAdd, Nat.reduceMul, Nat.reduceSub, Nat.reduceEqDiff, Nat.reduceLeDiff, Nat.reduceLT, Int.reduceEq, Int.reduceAdd, Int.reduceSub, Int.reduceMul, Int.reduceNeg, Int.reduceLT, Int.reduceLE, Int.reduceToNat, Int.reduceBEq, Int.reduceNe, reduceCtorEq, k]; done) | omega | (simp only [go_sem, Nat.reduceBEq, Nat.reduceAdd, Nat.reduceMul, Nat.reduceSub, Nat.reduceEqDiff, Nat.reduceLeDiff, Nat.reduceLT, Int.reduceEq, Int.reduceAdd, Int.reduceSub, Int.reduceMul, Int.reduceNeg, Int.reduceLT, Int.reduceLE, Int.reduceToNat, Int.reduceBEq, Int.reduceNe, reduceCtorEq, k]; omega)) only [go_sem, Nat.reduceBEq, Nat.reduceAdd, Nat.reduceMul, Nat.reduceSub, Nat.reduceEqDiff, Nat.reduceLeDiff, Nat.reduceLT, Int.reduceEq, Int.reduceAdd, Int.reduceSub, Int.reduceMul, Int.reduceNeg, Int.reduceLT, Int.reduceLE, Int.reduceToNat, Int.reduceBEq, Int.reduceNe, reduceCtorEq, w64_id, w8_id, w16_id, w32_id, tmod_pos, tdiv_pos, Bool.or_true, Bool.true_or, Bool.or_false, Bool.false_or, Bool.and_false, Bool.false_and, condK_decide, k]
    refine rdK_any fun _ => ?_
    exact hR _ _ ⟨rfl, (Ext.push _ _).trans (Ext.push _ _)⟩
end
end Go.Eng
