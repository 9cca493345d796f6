/-
  viceroyref12: Slot, Lookup.
-/
import Derived.Test.YtlkofpoginokbaaCsr4
namespace Go.Eng
set_option linter.unusedSimpArgs false
set_option linter.unusedVariables false
set_option maxRecDepth 16000
set_option maxHeartbeats 4000000
open Go Go.Proofs
theorem resM_err {L : List Nd} {w : Int} : ∀ (f : Nat) (c : Cap) (left : Int), (resM L w f c left).2.2.2 ≠ 0 → (resM L w f c left).1 = 0 ∧ (resM L w f c left).2.1 = 0
  | 0, _, _, _ => ⟨rfl, rfl⟩
  | f + 1, c, left, h => by
    rw [resM] at h ⊢
    split at h
    · rename_i q; rw [if_pos q]; exact ⟨rfl, rfl⟩
    rename_i q; rw [if_neg q]
    split at h
    · rename_i q; rw [if_pos q]; exact ⟨rfl, rfl⟩
    rename_i q; rw [if_neg q]
    split at h
    · rename_i q; rw [if_pos q]; exact ⟨rfl, rfl⟩
    rename_i q; rw [if_neg q]
    split at h
    · rename_i q; rw [if_pos q]; exact ⟨rfl, rfl⟩
    rename_i q; rw [if_neg q]
    split at h
    · exact (h rfl).elim
    · rename_i q; rw [if_neg q]; exact resM_err f _ _ h
theorem resolveN_err {L : List Nd} {root : Cap} {w depth : Int} (h : (resolveN L root w depth).2.2.2 ≠ 0) : (resolveN L root w depth).1 = 0 ∧ (resolveN L root w depth).2.1 = 0 := by
  unfold resolveN at h ⊢
  split at h
  · rename_i q; rw [if_pos q]; exact ⟨rfl, rfl⟩
  rename_i q; rw [if_neg q]
  split at h
  · rename_i q; rw [if_pos q]; exact ⟨rfl, rfl⟩
  rename_i q; rw [if_neg q]
  exact resM_err _ _ _ h
theorem getN_ok {L : List Nd} (hw : wfL L) (node index : Int) : RightP (getN L node index).1 ∧ (getN L node index).1.fit := by
  have z : RightP Cap.zero ∧ Cap.zero.fit := by refine ⟨by decide, ?_⟩; unfold Cap.fit i64ok Cap.zero; decide
  unfold getN
  cases hn : findN L node with
  | none => exact z
  | some n =>
    simp only
    split
    · cases hc : n.S[index.toNat]? with
      | none => exact z
      | some c => exact (hw.1 n (List.mem_of_find?_eq_some hn)).2.2.2.2.2 c (List.mem_of_getElem? hc)
    · exact z
theorem right_zero {c : Cap} (hf : c.fit) (hr : RightP c) : c.K = 0 ↔ c = Cap.zero := by
  constructor
  · intro k
    obtain ⟨K, O, P, B, X, G, W, D⟩ := c
    simp only at k
    subst k
    have hm : mayOk 0 P → P = 0 := by
      unfold mayOk mayM
      have r1 := hf.2.2.1.1
      have r2 := hf.2.2.1.2
      intro e
      have := congrArg BitVec.toInt e
      simp [BitVec.toInt_ofInt, Int.bmod] at this
      simp only at r1 r2
      omega
    unfold RightP mostM at hr
    simp only at hr
    have := hm hr.2.2.2.2.1
    simp only [Cap.zero, Cap.mk.injEq]
    grind
  · rintro rfl; rfl
section
variable {h : Heap} {F : List SP} {qb : Nat} {L : List Nd}
theorem slot12_S (hs : Sat h (refSpS qb L :: F)) (hL : L.length ≤ 100000) (hw : wfL L) (root : Cap) (hf : root.fit) (w depth : Int) (hb : 0 ≤ w ∧ w ≤ 4294967295) : HCalls Try.prog 31 #[.pointer (some ⟨qb, 0, none⟩), .agg root.cells.toArray, .int .u32 w, .int .i64 depth] h fun v h' => v = slotI (slotN L root w depth) ∧ Ext h h' := by
  refine HCalls.via fun R hR => ?_
  refine HCalls.of_dev T31 Try.func31 rfl mixed (by kernel_rfl) ?_; rw [Try.results31]
  unfold slotN at hR
  simp (maxSteps := 2000000) (disch := first | (simp only [go_sem, Nat.reduceBEq, Nat.reduceAdd, Nat.reduceMul, Nat.reduceSub, Nat.reduceEqDiff, Nat.reduceLeDiff, Nat.reduceLT, Int.reduceEq, Int.reduceAdd, Int.reduceSub, Int.reduceMul, Int.reduceNeg, Int.reduceLT, Int.reduceLE, Int.reduceToNat, Int.reduceBEq, Int.reduceNe, reduceCtorEq]; done) | omega | (simp only [go_sem, Nat.reduceBEq, Nat.reduceAdd, Nat.reduceMul, Nat.reduceSub, Nat.reduceEqDiff, Nat.reduceLeDiff, Nat.reduceLT, Int.reduceEq, Int.reduceAdd, Int.reduceSub, Int.reduceMul, Int.reduceNeg, Int.reduceLT, Int.reduceLE, Int.reduceToNat, Int.reduceBEq, Int.reduceNe, reduceCtorEq]; omega)) only [go_sem, Nat.reduceBEq, Nat.reduceAdd, Nat.reduceMul, Nat.reduceSub, Nat.reduceEqDiff, Nat.reduceLeDiff, Nat.reduceLT, Int.reduceEq, Int.reduceAdd, Int.reduceSub, Int.reduceMul, Int.reduceNeg, Int.reduceLT, Int.reduceLE, Int.reduceToNat, Int.reduceBEq, Int.reduceNe, reduceCtorEq, w64_id, w8_id, w16_id, w32_id, tmod_pos, tdiv_pos, Bool.or_true, Bool.true_or, Bool.or_false, Bool.false_or, Bool.and_false, Bool.false_and, condK_decide]
  have s1 := ((Sat.init h).push (.cells root.cells.toArray 24 (0, 0))).push (.cells [.int .i64 0, .int .i64 0].toArray 27 (0, 0))
  rw [size_push'] at s1
  simp only [Cap.cells_eq] at s1
  have er := resolveN_err (L := L) (root := root) (w := w) (depth := depth)
  refine (resolve12_S (hs.grow (s1.front 2).ext) hL hw root hf w depth hb).mono ?_
  rintro v k ⟨rfl, xk⟩
  have s2 := s1.grow xk
  clear s1
  generalize resolveN L root w depth = x at *
  obtain ⟨n, i, l, e⟩ := x
  simp only [resI] at *
  have s3 := s2.push (.cells [.int .i64 n, .int .i64 i].toArray 27 (0, 0))
  have s4 := (s3.front 1).set (.cells [.int .i64 0, .int .i64 0].toArray 27 (0, 0))
  have s5 := (s3.front 1).set (.cells [.int .i64 n, .int .i64 i].toArray 27 (0, 0))
  by_cases e0 : e = 0
  · by_cases l0 : 0 < l
    · rw [if_pos ⟨e0, l0⟩] at hR
      simp (maxSteps := 2000000) (disch := first | (simp only [go_sem, Nat.reduceBEq, Nat.reduceAdd, Nat.reduceMul, Nat.reduceSub, Nat.reduceEqDiff, Nat.reduceLeDiff, Nat.reduceLT, Int.reduceEq, Int.reduceAdd, Int.reduceSub, Int.reduceMul, Int.reduceNeg, Int.reduceLT, Int.reduceLE, Int.reduceToNat, Int.reduceBEq, Int.reduceNe, reduceCtorEq, (s3.front 1).get, s3.get, s4.get, e0, l0]; done) | omega | (simp only [go_sem, Nat.reduceBEq, Nat.reduceAdd, Nat.reduceMul, Nat.reduceSub, Nat.reduceEqDiff, Nat.reduceLeDiff, Nat.reduceLT, Int.reduceEq, Int.reduceAdd, Int.reduceSub, Int.reduceMul, Int.reduceNeg, Int.reduceLT, Int.reduceLE, Int.reduceToNat, Int.reduceBEq, Int.reduceNe, reduceCtorEq, (s3.front 1).get, s3.get, s4.get, e0, l0]; omega)) only [go_sem, Nat.reduceBEq, Nat.reduceAdd, Nat.reduceMul, Nat.reduceSub, Nat.reduceEqDiff, Nat.reduceLeDiff, Nat.reduceLT, Int.reduceEq, Int.reduceAdd, Int.reduceSub, Int.reduceMul, Int.reduceNeg, Int.reduceLT, Int.reduceLE, Int.reduceToNat, Int.reduceBEq, Int.reduceNe, reduceCtorEq, w64_id, w8_id, w16_id, w32_id, tmod_pos, tdiv_pos, Bool.or_true, Bool.true_or, Bool.or_false, Bool.false_or, Bool.and_false, Bool.false_and, condK_decide, (s3.front 1).get, s3.get, s4.get, e0, l0]
      exact hR _ _ ⟨rfl, (s4.front 3).ext⟩
    · rw [if_neg (fun q => l0 q.2)] at hR
      simp (maxSteps := 2000000) (disch := first | (simp only [go_sem, Nat.reduceBEq, Nat.reduceAdd, Nat.reduceMul, Nat.reduceSub, Nat.reduceEqDiff, Nat.reduceLeDiff, Nat.reduceLT, Int.reduceEq, Int.reduceAdd, Int.reduceSub, Int.reduceMul, Int.reduceNeg, Int.reduceLT, Int.reduceLE, Int.reduceToNat, Int.reduceBEq, Int.reduceNe, reduceCtorEq, (s3.front 1).get, s3.get, s5.get, e0, l0]; done) | omega | (simp only [go_sem, Nat.reduceBEq, Nat.reduceAdd, Nat.reduceMul, Nat.reduceSub, Nat.reduceEqDiff, Nat.reduceLeDiff, Nat.reduceLT, Int.reduceEq, Int.reduceAdd, Int.reduceSub, Int.reduceMul, Int.reduceNeg, Int.reduceLT, Int.reduceLE, Int.reduceToNat, Int.reduceBEq, Int.reduceNe, reduceCtorEq, (s3.front 1).get, s3.get, s5.get, e0, l0]; omega)) only [go_sem, Nat.reduceBEq, Nat.reduceAdd, Nat.reduceMul, Nat.reduceSub, Nat.reduceEqDiff, Nat.reduceLeDiff, Nat.reduceLT, Int.reduceEq, Int.reduceAdd, Int.reduceSub, Int.reduceMul, Int.reduceNeg, Int.reduceLT, Int.reduceLE, Int.reduceToNat, Int.reduceBEq, Int.reduceNe, reduceCtorEq, w64_id, w8_id, w16_id, w32_id, tmod_pos, tdiv_pos, Bool.or_true, Bool.true_or, Bool.or_false, Bool.false_or, Bool.and_false, Bool.false_and, condK_decide, (s3.front 1).get, s3.get, s5.get, e0, l0]
      exact hR _ _ ⟨by rw [e0]; rfl, (s5.front 3).ext⟩
  · rw [if_neg (fun q => e0 q.1)] at hR
    obtain ⟨rfl, rfl⟩ := er e0
    simp (maxSteps := 2000000) (disch := first | (simp only [go_sem, Nat.reduceBEq, Nat.reduceAdd, Nat.reduceMul, Nat.reduceSub, Nat.reduceEqDiff, Nat.reduceLeDiff, Nat.reduceLT, Int.reduceEq, Int.reduceAdd, Int.reduceSub, Int.reduceMul, Int.reduceNeg, Int.reduceLT, Int.reduceLE, Int.reduceToNat, Int.reduceBEq, Int.reduceNe, reduceCtorEq, (s3.front 1).get, s3.get, s4.get, s5.get, e0]; done) | omega | (simp only [go_sem, Nat.reduceBEq, Nat.reduceAdd, Nat.reduceMul, Nat.reduceSub, Nat.reduceEqDiff, Nat.reduceLeDiff, Nat.reduceLT, Int.reduceEq, Int.reduceAdd, Int.reduceSub, Int.reduceMul, Int.reduceNeg, Int.reduceLT, Int.reduceLE, Int.reduceToNat, Int.reduceBEq, Int.reduceNe, reduceCtorEq, (s3.front 1).get, s3.get, s4.get, s5.get, e0]; omega)) only [go_sem, Nat.reduceBEq, Nat.reduceAdd, Nat.reduceMul, Nat.reduceSub, Nat.reduceEqDiff, Nat.reduceLeDiff, Nat.reduceLT, Int.reduceEq, Int.reduceAdd, Int.reduceSub, Int.reduceMul, Int.reduceNeg, Int.reduceLT, Int.reduceLE, Int.reduceToNat, Int.reduceBEq, Int.reduceNe, reduceCtorEq, w64_id, w8_id, w16_id, w32_id, tmod_pos, tdiv_pos, Bool.or_true, Bool.true_or, Bool.or_false, Bool.false_or, Bool.and_false, Bool.false_and, condK_decide, (s3.front 1).get, s3.get, s4.get, s5.get, e0]
    exact hR _ _ ⟨rfl, (s5.front 3).ext⟩
theorem lookup12_S (hs : Sat h (refSpS qb L :: F)) (hL : L.length ≤ 100000) (hw : wfL L) (root : Cap) (hf : root.fit) (w : Int) (hb : 0 ≤ w ∧ w ≤ 4294967295) : HCalls Try.prog 33 #[.pointer (some ⟨qb, 0, none⟩), .agg root.cells.toArray, .int .u32 w] h fun v h' => v = lookI (lookupN L root w) ∧ Ext h h' := by
  refine HCalls.via fun R hR => ?_
  refine HCalls.of_dev T33 Try.func33 rfl mixed (by kernel_rfl) ?_; rw [Try.results33]
  unfold lookupN at hR
  simp (maxSteps := 2000000) (disch := first | (simp only [go_sem, Nat.reduceBEq, Nat.reduceAdd, Nat.reduceMul, Nat.reduceSub, Nat.reduceEqDiff, Nat.reduceLeDiff, Nat.reduceLT, Int.reduceEq, Int.reduceAdd, Int.reduceSub, Int.reduceMul, Int.reduceNeg, Int.reduceLT, Int.reduceLE, Int.reduceToNat, Int.reduceBEq, Int.reduceNe, reduceCtorEq]; done) | omega | (simp only [go_sem, Nat.reduceBEq, Nat.reduceAdd, Nat.reduceMul, Nat.reduceSub, Nat.reduceEqDiff, Nat.reduceLeDiff, Nat.reduceLT, Int.reduceEq, Int.reduceAdd, Int.reduceSub, Int.reduceMul, Int.reduceNeg, Int.reduceLT, Int.reduceLE, Int.reduceToNat, Int.reduceBEq, Int.reduceNe, reduceCtorEq]; omega)) only [go_sem, Nat.reduceBEq, Nat.reduceAdd, Nat.reduceMul, Nat.reduceSub, Nat.reduceEqDiff, Nat.reduceLeDiff, Nat.reduceLT, Int.reduceEq, Int.reduceAdd, Int.reduceSub, Int.reduceMul, Int.reduceNeg, Int.reduceLT, Int.reduceLE, Int.reduceToNat, Int.reduceBEq, Int.reduceNe, reduceCtorEq, w64_id, w8_id, w16_id, w32_id, tmod_pos, tdiv_pos, Bool.or_true, Bool.true_or, Bool.or_false, Bool.false_or, Bool.and_false, Bool.false_and, condK_decide]
  have s1 := (((Sat.init h).push (.cells root.cells.toArray 24 (0, 0))).push (.cells Cap.zero.cells.toArray 24 (0, 0))).push (.cells [.int .i64 0, .int .i64 0].toArray 27 (0, 0))
  simp only [size_push', Cap.cells_eq, Cap.zero] at s1
  refine (resolve12_S (hs.grow (s1.front 3).ext) hL hw root hf w 16 hb).mono ?_
  rintro v k ⟨rfl, xk⟩
  have s2 := s1.grow xk
  clear s1
  generalize resolveN L root w 16 = x at *
  obtain ⟨n, i, l, e⟩ := x
  simp only [resI] at *
  have s3 := s2.push (.cells [.int .i64 n, .int .i64 i].toArray 27 (0, 0))
  by_cases e0 : e = 0
  · subst e0
    rw [if_neg (by simp)] at hR
    simp (maxSteps := 2000000) (disch := first | (simp only [go_sem, Nat.reduceBEq, Nat.reduceAdd, Nat.reduceMul, Nat.reduceSub, Nat.reduceEqDiff, Nat.reduceLeDiff, Nat.reduceLT, Int.reduceEq, Int.reduceAdd, Int.reduceSub, Int.reduceMul, Int.reduceNeg, Int.reduceLT, Int.reduceLE, Int.reduceToNat, Int.reduceBEq, Int.reduceNe, reduceCtorEq, s3.get]; done) | omega | (simp only [go_sem, Nat.reduceBEq, Nat.reduceAdd, Nat.reduceMul, Nat.reduceSub, Nat.reduceEqDiff, Nat.reduceLeDiff, Nat.reduceLT, Int.reduceEq, Int.reduceAdd, Int.reduceSub, Int.reduceMul, Int.reduceNeg, Int.reduceLT, Int.reduceLE, Int.reduceToNat, Int.reduceBEq, Int.reduceNe, reduceCtorEq, s3.get]; omega)) only [go_sem, Nat.reduceBEq, Nat.reduceAdd, Nat.reduceMul, Nat.reduceSub, Nat.reduceEqDiff, Nat.reduceLeDiff, Nat.reduceLT, Int.reduceEq, Int.reduceAdd, Int.reduceSub, Int.reduceMul, Int.reduceNeg, Int.reduceLT, Int.reduceLE, Int.reduceToNat, Int.reduceBEq, Int.reduceNe, reduceCtorEq, w64_id, w8_id, w16_id, w32_id, tmod_pos, tdiv_pos, Bool.or_true, Bool.true_or, Bool.or_false, Bool.false_or, Bool.and_false, Bool.false_and, condK_decide, s3.get]
    refine (get12_S (hs.grow (s3.front 4).ext) hL hw n i).mono ?_
    rintro v k2 ⟨rfl, xk2⟩
    have s4 := s3.grow xk2
    clear s3
    unfold capI
    have hg := getN_ok hw n i
    generalize (getN L n i) = y at *
    obtain ⟨c, e⟩ := y
    simp only at hR hg ⊢
    have hz := right_zero hg.2 hg.1
    have s5 := s4.push (.cells c.cells.toArray 24 (0, 0))
    simp only [Cap.cells_eq] at s5
    by_cases z : c = Cap.zero
    · rw [if_pos z] at hR
      subst z
      simp only [Cap.zero] at s5
      have s6 := (s5.front 3).set (.cells [.int .i64 0, .int .i64 0, .int .i64 0, .int .i64 0, .int .i64 0, .int .i64 0, .int .i64 0, .bool false].toArray 24 (0, 0))
      have s7 := (s6.front 3).set (.cells [.int .i64 0, .int .i64 0].toArray 27 (0, 0))
      simp (maxSteps := 2000000) (disch := first | (simp only [go_sem, Nat.reduceBEq, Nat.reduceAdd, Nat.reduceMul, Nat.reduceSub, Nat.reduceEqDiff, Nat.reduceLeDiff, Nat.reduceLT, Int.reduceEq, Int.reduceAdd, Int.reduceSub, Int.reduceMul, Int.reduceNeg, Int.reduceLT, Int.reduceLE, Int.reduceToNat, Int.reduceBEq, Int.reduceNe, reduceCtorEq, s4.get, s5.get, (s5.front 1).get, (s5.front 2).get, (s5.front 3).get, Cap.zero, (s6.front 1).get, (s6.front 3).get, s7.get, (s7.front 1).get]; done) | omega | (simp only [go_sem, Nat.reduceBEq, Nat.reduceAdd, Nat.reduceMul, Nat.reduceSub, Nat.reduceEqDiff, Nat.reduceLeDiff, Nat.reduceLT, Int.reduceEq, Int.reduceAdd, Int.reduceSub, Int.reduceMul, Int.reduceNeg, Int.reduceLT, Int.reduceLE, Int.reduceToNat, Int.reduceBEq, Int.reduceNe, reduceCtorEq, s4.get, s5.get, (s5.front 1).get, (s5.front 2).get, (s5.front 3).get, Cap.zero, (s6.front 1).get, (s6.front 3).get, s7.get, (s7.front 1).get]; omega)) only [go_sem, Nat.reduceBEq, Nat.reduceAdd, Nat.reduceMul, Nat.reduceSub, Nat.reduceEqDiff, Nat.reduceLeDiff, Nat.reduceLT, Int.reduceEq, Int.reduceAdd, Int.reduceSub, Int.reduceMul, Int.reduceNeg, Int.reduceLT, Int.reduceLE, Int.reduceToNat, Int.reduceBEq, Int.reduceNe, reduceCtorEq, w64_id, w8_id, w16_id, w32_id, tmod_pos, tdiv_pos, Bool.or_true, Bool.true_or, Bool.or_false, Bool.false_or, Bool.and_false, Bool.false_and, condK_decide, s4.get, s5.get, (s5.front 1).get, (s5.front 2).get, (s5.front 3).get, Cap.zero, (s6.front 1).get, (s6.front 3).get, s7.get, (s7.front 1).get]
      exact hR _ _ ⟨rfl, (s7.front 5).ext⟩
    · rw [if_neg z] at hR
      have hzk : ¬ c.K = 0 := fun q => z (hz.1 q)
      have s6 := (s5.front 3).set (.cells [.int .i64 c.K, .int .i64 c.O, .int .i64 c.R, .int .i64 c.B, .int .i64 c.X, .int .i64 c.G, .int .i64 c.W, .bool c.D].toArray 24 (0, 0))
      have s7 := (s6.front 3).set (.cells [.int .i64 n, .int .i64 i].toArray 27 (0, 0))
      simp (maxSteps := 2000000) (disch := first | (simp only [go_sem, Nat.reduceBEq, Nat.reduceAdd, Nat.reduceMul, Nat.reduceSub, Nat.reduceEqDiff, Nat.reduceLeDiff, Nat.reduceLT, Int.reduceEq, Int.reduceAdd, Int.reduceSub, Int.reduceMul, Int.reduceNeg, Int.reduceLT, Int.reduceLE, Int.reduceToNat, Int.reduceBEq, Int.reduceNe, reduceCtorEq, s4.get, s5.get, (s5.front 1).get, (s5.front 2).get, (s5.front 3).get, hzk, (s6.front 1).get, (s6.front 2).get, (s6.front 3).get, s7.get, (s7.front 1).get]; done) | omega | (simp only [go_sem, Nat.reduceBEq, Nat.reduceAdd, Nat.reduceMul, Nat.reduceSub, Nat.reduceEqDiff, Nat.reduceLeDiff, Nat.reduceLT, Int.reduceEq, Int.reduceAdd, Int.reduceSub, Int.reduceMul, Int.reduceNeg, Int.reduceLT, Int.reduceLE, Int.reduceToNat, Int.reduceBEq, Int.reduceNe, reduceCtorEq, s4.get, s5.get, (s5.front 1).get, (s5.front 2).get, (s5.front 3).get, hzk, (s6.front 1).get, (s6.front 2).get, (s6.front 3).get, s7.get, (s7.front 1).get]; omega)) only [go_sem, Nat.reduceBEq, Nat.reduceAdd, Nat.reduceMul, Nat.reduceSub, Nat.reduceEqDiff, Nat.reduceLeDiff, Nat.reduceLT, Int.reduceEq, Int.reduceAdd, Int.reduceSub, Int.reduceMul, Int.reduceNeg, Int.reduceLT, Int.reduceLE, Int.reduceToNat, Int.reduceBEq, Int.reduceNe, reduceCtorEq, w64_id, w8_id, w16_id, w32_id, tmod_pos, tdiv_pos, Bool.or_true, Bool.true_or, Bool.or_false, Bool.false_or, Bool.and_false, Bool.false_and, condK_decide, s4.get, s5.get, (s5.front 1).get, (s5.front 2).get, (s5.front 3).get, hzk, (s6.front 1).get, (s6.front 2).get, (s6.front 3).get, s7.get, (s7.front 1).get]
      exact hR _ _ ⟨rfl, (s7.front 5).ext⟩
  · rw [if_pos e0] at hR
    have s4 := (s3.front 2).set (.cells [.int .i64 0, .int .i64 0, .int .i64 0, .int .i64 0, .int .i64 0, .int .i64 0, .int .i64 0, .bool false].toArray 24 (0, 0))
    have s5 := (s4.front 2).set (.cells [.int .i64 0, .int .i64 0].toArray 27 (0, 0))
    simp (maxSteps := 2000000) (disch := first | (simp only [go_sem, Nat.reduceBEq, Nat.reduceAdd, Nat.reduceMul, Nat.reduceSub, Nat.reduceEqDiff, Nat.reduceLeDiff, Nat.reduceLT, Int.reduceEq, Int.reduceAdd, Int.reduceSub, Int.reduceMul, Int.reduceNeg, Int.reduceLT, Int.reduceLE, Int.reduceToNat, Int.reduceBEq, Int.reduceNe, reduceCtorEq, (s3.front 1).get, (s3.front 2).get, (s4.front 2).get, s5.get, (s5.front 1).get, e0]; done) | omega | (simp only [go_sem, Nat.reduceBEq, Nat.reduceAdd, Nat.reduceMul, Nat.reduceSub, Nat.reduceEqDiff, Nat.reduceLeDiff, Nat.reduceLT, Int.reduceEq, Int.reduceAdd, Int.reduceSub, Int.reduceMul, Int.reduceNeg, Int.reduceLT, Int.reduceLE, Int.reduceToNat, Int.reduceBEq, Int.reduceNe, reduceCtorEq, (s3.front 1).get, (s3.front 2).get, (s4.front 2).get, s5.get, (s5.front 1).get, e0]; omega)) only [go_sem, Nat.reduceBEq, Nat.reduceAdd, Nat.reduceMul, Nat.reduceSub, Nat.reduceEqDiff, Nat.reduceLeDiff, Nat.reduceLT, Int.reduceEq, Int.reduceAdd, Int.reduceSub, Int.reduceMul, Int.reduceNeg, Int.reduceLT, Int.reduceLE, Int.reduceToNat, Int.reduceBEq, Int.reduceNe, reduceCtorEq, w64_id, w8_id, w16_id, w32_id, tmod_pos, tdiv_pos, Bool.or_true, Bool.true_or, Bool.or_false, Bool.false_or, Bool.and_false, Bool.false_and, condK_decide, (s3.front 1).get, (s3.front 2).get, (s4.front 2).get, s5.get, (s5.front 1).get, e0]
    exact hR _ _ ⟨rfl, (s5.front 4).ext⟩
end
end Go.Eng
