/-
  viceroyref12: Put.
-/
import Derived.Test.YtlkofpoginokbaaCsr2
namespace Go.Eng
set_option linter.unusedSimpArgs false
set_option linter.unusedVariables false
set_option maxRecDepth 16000
set_option maxHeartbeats 4000000
open Go Go.Proofs
theorem setZ_nodes {id : Int} {S : List Cap} : ∀ {Z : List (Nd × Nat)} {z : Nd × Nat}, findZ Z id = some z → S.length = z.1.S.length → nodesL (setZ Z id S) = nodesL Z ∧ (setZ Z id S).length = Z.length
  | [], _, hz, _ => by cases hz
  | w :: Z, z, hz, hS => by
    rw [findZ_cons] at hz
    unfold setZ
    by_cases q : w.1.I = id
    · rw [if_pos q] at hz ⊢
      cases hz
      refine ⟨?_, rfl⟩
      simp only [nodesL, List.flatMap_cons, nodeR, nodeV, hS]
    · rw [if_neg q] at hz ⊢
      obtain ⟨e1, e2⟩ := setZ_nodes hz hS
      refine ⟨?_, by rw [List.length_cons, List.length_cons, e2]⟩
      unfold nodesL at e1 ⊢
      rw [List.flatMap_cons, List.flatMap_cons, e1]
theorem refSp_set {h : Heap} {F : List SP} {qb : Nat} {v : Value} {ty : TypeId} {Z : List (Nd × Nat)} {z : Nd × Nat} {id : Int} (hs : Sat h (cellAt qb (.cells [v].toArray ty (0, 0)) :: sliceS 3 Z.length v (nodesL Z) :: (Z.map nodeC ++ F))) (hz : findZ Z id = some z) (S : List Cap) (hS : S.length = z.1.S.length) :
    Sat (h.setIfInBounds z.2 (.cells (capsL S).toArray 24 (0, 0))) (refSpS qb (setS (Z.map (·.1)) id S) :: F) := by
  obtain ⟨n1, n2⟩ := setZ_nodes hz hS
  obtain ⟨A, B, hZ, e2, e3⟩ := setZ_split hz
  rw [← n1, ← n2] at hs
  have s2 : Sat h (cellAt z.2 (.cells (capsL z.1.S).toArray 24 (0, 0)) :: (cellAt qb _ :: sliceS 3 _ v _ :: ((A ++ B).map nodeC ++ F))) := hs.perm (by
    subst hZ
    simp only [List.map_append, List.map_cons, List.append_assoc, List.cons_append]
    exact (List.Perm.cons _ (List.Perm.cons _ List.perm_middle)).trans ((List.Perm.cons _ (List.Perm.swap _ _ _)).trans (List.Perm.swap _ _ _)))
  have s3 := s2.set (.cells (capsL S).toArray 24 (0, 0))
  rw [← hZ, e3 S] at s3
  refine refSp_iff.2 ⟨v, ty, A ++ ({ z.1 with S := S }, z.2) :: B, by rw [← e3 S]; exact setZ_fst id S Z, s3.perm ?_⟩
  simp only [List.map_append, List.map_cons, List.append_assoc, List.cons_append]
  exact ((List.Perm.cons _ (List.Perm.cons _ List.perm_middle)).trans ((List.Perm.cons _ (List.Perm.swap _ _ _)).trans (List.Perm.swap _ _ _))).symm
theorem put_get (L : List Nd) (node index : Int) (c : Cap) : ((getN L node index).2 ≠ 0 ∧ putN L node index c = (L, (getN L node index).2)) ∨ ((getN L node index).2 = 0 ∧ ∃ n, findN L node = some n ∧ 0 ≤ index ∧ index < n.S.length ∧ putN L node index c = if RightP c then (setS L node (n.S.set index.toNat c), 0) else (L, 141)) := by
  unfold getN putN
  cases hn : findN L node with
  | none => left; simp
  | some n =>
    by_cases g : 0 ≤ index
    · by_cases g2 : index < n.S.length
      · right
        simp only [if_pos g, List.getElem?_eq_getElem (show index.toNat < n.S.length by omega), if_pos (And.intro g g2)]
        exact ⟨trivial, n, rfl, g, g2, rfl⟩
      · left
        simp only [if_pos g, List.getElem?_eq_none (show n.S.length ≤ index.toNat by omega), if_neg (fun q : 0 ≤ index ∧ index < n.S.length => g2 q.2)]
        exact ⟨by decide, trivial⟩
    · left
      simp only [if_neg g, if_neg (fun q : 0 ≤ index ∧ index < n.S.length => g q.1)]
      exact ⟨by decide, trivial⟩
section
variable {h : Heap} {F : List SP} {qb : Nat} {L : List Nd}
theorem put12_S (hs : Sat h (refSpS qb L :: F)) (hL : L.length ≤ 100000) (hw : wfL L) (node index : Int) (c : Cap) (hf : c.fit) : HCalls Try.prog 29 #[.pointer (some ⟨qb, 0, none⟩), .agg #[.int .i64 node, .int .i64 index], .agg c.cells.toArray] h fun v h' => v = .int .i64 (putN L node index c).2 ∧ Sat h' (refSpS qb (putN L node index c).1 :: F) := by
  refine HCalls.via fun R hR => ?_
  refine HCalls.of_dev T29 Try.func29 rfl mixed (by kernel_rfl) ?_; rw [Try.results29]
  simp (maxSteps := 2000000) (disch := first | (simp only [go_sem, Nat.reduceBEq, Nat.reduceAdd, Nat.reduceMul, Nat.reduceSub, Nat.reduceEqDiff, Nat.reduceLeDiff, Nat.reduceLT, Int.reduceEq, Int.reduceAdd, Int.reduceSub, Int.reduceMul, Int.reduceNeg, Int.reduceLT, Int.reduceLE, Int.reduceToNat, Int.reduceBEq, Int.reduceNe, reduceCtorEq]; done) | omega | (simp only [go_sem, Nat.reduceBEq, Nat.reduceAdd, Nat.reduceMul, Nat.reduceSub, Nat.reduceEqDiff, Nat.reduceLeDiff, Nat.reduceLT, Int.reduceEq, Int.reduceAdd, Int.reduceSub, Int.reduceMul, Int.reduceNeg, Int.reduceLT, Int.reduceLE, Int.reduceToNat, Int.reduceBEq, Int.reduceNe, reduceCtorEq]; omega)) only [go_sem, Nat.reduceBEq, Nat.reduceAdd, Nat.reduceMul, Nat.reduceSub, Nat.reduceEqDiff, Nat.reduceLeDiff, Nat.reduceLT, Int.reduceEq, Int.reduceAdd, Int.reduceSub, Int.reduceMul, Int.reduceNeg, Int.reduceLT, Int.reduceLE, Int.reduceToNat, Int.reduceBEq, Int.reduceNe, reduceCtorEq, w64_id, w8_id, w16_id, w32_id, tmod_pos, tdiv_pos, Bool.or_true, Bool.true_or, Bool.or_false, Bool.false_or, Bool.and_false, Bool.false_and, condK_decide]
  have s1 := (hs.push (.cells [.int .i64 node, .int .i64 index].toArray 27 (0, 0))).push (.cells c.cells.toArray 24 (0, 0))
  simp only [Cap.cells_eq, size_push'] at s1
  refine (get12_S (s1.front 2) hL hw node index).mono ?_
  rintro v k ⟨rfl, xk⟩
  have s2 := s1.grow xk
  clear s1
  unfold capI
  rcases put_get L node index c with ⟨e1, e2⟩ | ⟨e1, n, hn, g1, g2, e2⟩
  · rw [e2] at hR
    simp (maxSteps := 2000000) (disch := first | (simp only [go_sem, Nat.reduceBEq, Nat.reduceAdd, Nat.reduceMul, Nat.reduceSub, Nat.reduceEqDiff, Nat.reduceLeDiff, Nat.reduceLT, Int.reduceEq, Int.reduceAdd, Int.reduceSub, Int.reduceMul, Int.reduceNeg, Int.reduceLT, Int.reduceLE, Int.reduceToNat, Int.reduceBEq, Int.reduceNe, reduceCtorEq, s2.get, (s2.front 1).get, e1]; done) | omega | (simp only [go_sem, Nat.reduceBEq, Nat.reduceAdd, Nat.reduceMul, Nat.reduceSub, Nat.reduceEqDiff, Nat.reduceLeDiff, Nat.reduceLT, Int.reduceEq, Int.reduceAdd, Int.reduceSub, Int.reduceMul, Int.reduceNeg, Int.reduceLT, Int.reduceLE, Int.reduceToNat, Int.reduceBEq, Int.reduceNe, reduceCtorEq, s2.get, (s2.front 1).get, e1]; omega)) only [go_sem, Nat.reduceBEq, Nat.reduceAdd, Nat.reduceMul, Nat.reduceSub, Nat.reduceEqDiff, Nat.reduceLeDiff, Nat.reduceLT, Int.reduceEq, Int.reduceAdd, Int.reduceSub, Int.reduceMul, Int.reduceNeg, Int.reduceLT, Int.reduceLE, Int.reduceToNat, Int.reduceBEq, Int.reduceNe, reduceCtorEq, w64_id, w8_id, w16_id, w32_id, tmod_pos, tdiv_pos, Bool.or_true, Bool.true_or, Bool.or_false, Bool.false_or, Bool.and_false, Bool.false_and, condK_decide, s2.get, (s2.front 1).get, e1]
    exact hR _ _ ⟨rfl, s2.tail.tail.grow (Ext.push _ _)⟩
  · have s2 := s2.push (.cells (getN L node index).1.cells.toArray 24 (0, 0))
    simp only [Cap.cells_eq] at s2
    simp (maxSteps := 2000000) (disch := first | (simp only [go_sem, Nat.reduceBEq, Nat.reduceAdd, Nat.reduceMul, Nat.reduceSub, Nat.reduceEqDiff, Nat.reduceLeDiff, Nat.reduceLT, Int.reduceEq, Int.reduceAdd, Int.reduceSub, Int.reduceMul, Int.reduceNeg, Int.reduceLT, Int.reduceLE, Int.reduceToNat, Int.reduceBEq, Int.reduceNe, reduceCtorEq, s2.get, (s2.front 1).get, (s2.front 2).get, e1]; done) | omega | (simp only [go_sem, Nat.reduceBEq, Nat.reduceAdd, Nat.reduceMul, Nat.reduceSub, Nat.reduceEqDiff, Nat.reduceLeDiff, Nat.reduceLT, Int.reduceEq, Int.reduceAdd, Int.reduceSub, Int.reduceMul, Int.reduceNeg, Int.reduceLT, Int.reduceLE, Int.reduceToNat, Int.reduceBEq, Int.reduceNe, reduceCtorEq, s2.get, (s2.front 1).get, (s2.front 2).get, e1]; omega)) only [go_sem, Nat.reduceBEq, Nat.reduceAdd, Nat.reduceMul, Nat.reduceSub, Nat.reduceEqDiff, Nat.reduceLeDiff, Nat.reduceLT, Int.reduceEq, Int.reduceAdd, Int.reduceSub, Int.reduceMul, Int.reduceNeg, Int.reduceLT, Int.reduceLE, Int.reduceToNat, Int.reduceBEq, Int.reduceNe, reduceCtorEq, w64_id, w8_id, w16_id, w32_id, tmod_pos, tdiv_pos, Bool.or_true, Bool.true_or, Bool.or_false, Bool.false_or, Bool.and_false, Bool.false_and, condK_decide, s2.get, (s2.front 1).get, (s2.front 2).get, e1]
    refine (refRight_S c hf).mono ?_
    rintro v k2 ⟨rfl, xk2⟩
    have s3 := s2.grow xk2
    by_cases r : RightP c
    · rw [if_pos r] at e2
      rw [e2] at hR
      simp (maxSteps := 2000000) (disch := first | (simp only [go_sem, Nat.reduceBEq, Nat.reduceAdd, Nat.reduceMul, Nat.reduceSub, Nat.reduceEqDiff, Nat.reduceLeDiff, Nat.reduceLT, Int.reduceEq, Int.reduceAdd, Int.reduceSub, Int.reduceMul, Int.reduceNeg, Int.reduceLT, Int.reduceLE, Int.reduceToNat, Int.reduceBEq, Int.reduceNe, reduceCtorEq, s3.get, (s3.front 1).get, (s3.front 2).get, r]; done) | omega | (simp only [go_sem, Nat.reduceBEq, Nat.reduceAdd, Nat.reduceMul, Nat.reduceSub, Nat.reduceEqDiff, Nat.reduceLeDiff, Nat.reduceLT, Int.reduceEq, Int.reduceAdd, Int.reduceSub, Int.reduceMul, Int.reduceNeg, Int.reduceLT, Int.reduceLE, Int.reduceToNat, Int.reduceBEq, Int.reduceNe, reduceCtorEq, s3.get, (s3.front 1).get, (s3.front 2).get, r]; omega)) only [go_sem, Nat.reduceBEq, Nat.reduceAdd, Nat.reduceMul, Nat.reduceSub, Nat.reduceEqDiff, Nat.reduceLeDiff, Nat.reduceLT, Int.reduceEq, Int.reduceAdd, Int.reduceSub, Int.reduceMul, Int.reduceNeg, Int.reduceLT, Int.reduceLE, Int.reduceToNat, Int.reduceBEq, Int.reduceNe, reduceCtorEq, w64_id, w8_id, w16_id, w32_id, tmod_pos, tdiv_pos, Bool.or_true, Bool.true_or, Bool.or_false, Bool.false_or, Bool.and_false, Bool.false_and, condK_decide, s3.get, (s3.front 1).get, (s3.front 2).get, r]
      refine (at12_S (s3.front 3) hL node).mono ?_
      rintro v k3 ⟨rfl, rfl⟩
      obtain ⟨v, ty, Z, rfl, s⟩ := refSp_iff.1 (s3.front 3)
      obtain ⟨sl, cap, rfl, hcap, hel⟩ := nodes_elems s.tail
      rcases atZ_cases Z node with ⟨e, f2⟩ | ⟨k, z, e, f1, f2, f3, f4⟩
      · rw [f2] at hn; cases hn
      · rw [f3] at hn
        cases hn
        obtain ⟨lb, rfl, -, -, c1, -⟩ := hel k z f1
        unfold nodeV at c1
        have c2 := nodeC_at s (List.mem_of_getElem? f1)
        obtain ⟨i, rfl⟩ := Int.eq_ofNat_of_zero_le g1
        have hlt : i < z.1.S.length := by omega
        have hl := capsL_len z.1.S
        simp (maxSteps := 2000000) (disch := first | (simp only [go_sem, Nat.reduceBEq, Nat.reduceAdd, Nat.reduceMul, Nat.reduceSub, Nat.reduceEqDiff, Nat.reduceLeDiff, Nat.reduceLT, Int.reduceEq, Int.reduceAdd, Int.reduceSub, Int.reduceMul, Int.reduceNeg, Int.reduceLT, Int.reduceLE, Int.reduceToNat, Int.reduceBEq, Int.reduceNe, reduceCtorEq, e, s3.get, (s3.front 1).get, (s3.front 2).get, s.get, c1, c2]; done) | omega | (simp only [go_sem, Nat.reduceBEq, Nat.reduceAdd, Nat.reduceMul, Nat.reduceSub, Nat.reduceEqDiff, Nat.reduceLeDiff, Nat.reduceLT, Int.reduceEq, Int.reduceAdd, Int.reduceSub, Int.reduceMul, Int.reduceNeg, Int.reduceLT, Int.reduceLE, Int.reduceToNat, Int.reduceBEq, Int.reduceNe, reduceCtorEq, e, s3.get, (s3.front 1).get, (s3.front 2).get, s.get, c1, c2]; omega)) only [go_sem, Nat.reduceBEq, Nat.reduceAdd, Nat.reduceMul, Nat.reduceSub, Nat.reduceEqDiff, Nat.reduceLeDiff, Nat.reduceLT, Int.reduceEq, Int.reduceAdd, Int.reduceSub, Int.reduceMul, Int.reduceNeg, Int.reduceLT, Int.reduceLE, Int.reduceToNat, Int.reduceBEq, Int.reduceNe, reduceCtorEq, w64_id, w8_id, w16_id, w32_id, tmod_pos, tdiv_pos, Bool.or_true, Bool.true_or, Bool.or_false, Bool.false_or, Bool.and_false, Bool.false_and, condK_decide, e, s3.get, (s3.front 1).get, (s3.front 2).get, s.get, c1, c2]
        refine ⟨by omega, by rw [List.length_set]; omega, by simp only [List.length_set]; omega, by simp only [List.length_set]; omega, by simp only [List.length_set]; omega, by simp only [List.length_set]; omega, by simp only [List.length_set]; omega, by simp only [List.length_set]; omega, ?_⟩
        rw [capsL_sets _ _ _ hlt]
        have t := refSp_set s f4.2 (z.1.S.set i c) (List.length_set ..)
        exact hR _ _ ⟨rfl, t.drop1.drop1.drop1⟩
    · rw [if_neg r] at e2
      rw [e2] at hR
      simp (maxSteps := 2000000) (disch := first | (simp only [go_sem, Nat.reduceBEq, Nat.reduceAdd, Nat.reduceMul, Nat.reduceSub, Nat.reduceEqDiff, Nat.reduceLeDiff, Nat.reduceLT, Int.reduceEq, Int.reduceAdd, Int.reduceSub, Int.reduceMul, Int.reduceNeg, Int.reduceLT, Int.reduceLE, Int.reduceToNat, Int.reduceBEq, Int.reduceNe, reduceCtorEq, r]; done) | omega | (simp only [go_sem, Nat.reduceBEq, Nat.reduceAdd, Nat.reduceMul, Nat.reduceSub, Nat.reduceEqDiff, Nat.reduceLeDiff, Nat.reduceLT, Int.reduceEq, Int.reduceAdd, Int.reduceSub, Int.reduceMul, Int.reduceNeg, Int.reduceLT, Int.reduceLE, Int.reduceToNat, Int.reduceBEq, Int.reduceNe, reduceCtorEq, r]; omega)) only [go_sem, Nat.reduceBEq, Nat.reduceAdd, Nat.reduceMul, Nat.reduceSub, Nat.reduceEqDiff, Nat.reduceLeDiff, Nat.reduceLT, Int.reduceEq, Int.reduceAdd, Int.reduceSub, Int.reduceMul, Int.reduceNeg, Int.reduceLT, Int.reduceLE, Int.reduceToNat, Int.reduceBEq, Int.reduceNe, reduceCtorEq, w64_id, w8_id, w16_id, w32_id, tmod_pos, tdiv_pos, Bool.or_true, Bool.true_or, Bool.or_false, Bool.false_or, Bool.and_false, Bool.false_and, condK_decide, r]
      exact hR _ _ ⟨rfl, s3.tail.tail.tail⟩
end
end Go.Eng
