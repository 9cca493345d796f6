/-
  viceroyref12: Full; viceroylaw12.refs.
-/
import Derived.Test.YtlkofpoginokbaaCsf1
namespace Go.Eng
set_option linter.unusedSimpArgs false
set_option linter.unusedVariables false
set_option maxRecDepth 16000
set_option maxHeartbeats 4000000
open Go Go.Proofs
section
variable {h : Heap} {F : List SP} {qb : Nat} {L : List Nd}
theorem back_ref {A : SP} {v : Value} {ty : TypeId} {Z : List (Nd × Nat)} (s : Sat h (A :: cellAt qb (.cells [v].toArray ty (0, 0)) :: sliceS 3 Z.length v (nodesL Z) :: (Z.map nodeC ++ F))) : Sat h (A :: refSpS qb (Z.map (·.1)) :: F) := by
  obtain ⟨a, b, h1, h2, h3, h4, h5⟩ := s
  refine ⟨a, b, h1, h2, h3, h4, ?_⟩
  unfold refSpS
  exact SatP.ex.2 ⟨(v, ty, Z), SatP.star.2 (SatP.pure.2 ⟨rfl, h5⟩)⟩
theorem full12_S (hs : Sat h (refSpS qb L :: F)) (hw : wfL L) : HCalls Try.prog 21 #[.pointer (some ⟨qb, 0, none⟩)] h fun v h' => Sat h' (sliceS 2 (fullN L).length v (refsL (fullN L)) :: refSpS qb L :: F) := by
  refine HCalls.via fun R hR => ?_
  have hL := hw.len
  refine HCalls.of_dev T21 Try.func21 rfl mixed (by kernel_rfl) ?_; rw [Try.results21]
  obtain ⟨v, ty, Z, rfl, s⟩ := refSp_iff.1 hs
  obtain ⟨sl, cap, rfl, hcap, -⟩ := nodes_elems s.tail
  rw [List.length_map] at hL
  have s3 := Sat.nilS (sz := 2) s
  simp (maxSteps := 2000000) (disch := first | (simp only [go_sem, Nat.reduceBEq, Nat.reduceAdd, Nat.reduceMul, Nat.reduceSub, Nat.reduceEqDiff, Nat.reduceLeDiff, Nat.reduceLT, Int.reduceEq, Int.reduceAdd, Int.reduceSub, Int.reduceMul, Int.reduceNeg, Int.reduceLT, Int.reduceLE, Int.reduceToNat, Int.reduceBEq, Int.reduceNe, reduceCtorEq]; done) | omega | (simp only [go_sem, Nat.reduceBEq, Nat.reduceAdd, Nat.reduceMul, Nat.reduceSub, Nat.reduceEqDiff, Nat.reduceLeDiff, Nat.reduceLT, Int.reduceEq, Int.reduceAdd, Int.reduceSub, Int.reduceMul, Int.reduceNeg, Int.reduceLT, Int.reduceLE, Int.reduceToNat, Int.reduceBEq, Int.reduceNe, reduceCtorEq]; omega)) only [go_sem, Nat.reduceBEq, Nat.reduceAdd, Nat.reduceMul, Nat.reduceSub, Nat.reduceEqDiff, Nat.reduceLeDiff, Nat.reduceLT, Int.reduceEq, Int.reduceAdd, Int.reduceSub, Int.reduceMul, Int.reduceNeg, Int.reduceLT, Int.reduceLE, Int.reduceToNat, Int.reduceBEq, Int.reduceNe, reduceCtorEq, w64_id, w8_id, w16_id, w32_id, tmod_pos, tdiv_pos, Bool.or_true, Bool.true_or, Bool.or_false, Bool.false_or, Bool.and_false, Bool.false_and, condK_decide]
  refine loopH.intro (fun t : Nat × Value => (.cons 0 (.pointer (some ⟨qb, 0, none⟩)) true (.cons 3 (t.2) true (.cons 4 (.int .i64 t.1) true .nil))))
    (fun t h' => Sat h' (sliceS 2 (fullN ((Z.map (·.1)).take t.1)).length t.2 (refsL (fullN ((Z.map (·.1)).take t.1))) :: cellAt qb (.cells [.slice sl Z.length cap].toArray ty (0, 0)) :: sliceS 3 Z.length (.slice sl Z.length cap) (nodesL Z) :: (Z.map nodeC ++ F)) ∧ t.1 ≤ Z.length) (fun t _ => Z.length + 1 - t.1) (0, .slice none 0 0) ?_ ⟨s3, by simp⟩ ?_
  · simp (maxSteps := 2000000) (disch := first | (simp only [go_sem, Nat.reduceBEq, Nat.reduceAdd, Nat.reduceMul, Nat.reduceSub, Nat.reduceEqDiff, Nat.reduceLeDiff, Nat.reduceLT, Int.reduceEq, Int.reduceAdd, Int.reduceSub, Int.reduceMul, Int.reduceNeg, Int.reduceLT, Int.reduceLE, Int.reduceToNat, Int.reduceBEq, Int.reduceNe, reduceCtorEq]; done) | omega | (simp only [go_sem, Nat.reduceBEq, Nat.reduceAdd, Nat.reduceMul, Nat.reduceSub, Nat.reduceEqDiff, Nat.reduceLeDiff, Nat.reduceLT, Int.reduceEq, Int.reduceAdd, Int.reduceSub, Int.reduceMul, Int.reduceNeg, Int.reduceLT, Int.reduceLE, Int.reduceToNat, Int.reduceBEq, Int.reduceNe, reduceCtorEq]; omega)) only [go_sem, Nat.reduceBEq, Nat.reduceAdd, Nat.reduceMul, Nat.reduceSub, Nat.reduceEqDiff, Nat.reduceLeDiff, Nat.reduceLT, Int.reduceEq, Int.reduceAdd, Int.reduceSub, Int.reduceMul, Int.reduceNeg, Int.reduceLT, Int.reduceLE, Int.reduceToNat, Int.reduceBEq, Int.reduceNe, reduceCtorEq, w64_id, w8_id, w16_id, w32_id, tmod_pos, tdiv_pos, Bool.or_true, Bool.true_or, Bool.or_false, Bool.false_or, Bool.and_false, Bool.false_and, condK_decide]; rfl
  clear s3 s hs
  rintro ⟨i, v⟩ h2 ⟨s, hi⟩
  simp only at s hi
  obtain ⟨sl2, cap2, rfl, -⟩ := s.elems
  by_cases q : i < Z.length
  case neg =>
    have q2 : ¬ (i : Int) < Z.length := by omega
    simp (maxSteps := 2000000) (disch := first | (simp only [go_sem, Nat.reduceBEq, Nat.reduceAdd, Nat.reduceMul, Nat.reduceSub, Nat.reduceEqDiff, Nat.reduceLeDiff, Nat.reduceLT, Int.reduceEq, Int.reduceAdd, Int.reduceSub, Int.reduceMul, Int.reduceNeg, Int.reduceLT, Int.reduceLE, Int.reduceToNat, Int.reduceBEq, Int.reduceNe, reduceCtorEq, q2, (s.front 1).get]; done) | omega | (simp only [go_sem, Nat.reduceBEq, Nat.reduceAdd, Nat.reduceMul, Nat.reduceSub, Nat.reduceEqDiff, Nat.reduceLeDiff, Nat.reduceLT, Int.reduceEq, Int.reduceAdd, Int.reduceSub, Int.reduceMul, Int.reduceNeg, Int.reduceLT, Int.reduceLE, Int.reduceToNat, Int.reduceBEq, Int.reduceNe, reduceCtorEq, q2, (s.front 1).get]; omega)) only [go_sem, Nat.reduceBEq, Nat.reduceAdd, Nat.reduceMul, Nat.reduceSub, Nat.reduceEqDiff, Nat.reduceLeDiff, Nat.reduceLT, Int.reduceEq, Int.reduceAdd, Int.reduceSub, Int.reduceMul, Int.reduceNeg, Int.reduceLT, Int.reduceLE, Int.reduceToNat, Int.reduceBEq, Int.reduceNe, reduceCtorEq, w64_id, w8_id, w16_id, w32_id, tmod_pos, tdiv_pos, Bool.or_true, Bool.true_or, Bool.or_false, Bool.false_or, Bool.and_false, Bool.false_and, condK_decide, q2, (s.front 1).get]
    obtain rfl : i = Z.length := by omega
    rw [List.take_of_length_le (by simp)] at s ⊢
    exact hR _ _ (back_ref s)
  have q2 : (i : Int) < Z.length := by omega
  simp (maxSteps := 2000000) (disch := first | (simp only [go_sem, Nat.reduceBEq, Nat.reduceAdd, Nat.reduceMul, Nat.reduceSub, Nat.reduceEqDiff, Nat.reduceLeDiff, Nat.reduceLT, Int.reduceEq, Int.reduceAdd, Int.reduceSub, Int.reduceMul, Int.reduceNeg, Int.reduceLT, Int.reduceLE, Int.reduceToNat, Int.reduceBEq, Int.reduceNe, reduceCtorEq, q2, (s.front 1).get]; done) | omega | (simp only [go_sem, Nat.reduceBEq, Nat.reduceAdd, Nat.reduceMul, Nat.reduceSub, Nat.reduceEqDiff, Nat.reduceLeDiff, Nat.reduceLT, Int.reduceEq, Int.reduceAdd, Int.reduceSub, Int.reduceMul, Int.reduceNeg, Int.reduceLT, Int.reduceLE, Int.reduceToNat, Int.reduceBEq, Int.reduceNe, reduceCtorEq, q2, (s.front 1).get]; omega)) only [go_sem, Nat.reduceBEq, Nat.reduceAdd, Nat.reduceMul, Nat.reduceSub, Nat.reduceEqDiff, Nat.reduceLeDiff, Nat.reduceLT, Int.reduceEq, Int.reduceAdd, Int.reduceSub, Int.reduceMul, Int.reduceNeg, Int.reduceLT, Int.reduceLE, Int.reduceToNat, Int.reduceBEq, Int.reduceNe, reduceCtorEq, w64_id, w8_id, w16_id, w32_id, tmod_pos, tdiv_pos, Bool.or_true, Bool.true_or, Bool.or_false, Bool.false_or, Bool.and_false, Bool.false_and, condK_decide, q2, (s.front 1).get]
  have hn : (Z.map (·.1)).take (i + 1) = (Z.map (·.1)).take i ++ [Z[i].1] := by
    rw [List.take_succ_eq_append_getElem (by simpa using q)]
    simp
  have hfl : fullN ((Z.map (·.1)).take (i + 1)) = fullN ((Z.map (·.1)).take i) ++ fullNode Z[i].1 := by
    rw [hn]; unfold fullN; rw [List.flatMap_append]; simp
  have wz := hw.1 Z[i].1 (List.mem_map.2 ⟨Z[i], List.getElem_mem q, rfl⟩)
  have w16 := wz.len16
  have hlen : (fullN ((Z.map (·.1)).take i)).length ≤ 16 * 1024 := by
    have h1 : ∀ n ∈ (Z.map (·.1)).take i, n.wf := fun n hn => hw.1 n (List.mem_of_mem_take hn)
    have h2 := fullN_len h1
    rw [List.length_take, List.length_map] at h2
    omega
  generalize fullN ((Z.map (·.1)).take i) = Y at *
  have hby : ∀ n, n ≤ 200009 → (2 * n + 1024) * (tbytes Try.prog (sliceElem Try.prog 41)).getD 0 ≤ 281474976710656 := fun n hn => by
    rw [selem_41, tbytes_27]; simp only [Option.getD_some]; omega
  refine loopH.intro (fun t : Nat × Value => (.cons 0 (.pointer (some ⟨qb, 0, none⟩)) true (.cons 3 (t.2) true (.cons 4 (.int .i64 i) true (.cons 5 (.int .i64 t.1) true .nil)))))
    (fun t h' => Sat h' (sliceS 2 (Y ++ fullTo Z[i].1 t.1).length t.2 (refsL (Y ++ fullTo Z[i].1 t.1)) :: cellAt qb (.cells [.slice sl Z.length cap].toArray ty (0, 0)) :: sliceS 3 Z.length (.slice sl Z.length cap) (nodesL Z) :: (Z.map nodeC ++ F)) ∧ t.1 ≤ Z[i].1.S.length) (fun t _ => Z[i].1.S.length + 1 - t.1) (0, _) ?_ ⟨by simp only [fullTo, List.range_zero, List.flatMap_nil, List.append_nil]; exact s, by simp⟩ ?_
  · simp (maxSteps := 2000000) (disch := first | (simp only [go_sem, Nat.reduceBEq, Nat.reduceAdd, Nat.reduceMul, Nat.reduceSub, Nat.reduceEqDiff, Nat.reduceLeDiff, Nat.reduceLT, Int.reduceEq, Int.reduceAdd, Int.reduceSub, Int.reduceMul, Int.reduceNeg, Int.reduceLT, Int.reduceLE, Int.reduceToNat, Int.reduceBEq, Int.reduceNe, reduceCtorEq]; done) | omega | (simp only [go_sem, Nat.reduceBEq, Nat.reduceAdd, Nat.reduceMul, Nat.reduceSub, Nat.reduceEqDiff, Nat.reduceLeDiff, Nat.reduceLT, Int.reduceEq, Int.reduceAdd, Int.reduceSub, Int.reduceMul, Int.reduceNeg, Int.reduceLT, Int.reduceLE, Int.reduceToNat, Int.reduceBEq, Int.reduceNe, reduceCtorEq]; omega)) only [go_sem, Nat.reduceBEq, Nat.reduceAdd, Nat.reduceMul, Nat.reduceSub, Nat.reduceEqDiff, Nat.reduceLeDiff, Nat.reduceLT, Int.reduceEq, Int.reduceAdd, Int.reduceSub, Int.reduceMul, Int.reduceNeg, Int.reduceLT, Int.reduceLE, Int.reduceToNat, Int.reduceBEq, Int.reduceNe, reduceCtorEq, w64_id, w8_id, w16_id, w32_id, tmod_pos, tdiv_pos, Bool.or_true, Bool.true_or, Bool.or_false, Bool.false_or, Bool.and_false, Bool.false_and, condK_decide]; rfl
  clear s sl2 cap2
  rintro ⟨k, v⟩ h3 ⟨s, hk⟩
  simp only at s hk
  obtain ⟨sl2, cap2, rfl, -⟩ := s.elems
  obtain ⟨sl', cap', e', -, hel⟩ := nodes_elems (s.front 2)
  cases e'
  obtain ⟨lb, rfl, e0, -, c1, -⟩ := hel i Z[i] (List.getElem?_eq_getElem q)
  unfold nodeV at c1
  have c2 : h3[Z[i].2]? = some (.cells (capsL Z[i].1.S).toArray 24 (0, 0)) := by
    obtain ⟨X, W, hXW⟩ := List.append_of_mem (List.getElem_mem q)
    have s9 := s.tail.tail.tail
    generalize Z[i] = z at *
    rw [hXW] at s9
    have : Sat h3 (nodeC z :: ((X ++ W).map nodeC ++ F)) := s9.perm (by
      simp only [List.map_append, List.map_cons, List.append_assoc, List.cons_append]
      exact List.perm_middle)
    exact this.get
  have hlt := fullTo_len Z[i].1 k
  by_cases q3 : k < Z[i].1.S.length
  case neg =>
    have q4 : ¬ (k : Int) < Z[i].1.S.length := by omega
    simp (maxSteps := 2000000) (disch := first | (simp only [go_sem, Nat.reduceBEq, Nat.reduceAdd, Nat.reduceMul, Nat.reduceSub, Nat.reduceEqDiff, Nat.reduceLeDiff, Nat.reduceLT, Int.reduceEq, Int.reduceAdd, Int.reduceSub, Int.reduceMul, Int.reduceNeg, Int.reduceLT, Int.reduceLE, Int.reduceToNat, Int.reduceBEq, Int.reduceNe, reduceCtorEq, q2, q4, (s.front 1).get, c1]; done) | omega | (simp only [go_sem, Nat.reduceBEq, Nat.reduceAdd, Nat.reduceMul, Nat.reduceSub, Nat.reduceEqDiff, Nat.reduceLeDiff, Nat.reduceLT, Int.reduceEq, Int.reduceAdd, Int.reduceSub, Int.reduceMul, Int.reduceNeg, Int.reduceLT, Int.reduceLE, Int.reduceToNat, Int.reduceBEq, Int.reduceNe, reduceCtorEq, q2, q4, (s.front 1).get, c1]; omega)) only [go_sem, Nat.reduceBEq, Nat.reduceAdd, Nat.reduceMul, Nat.reduceSub, Nat.reduceEqDiff, Nat.reduceLeDiff, Nat.reduceLT, Int.reduceEq, Int.reduceAdd, Int.reduceSub, Int.reduceMul, Int.reduceNeg, Int.reduceLT, Int.reduceLE, Int.reduceToNat, Int.reduceBEq, Int.reduceNe, reduceCtorEq, w64_id, w8_id, w16_id, w32_id, tmod_pos, tdiv_pos, Bool.or_true, Bool.true_or, Bool.or_false, Bool.false_or, Bool.and_false, Bool.false_and, condK_decide, q2, q4, (s.front 1).get, c1]
    obtain rfl : k = Z[i].1.S.length := by omega
    refine ⟨(i + 1, _), rfl, ⟨?_, by simp only; omega⟩, by simp only; omega⟩
    simp only
    rw [hfl]
    exact s
  have q4 : (k : Int) < Z[i].1.S.length := by omega
  have wc := wz.2.2.2.2.2 _ (List.getElem_mem q3)
  have rz := right_zero wc.2 wc.1
  have hc0 : hcellO (some (Obj.cells (capsL Z[i].1.S).toArray 24 (0, 0))) (k * 8) = some (.int .i64 Z[i].1.S[k].K) := by
    rw [hcellO_arr]
    have := capsL_get Z[i].1.S k 0 (by omega)
    rw [List.getElem?_eq_getElem q3] at this
    rw [List.getElem?_toArray]
    exact this
  have hsl : slotR Z[i].1 k = if Z[i].1.S[k] = Cap.zero then [] else [(Z[i].1.I, (k : Int))] := by
    unfold slotR
    rw [List.getElem?_eq_getElem q3]
  by_cases hz : Z[i].1.S[k] = Cap.zero
  · rw [if_pos hz] at hsl
    have hk0 := rz.2 hz
    simp (maxSteps := 2000000) (disch := first | (simp only [go_sem, Nat.reduceBEq, Nat.reduceAdd, Nat.reduceMul, Nat.reduceSub, Nat.reduceEqDiff, Nat.reduceLeDiff, Nat.reduceLT, Int.reduceEq, Int.reduceAdd, Int.reduceSub, Int.reduceMul, Int.reduceNeg, Int.reduceLT, Int.reduceLE, Int.reduceToNat, Int.reduceBEq, Int.reduceNe, reduceCtorEq, q2, q4, (s.front 1).get, c1, c2, hc0, hk0]; done) | omega | (simp only [go_sem, Nat.reduceBEq, Nat.reduceAdd, Nat.reduceMul, Nat.reduceSub, Nat.reduceEqDiff, Nat.reduceLeDiff, Nat.reduceLT, Int.reduceEq, Int.reduceAdd, Int.reduceSub, Int.reduceMul, Int.reduceNeg, Int.reduceLT, Int.reduceLE, Int.reduceToNat, Int.reduceBEq, Int.reduceNe, reduceCtorEq, q2, q4, (s.front 1).get, c1, c2, hc0, hk0]; omega)) only [go_sem, Nat.reduceBEq, Nat.reduceAdd, Nat.reduceMul, Nat.reduceSub, Nat.reduceEqDiff, Nat.reduceLeDiff, Nat.reduceLT, Int.reduceEq, Int.reduceAdd, Int.reduceSub, Int.reduceMul, Int.reduceNeg, Int.reduceLT, Int.reduceLE, Int.reduceToNat, Int.reduceBEq, Int.reduceNe, reduceCtorEq, w64_id, w8_id, w16_id, w32_id, tmod_pos, tdiv_pos, Bool.or_true, Bool.true_or, Bool.or_false, Bool.false_or, Bool.and_false, Bool.false_and, condK_decide, q2, q4, (s.front 1).get, c1, c2, hc0, hk0]
    refine ⟨(k + 1, _), rfl, ⟨?_, by simp only; omega⟩, by simp only; omega⟩
    simp only
    rw [fullTo_succ, hsl, List.append_nil]
    exact s
  · rw [if_neg hz] at hsl
    have hk0 : ¬ Z[i].1.S[k].K = 0 := fun q => hz (rz.1 q)
    simp (maxSteps := 2000000) (disch := first | (simp only [go_sem, Nat.reduceBEq, Nat.reduceAdd, Nat.reduceMul, Nat.reduceSub, Nat.reduceEqDiff, Nat.reduceLeDiff, Nat.reduceLT, Int.reduceEq, Int.reduceAdd, Int.reduceSub, Int.reduceMul, Int.reduceNeg, Int.reduceLT, Int.reduceLE, Int.reduceToNat, Int.reduceBEq, Int.reduceNe, reduceCtorEq, q2, q4, (s.front 1).get, c1, c2, hc0, hk0, e0]; done) | omega | (simp only [go_sem, Nat.reduceBEq, Nat.reduceAdd, Nat.reduceMul, Nat.reduceSub, Nat.reduceEqDiff, Nat.reduceLeDiff, Nat.reduceLT, Int.reduceEq, Int.reduceAdd, Int.reduceSub, Int.reduceMul, Int.reduceNeg, Int.reduceLT, Int.reduceLE, Int.reduceToNat, Int.reduceBEq, Int.reduceNe, reduceCtorEq, q2, q4, (s.front 1).get, c1, c2, hc0, hk0, e0]; omega)) only [go_sem, Nat.reduceBEq, Nat.reduceAdd, Nat.reduceMul, Nat.reduceSub, Nat.reduceEqDiff, Nat.reduceLeDiff, Nat.reduceLT, Int.reduceEq, Int.reduceAdd, Int.reduceSub, Int.reduceMul, Int.reduceNeg, Int.reduceLT, Int.reduceLE, Int.reduceToNat, Int.reduceBEq, Int.reduceNe, reduceCtorEq, w64_id, w8_id, w16_id, w32_id, tmod_pos, tdiv_pos, Bool.or_true, Bool.true_or, Bool.or_false, Bool.false_or, Bool.and_false, Bool.false_and, condK_decide, q2, q4, (s.front 1).get, c1, c2, hc0, hk0, e0]
    have s4 := (s.push (.cells [.int .i64 Z[i].1.I, .int .i64 k].toArray 27 (0, 0))).swap
    refine Sat.append s4 (SrcAt.lit (n := 1) (s4.front 1).get rfl (refC_single (Z[i].1.I, (k : Int)))) isSlice_41 ssz_41 (by kernel_rfl) (by kernel_rfl) (hby _ (by rw [List.length_append]; omega)) (by rw [List.length_append]; omega) ?_
    intro v5 h5 s5
    simp (maxSteps := 2000000) (disch := first | (simp only [go_sem, Nat.reduceBEq, Nat.reduceAdd, Nat.reduceMul, Nat.reduceSub, Nat.reduceEqDiff, Nat.reduceLeDiff, Nat.reduceLT, Int.reduceEq, Int.reduceAdd, Int.reduceSub, Int.reduceMul, Int.reduceNeg, Int.reduceLT, Int.reduceLE, Int.reduceToNat, Int.reduceBEq, Int.reduceNe, reduceCtorEq]; done) | omega | (simp only [go_sem, Nat.reduceBEq, Nat.reduceAdd, Nat.reduceMul, Nat.reduceSub, Nat.reduceEqDiff, Nat.reduceLeDiff, Nat.reduceLT, Int.reduceEq, Int.reduceAdd, Int.reduceSub, Int.reduceMul, Int.reduceNeg, Int.reduceLT, Int.reduceLE, Int.reduceToNat, Int.reduceBEq, Int.reduceNe, reduceCtorEq]; omega)) only [go_sem, Nat.reduceBEq, Nat.reduceAdd, Nat.reduceMul, Nat.reduceSub, Nat.reduceEqDiff, Nat.reduceLeDiff, Nat.reduceLT, Int.reduceEq, Int.reduceAdd, Int.reduceSub, Int.reduceMul, Int.reduceNeg, Int.reduceLT, Int.reduceLE, Int.reduceToNat, Int.reduceBEq, Int.reduceNe, reduceCtorEq, w64_id, w8_id, w16_id, w32_id, tmod_pos, tdiv_pos, Bool.or_true, Bool.true_or, Bool.or_false, Bool.false_or, Bool.and_false, Bool.false_and, condK_decide]
    refine ⟨(k + 1, v5), rfl, ⟨?_, by simp only; omega⟩, by simp only; omega⟩
    have e1 : Y ++ fullTo Z[i].1 (k + 1) = (Y ++ fullTo Z[i].1 k) ++ [(Z[i].1.I, (k : Int))] := by rw [fullTo_succ, hsl, List.append_assoc]
    simp only
    rw [e1, refsL_append, refsL_one, List.length_append]
    exact s5.drop1
end
end Go.Eng
