/-
  viceroyref12: DropNode.
-/
import Derived.Test.YtlkofpoginokbaaCsr6
namespace Go.Eng
set_option linter.unusedSimpArgs false
set_option linter.unusedVariables false
set_option maxRecDepth 16000
set_option maxHeartbeats 4000000
open Go Go.Proofs
theorem atN_erase {L : List Nd} {id : Int} {k : Nat} (e : atN L id = k) : L.eraseP (fun n => n.I == id) = L.take k ++ L.drop (k + 1) := by
  unfold atN at e
  rw [List.eraseP_eq_eraseIdx]
  cases hf : L.findIdx? (fun n => n.I == id) with
  | none => rw [hf] at e; simp only at e; omega
  | some j =>
    rw [hf] at e
    simp only at e ⊢
    obtain rfl : j = k := by omega
    exact List.eraseIdx_eq_take_drop_succ ..
section
variable {h : Heap} {F : List SP} {qb : Nat} {L : List Nd}
theorem dropNode12_S (hs : Sat h (refSpS qb L :: F)) (hL : L.length ≤ 100000) (hw : wfL L) (id : Int) : HCalls Try.prog 28 #[.pointer (some ⟨qb, 0, none⟩), .int .i64 id] h fun v h' => v = .int .i64 (dropN L id).2 ∧ Sat h' (refSpS qb (dropN L id).1 :: F) := by
  refine HCalls.via fun R hR => ?_
  refine HCalls.of_dev T28 Try.func28 rfl mixed (by kernel_rfl) ?_; rw [Try.results28]
  simp (maxSteps := 2000000) (disch := first | (simp only [go_sem, Nat.reduceBEq, Nat.reduceAdd, Nat.reduceMul, Nat.reduceSub, Nat.reduceEqDiff, Nat.reduceLeDiff, Nat.reduceLT, Int.reduceEq, Int.reduceAdd, Int.reduceSub, Int.reduceMul, Int.reduceNeg, Int.reduceLT, Int.reduceLE, Int.reduceToNat, Int.reduceBEq, Int.reduceNe, reduceCtorEq]; done) | omega | (simp only [go_sem, Nat.reduceBEq, Nat.reduceAdd, Nat.reduceMul, Nat.reduceSub, Nat.reduceEqDiff, Nat.reduceLeDiff, Nat.reduceLT, Int.reduceEq, Int.reduceAdd, Int.reduceSub, Int.reduceMul, Int.reduceNeg, Int.reduceLT, Int.reduceLE, Int.reduceToNat, Int.reduceBEq, Int.reduceNe, reduceCtorEq]; omega)) only [go_sem, Nat.reduceBEq, Nat.reduceAdd, Nat.reduceMul, Nat.reduceSub, Nat.reduceEqDiff, Nat.reduceLeDiff, Nat.reduceLT, Int.reduceEq, Int.reduceAdd, Int.reduceSub, Int.reduceMul, Int.reduceNeg, Int.reduceLT, Int.reduceLE, Int.reduceToNat, Int.reduceBEq, Int.reduceNe, reduceCtorEq, w64_id, w8_id, w16_id, w32_id, tmod_pos, tdiv_pos, Bool.or_true, Bool.true_or, Bool.or_false, Bool.false_or, Bool.and_false, Bool.false_and, condK_decide]
  refine (at12_S hs hL id).mono ?_
  rintro v h' ⟨rfl, rfl⟩
  obtain ⟨v, ty, Z, rfl, s⟩ := refSp_iff.1 hs
  obtain ⟨sl, cap, rfl, hcap, hel⟩ := nodes_elems s.tail
  rw [List.length_map] at hL
  rcases atZ_cases Z id with ⟨e, e2⟩ | ⟨k, z, e, e1, e2, e3, e4, e5⟩
  · have ep : dropN (Z.map (·.1)) id = (Z.map (·.1), 120) := by unfold dropN; rw [e2]
    rw [ep] at hR
    simp (maxSteps := 2000000) (disch := first | (simp only [go_sem, Nat.reduceBEq, Nat.reduceAdd, Nat.reduceMul, Nat.reduceSub, Nat.reduceEqDiff, Nat.reduceLeDiff, Nat.reduceLT, Int.reduceEq, Int.reduceAdd, Int.reduceSub, Int.reduceMul, Int.reduceNeg, Int.reduceLT, Int.reduceLE, Int.reduceToNat, Int.reduceBEq, Int.reduceNe, reduceCtorEq, e]; done) | omega | (simp only [go_sem, Nat.reduceBEq, Nat.reduceAdd, Nat.reduceMul, Nat.reduceSub, Nat.reduceEqDiff, Nat.reduceLeDiff, Nat.reduceLT, Int.reduceEq, Int.reduceAdd, Int.reduceSub, Int.reduceMul, Int.reduceNeg, Int.reduceLT, Int.reduceLE, Int.reduceToNat, Int.reduceBEq, Int.reduceNe, reduceCtorEq, e]; omega)) only [go_sem, Nat.reduceBEq, Nat.reduceAdd, Nat.reduceMul, Nat.reduceSub, Nat.reduceEqDiff, Nat.reduceLeDiff, Nat.reduceLT, Int.reduceEq, Int.reduceAdd, Int.reduceSub, Int.reduceMul, Int.reduceNeg, Int.reduceLT, Int.reduceLE, Int.reduceToNat, Int.reduceBEq, Int.reduceNe, reduceCtorEq, w64_id, w8_id, w16_id, w32_id, tmod_pos, tdiv_pos, Bool.or_true, Bool.true_or, Bool.or_false, Bool.false_or, Bool.and_false, Bool.false_and, condK_decide, e]
    exact hR _ _ ⟨rfl, hs⟩
  obtain ⟨lb, rfl, -, -, c1, -⟩ := hel k z e1
  have c2 := nodeC_at s (List.mem_of_getElem? e1)
  unfold nodeV at c1
  have wz := hw.1 z.1 (List.mem_map.2 ⟨z, List.mem_of_getElem? e1, rfl⟩)
  have w16 := wz.len16
  have k0 : ¬ (k : Int) < 0 := by omega
  have k1 : (k : Int) < Z.length := by omega
  simp (maxSteps := 2000000) (disch := first | (simp only [go_sem, Nat.reduceBEq, Nat.reduceAdd, Nat.reduceMul, Nat.reduceSub, Nat.reduceEqDiff, Nat.reduceLeDiff, Nat.reduceLT, Int.reduceEq, Int.reduceAdd, Int.reduceSub, Int.reduceMul, Int.reduceNeg, Int.reduceLT, Int.reduceLE, Int.reduceToNat, Int.reduceBEq, Int.reduceNe, reduceCtorEq, e, k0]; done) | omega | (simp only [go_sem, Nat.reduceBEq, Nat.reduceAdd, Nat.reduceMul, Nat.reduceSub, Nat.reduceEqDiff, Nat.reduceLeDiff, Nat.reduceLT, Int.reduceEq, Int.reduceAdd, Int.reduceSub, Int.reduceMul, Int.reduceNeg, Int.reduceLT, Int.reduceLE, Int.reduceToNat, Int.reduceBEq, Int.reduceNe, reduceCtorEq, e, k0]; omega)) only [go_sem, Nat.reduceBEq, Nat.reduceAdd, Nat.reduceMul, Nat.reduceSub, Nat.reduceEqDiff, Nat.reduceLeDiff, Nat.reduceLT, Int.reduceEq, Int.reduceAdd, Int.reduceSub, Int.reduceMul, Int.reduceNeg, Int.reduceLT, Int.reduceLE, Int.reduceToNat, Int.reduceBEq, Int.reduceNe, reduceCtorEq, w64_id, w8_id, w16_id, w32_id, tmod_pos, tdiv_pos, Bool.or_true, Bool.true_or, Bool.or_false, Bool.false_or, Bool.and_false, Bool.false_and, condK_decide, e, k0]
  refine loopH.intro (fun i : Nat => (.cons 0 (.pointer (some ⟨qb, 0, none⟩)) true (.cons 5 (.int .i64 k) true (.cons 6 (.int .i64 i) true .nil)))) (fun i k2 => k2 = h' ∧ i ≤ z.1.S.length ∧ ∀ (j : Nat) c, j < i → z.1.S[j]? = some c → c = Cap.zero) (fun i _ => z.1.S.length + 1 - i) 0 ?_ ⟨rfl, by omega, fun j c hj => by omega⟩ ?_
  · simp (maxSteps := 2000000) (disch := first | (simp only [go_sem, Nat.reduceBEq, Nat.reduceAdd, Nat.reduceMul, Nat.reduceSub, Nat.reduceEqDiff, Nat.reduceLeDiff, Nat.reduceLT, Int.reduceEq, Int.reduceAdd, Int.reduceSub, Int.reduceMul, Int.reduceNeg, Int.reduceLT, Int.reduceLE, Int.reduceToNat, Int.reduceBEq, Int.reduceNe, reduceCtorEq]; done) | omega | (simp only [go_sem, Nat.reduceBEq, Nat.reduceAdd, Nat.reduceMul, Nat.reduceSub, Nat.reduceEqDiff, Nat.reduceLeDiff, Nat.reduceLT, Int.reduceEq, Int.reduceAdd, Int.reduceSub, Int.reduceMul, Int.reduceNeg, Int.reduceLT, Int.reduceLE, Int.reduceToNat, Int.reduceBEq, Int.reduceNe, reduceCtorEq]; omega)) only [go_sem, Nat.reduceBEq, Nat.reduceAdd, Nat.reduceMul, Nat.reduceSub, Nat.reduceEqDiff, Nat.reduceLeDiff, Nat.reduceLT, Int.reduceEq, Int.reduceAdd, Int.reduceSub, Int.reduceMul, Int.reduceNeg, Int.reduceLT, Int.reduceLE, Int.reduceToNat, Int.reduceBEq, Int.reduceNe, reduceCtorEq, w64_id, w8_id, w16_id, w32_id, tmod_pos, tdiv_pos, Bool.or_true, Bool.true_or, Bool.or_false, Bool.false_or, Bool.and_false, Bool.false_and, condK_decide]; rfl
  rintro i h' ⟨rfl, hi, hz⟩
  by_cases q : i < z.1.S.length
  · have q2 : (i : Int) < z.1.S.length := by omega
    have hc0 : hcellO (some (Obj.cells (capsL z.1.S).toArray 24 (0, 0))) (i * 8) = some (.int .i64 z.1.S[i].K) := by
      rw [hcellO_arr]
      have := capsL_get z.1.S i 0 (by omega)
      rw [List.getElem?_eq_getElem q] at this
      rw [List.getElem?_toArray]
      exact this
    have wc := wz.2.2.2.2.2 _ (List.getElem_mem q)
    have rz := right_zero wc.2 wc.1
    by_cases hc : z.1.S[i].K = 0
    · simp (maxSteps := 2000000) (disch := first | (simp only [go_sem, Nat.reduceBEq, Nat.reduceAdd, Nat.reduceMul, Nat.reduceSub, Nat.reduceEqDiff, Nat.reduceLeDiff, Nat.reduceLT, Int.reduceEq, Int.reduceAdd, Int.reduceSub, Int.reduceMul, Int.reduceNeg, Int.reduceLT, Int.reduceLE, Int.reduceToNat, Int.reduceBEq, Int.reduceNe, reduceCtorEq, s.get, c1, c2, q2, k1, hc0, hc]; done) | omega | (simp only [go_sem, Nat.reduceBEq, Nat.reduceAdd, Nat.reduceMul, Nat.reduceSub, Nat.reduceEqDiff, Nat.reduceLeDiff, Nat.reduceLT, Int.reduceEq, Int.reduceAdd, Int.reduceSub, Int.reduceMul, Int.reduceNeg, Int.reduceLT, Int.reduceLE, Int.reduceToNat, Int.reduceBEq, Int.reduceNe, reduceCtorEq, s.get, c1, c2, q2, k1, hc0, hc]; omega)) only [go_sem, Nat.reduceBEq, Nat.reduceAdd, Nat.reduceMul, Nat.reduceSub, Nat.reduceEqDiff, Nat.reduceLeDiff, Nat.reduceLT, Int.reduceEq, Int.reduceAdd, Int.reduceSub, Int.reduceMul, Int.reduceNeg, Int.reduceLT, Int.reduceLE, Int.reduceToNat, Int.reduceBEq, Int.reduceNe, reduceCtorEq, w64_id, w8_id, w16_id, w32_id, tmod_pos, tdiv_pos, Bool.or_true, Bool.true_or, Bool.or_false, Bool.false_or, Bool.and_false, Bool.false_and, condK_decide, s.get, c1, c2, q2, k1, hc0, hc]
      refine ⟨i + 1, rfl, ⟨rfl, by omega, fun j c hj hc2 => ?_⟩, by simp only; omega⟩
      by_cases e : j = i
      · subst e
        rw [List.getElem?_eq_getElem q] at hc2
        cases hc2
        exact rz.1 hc
      · exact hz j c (by omega) hc2
    · have ep : dropN (Z.map (·.1)) id = (Z.map (·.1), 130) := by
        unfold dropN
        rw [e3]
        simp only
        rw [if_neg]
        intro ha
        exact hc (rz.2 (by simpa using List.all_eq_true.1 ha _ (List.getElem_mem q)))
      rw [ep] at hR
      simp (maxSteps := 2000000) (disch := first | (simp only [go_sem, Nat.reduceBEq, Nat.reduceAdd, Nat.reduceMul, Nat.reduceSub, Nat.reduceEqDiff, Nat.reduceLeDiff, Nat.reduceLT, Int.reduceEq, Int.reduceAdd, Int.reduceSub, Int.reduceMul, Int.reduceNeg, Int.reduceLT, Int.reduceLE, Int.reduceToNat, Int.reduceBEq, Int.reduceNe, reduceCtorEq, s.get, c1, c2, q2, k1, hc0, hc]; done) | omega | (simp only [go_sem, Nat.reduceBEq, Nat.reduceAdd, Nat.reduceMul, Nat.reduceSub, Nat.reduceEqDiff, Nat.reduceLeDiff, Nat.reduceLT, Int.reduceEq, Int.reduceAdd, Int.reduceSub, Int.reduceMul, Int.reduceNeg, Int.reduceLT, Int.reduceLE, Int.reduceToNat, Int.reduceBEq, Int.reduceNe, reduceCtorEq, s.get, c1, c2, q2, k1, hc0, hc]; omega)) only [go_sem, Nat.reduceBEq, Nat.reduceAdd, Nat.reduceMul, Nat.reduceSub, Nat.reduceEqDiff, Nat.reduceLeDiff, Nat.reduceLT, Int.reduceEq, Int.reduceAdd, Int.reduceSub, Int.reduceMul, Int.reduceNeg, Int.reduceLT, Int.reduceLE, Int.reduceToNat, Int.reduceBEq, Int.reduceNe, reduceCtorEq, w64_id, w8_id, w16_id, w32_id, tmod_pos, tdiv_pos, Bool.or_true, Bool.true_or, Bool.or_false, Bool.false_or, Bool.and_false, Bool.false_and, condK_decide, s.get, c1, c2, q2, k1, hc0, hc]
      exact hR _ _ ⟨rfl, hs⟩
  · have ep : dropN (Z.map (·.1)) id = (((Z.take k ++ Z.drop (k + 1))).map (·.1), 0) := by
      unfold dropN
      rw [e3]
      simp only
      rw [if_pos, atN_erase e, List.map_append, List.map_take, List.map_drop]
      rw [List.all_eq_true]
      intro c hc
      obtain ⟨j, hj, rfl⟩ := List.getElem_of_mem hc
      exact decide_eq_true (hz j _ (by omega) (List.getElem?_eq_getElem hj))
    rw [ep] at hR
    have q2 : ¬ (i : Int) < z.1.S.length := by omega
    have hby : ∀ n, n ≤ 200009 → (2 * n + 1024) * (tbytes Try.prog (sliceElem Try.prog 32)).getD 0 ≤ 281474976710656 := fun n hn => by
      rw [selem_32, tbytes_83]; simp only [Option.getD_some]; omega
    have s4 := (s.push (.cells #[] 83 (0, 0))).emptyS (sz := 3)
    obtain ⟨w, ew, sw⟩ := (s4.front 2).part (t := 32) (k := 0) (m := k) (lo := none) (hi := some (.int .i64 k)) isSlice_32 ssz_32 (by omega) (by omega) (fun cap _ hc => sliceBounds_to (by omega))
    have ek : ((k : Int) + 1) = ((k + 1 : Nat) : Int) := by omega
    obtain ⟨w2, ew2, -⟩ := (s4.front 2).part (t := 32) (k := k + 1) (m := Z.length) (lo := some (.int .i64 ((k + 1 : Nat) : Int))) (hi := none) isSlice_32 ssz_32 (by omega) (Nat.le_refl _) (fun cap _ hc => sliceBounds_from (by omega))
    simp (maxSteps := 2000000) (disch := first | (simp only [go_sem, Nat.reduceBEq, Nat.reduceAdd, Nat.reduceMul, Nat.reduceSub, Nat.reduceEqDiff, Nat.reduceLeDiff, Nat.reduceLT, Int.reduceEq, Int.reduceAdd, Int.reduceSub, Int.reduceMul, Int.reduceNeg, Int.reduceLT, Int.reduceLE, Int.reduceToNat, Int.reduceBEq, Int.reduceNe, reduceCtorEq, s.get, c1, q2, k1, (s4.front 1).get, ew, ek, ew2]; done) | omega | (simp only [go_sem, Nat.reduceBEq, Nat.reduceAdd, Nat.reduceMul, Nat.reduceSub, Nat.reduceEqDiff, Nat.reduceLeDiff, Nat.reduceLT, Int.reduceEq, Int.reduceAdd, Int.reduceSub, Int.reduceMul, Int.reduceNeg, Int.reduceLT, Int.reduceLE, Int.reduceToNat, Int.reduceBEq, Int.reduceNe, reduceCtorEq, s.get, c1, q2, k1, (s4.front 1).get, ew, ek, ew2]; omega)) only [go_sem, Nat.reduceBEq, Nat.reduceAdd, Nat.reduceMul, Nat.reduceSub, Nat.reduceEqDiff, Nat.reduceLeDiff, Nat.reduceLT, Int.reduceEq, Int.reduceAdd, Int.reduceSub, Int.reduceMul, Int.reduceNeg, Int.reduceLT, Int.reduceLE, Int.reduceToNat, Int.reduceBEq, Int.reduceNe, reduceCtorEq, w64_id, w8_id, w16_id, w32_id, tmod_pos, tdiv_pos, Bool.or_true, Bool.true_or, Bool.or_false, Bool.false_or, Bool.and_false, Bool.false_and, condK_decide, s.get, c1, q2, k1, (s4.front 1).get, ew, ek, ew2]
    refine Sat.append s4 sw isSlice_32 ssz_32 (by kernel_rfl) (by kernel_rfl) (hby _ (by omega)) (by omega) ?_
    intro v5 h5 s5
    obtain ⟨w3, ew3, sw2⟩ := (s5.front 2).part (t := 32) (k := k + 1) (m := Z.length) (lo := some (.int .i64 ((k + 1 : Nat) : Int))) (hi := none) isSlice_32 ssz_32 (by omega) (Nat.le_refl _) (fun cap _ hc => sliceBounds_from (by omega))
    obtain rfl : w3 = w2 := Option.some.inj ((ew3 h5).symm.trans (ew2 h5))
    simp (maxSteps := 2000000) (disch := first | (simp only [go_sem, Nat.reduceBEq, Nat.reduceAdd, Nat.reduceMul, Nat.reduceSub, Nat.reduceEqDiff, Nat.reduceLeDiff, Nat.reduceLT, Int.reduceEq, Int.reduceAdd, Int.reduceSub, Int.reduceMul, Int.reduceNeg, Int.reduceLT, Int.reduceLE, Int.reduceToNat, Int.reduceBEq, Int.reduceNe, reduceCtorEq, (s5.front 1).get, ek, ew2]; done) | omega | (simp only [go_sem, Nat.reduceBEq, Nat.reduceAdd, Nat.reduceMul, Nat.reduceSub, Nat.reduceEqDiff, Nat.reduceLeDiff, Nat.reduceLT, Int.reduceEq, Int.reduceAdd, Int.reduceSub, Int.reduceMul, Int.reduceNeg, Int.reduceLT, Int.reduceLE, Int.reduceToNat, Int.reduceBEq, Int.reduceNe, reduceCtorEq, (s5.front 1).get, ek, ew2]; omega)) only [go_sem, Nat.reduceBEq, Nat.reduceAdd, Nat.reduceMul, Nat.reduceSub, Nat.reduceEqDiff, Nat.reduceLeDiff, Nat.reduceLT, Int.reduceEq, Int.reduceAdd, Int.reduceSub, Int.reduceMul, Int.reduceNeg, Int.reduceLT, Int.reduceLE, Int.reduceToNat, Int.reduceBEq, Int.reduceNe, reduceCtorEq, w64_id, w8_id, w16_id, w32_id, tmod_pos, tdiv_pos, Bool.or_true, Bool.true_or, Bool.or_false, Bool.false_or, Bool.and_false, Bool.false_and, condK_decide, (s5.front 1).get, ek, ew2]
    refine Sat.append s5 sw2 isSlice_32 ssz_32 (by kernel_rfl) (by kernel_rfl) (hby _ (by omega)) (by omega) ?_
    intro v6 h6 s6
    obtain ⟨sa, sc, rfl, -⟩ := s6.elems
    simp (maxSteps := 2000000) (disch := first | (simp only [go_sem, Nat.reduceBEq, Nat.reduceAdd, Nat.reduceMul, Nat.reduceSub, Nat.reduceEqDiff, Nat.reduceLeDiff, Nat.reduceLT, Int.reduceEq, Int.reduceAdd, Int.reduceSub, Int.reduceMul, Int.reduceNeg, Int.reduceLT, Int.reduceLE, Int.reduceToNat, Int.reduceBEq, Int.reduceNe, reduceCtorEq, (s6.front 1).get]; done) | omega | (simp only [go_sem, Nat.reduceBEq, Nat.reduceAdd, Nat.reduceMul, Nat.reduceSub, Nat.reduceEqDiff, Nat.reduceLeDiff, Nat.reduceLT, Int.reduceEq, Int.reduceAdd, Int.reduceSub, Int.reduceMul, Int.reduceNeg, Int.reduceLT, Int.reduceLE, Int.reduceToNat, Int.reduceBEq, Int.reduceNe, reduceCtorEq, (s6.front 1).get]; omega)) only [go_sem, Nat.reduceBEq, Nat.reduceAdd, Nat.reduceMul, Nat.reduceSub, Nat.reduceEqDiff, Nat.reduceLeDiff, Nat.reduceLT, Int.reduceEq, Int.reduceAdd, Int.reduceSub, Int.reduceMul, Int.reduceNeg, Int.reduceLT, Int.reduceLE, Int.reduceToNat, Int.reduceBEq, Int.reduceNe, reduceCtorEq, w64_id, w8_id, w16_id, w32_id, tmod_pos, tdiv_pos, Bool.or_true, Bool.true_or, Bool.or_false, Bool.false_or, Bool.and_false, Bool.false_and, condK_decide, (s6.front 1).get]
    have ea : nodesL Z = nodesL (Z.take k) ++ nodesL (Z.drop k) := by rw [← nodesL_append, List.take_append_drop]
    have eb : nodesL Z = nodesL (Z.take (k + 1)) ++ nodesL (Z.drop (k + 1)) := by rw [← nodesL_append, List.take_append_drop]
    have e5 : ([] ++ ((nodesL Z).drop (0 * 3)).take ((k - 0) * 3)) ++ ((nodesL Z).drop ((k + 1) * 3)).take ((Z.length - (k + 1)) * 3) = nodesL (Z.take k ++ Z.drop (k + 1)) := by
      rw [nodesL_append, List.nil_append, Nat.zero_mul, List.drop_zero, Nat.sub_zero]
      congr 1
      · rw [ea, List.take_left' (by rw [nodesL_len, List.length_take, Nat.min_eq_left (by omega)])]
      · rw [eb, List.drop_left' (by rw [nodesL_len, List.length_take, Nat.min_eq_left (by omega)]), List.take_of_length_le (by rw [nodesL_len, List.length_drop]; omega)]
    have e6 : 0 + (k - 0) + (Z.length - (k + 1)) = (Z.take k ++ Z.drop (k + 1)).length := by
      rw [List.length_append, List.length_take, List.length_drop]; omega
    have e7 : k - 0 + (Z.length - (k + 1)) = (Z.take k ++ Z.drop (k + 1)).length := by rw [← e6]; omega
    rw [e5, e6] at s6
    rw [e7]
    have hsp : Z = Z.take k ++ z :: Z.drop (k + 1) := by
      have := List.take_append_drop k Z
      obtain ⟨hk, rfl⟩ := List.getElem?_eq_some_iff.1 e1
      rw [List.drop_eq_getElem_cons hk] at this
      exact this.symm
    refine hR _ _ ⟨rfl, refSp_iff.2 ⟨.slice sa (Z.take k ++ Z.drop (k + 1)).length sc, ty, Z.take k ++ Z.drop (k + 1), rfl, ?_⟩⟩
    have s7 := ((s6.front 1).set (.cells [.slice sa (Z.take k ++ Z.drop (k + 1)).length sc].toArray ty (0, 0))).drop2
    generalize hY : Z.take k ++ Z.drop (k + 1) = Y at *
    have hp : (Z.map nodeC ++ F).Perm (nodeC z :: (Y.map nodeC ++ F)) := by
      rw [hsp, ← hY]
      simp only [List.map_append, List.map_cons, List.append_assoc, List.cons_append]
      exact List.perm_middle
    have s8 := s7.perm (List.Perm.cons _ (List.Perm.cons _ hp))
    exact s8.drop2
end
end Go.Eng
