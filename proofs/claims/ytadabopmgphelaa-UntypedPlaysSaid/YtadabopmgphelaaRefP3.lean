/-
  viceroyref14: Drop, Room, Carve, Take, Reset.
-/
import Derived.Test.YtadabopmgphelaaRefP2
import Derived.Test.YtadabopmgphelaaRefR1
namespace Go.Eng
set_option linter.unusedSimpArgs false
set_option linter.unusedVariables false
set_option maxRecDepth 16000
set_option maxHeartbeats 4000000
open Go Go.Proofs

def mOf (L : List Reg) : Int → Option Reg := fun k => L.find? (fun r => r.F == k)
theorem mOf_at {L : List Reg} {first : Int} : (atM L first = -1 ∧ mOf L first = none) ∨ ∃ k r, atM L first = ((k : Nat) : Int) ∧ L[k]? = some r ∧ r.F = first ∧ mOf L first = some r ∧ k < L.length := atM_cases L first

section
variable {h : Heap} {F : List SP} {qb : Nat} {L : List Reg}

theorem dropRef_S (hs : Sat h (refS qb L :: F)) (hL : L.length ≤ 100000) (first : Int) : HCalls Try.prog 32 #[.pointer (some ⟨qb, 0, none⟩), .int .i64 first] h fun v h' =>
    (mOf L first = none ∧ v = .int .i64 131 ∧ Sat h' (refS qb L :: F)) ∨ (∃ k r, L[k]? = some r ∧ r.F = first ∧ mOf L first = some r ∧ v = .int .i64 0 ∧ Sat h' (refS qb (L.take k ++ L.drop (k + 1)) :: F)) := by
  refine HCalls.via fun R hR => ?_
  refine HCalls.of_dev T32 Try.func32 rfl mixed (by kernel_rfl) ?_; rw [Try.results32]
  simp (maxSteps := 2000000) (disch := first | (simp only [go_sem, Nat.reduceBEq, Nat.reduceAdd, Nat.reduceMul, Nat.reduceSub, Nat.reduceEqDiff, Nat.reduceLeDiff, Nat.reduceLT, Int.reduceEq, Int.reduceAdd, Int.reduceSub, Int.reduceMul, Int.reduceNeg, Int.reduceLT, Int.reduceLE, Int.reduceToNat, Int.reduceBEq, Int.reduceNe, reduceCtorEq]; done) | omega | (simp only [go_sem, Nat.reduceBEq, Nat.reduceAdd, Nat.reduceMul, Nat.reduceSub, Nat.reduceEqDiff, Nat.reduceLeDiff, Nat.reduceLT, Int.reduceEq, Int.reduceAdd, Int.reduceSub, Int.reduceMul, Int.reduceNeg, Int.reduceLT, Int.reduceLE, Int.reduceToNat, Int.reduceBEq, Int.reduceNe, reduceCtorEq]; omega)) only [go_sem, Nat.reduceBEq, Nat.reduceAdd, Nat.reduceMul, Nat.reduceSub, Nat.reduceEqDiff, Nat.reduceLeDiff, Nat.reduceLT, Int.reduceEq, Int.reduceAdd, Int.reduceSub, Int.reduceMul, Int.reduceNeg, Int.reduceLT, Int.reduceLE, Int.reduceToNat, Int.reduceBEq, Int.reduceNe, reduceCtorEq, w64_id, w8_id, w16_id, w32_id, tmod_pos, tdiv_pos, Bool.or_true, Bool.true_or, Bool.or_false, Bool.false_or, Bool.and_false, Bool.false_and, condK_decide]
  refine (at_S hs hL first).mono ?_
  rintro v h1 ⟨rfl, rfl⟩
  rcases mOf_at (L := L) (first := first) with ⟨e, e2⟩ | ⟨k, r, e, e1, e2, e3, e4⟩
  · rw [e]
    simp (maxSteps := 2000000) (disch := first | (simp only [go_sem, Nat.reduceBEq, Nat.reduceAdd, Nat.reduceMul, Nat.reduceSub, Nat.reduceEqDiff, Nat.reduceLeDiff, Nat.reduceLT, Int.reduceEq, Int.reduceAdd, Int.reduceSub, Int.reduceMul, Int.reduceNeg, Int.reduceLT, Int.reduceLE, Int.reduceToNat, Int.reduceBEq, Int.reduceNe, reduceCtorEq]; done) | omega | (simp only [go_sem, Nat.reduceBEq, Nat.reduceAdd, Nat.reduceMul, Nat.reduceSub, Nat.reduceEqDiff, Nat.reduceLeDiff, Nat.reduceLT, Int.reduceEq, Int.reduceAdd, Int.reduceSub, Int.reduceMul, Int.reduceNeg, Int.reduceLT, Int.reduceLE, Int.reduceToNat, Int.reduceBEq, Int.reduceNe, reduceCtorEq]; omega)) only [go_sem, Nat.reduceBEq, Nat.reduceAdd, Nat.reduceMul, Nat.reduceSub, Nat.reduceEqDiff, Nat.reduceLeDiff, Nat.reduceLT, Int.reduceEq, Int.reduceAdd, Int.reduceSub, Int.reduceMul, Int.reduceNeg, Int.reduceLT, Int.reduceLE, Int.reduceToNat, Int.reduceBEq, Int.reduceNe, reduceCtorEq, w64_id, w8_id, w16_id, w32_id, tmod_pos, tdiv_pos, Bool.or_true, Bool.true_or, Bool.or_false, Bool.false_or, Bool.and_false, Bool.false_and, condK_decide]
    exact hR _ _ (.inl ⟨e2, rfl, hs⟩)
  · rw [e]
    have c0 : ¬ ((k : Int) < 0) := by omega
    have hby : ∀ n, n ≤ 200001 → (2 * n + 1024) * (tbytes Try.prog (sliceElem Try.prog 53)).getD 0 ≤ 281474976710656 := fun n hn => by
      rw [selem_53, tbytes_28]; simp only [Option.getD_some]; omega
    obtain ⟨v, ty, s⟩ := refS_iff.1 hs
    obtain ⟨sl, cap, rfl, hcap, -⟩ := regs_elems s.tail
    have s4 := (s.push (.cells #[] 28 (0, 0))).emptyS (sz := 4)
    obtain ⟨w, ew, sw⟩ := (s4.front 2).part (t := 53) (k := 0) (m := k) (lo := none) (hi := some (.int .i64 k)) isSlice_53 ssz_53 (by omega) (by omega) (fun cap _ hc => sliceBounds_to (by omega))
    have ek : ((k : Int) + 1) = ((k + 1 : Nat) : Int) := by omega
    obtain ⟨w2, ew2, -⟩ := (s4.front 2).part (t := 53) (k := k + 1) (m := L.length) (lo := some (.int .i64 ((k + 1 : Nat) : Int))) (hi := none) isSlice_53 ssz_53 (by omega) (Nat.le_refl _) (fun cap _ hc => sliceBounds_from (by omega))
    simp (maxSteps := 2000000) (disch := first | (simp only [go_sem, Nat.reduceBEq, Nat.reduceAdd, Nat.reduceMul, Nat.reduceSub, Nat.reduceEqDiff, Nat.reduceLeDiff, Nat.reduceLT, Int.reduceEq, Int.reduceAdd, Int.reduceSub, Int.reduceMul, Int.reduceNeg, Int.reduceLT, Int.reduceLE, Int.reduceToNat, Int.reduceBEq, Int.reduceNe, reduceCtorEq, c0, s.get, (s4.front 1).get, ew, ek, ew2]; done) | omega | (simp only [go_sem, Nat.reduceBEq, Nat.reduceAdd, Nat.reduceMul, Nat.reduceSub, Nat.reduceEqDiff, Nat.reduceLeDiff, Nat.reduceLT, Int.reduceEq, Int.reduceAdd, Int.reduceSub, Int.reduceMul, Int.reduceNeg, Int.reduceLT, Int.reduceLE, Int.reduceToNat, Int.reduceBEq, Int.reduceNe, reduceCtorEq, c0, s.get, (s4.front 1).get, ew, ek, ew2]; omega)) only [go_sem, Nat.reduceBEq, Nat.reduceAdd, Nat.reduceMul, Nat.reduceSub, Nat.reduceEqDiff, Nat.reduceLeDiff, Nat.reduceLT, Int.reduceEq, Int.reduceAdd, Int.reduceSub, Int.reduceMul, Int.reduceNeg, Int.reduceLT, Int.reduceLE, Int.reduceToNat, Int.reduceBEq, Int.reduceNe, reduceCtorEq, w64_id, w8_id, w16_id, w32_id, tmod_pos, tdiv_pos, Bool.or_true, Bool.true_or, Bool.or_false, Bool.false_or, Bool.and_false, Bool.false_and, condK_decide, c0, s.get, (s4.front 1).get, ew, ek, ew2]
    refine Sat.append s4 sw isSlice_53 ssz_53 (by kernel_rfl) (by kernel_rfl) (hby _ (by omega)) (by omega) ?_
    intro v5 h5 s5
    obtain ⟨w3, ew3, sw2⟩ := (s5.front 2).part (t := 53) (k := k + 1) (m := L.length) (lo := some (.int .i64 ((k + 1 : Nat) : Int))) (hi := none) isSlice_53 ssz_53 (by omega) (Nat.le_refl _) (fun cap _ hc => sliceBounds_from (by omega))
    obtain rfl : w3 = w2 := Option.some.inj ((ew3 h5).symm.trans (ew2 h5))
    simp (maxSteps := 2000000) (disch := first | (simp only [go_sem, Nat.reduceBEq, Nat.reduceAdd, Nat.reduceMul, Nat.reduceSub, Nat.reduceEqDiff, Nat.reduceLeDiff, Nat.reduceLT, Int.reduceEq, Int.reduceAdd, Int.reduceSub, Int.reduceMul, Int.reduceNeg, Int.reduceLT, Int.reduceLE, Int.reduceToNat, Int.reduceBEq, Int.reduceNe, reduceCtorEq, (s5.front 1).get, ek, ew2]; done) | omega | (simp only [go_sem, Nat.reduceBEq, Nat.reduceAdd, Nat.reduceMul, Nat.reduceSub, Nat.reduceEqDiff, Nat.reduceLeDiff, Nat.reduceLT, Int.reduceEq, Int.reduceAdd, Int.reduceSub, Int.reduceMul, Int.reduceNeg, Int.reduceLT, Int.reduceLE, Int.reduceToNat, Int.reduceBEq, Int.reduceNe, reduceCtorEq, (s5.front 1).get, ek, ew2]; omega)) only [go_sem, Nat.reduceBEq, Nat.reduceAdd, Nat.reduceMul, Nat.reduceSub, Nat.reduceEqDiff, Nat.reduceLeDiff, Nat.reduceLT, Int.reduceEq, Int.reduceAdd, Int.reduceSub, Int.reduceMul, Int.reduceNeg, Int.reduceLT, Int.reduceLE, Int.reduceToNat, Int.reduceBEq, Int.reduceNe, reduceCtorEq, w64_id, w8_id, w16_id, w32_id, tmod_pos, tdiv_pos, Bool.or_true, Bool.true_or, Bool.or_false, Bool.false_or, Bool.and_false, Bool.false_and, condK_decide, (s5.front 1).get, ek, ew2]
    refine Sat.append s5 sw2 isSlice_53 ssz_53 (by kernel_rfl) (by kernel_rfl) (hby _ (by omega)) (by omega) ?_
    intro v6 h6 s6
    obtain ⟨sa, sc, rfl, -⟩ := s6.elems
    simp (maxSteps := 2000000) (disch := first | (simp only [go_sem, Nat.reduceBEq, Nat.reduceAdd, Nat.reduceMul, Nat.reduceSub, Nat.reduceEqDiff, Nat.reduceLeDiff, Nat.reduceLT, Int.reduceEq, Int.reduceAdd, Int.reduceSub, Int.reduceMul, Int.reduceNeg, Int.reduceLT, Int.reduceLE, Int.reduceToNat, Int.reduceBEq, Int.reduceNe, reduceCtorEq, (s6.front 1).get]; done) | omega | (simp only [go_sem, Nat.reduceBEq, Nat.reduceAdd, Nat.reduceMul, Nat.reduceSub, Nat.reduceEqDiff, Nat.reduceLeDiff, Nat.reduceLT, Int.reduceEq, Int.reduceAdd, Int.reduceSub, Int.reduceMul, Int.reduceNeg, Int.reduceLT, Int.reduceLE, Int.reduceToNat, Int.reduceBEq, Int.reduceNe, reduceCtorEq, (s6.front 1).get]; omega)) only [go_sem, Nat.reduceBEq, Nat.reduceAdd, Nat.reduceMul, Nat.reduceSub, Nat.reduceEqDiff, Nat.reduceLeDiff, Nat.reduceLT, Int.reduceEq, Int.reduceAdd, Int.reduceSub, Int.reduceMul, Int.reduceNeg, Int.reduceLT, Int.reduceLE, Int.reduceToNat, Int.reduceBEq, Int.reduceNe, reduceCtorEq, w64_id, w8_id, w16_id, w32_id, tmod_pos, tdiv_pos, Bool.or_true, Bool.true_or, Bool.or_false, Bool.false_or, Bool.and_false, Bool.false_and, condK_decide, (s6.front 1).get]
    have ea : regsL L = regsL (L.take k) ++ regsL (L.drop k) := by rw [← regsL_append, List.take_append_drop]
    have eb : regsL L = regsL (L.take (k + 1)) ++ regsL (L.drop (k + 1)) := by rw [← regsL_append, List.take_append_drop]
    have e5 : ([] ++ ((regsL L).drop (0 * 4)).take ((k - 0) * 4)) ++ ((regsL L).drop ((k + 1) * 4)).take ((L.length - (k + 1)) * 4) = regsL (L.take k ++ L.drop (k + 1)) := by
      rw [regsL_append, List.nil_append, Nat.zero_mul, List.drop_zero, Nat.sub_zero]
      congr 1
      · rw [ea, List.take_left' (by rw [regsL_len, List.length_take, Nat.min_eq_left (by omega)])]
      · rw [eb, List.drop_left' (by rw [regsL_len, List.length_take, Nat.min_eq_left (by omega)]), List.take_of_length_le (by rw [regsL_len, List.length_drop]; omega)]
    have e6 : 0 + (k - 0) + (L.length - (k + 1)) = (L.take k ++ L.drop (k + 1)).length := by
      rw [List.length_append, List.length_take, List.length_drop]; omega
    have e7 : k - 0 + (L.length - (k + 1)) = (L.take k ++ L.drop (k + 1)).length := by rw [← e6]; omega
    rw [e5, e6] at s6
    rw [e7]
    exact hR _ _ (.inr ⟨k, r, e1, e2, e3, rfl, refS_iff.2 ⟨_, ty, ((s6.front 1).set _).drop2⟩⟩)

theorem roomRef_S (hs : Sat h (refS qb L :: F)) (hL : L.length ≤ 100000) (hok : ∀ r ∈ L, RegOk r.F r) (first kind frames count : Int) :
    HCalls Try.prog 36 #[.pointer (some ⟨qb, 0, none⟩), .int .i64 first, .int .i64 kind, .int .i64 frames, .int .i64 count] h fun v h' => v = pairI (roomM (mOf L) first kind frames count) ∧ Sat h' (refS qb L :: F) := by
  refine HCalls.via fun R hR => ?_
  refine HCalls.of_dev T36 Try.func36 rfl mixed (by kernel_rfl) ?_; rw [Try.results36]
  simp (maxSteps := 2000000) (disch := first | (simp only [go_sem, Nat.reduceBEq, Nat.reduceAdd, Nat.reduceMul, Nat.reduceSub, Nat.reduceEqDiff, Nat.reduceLeDiff, Nat.reduceLT, Int.reduceEq, Int.reduceAdd, Int.reduceSub, Int.reduceMul, Int.reduceNeg, Int.reduceLT, Int.reduceLE, Int.reduceToNat, Int.reduceBEq, Int.reduceNe, reduceCtorEq]; done) | omega | (simp only [go_sem, Nat.reduceBEq, Nat.reduceAdd, Nat.reduceMul, Nat.reduceSub, Nat.reduceEqDiff, Nat.reduceLeDiff, Nat.reduceLT, Int.reduceEq, Int.reduceAdd, Int.reduceSub, Int.reduceMul, Int.reduceNeg, Int.reduceLT, Int.reduceLE, Int.reduceToNat, Int.reduceBEq, Int.reduceNe, reduceCtorEq]; omega)) only [go_sem, Nat.reduceBEq, Nat.reduceAdd, Nat.reduceMul, Nat.reduceSub, Nat.reduceEqDiff, Nat.reduceLeDiff, Nat.reduceLT, Int.reduceEq, Int.reduceAdd, Int.reduceSub, Int.reduceMul, Int.reduceNeg, Int.reduceLT, Int.reduceLE, Int.reduceToNat, Int.reduceBEq, Int.reduceNe, reduceCtorEq, w64_id, w8_id, w16_id, w32_id, tmod_pos, tdiv_pos, Bool.or_true, Bool.true_or, Bool.or_false, Bool.false_or, Bool.and_false, Bool.false_and, condK_decide]
  refine (at_S hs hL first).mono ?_
  rintro v h1 ⟨rfl, rfl⟩
  rcases mOf_at (L := L) (first := first) with ⟨e, e2⟩ | ⟨k, r, e, e1, e2, e3, e4⟩
  · rw [e]
    simp (maxSteps := 2000000) (disch := first | (simp only [go_sem, Nat.reduceBEq, Nat.reduceAdd, Nat.reduceMul, Nat.reduceSub, Nat.reduceEqDiff, Nat.reduceLeDiff, Nat.reduceLT, Int.reduceEq, Int.reduceAdd, Int.reduceSub, Int.reduceMul, Int.reduceNeg, Int.reduceLT, Int.reduceLE, Int.reduceToNat, Int.reduceBEq, Int.reduceNe, reduceCtorEq]; done) | omega | (simp only [go_sem, Nat.reduceBEq, Nat.reduceAdd, Nat.reduceMul, Nat.reduceSub, Nat.reduceEqDiff, Nat.reduceLeDiff, Nat.reduceLT, Int.reduceEq, Int.reduceAdd, Int.reduceSub, Int.reduceMul, Int.reduceNeg, Int.reduceLT, Int.reduceLE, Int.reduceToNat, Int.reduceBEq, Int.reduceNe, reduceCtorEq]; omega)) only [go_sem, Nat.reduceBEq, Nat.reduceAdd, Nat.reduceMul, Nat.reduceSub, Nat.reduceEqDiff, Nat.reduceLeDiff, Nat.reduceLT, Int.reduceEq, Int.reduceAdd, Int.reduceSub, Int.reduceMul, Int.reduceNeg, Int.reduceLT, Int.reduceLE, Int.reduceToNat, Int.reduceBEq, Int.reduceNe, reduceCtorEq, w64_id, w8_id, w16_id, w32_id, tmod_pos, tdiv_pos, Bool.or_true, Bool.true_or, Bool.or_false, Bool.false_or, Bool.and_false, Bool.false_and, condK_decide]
    refine hR _ _ ⟨by unfold roomM; rw [e2]; rfl, hs⟩
  rw [e]
  have c0 : ¬ ((k : Int) < 0) := by omega
  have c1 : (k : Int) < L.length := by omega
  obtain ⟨v, ty, s⟩ := refS_iff.1 hs
  obtain ⟨sl, cap, rfl, hcap, hel⟩ := regs_elems s.tail
  obtain ⟨lb, rfl, -, -, hrd⟩ := hel k r e1
  have s1 := (hs.push (.cells r.cells.toArray 28 (0, 0)))
  have rok := hok r (List.mem_of_getElem? e1)
  have k1 := rok.lo; have k2 := rok.hi; have k3 := rok.one; have k4 := rok.fit; have k5 := rok.mlo; have k6 := rok.mhi
  simp (maxSteps := 2000000) (disch := first | (simp only [go_sem, Nat.reduceBEq, Nat.reduceAdd, Nat.reduceMul, Nat.reduceSub, Nat.reduceEqDiff, Nat.reduceLeDiff, Nat.reduceLT, Int.reduceEq, Int.reduceAdd, Int.reduceSub, Int.reduceMul, Int.reduceNeg, Int.reduceLT, Int.reduceLE, Int.reduceToNat, Int.reduceBEq, Int.reduceNe, reduceCtorEq, c0, c1, s.get, hrd]; done) | omega | (simp only [go_sem, Nat.reduceBEq, Nat.reduceAdd, Nat.reduceMul, Nat.reduceSub, Nat.reduceEqDiff, Nat.reduceLeDiff, Nat.reduceLT, Int.reduceEq, Int.reduceAdd, Int.reduceSub, Int.reduceMul, Int.reduceNeg, Int.reduceLT, Int.reduceLE, Int.reduceToNat, Int.reduceBEq, Int.reduceNe, reduceCtorEq, c0, c1, s.get, hrd]; omega)) only [go_sem, Nat.reduceBEq, Nat.reduceAdd, Nat.reduceMul, Nat.reduceSub, Nat.reduceEqDiff, Nat.reduceLeDiff, Nat.reduceLT, Int.reduceEq, Int.reduceAdd, Int.reduceSub, Int.reduceMul, Int.reduceNeg, Int.reduceLT, Int.reduceLE, Int.reduceToNat, Int.reduceBEq, Int.reduceNe, reduceCtorEq, w64_id, w8_id, w16_id, w32_id, tmod_pos, tdiv_pos, Bool.or_true, Bool.true_or, Bool.or_false, Bool.false_or, Bool.and_false, Bool.false_and, condK_decide, c0, c1, s.get, hrd]
  refine (refSize_spec kind frames _).mono ?_
  rintro v h2 ⟨rfl, rfl⟩
  have fin : ∀ x, x = roomM (mOf L) first kind frames count → R (pairI x) (h1.push (.cells r.cells.toArray 28 (0, 0))) := fun x hx => hR _ _ ⟨by rw [hx], s1.tail⟩
  have unf : roomM (mOf L) first kind frames count = if (sizeM kind frames).2 ≠ 0 then (0, (sizeM kind frames).2) else if count < 1 ∨ 8 < count then (0, 1) else if r.D = true ∧ kind ≠ 1 ∧ kind ≠ 6 then (0, 141) else
      if r.F + r.N < (r.F + r.M + (sizeM kind frames).1 - 1) / (sizeM kind frames).1 * (sizeM kind frames).1 + count * (sizeM kind frames).1 then (0, 140) else ((r.F + r.M + (sizeM kind frames).1 - 1) / (sizeM kind frames).1 * (sizeM kind frames).1, 0) := by
    unfold roomM; rw [e3]
  by_cases hz : (sizeM kind frames).2 = 0
  case neg =>
    simp (maxSteps := 2000000) (disch := first | (simp only [go_sem, Nat.reduceBEq, Nat.reduceAdd, Nat.reduceMul, Nat.reduceSub, Nat.reduceEqDiff, Nat.reduceLeDiff, Nat.reduceLT, Int.reduceEq, Int.reduceAdd, Int.reduceSub, Int.reduceMul, Int.reduceNeg, Int.reduceLT, Int.reduceLE, Int.reduceToNat, Int.reduceBEq, Int.reduceNe, reduceCtorEq, hz]; done) | omega | (simp only [go_sem, Nat.reduceBEq, Nat.reduceAdd, Nat.reduceMul, Nat.reduceSub, Nat.reduceEqDiff, Nat.reduceLeDiff, Nat.reduceLT, Int.reduceEq, Int.reduceAdd, Int.reduceSub, Int.reduceMul, Int.reduceNeg, Int.reduceLT, Int.reduceLE, Int.reduceToNat, Int.reduceBEq, Int.reduceNe, reduceCtorEq, hz]; omega)) only [go_sem, Nat.reduceBEq, Nat.reduceAdd, Nat.reduceMul, Nat.reduceSub, Nat.reduceEqDiff, Nat.reduceLeDiff, Nat.reduceLT, Int.reduceEq, Int.reduceAdd, Int.reduceSub, Int.reduceMul, Int.reduceNeg, Int.reduceLT, Int.reduceLE, Int.reduceToNat, Int.reduceBEq, Int.reduceNe, reduceCtorEq, w64_id, w8_id, w16_id, w32_id, tmod_pos, tdiv_pos, Bool.or_true, Bool.true_or, Bool.or_false, Bool.false_or, Bool.and_false, Bool.false_and, condK_decide, hz]
    exact fin (0, (sizeM kind frames).2) (by rw [unf, if_pos hz])
  obtain ⟨z1, z2⟩ := sizeM_bd hz
  rw [if_neg (by simpa using hz)] at unf
  obtain ⟨z, hzz⟩ : ∃ z, z = (sizeM kind frames).1 := ⟨_, rfl⟩
  rw [← hzz] at z1 z2 unf
  by_cases hcnt : count < 1 ∨ 8 < count
  case pos =>
    have hb : (decide (count < 1) || decide (8 < count)) = true := by simpa using hcnt
    simp (maxSteps := 2000000) (disch := first | (simp only [go_sem, Nat.reduceBEq, Nat.reduceAdd, Nat.reduceMul, Nat.reduceSub, Nat.reduceEqDiff, Nat.reduceLeDiff, Nat.reduceLT, Int.reduceEq, Int.reduceAdd, Int.reduceSub, Int.reduceMul, Int.reduceNeg, Int.reduceLT, Int.reduceLE, Int.reduceToNat, Int.reduceBEq, Int.reduceNe, reduceCtorEq, hz, hb]; done) | omega | (simp only [go_sem, Nat.reduceBEq, Nat.reduceAdd, Nat.reduceMul, Nat.reduceSub, Nat.reduceEqDiff, Nat.reduceLeDiff, Nat.reduceLT, Int.reduceEq, Int.reduceAdd, Int.reduceSub, Int.reduceMul, Int.reduceNeg, Int.reduceLT, Int.reduceLE, Int.reduceToNat, Int.reduceBEq, Int.reduceNe, reduceCtorEq, hz, hb]; omega)) only [go_sem, Nat.reduceBEq, Nat.reduceAdd, Nat.reduceMul, Nat.reduceSub, Nat.reduceEqDiff, Nat.reduceLeDiff, Nat.reduceLT, Int.reduceEq, Int.reduceAdd, Int.reduceSub, Int.reduceMul, Int.reduceNeg, Int.reduceLT, Int.reduceLE, Int.reduceToNat, Int.reduceBEq, Int.reduceNe, reduceCtorEq, w64_id, w8_id, w16_id, w32_id, tmod_pos, tdiv_pos, Bool.or_true, Bool.true_or, Bool.or_false, Bool.false_or, Bool.and_false, Bool.false_and, condK_decide, hz, hb]
    exact fin (0, 1) (by rw [unf, if_pos hcnt])
  have hb : (decide (count < 1) || decide (8 < count)) = false := by simpa using hcnt
  rw [if_neg hcnt] at unf
  have s1get := s1.get
  by_cases hdev : r.D = true ∧ kind ≠ 1 ∧ kind ≠ 6
  case pos =>
    have hd1 := hdev.1
    have hd2 : ¬ kind = 1 := hdev.2.1
    have hd3 : ¬ kind = 6 := hdev.2.2
    simp (maxSteps := 2000000) (disch := first | (simp only [go_sem, Nat.reduceBEq, Nat.reduceAdd, Nat.reduceMul, Nat.reduceSub, Nat.reduceEqDiff, Nat.reduceLeDiff, Nat.reduceLT, Int.reduceEq, Int.reduceAdd, Int.reduceSub, Int.reduceMul, Int.reduceNeg, Int.reduceLT, Int.reduceLE, Int.reduceToNat, Int.reduceBEq, Int.reduceNe, reduceCtorEq, hz, hb, hd1, hd2, hd3]; done) | omega | (simp only [go_sem, Nat.reduceBEq, Nat.reduceAdd, Nat.reduceMul, Nat.reduceSub, Nat.reduceEqDiff, Nat.reduceLeDiff, Nat.reduceLT, Int.reduceEq, Int.reduceAdd, Int.reduceSub, Int.reduceMul, Int.reduceNeg, Int.reduceLT, Int.reduceLE, Int.reduceToNat, Int.reduceBEq, Int.reduceNe, reduceCtorEq, hz, hb, hd1, hd2, hd3]; omega)) only [go_sem, Nat.reduceBEq, Nat.reduceAdd, Nat.reduceMul, Nat.reduceSub, Nat.reduceEqDiff, Nat.reduceLeDiff, Nat.reduceLT, Int.reduceEq, Int.reduceAdd, Int.reduceSub, Int.reduceMul, Int.reduceNeg, Int.reduceLT, Int.reduceLE, Int.reduceToNat, Int.reduceBEq, Int.reduceNe, reduceCtorEq, w64_id, w8_id, w16_id, w32_id, tmod_pos, tdiv_pos, Bool.or_true, Bool.true_or, Bool.or_false, Bool.false_or, Bool.and_false, Bool.false_and, condK_decide, hz, hb, hd1, hd2, hd3]
    have := fin (0, 141) (by rw [unf, if_pos hdev])
    simpa only [Reg.cells_eq, hd1, pairI_eq] using this
  rw [if_neg hdev] at unf
  have hdb : (r.D && decide ¬kind = 1 && decide ¬kind = 6) = false := by
    cases hD : r.D with
    | false => rfl
    | true =>
      by_cases a1 : kind = 1
      · simp [a1]
      · by_cases a2 : kind = 6
        · simp [a2]
        · exact (hdev ⟨hD, a1, a2⟩).elim
  obtain ⟨m1, m2⟩ := mul_bd (count := count) (many := z) (by omega) (by omega) z1 z2
  obtain ⟨u1, u2, u3⟩ := round_up (x := r.F + r.M) (many := z) (by omega) z1
  obtain ⟨up, hup⟩ : ∃ up, up = (r.F + r.M + z - 1) / z * z := ⟨_, rfl⟩
  have hleast : ∀ a, a % z = 0 → r.F + r.M ≤ a → up ≤ a := by
    intro a ha hle
    obtain ⟨q, rfl⟩ := Int.dvd_of_emod_eq_zero ha
    rw [hup, Int.mul_comm z q]
    refine Int.mul_le_mul_of_nonneg_right ?_ (by omega)
    refine Int.lt_add_one_iff.1 ((Int.ediv_lt_iff_lt_mul (by omega)).2 ?_)
    rw [Int.add_mul, Int.one_mul, Int.mul_comm q z]
    omega
  rw [← hup] at u1 u2 u3 unf
  have hzne : z ≠ 0 := by omega
  have hupz : up % z = 0 := by rw [hup]; exact Int.mul_emod_left _ _
  simp (maxSteps := 2000000) (disch := first | (simp only [go_sem, Nat.reduceBEq, Nat.reduceAdd, Nat.reduceMul, Nat.reduceSub, Nat.reduceEqDiff, Nat.reduceLeDiff, Nat.reduceLT, Int.reduceEq, Int.reduceAdd, Int.reduceSub, Int.reduceMul, Int.reduceNeg, Int.reduceLT, Int.reduceLE, Int.reduceToNat, Int.reduceBEq, Int.reduceNe, reduceCtorEq, hz, hb, hdb, ← hzz]; done) | omega | (simp only [go_sem, Nat.reduceBEq, Nat.reduceAdd, Nat.reduceMul, Nat.reduceSub, Nat.reduceEqDiff, Nat.reduceLeDiff, Nat.reduceLT, Int.reduceEq, Int.reduceAdd, Int.reduceSub, Int.reduceMul, Int.reduceNeg, Int.reduceLT, Int.reduceLE, Int.reduceToNat, Int.reduceBEq, Int.reduceNe, reduceCtorEq, hz, hb, hdb, ← hzz]; omega)) only [go_sem, Nat.reduceBEq, Nat.reduceAdd, Nat.reduceMul, Nat.reduceSub, Nat.reduceEqDiff, Nat.reduceLeDiff, Nat.reduceLT, Int.reduceEq, Int.reduceAdd, Int.reduceSub, Int.reduceMul, Int.reduceNeg, Int.reduceLT, Int.reduceLE, Int.reduceToNat, Int.reduceBEq, Int.reduceNe, reduceCtorEq, w64_id, w8_id, w16_id, w32_id, tmod_pos, tdiv_pos, Bool.or_true, Bool.true_or, Bool.or_false, Bool.false_or, Bool.and_false, Bool.false_and, condK_decide, hz, hb, hdb, ← hzz]
  refine loopH.intro (fun a : Int => (.cons 4 (.int .i64 count) true (.cons 13 (.pointer (some ⟨h1.size, 0, none⟩)) true (.cons 14 (.int .i64 z) true (.cons 16 (.int .i64 a) true .nil)))))
    (fun a h' => h' = h1.push (.cells r.cells.toArray 28 (0, 0)) ∧ r.F + r.M ≤ a ∧ a ≤ up) (fun a _ => (up - a).toNat) (r.F + r.M) ?_ ⟨rfl, by omega, u3⟩ ?_
  · simp (maxSteps := 2000000) (disch := first | (simp only [go_sem, Nat.reduceBEq, Nat.reduceAdd, Nat.reduceMul, Nat.reduceSub, Nat.reduceEqDiff, Nat.reduceLeDiff, Nat.reduceLT, Int.reduceEq, Int.reduceAdd, Int.reduceSub, Int.reduceMul, Int.reduceNeg, Int.reduceLT, Int.reduceLE, Int.reduceToNat, Int.reduceBEq, Int.reduceNe, reduceCtorEq]; done) | omega | (simp only [go_sem, Nat.reduceBEq, Nat.reduceAdd, Nat.reduceMul, Nat.reduceSub, Nat.reduceEqDiff, Nat.reduceLeDiff, Nat.reduceLT, Int.reduceEq, Int.reduceAdd, Int.reduceSub, Int.reduceMul, Int.reduceNeg, Int.reduceLT, Int.reduceLE, Int.reduceToNat, Int.reduceBEq, Int.reduceNe, reduceCtorEq]; omega)) only [go_sem, Nat.reduceBEq, Nat.reduceAdd, Nat.reduceMul, Nat.reduceSub, Nat.reduceEqDiff, Nat.reduceLeDiff, Nat.reduceLT, Int.reduceEq, Int.reduceAdd, Int.reduceSub, Int.reduceMul, Int.reduceNeg, Int.reduceLT, Int.reduceLE, Int.reduceToNat, Int.reduceBEq, Int.reduceNe, reduceCtorEq, w64_id, w8_id, w16_id, w32_id, tmod_pos, tdiv_pos, Bool.or_true, Bool.true_or, Bool.or_false, Bool.false_or, Bool.and_false, Bool.false_and, condK_decide]
  rintro a h' ⟨rfl, a1, a2⟩
  have w1 : IntKind.i64.wrap (count * z) = count * z := w64_id (by omega) (by omega)
  have w2 : IntKind.i64.wrap (a + count * z) = a + count * z := w64_id (by omega) (by omega)
  simp (maxSteps := 2000000) (disch := first | (simp only [go_sem, Nat.reduceBEq, Nat.reduceAdd, Nat.reduceMul, Nat.reduceSub, Nat.reduceEqDiff, Nat.reduceLeDiff, Nat.reduceLT, Int.reduceEq, Int.reduceAdd, Int.reduceSub, Int.reduceMul, Int.reduceNeg, Int.reduceLT, Int.reduceLE, Int.reduceToNat, Int.reduceBEq, Int.reduceNe, reduceCtorEq, hzne, s1get, w1, w2]; done) | omega | (simp only [go_sem, Nat.reduceBEq, Nat.reduceAdd, Nat.reduceMul, Nat.reduceSub, Nat.reduceEqDiff, Nat.reduceLeDiff, Nat.reduceLT, Int.reduceEq, Int.reduceAdd, Int.reduceSub, Int.reduceMul, Int.reduceNeg, Int.reduceLT, Int.reduceLE, Int.reduceToNat, Int.reduceBEq, Int.reduceNe, reduceCtorEq, hzne, s1get, w1, w2]; omega)) only [go_sem, Nat.reduceBEq, Nat.reduceAdd, Nat.reduceMul, Nat.reduceSub, Nat.reduceEqDiff, Nat.reduceLeDiff, Nat.reduceLT, Int.reduceEq, Int.reduceAdd, Int.reduceSub, Int.reduceMul, Int.reduceNeg, Int.reduceLT, Int.reduceLE, Int.reduceToNat, Int.reduceBEq, Int.reduceNe, reduceCtorEq, w64_id, w8_id, w16_id, w32_id, tmod_pos, tdiv_pos, Bool.or_true, Bool.true_or, Bool.or_false, Bool.false_or, Bool.and_false, Bool.false_and, condK_decide, hzne, s1get, w1, w2]
  refine ⟨fun q => ?_, fun q => ?_⟩
  · have : a ≠ up := fun e => q (by rw [e]; exact hupz)
    exact ⟨a + 1, rfl, ⟨rfl, by omega, by omega⟩, by simp only; omega⟩
  · have := hleast a (Classical.not_not.1 q) a1
    obtain rfl : a = up := by omega
    refine ⟨fun q2 => fin (0, 140) (by rw [unf, if_pos q2]), fun q2 => fin (a, 0) (by rw [unf, if_neg q2])⟩

theorem regsL_set {L : List Reg} {k : Nat} {r : Reg} {n : Int} (h : L[k]? = some r) : (regsL L).set (k * 4 + 2) (.int .i64 n) = regsL (L.set k { r with M := n }) := by
  apply List.ext_getElem?
  intro i
  have hlt := (List.getElem?_eq_some_iff.1 h).1
  rw [List.getElem?_set]
  by_cases hi : i < L.length * 4
  · obtain ⟨a, b, hb, rfl⟩ : ∃ a b, b < 4 ∧ i = a * 4 + b := ⟨i / 4, i % 4, Nat.mod_lt _ (by omega), by omega⟩
    rw [regsL_get _ _ _ hb, regsL_get _ _ _ hb, List.getElem?_set]
    by_cases e : k = a
    · subst e
      rw [if_pos rfl, if_pos hlt, h]
      by_cases e2 : k * 4 + 2 = k * 4 + b
      · obtain rfl : b = 2 := by omega
        rw [if_pos rfl, regsL_len, if_pos (by omega)]; rfl
      · rw [if_neg e2]
        match b, hb with
        | 0, _ => rfl
        | 1, _ => rfl
        | 2, _ => exact (e2 rfl).elim
        | 3, _ => rfl
    · rw [if_neg (by omega), if_neg e]
  · rw [if_neg (by omega), List.getElem?_eq_none (by rw [regsL_len]; omega), List.getElem?_eq_none (by rw [regsL_len, List.length_set]; omega)]

theorem mOf_set {L : List Reg} {k : Nat} {r : Reg} {first n : Int} (hk : atM L first = (k : Int)) (h : L[k]? = some r) (hF : r.F = first) : mOf (L.set k { r with M := n }) = setMark (mOf L) first n := by
  have key : ∀ (L : List Reg) (k : Nat), L.findIdx? (fun r => r.F == first) = some k → ∀ j, (L.set k { r with M := n }).find? (fun r => r.F == j) = if j = first then some { r with M := n } else L.find? (fun r => r.F == j) := by
    intro L
    induction L with
    | nil => intro k h; simp at h
    | cons x L ih =>
      intro k h j
      rw [List.findIdx?_cons] at h
      by_cases hx : x.F = first
      · simp only [hx, beq_self_eq_true, if_true, Option.some.injEq] at h
        subst h
        rw [List.set_cons_zero, List.find?_cons, List.find?_cons]
        by_cases e : j = first
        · subst e; simp [hF]
        · have e1 : (r.F == j) = false := by simpa [hF] using fun z => e z.symm
          have e2 : (x.F == j) = false := by simpa [hx] using fun z => e z.symm
          simp only [e1, e2, if_neg e]
      · have hb : (x.F == first) = false := by simpa using hx
        simp only [hb, Bool.false_eq_true, if_false, Option.map_eq_some_iff] at h
        obtain ⟨k', h1, rfl⟩ := h
        rw [List.set_cons_succ, List.find?_cons, List.find?_cons, ih k' h1 j]
        by_cases e : x.F = j
        · have e1 : (x.F == j) = true := by simpa using e
          simp only [e1]
          rw [if_neg (by rw [← e]; exact hx)]
        · have e1 : (x.F == j) = false := by simpa using e
          simp only [e1]
  have hfi : L.findIdx? (fun r => r.F == first) = some k := by
    unfold atM at hk
    split at hk
    · rename_i k' hk'; rw [hk']; congr 1; omega
    · omega
  have hm : mOf L first = some r := by
    obtain ⟨hlt, h1, h2⟩ := List.findIdx?_eq_some_iff_getElem.1 hfi
    have e := List.getElem?_eq_some_iff.1 h
    unfold mOf
    rw [List.find?_eq_some_iff_getElem]
    exact ⟨by simpa using hF, k, hlt, e.2, fun j hj => by simpa using h2 j hj⟩
  funext j
  have e := key L k hfi j
  show (L.set k { r with M := n }).find? (fun r => r.F == j) = if j = first then (mOf L first).map (fun r => { r with M := n }) else L.find? (fun r => r.F == j)
  rw [e, hm]
  rfl

theorem carveRef_S (hs : Sat h (refS qb L :: F)) (hL : L.length ≤ 100000) (hok : ∀ r ∈ L, RegOk r.F r) (first kind frames count : Int) :
    HCalls Try.prog 34 #[.pointer (some ⟨qb, 0, none⟩), .int .i64 first, .int .i64 kind, .int .i64 frames, .int .i64 count] h fun v h' => v = pairI (carveM (mOf L) first kind frames count).2 ∧
      ((carveM (mOf L) first kind frames count).1 = mOf L ∧ Sat h' (refS qb L :: F) ∨ ∃ k r n, atM L first = ((k : Nat) : Int) ∧ L[k]? = some r ∧ r.F = first ∧ (carveM (mOf L) first kind frames count).1 = setMark (mOf L) first n ∧ 0 ≤ n ∧ n ≤ r.N ∧ Sat h' (refS qb (L.set k { r with M := n }) :: F)) := by
  refine HCalls.via fun R hR => ?_
  refine HCalls.of_dev T34 Try.func34 rfl mixed (by kernel_rfl) ?_; rw [Try.results34]
  simp (maxSteps := 2000000) (disch := first | (simp only [go_sem, Nat.reduceBEq, Nat.reduceAdd, Nat.reduceMul, Nat.reduceSub, Nat.reduceEqDiff, Nat.reduceLeDiff, Nat.reduceLT, Int.reduceEq, Int.reduceAdd, Int.reduceSub, Int.reduceMul, Int.reduceNeg, Int.reduceLT, Int.reduceLE, Int.reduceToNat, Int.reduceBEq, Int.reduceNe, reduceCtorEq]; done) | omega | (simp only [go_sem, Nat.reduceBEq, Nat.reduceAdd, Nat.reduceMul, Nat.reduceSub, Nat.reduceEqDiff, Nat.reduceLeDiff, Nat.reduceLT, Int.reduceEq, Int.reduceAdd, Int.reduceSub, Int.reduceMul, Int.reduceNeg, Int.reduceLT, Int.reduceLE, Int.reduceToNat, Int.reduceBEq, Int.reduceNe, reduceCtorEq]; omega)) only [go_sem, Nat.reduceBEq, Nat.reduceAdd, Nat.reduceMul, Nat.reduceSub, Nat.reduceEqDiff, Nat.reduceLeDiff, Nat.reduceLT, Int.reduceEq, Int.reduceAdd, Int.reduceSub, Int.reduceMul, Int.reduceNeg, Int.reduceLT, Int.reduceLE, Int.reduceToNat, Int.reduceBEq, Int.reduceNe, reduceCtorEq, w64_id, w8_id, w16_id, w32_id, tmod_pos, tdiv_pos, Bool.or_true, Bool.true_or, Bool.or_false, Bool.false_or, Bool.and_false, Bool.false_and, condK_decide]
  refine (roomRef_S hs hL hok first kind frames count).mono ?_
  rintro v h1 ⟨rfl, s1⟩
  by_cases he : (roomM (mOf L) first kind frames count).2 = 0
  case neg =>
    have hc : carveM (mOf L) first kind frames count = (mOf L, (0, (roomM (mOf L) first kind frames count).2)) := by unfold carveM; rw [if_neg he]
    rw [hc] at hR
    simp (maxSteps := 2000000) (disch := first | (simp only [go_sem, Nat.reduceBEq, Nat.reduceAdd, Nat.reduceMul, Nat.reduceSub, Nat.reduceEqDiff, Nat.reduceLeDiff, Nat.reduceLT, Int.reduceEq, Int.reduceAdd, Int.reduceSub, Int.reduceMul, Int.reduceNeg, Int.reduceLT, Int.reduceLE, Int.reduceToNat, Int.reduceBEq, Int.reduceNe, reduceCtorEq, he]; done) | omega | (simp only [go_sem, Nat.reduceBEq, Nat.reduceAdd, Nat.reduceMul, Nat.reduceSub, Nat.reduceEqDiff, Nat.reduceLeDiff, Nat.reduceLT, Int.reduceEq, Int.reduceAdd, Int.reduceSub, Int.reduceMul, Int.reduceNeg, Int.reduceLT, Int.reduceLE, Int.reduceToNat, Int.reduceBEq, Int.reduceNe, reduceCtorEq, he]; omega)) only [go_sem, Nat.reduceBEq, Nat.reduceAdd, Nat.reduceMul, Nat.reduceSub, Nat.reduceEqDiff, Nat.reduceLeDiff, Nat.reduceLT, Int.reduceEq, Int.reduceAdd, Int.reduceSub, Int.reduceMul, Int.reduceNeg, Int.reduceLT, Int.reduceLE, Int.reduceToNat, Int.reduceBEq, Int.reduceNe, reduceCtorEq, w64_id, w8_id, w16_id, w32_id, tmod_pos, tdiv_pos, Bool.or_true, Bool.true_or, Bool.or_false, Bool.false_or, Bool.and_false, Bool.false_and, condK_decide, he]
    exact hR _ _ ⟨rfl, .inl ⟨rfl, s1⟩⟩
  simp (maxSteps := 2000000) (disch := first | (simp only [go_sem, Nat.reduceBEq, Nat.reduceAdd, Nat.reduceMul, Nat.reduceSub, Nat.reduceEqDiff, Nat.reduceLeDiff, Nat.reduceLT, Int.reduceEq, Int.reduceAdd, Int.reduceSub, Int.reduceMul, Int.reduceNeg, Int.reduceLT, Int.reduceLE, Int.reduceToNat, Int.reduceBEq, Int.reduceNe, reduceCtorEq, he]; done) | omega | (simp only [go_sem, Nat.reduceBEq, Nat.reduceAdd, Nat.reduceMul, Nat.reduceSub, Nat.reduceEqDiff, Nat.reduceLeDiff, Nat.reduceLT, Int.reduceEq, Int.reduceAdd, Int.reduceSub, Int.reduceMul, Int.reduceNeg, Int.reduceLT, Int.reduceLE, Int.reduceToNat, Int.reduceBEq, Int.reduceNe, reduceCtorEq, he]; omega)) only [go_sem, Nat.reduceBEq, Nat.reduceAdd, Nat.reduceMul, Nat.reduceSub, Nat.reduceEqDiff, Nat.reduceLeDiff, Nat.reduceLT, Int.reduceEq, Int.reduceAdd, Int.reduceSub, Int.reduceMul, Int.reduceNeg, Int.reduceLT, Int.reduceLE, Int.reduceToNat, Int.reduceBEq, Int.reduceNe, reduceCtorEq, w64_id, w8_id, w16_id, w32_id, tmod_pos, tdiv_pos, Bool.or_true, Bool.true_or, Bool.or_false, Bool.false_or, Bool.and_false, Bool.false_and, condK_decide, he]
  refine (at_S s1 hL first).mono ?_
  rintro v h2 ⟨rfl, rfl⟩
  obtain ⟨r, hm, hsz, c1, c8, a1, a2, a3, -⟩ := roomM_ok (m := mOf L) (fun k r hk => by
    have := List.mem_of_find?_eq_some hk
    have h2 := List.find?_some hk
    simp only [beq_iff_eq] at h2
    have := hok r this
    rw [h2] at this; exact this) he
  rcases mOf_at (L := L) (first := first) with ⟨e, e2⟩ | ⟨k, r', e, e1, e2, e3, e4⟩
  · rw [hm] at e2; cases e2
  rw [hm] at e3
  cases e3
  rw [e]
  simp (maxSteps := 2000000) (disch := first | (simp only [go_sem, Nat.reduceBEq, Nat.reduceAdd, Nat.reduceMul, Nat.reduceSub, Nat.reduceEqDiff, Nat.reduceLeDiff, Nat.reduceLT, Int.reduceEq, Int.reduceAdd, Int.reduceSub, Int.reduceMul, Int.reduceNeg, Int.reduceLT, Int.reduceLE, Int.reduceToNat, Int.reduceBEq, Int.reduceNe, reduceCtorEq]; done) | omega | (simp only [go_sem, Nat.reduceBEq, Nat.reduceAdd, Nat.reduceMul, Nat.reduceSub, Nat.reduceEqDiff, Nat.reduceLeDiff, Nat.reduceLT, Int.reduceEq, Int.reduceAdd, Int.reduceSub, Int.reduceMul, Int.reduceNeg, Int.reduceLT, Int.reduceLE, Int.reduceToNat, Int.reduceBEq, Int.reduceNe, reduceCtorEq]; omega)) only [go_sem, Nat.reduceBEq, Nat.reduceAdd, Nat.reduceMul, Nat.reduceSub, Nat.reduceEqDiff, Nat.reduceLeDiff, Nat.reduceLT, Int.reduceEq, Int.reduceAdd, Int.reduceSub, Int.reduceMul, Int.reduceNeg, Int.reduceLT, Int.reduceLE, Int.reduceToNat, Int.reduceBEq, Int.reduceNe, reduceCtorEq, w64_id, w8_id, w16_id, w32_id, tmod_pos, tdiv_pos, Bool.or_true, Bool.true_or, Bool.or_false, Bool.false_or, Bool.and_false, Bool.false_and, condK_decide]
  refine (refSize_spec kind frames _).mono ?_
  rintro v h2' ⟨rfl, rfl⟩
  obtain ⟨v, ty, s⟩ := refS_iff.1 s1
  obtain ⟨lb, cap, cs, ty2, rfl, hcap, hlb, hcs, hget, hset⟩ := (s.front 1).sliceOpen (by omega)
  have hr := hok r (List.mem_of_getElem? e1)
  have hz := sizeM_bd hsz
  have hmb := mul_bd (count := count) (many := (sizeM kind frames).1) c1 c8 hz.1 hz.2
  have k1 := hr.lo; have k2 := hr.hi; have k3 := hr.one; have k4 := hr.fit; have k5 := hr.mlo; have k6 := hr.mhi
  have c0 : (0 : Int) ≤ k := by omega
  have cl : (k : Int) < L.length := by omega
  have l1 : k * 4 + 2 < cs.size := by rw [hcs]; omega
  have w1 : IntKind.i64.wrap (count * (sizeM kind frames).1) = count * (sizeM kind frames).1 := w64_id (by omega) (by omega)
  have w2 : IntKind.i64.wrap ((roomM (mOf L) first kind frames count).1 + count * (sizeM kind frames).1) = (roomM (mOf L) first kind frames count).1 + count * (sizeM kind frames).1 := w64_id (by omega) (by omega)
  have w3 : IntKind.i64.wrap ((roomM (mOf L) first kind frames count).1 + count * (sizeM kind frames).1 - first) = (roomM (mOf L) first kind frames count).1 + count * (sizeM kind frames).1 - first := w64_id (by omega) (by omega)
  simp (maxSteps := 2000000) (disch := first | (simp only [go_sem, Nat.reduceBEq, Nat.reduceAdd, Nat.reduceMul, Nat.reduceSub, Nat.reduceEqDiff, Nat.reduceLeDiff, Nat.reduceLT, Int.reduceEq, Int.reduceAdd, Int.reduceSub, Int.reduceMul, Int.reduceNeg, Int.reduceLT, Int.reduceLE, Int.reduceToNat, Int.reduceBEq, Int.reduceNe, reduceCtorEq, s.get, hlb, c0, cl, l1, w1, w2, w3]; done) | omega | (simp only [go_sem, Nat.reduceBEq, Nat.reduceAdd, Nat.reduceMul, Nat.reduceSub, Nat.reduceEqDiff, Nat.reduceLeDiff, Nat.reduceLT, Int.reduceEq, Int.reduceAdd, Int.reduceSub, Int.reduceMul, Int.reduceNeg, Int.reduceLT, Int.reduceLE, Int.reduceToNat, Int.reduceBEq, Int.reduceNe, reduceCtorEq, s.get, hlb, c0, cl, l1, w1, w2, w3]; omega)) only [go_sem, Nat.reduceBEq, Nat.reduceAdd, Nat.reduceMul, Nat.reduceSub, Nat.reduceEqDiff, Nat.reduceLeDiff, Nat.reduceLT, Int.reduceEq, Int.reduceAdd, Int.reduceSub, Int.reduceMul, Int.reduceNeg, Int.reduceLT, Int.reduceLE, Int.reduceToNat, Int.reduceBEq, Int.reduceNe, reduceCtorEq, w64_id, w8_id, w16_id, w32_id, tmod_pos, tdiv_pos, Bool.or_true, Bool.true_or, Bool.or_false, Bool.false_or, Bool.and_false, Bool.false_and, condK_decide, s.get, hlb, c0, cl, l1, w1, w2, w3]
  have hc : carveM (mOf L) first kind frames count = (setMark (mOf L) first ((roomM (mOf L) first kind frames count).1 + count * (sizeM kind frames).1 - first), ((roomM (mOf L) first kind frames count).1, 0)) := by unfold carveM; rw [if_pos he]
  rw [hc] at hR
  have s6 := hset (k * 4 + 2) (.int .i64 ((roomM (mOf L) first kind frames count).1 + count * (sizeM kind frames).1 - first)) (by rw [regsL_len]; omega) rfl
  rw [regsL_set e1] at s6
  refine hR _ _ ⟨rfl, .inr ⟨k, r, _, e, e1, e2, rfl, by omega, by omega, refS_iff.2 ⟨.slice (some ⟨lb, 0, none⟩) L.length cap, ty, ?_⟩⟩⟩
  have e9 : L.length = (L.set k { r with M := (roomM (mOf L) first kind frames count).1 + count * (sizeM kind frames).1 - first }).length := by simp
  have s7 := s6.swap
  rw [← e9]
  exact s7

theorem take_S {ub : Nat} {u : Int} {ty : TypeId} (hs : Sat h (cellAt ub (.cells [.int .i64 u].toArray ty (0, 0)) :: F)) (hu : 0 ≤ u ∧ u ≤ 9223372036854775807) : HCalls Try.prog 44 #[.pointer (some ⟨ub, 0, none⟩)] h fun v h' =>
    (u = 0 ∧ v = .bool false ∧ h' = h) ∨ (0 < u ∧ v = .bool true ∧ Sat h' (cellAt ub (.cells [.int .i64 (u - 1)].toArray ty (0, 0)) :: F)) := by
  refine HCalls.via fun R hR => ?_
  have hlt := hs.lt
  refine HCalls.of_dev T44 Try.func44 rfl mixed (by kernel_rfl) ?_; rw [Try.results44]
  simp (maxSteps := 2000000) (disch := first | (simp only [go_sem, Nat.reduceBEq, Nat.reduceAdd, Nat.reduceMul, Nat.reduceSub, Nat.reduceEqDiff, Nat.reduceLeDiff, Nat.reduceLT, Int.reduceEq, Int.reduceAdd, Int.reduceSub, Int.reduceMul, Int.reduceNeg, Int.reduceLT, Int.reduceLE, Int.reduceToNat, Int.reduceBEq, Int.reduceNe, reduceCtorEq, hs.get, hlt]; done) | omega | (simp only [go_sem, Nat.reduceBEq, Nat.reduceAdd, Nat.reduceMul, Nat.reduceSub, Nat.reduceEqDiff, Nat.reduceLeDiff, Nat.reduceLT, Int.reduceEq, Int.reduceAdd, Int.reduceSub, Int.reduceMul, Int.reduceNeg, Int.reduceLT, Int.reduceLE, Int.reduceToNat, Int.reduceBEq, Int.reduceNe, reduceCtorEq, hs.get, hlt]; omega)) only [go_sem, Nat.reduceBEq, Nat.reduceAdd, Nat.reduceMul, Nat.reduceSub, Nat.reduceEqDiff, Nat.reduceLeDiff, Nat.reduceLT, Int.reduceEq, Int.reduceAdd, Int.reduceSub, Int.reduceMul, Int.reduceNeg, Int.reduceLT, Int.reduceLE, Int.reduceToNat, Int.reduceBEq, Int.reduceNe, reduceCtorEq, w64_id, w8_id, w16_id, w32_id, tmod_pos, tdiv_pos, Bool.or_true, Bool.true_or, Bool.or_false, Bool.false_or, Bool.and_false, Bool.false_and, condK_decide, hs.get, hlt]
  refine ⟨fun q => hR _ _ (.inl ⟨q, rfl, rfl⟩), fun q => ⟨fun q2 => ?_, fun q2 => absurd q (by omega)⟩⟩
  exact hR _ _ (.inr ⟨q2, rfl, hs.set _⟩)

theorem refRamS_congr {rb n : Nat} {mem mem' : Nat → Int} (hs : Sat h (refRamS rb n mem :: F)) (e : ∀ j, j < 64 * n → mem j = mem' j) : Sat h (refRamS rb n mem' :: F) := by
  obtain ⟨⟨hb, hn⟩, v, ty, s⟩ := refRamS_iff.1 hs
  exact refRamS_iff.2 ⟨⟨fun i hi => by rw [← e i hi]; exact hb i hi, hn⟩, v, ty, (s.swap.sliceEq (memL_congr e)).swap⟩

theorem resetRef_S {rb n ub k : Nat} {mem : Nat → Int} {u : Int} {ty : TypeId} {r : Reg} (hs : Sat h (refS qb L :: refRamS rb n mem :: cellAt ub (.cells [.int .i64 u].toArray ty (0, 0)) :: F)) (hL : L.length ≤ 100000) (hu : 0 ≤ u ∧ u ≤ 9223372036854775807) {first : Int}
    (hk : atM L first = ((k : Nat) : Int)) (hr : L[k]? = some r) (hF : r.F = first) (rok : RegOk r.F r) :
    HCalls Try.prog 35 #[.pointer (some ⟨qb, 0, none⟩), .pointer (some ⟨rb, 0, none⟩), .int .i64 first, .pointer (some ⟨ub, 0, none⟩)] h fun v h' =>
      v = .int .i64 (if unitsM r.M u < r.M then 3 else 0) ∧ ∃ mem', Sat h' (refS qb (L.set k { r with M := r.M - unitsM r.M u }) :: refRamS rb n mem' :: cellAt ub (.cells [.int .i64 (u - unitsM r.M u)].toArray ty (0, 0)) :: F) ∧
        (r.D = true → mem' = mem) ∧ (r.D = false → mem' = wipe mem (r.F + r.M - unitsM r.M u) (r.F + r.M)) := by
  refine HCalls.via fun R hR => ?_
  have k1 := rok.lo; have k2 := rok.hi; have k3 := rok.one; have k4 := rok.fit; have k5 := rok.mlo; have k6 := rok.mhi
  have hlt := (List.getElem?_eq_some_iff.1 hr).1
  refine HCalls.of_dev T35 Try.func35 rfl mixed (by kernel_rfl) ?_; rw [Try.results35]
  simp (maxSteps := 2000000) (disch := first | (simp only [go_sem, Nat.reduceBEq, Nat.reduceAdd, Nat.reduceMul, Nat.reduceSub, Nat.reduceEqDiff, Nat.reduceLeDiff, Nat.reduceLT, Int.reduceEq, Int.reduceAdd, Int.reduceSub, Int.reduceMul, Int.reduceNeg, Int.reduceLT, Int.reduceLE, Int.reduceToNat, Int.reduceBEq, Int.reduceNe, reduceCtorEq]; done) | omega | (simp only [go_sem, Nat.reduceBEq, Nat.reduceAdd, Nat.reduceMul, Nat.reduceSub, Nat.reduceEqDiff, Nat.reduceLeDiff, Nat.reduceLT, Int.reduceEq, Int.reduceAdd, Int.reduceSub, Int.reduceMul, Int.reduceNeg, Int.reduceLT, Int.reduceLE, Int.reduceToNat, Int.reduceBEq, Int.reduceNe, reduceCtorEq]; omega)) only [go_sem, Nat.reduceBEq, Nat.reduceAdd, Nat.reduceMul, Nat.reduceSub, Nat.reduceEqDiff, Nat.reduceLeDiff, Nat.reduceLT, Int.reduceEq, Int.reduceAdd, Int.reduceSub, Int.reduceMul, Int.reduceNeg, Int.reduceLT, Int.reduceLE, Int.reduceToNat, Int.reduceBEq, Int.reduceNe, reduceCtorEq, w64_id, w8_id, w16_id, w32_id, tmod_pos, tdiv_pos, Bool.or_true, Bool.true_or, Bool.or_false, Bool.false_or, Bool.and_false, Bool.false_and, condK_decide]
  refine (at_S hs hL first).mono ?_
  rintro v h1 ⟨rfl, rfl⟩
  rw [hk]
  have c00 : ¬ ((k : Int) < 0) := by omega
  simp (maxSteps := 2000000) (disch := first | (simp only [go_sem, Nat.reduceBEq, Nat.reduceAdd, Nat.reduceMul, Nat.reduceSub, Nat.reduceEqDiff, Nat.reduceLeDiff, Nat.reduceLT, Int.reduceEq, Int.reduceAdd, Int.reduceSub, Int.reduceMul, Int.reduceNeg, Int.reduceLT, Int.reduceLE, Int.reduceToNat, Int.reduceBEq, Int.reduceNe, reduceCtorEq, c00]; done) | omega | (simp only [go_sem, Nat.reduceBEq, Nat.reduceAdd, Nat.reduceMul, Nat.reduceSub, Nat.reduceEqDiff, Nat.reduceLeDiff, Nat.reduceLT, Int.reduceEq, Int.reduceAdd, Int.reduceSub, Int.reduceMul, Int.reduceNeg, Int.reduceLT, Int.reduceLE, Int.reduceToNat, Int.reduceBEq, Int.reduceNe, reduceCtorEq, c00]; omega)) only [go_sem, Nat.reduceBEq, Nat.reduceAdd, Nat.reduceMul, Nat.reduceSub, Nat.reduceEqDiff, Nat.reduceLeDiff, Nat.reduceLT, Int.reduceEq, Int.reduceAdd, Int.reduceSub, Int.reduceMul, Int.reduceNeg, Int.reduceLT, Int.reduceLE, Int.reduceToNat, Int.reduceBEq, Int.reduceNe, reduceCtorEq, w64_id, w8_id, w16_id, w32_id, tmod_pos, tdiv_pos, Bool.or_true, Bool.true_or, Bool.or_false, Bool.false_or, Bool.and_false, Bool.false_and, condK_decide, c00]
  refine loopH.intro (fun t : Nat => (.cons 0 (.pointer (some ⟨qb, 0, none⟩)) true (.cons 1 (.pointer (some ⟨rb, 0, none⟩)) true (.cons 2 (.int .i64 first) true (.cons 3 (.pointer (some ⟨ub, 0, none⟩)) true (.cons 9 (.int .i64 k) true .nil))))))
    (fun t h' => (t : Int) ≤ r.M ∧ (t : Int) ≤ u ∧ ∃ mem', Sat h' (refS qb (L.set k { r with M := r.M - t }) :: refRamS rb n mem' :: cellAt ub (.cells [.int .i64 (u - t)].toArray ty (0, 0)) :: F) ∧ (r.D = true → mem' = mem) ∧ (r.D = false → mem' = wipe mem (r.F + r.M - t) (r.F + r.M)))
    (fun t _ => (r.M - t).toNat) 0 ?_ ⟨by omega, by omega, mem, ?_, fun _ => rfl, fun _ => ?_⟩ ?_
  · simp (maxSteps := 2000000) (disch := first | (simp only [go_sem, Nat.reduceBEq, Nat.reduceAdd, Nat.reduceMul, Nat.reduceSub, Nat.reduceEqDiff, Nat.reduceLeDiff, Nat.reduceLT, Int.reduceEq, Int.reduceAdd, Int.reduceSub, Int.reduceMul, Int.reduceNeg, Int.reduceLT, Int.reduceLE, Int.reduceToNat, Int.reduceBEq, Int.reduceNe, reduceCtorEq]; done) | omega | (simp only [go_sem, Nat.reduceBEq, Nat.reduceAdd, Nat.reduceMul, Nat.reduceSub, Nat.reduceEqDiff, Nat.reduceLeDiff, Nat.reduceLT, Int.reduceEq, Int.reduceAdd, Int.reduceSub, Int.reduceMul, Int.reduceNeg, Int.reduceLT, Int.reduceLE, Int.reduceToNat, Int.reduceBEq, Int.reduceNe, reduceCtorEq]; omega)) only [go_sem, Nat.reduceBEq, Nat.reduceAdd, Nat.reduceMul, Nat.reduceSub, Nat.reduceEqDiff, Nat.reduceLeDiff, Nat.reduceLT, Int.reduceEq, Int.reduceAdd, Int.reduceSub, Int.reduceMul, Int.reduceNeg, Int.reduceLT, Int.reduceLE, Int.reduceToNat, Int.reduceBEq, Int.reduceNe, reduceCtorEq, w64_id, w8_id, w16_id, w32_id, tmod_pos, tdiv_pos, Bool.or_true, Bool.true_or, Bool.or_false, Bool.false_or, Bool.and_false, Bool.false_and, condK_decide]
  · have e : L.set k { r with M := r.M - ((0 : Nat) : Int) } = L := by
      rw [show ({ r with M := r.M - ((0 : Nat) : Int) } : Reg) = r by cases r; simp]
      apply List.ext_getElem?
      intro i
      rw [List.getElem?_set]
      by_cases q : k = i
      · subst q; rw [if_pos rfl, if_pos hlt, hr]
      · rw [if_neg q]
    rw [e, show u - ((0 : Nat) : Int) = u by omega]; exact hs
  · rw [show r.F + r.M - ((0 : Nat) : Int) = r.F + r.M by omega, wipe_none]
  rintro t h' ⟨t1, t2, mem', s, m1, m2⟩
  obtain ⟨v, ty1, s0⟩ := refS_iff.1 s
  obtain ⟨lb, cap, cs, ty2, rfl, hcap, hlb, hcs, hget, hset⟩ := (s0.front 1).sliceOpen (by simp; omega)
  have hlen : (L.set k { r with M := r.M - t }).length = L.length := by simp
  rw [hlen] at hcap
  have c0 : (0 : Int) ≤ k := by omega
  have cl : (k : Int) < ((L.set k { r with M := r.M - t }).length : Nat) := by rw [hlen]; omega
  have l1 : k * 4 + 2 < cs.size := by rw [hcs]; omega
  have q1 : (L.set k { r with M := r.M - t })[k]? = some { r with M := r.M - t } := by rw [List.getElem?_set, if_pos rfl, if_pos hlt]
  have g2 : cs[k * 4 + 2]? = some (.int .i64 (r.M - t)) := by
    rw [hget _ (by rw [regsL_len, hlen]; omega), regsL_get _ _ _ (by omega), q1]; rfl
  have g3 : cs[k * 4 + 3]? = some (.bool r.D) := by
    rw [hget _ (by rw [regsL_len, hlen]; omega), regsL_get _ _ _ (by omega), q1]; rfl
  have fin : ∀ z : Int, (t : Int) = unitsM r.M u → z = (if unitsM r.M u < r.M then 3 else 0) → R (.int .i64 z) h' := fun z e hz => hR _ _ ⟨by rw [hz], mem', by rw [← e]; exact s, m1, fun q => by rw [← e]; exact m2 q⟩
  simp (maxSteps := 2000000) (disch := first | (simp only [go_sem, Nat.reduceBEq, Nat.reduceAdd, Nat.reduceMul, Nat.reduceSub, Nat.reduceEqDiff, Nat.reduceLeDiff, Nat.reduceLT, Int.reduceEq, Int.reduceAdd, Int.reduceSub, Int.reduceMul, Int.reduceNeg, Int.reduceLT, Int.reduceLE, Int.reduceToNat, Int.reduceBEq, Int.reduceNe, reduceCtorEq, s0.get, hlb, c0, cl, g2]; done) | omega | (simp only [go_sem, Nat.reduceBEq, Nat.reduceAdd, Nat.reduceMul, Nat.reduceSub, Nat.reduceEqDiff, Nat.reduceLeDiff, Nat.reduceLT, Int.reduceEq, Int.reduceAdd, Int.reduceSub, Int.reduceMul, Int.reduceNeg, Int.reduceLT, Int.reduceLE, Int.reduceToNat, Int.reduceBEq, Int.reduceNe, reduceCtorEq, s0.get, hlb, c0, cl, g2]; omega)) only [go_sem, Nat.reduceBEq, Nat.reduceAdd, Nat.reduceMul, Nat.reduceSub, Nat.reduceEqDiff, Nat.reduceLeDiff, Nat.reduceLT, Int.reduceEq, Int.reduceAdd, Int.reduceSub, Int.reduceMul, Int.reduceNeg, Int.reduceLT, Int.reduceLE, Int.reduceToNat, Int.reduceBEq, Int.reduceNe, reduceCtorEq, w64_id, w8_id, w16_id, w32_id, tmod_pos, tdiv_pos, Bool.or_true, Bool.true_or, Bool.or_false, Bool.false_or, Bool.and_false, Bool.false_and, condK_decide, s0.get, hlb, c0, cl, g2]
  clear hcs hget hset hlb g2 g3 l1 s0
  refine ⟨fun hpos => ?_, fun hpos => ?_⟩
  case refine_2 =>
    exact fin 0 (by unfold unitsM; omega) (by rw [if_neg (by unfold unitsM; omega)])
  refine (take_S (s.front 2) (by omega)).mono ?_
  rintro v h2 (⟨hu0, rfl, rfl⟩ | ⟨hu0, rfl, s2⟩)
  · simp (maxSteps := 2000000) (disch := first | (simp only [go_sem, Nat.reduceBEq, Nat.reduceAdd, Nat.reduceMul, Nat.reduceSub, Nat.reduceEqDiff, Nat.reduceLeDiff, Nat.reduceLT, Int.reduceEq, Int.reduceAdd, Int.reduceSub, Int.reduceMul, Int.reduceNeg, Int.reduceLT, Int.reduceLE, Int.reduceToNat, Int.reduceBEq, Int.reduceNe, reduceCtorEq]; done) | omega | (simp only [go_sem, Nat.reduceBEq, Nat.reduceAdd, Nat.reduceMul, Nat.reduceSub, Nat.reduceEqDiff, Nat.reduceLeDiff, Nat.reduceLT, Int.reduceEq, Int.reduceAdd, Int.reduceSub, Int.reduceMul, Int.reduceNeg, Int.reduceLT, Int.reduceLE, Int.reduceToNat, Int.reduceBEq, Int.reduceNe, reduceCtorEq]; omega)) only [go_sem, Nat.reduceBEq, Nat.reduceAdd, Nat.reduceMul, Nat.reduceSub, Nat.reduceEqDiff, Nat.reduceLeDiff, Nat.reduceLT, Int.reduceEq, Int.reduceAdd, Int.reduceSub, Int.reduceMul, Int.reduceNeg, Int.reduceLT, Int.reduceLE, Int.reduceToNat, Int.reduceBEq, Int.reduceNe, reduceCtorEq, w64_id, w8_id, w16_id, w32_id, tmod_pos, tdiv_pos, Bool.or_true, Bool.true_or, Bool.or_false, Bool.false_or, Bool.and_false, Bool.false_and, condK_decide]
    exact fin 3 (by unfold unitsM; omega) (by rw [if_pos (by unfold unitsM; omega)])
  obtain ⟨v, ty3, s3⟩ := refS_iff.1 (s2.front 1)
  obtain ⟨lb, cap, cs, ty2, rfl, hcap2, hlb, hcs, hget, hset⟩ := (s3.front 1).sliceOpen (by simp; omega)
  rw [hlen] at hcap2
  have l1 : k * 4 + 2 < cs.size := by rw [hcs]; omega
  have g2 : cs[k * 4 + 2]? = some (.int .i64 (r.M - t)) := by
    rw [hget _ (by rw [regsL_len, hlen]; omega), regsL_get _ _ _ (by omega), q1]; rfl
  have g3 : cs[k * 4 + 3]? = some (.bool r.D) := by
    rw [hget _ (by rw [regsL_len, hlen]; omega), regsL_get _ _ _ (by omega), q1]; rfl
  have n2 : (cs.setIfInBounds (k * 4 + 2) (.int .i64 (r.M - t - 1)))[k * 4 + 2]? = some (.int .i64 (r.M - t - 1)) := by rw [Array.getElem?_setIfInBounds, if_pos rfl, if_pos l1]
  have n3 : (cs.setIfInBounds (k * 4 + 2) (.int .i64 (r.M - t - 1)))[k * 4 + 3]? = some (.bool r.D) := by rw [Array.getElem?_setIfInBounds, if_neg (by omega)]; exact g3
  have s4 := hset (k * 4 + 2) (.int .i64 (r.M - t - 1)) (by rw [regsL_len, hlen]; omega) rfl
  have e4 : (regsL (L.set k { r with M := r.M - t })).set (k * 4 + 2) (.int .i64 (r.M - t - 1)) = regsL (L.set k { r with M := r.M - ((t + 1 : Nat) : Int) }) := by
    rw [regsL_set q1, List.set_set]
    congr 3
    omega
  rw [e4] at s4
  have e9 : (L.set k { r with M := r.M - t }).length = (L.set k { r with M := r.M - ((t + 1 : Nat) : Int) }).length := by simp
  have s5 : Sat _ (refS qb (L.set k { r with M := r.M - ((t + 1 : Nat) : Int) }) :: cellAt ub (.cells [.int .i64 (u - t - 1)].toArray ty (0, 0)) :: refRamS rb n mem' :: F) := refS_iff.2 ⟨.slice (some ⟨lb, 0, none⟩) (L.set k { r with M := r.M - t }).length cap, ty3, by rw [← e9]; exact s4.swap⟩
  have n1 := s4.swap.get
  have n0 := get_set_same (o := .cells (cs.setIfInBounds (k * 4 + 2) (.int .i64 (r.M - t - 1))) ty2 (0, 0)) (lt_of_get hlb)
  simp (maxSteps := 2000000) (disch := first | (simp only [go_sem, Nat.reduceBEq, Nat.reduceAdd, Nat.reduceMul, Nat.reduceSub, Nat.reduceEqDiff, Nat.reduceLeDiff, Nat.reduceLT, Int.reduceEq, Int.reduceAdd, Int.reduceSub, Int.reduceMul, Int.reduceNeg, Int.reduceLT, Int.reduceLE, Int.reduceToNat, Int.reduceBEq, Int.reduceNe, reduceCtorEq, s3.get, hlb, c0, cl, g2, l1, n0, n1, n2, n3]; done) | omega | (simp only [go_sem, Nat.reduceBEq, Nat.reduceAdd, Nat.reduceMul, Nat.reduceSub, Nat.reduceEqDiff, Nat.reduceLeDiff, Nat.reduceLT, Int.reduceEq, Int.reduceAdd, Int.reduceSub, Int.reduceMul, Int.reduceNeg, Int.reduceLT, Int.reduceLE, Int.reduceToNat, Int.reduceBEq, Int.reduceNe, reduceCtorEq, s3.get, hlb, c0, cl, g2, l1, n0, n1, n2, n3]; omega)) only [go_sem, Nat.reduceBEq, Nat.reduceAdd, Nat.reduceMul, Nat.reduceSub, Nat.reduceEqDiff, Nat.reduceLeDiff, Nat.reduceLT, Int.reduceEq, Int.reduceAdd, Int.reduceSub, Int.reduceMul, Int.reduceNeg, Int.reduceLT, Int.reduceLE, Int.reduceToNat, Int.reduceBEq, Int.reduceNe, reduceCtorEq, w64_id, w8_id, w16_id, w32_id, tmod_pos, tdiv_pos, Bool.or_true, Bool.true_or, Bool.or_false, Bool.false_or, Bool.and_false, Bool.false_and, condK_decide, s3.get, hlb, c0, cl, g2, l1, n0, n1, n2, n3]
  have eu : u - (t : Int) - 1 = u - ((t + 1 : Nat) : Int) := by omega
  rw [eu] at s5
  refine ⟨fun hd => ?_, fun hd => ?_⟩
  · have hd : r.D = false := by simpa using hd
    have hm := m2 hd
    refine (refClear_S (s5.front 2) _).mono ?_
    rintro v h3 (⟨a1, a2, rfl, s6⟩ | ⟨a1, rfl, s6⟩)
    all_goals
      simp (maxSteps := 2000000) (disch := first | (simp only [go_sem, Nat.reduceBEq, Nat.reduceAdd, Nat.reduceMul, Nat.reduceSub, Nat.reduceEqDiff, Nat.reduceLeDiff, Nat.reduceLT, Int.reduceEq, Int.reduceAdd, Int.reduceSub, Int.reduceMul, Int.reduceNeg, Int.reduceLT, Int.reduceLE, Int.reduceToNat, Int.reduceBEq, Int.reduceNe, reduceCtorEq]; done) | omega | (simp only [go_sem, Nat.reduceBEq, Nat.reduceAdd, Nat.reduceMul, Nat.reduceSub, Nat.reduceEqDiff, Nat.reduceLeDiff, Nat.reduceLT, Int.reduceEq, Int.reduceAdd, Int.reduceSub, Int.reduceMul, Int.reduceNeg, Int.reduceLT, Int.reduceLE, Int.reduceToNat, Int.reduceBEq, Int.reduceNe, reduceCtorEq]; omega)) only [go_sem, Nat.reduceBEq, Nat.reduceAdd, Nat.reduceMul, Nat.reduceSub, Nat.reduceEqDiff, Nat.reduceLeDiff, Nat.reduceLT, Int.reduceEq, Int.reduceAdd, Int.reduceSub, Int.reduceMul, Int.reduceNeg, Int.reduceLT, Int.reduceLE, Int.reduceToNat, Int.reduceBEq, Int.reduceNe, reduceCtorEq, w64_id, w8_id, w16_id, w32_id, tmod_pos, tdiv_pos, Bool.or_true, Bool.true_or, Bool.or_false, Bool.false_or, Bool.and_false, Bool.false_and, condK_decide]
      refine ⟨t + 1, rfl, ⟨by omega, by omega, wipe mem (r.F + r.M - ((t + 1 : Nat) : Int)) (r.F + r.M), ?_, fun q => (by rw [hd] at q; cases q), fun _ => rfl⟩, by simp only; omega⟩
      refine Sat.swap (refRamS_congr s6 fun j hj => ?_)
      rw [hm]
      unfold wipe
      by_cases c1 : 64 * (r.F + r.M - t) ≤ (j : Int) ∧ (j : Int) < 64 * (r.F + r.M)
      · simp only [if_pos c1, ite_self]; first | done | rw [if_pos (by omega)]
      · simp only [if_neg c1]
        by_cases c2 : 64 * (r.F + r.M - ((t + 1 : Nat) : Int)) ≤ (j : Int) ∧ (j : Int) < 64 * (r.F + r.M)
        · rw [if_pos c2]; first | rw [if_pos (by omega)] | (exfalso; omega)
        · rw [if_neg c2] <;> try (rw [if_neg (by omega)])
  · have hd : r.D = true := by simpa using hd
    exact ⟨t + 1, rfl, ⟨by omega, by omega, mem', (s5.front 2).front 1, m1, fun q => (by rw [hd] at q; cases q)⟩, by simp only; omega⟩
end
end Go.Eng
