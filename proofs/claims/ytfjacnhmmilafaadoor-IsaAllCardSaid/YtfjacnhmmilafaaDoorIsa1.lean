/-
  strings.Split at one blank, as isa calls it.
-/
import Derived.Test.YtfjacnhmmilafaaDoorTy
import Derived.Test.YtfjacnhmmilafaaDoorEng16
import Derived.Test.YtfjacnhmmilafaaDoorEng12
import Derived.Test.YtfjacnhmmilafaaDoorFromC
import Derived.Test.YtfjacnhmmilafaaDoorShfIsa
namespace Go.Eng
set_option linter.unusedSimpArgs false
set_option linter.unusedVariables false
set_option maxRecDepth 16000
set_option maxHeartbeats 4000000
open Go Go.Proofs
def spB : ByteArray := ⟨#[32]⟩
theorem sp_ne : (({ data := #[32] } : ByteArray).toList == ({ data := #[] } : ByteArray).toList) = false := by decide +kernel
structure SplitOk (s : ByteArray) (N : Nat) (suf part : Nat → ByteArray) : Prop where
  zero : suf 0 = s
  cnt : Lib.countByte s.data.toList 32 = N
  idx : ∀ i, i < N → ∃ m : Nat, Lib.indexByte (suf i).data.toList 32 = m ∧ m + 1 ≤ (suf i).size ∧ part i = (suf i).extract 0 m ∧ suf (i + 1) = (suf i).extract (m + 1) (suf i).size
  last : part N = suf N
  small : N ≤ s.size
  big : s.size ≤ 1000000
  sz : ∀ i, i ≤ N → (suf i).size ≤ 1000000
def strL (part : Nat → ByteArray) (n : Nat) : List Value := (List.range n).map fun i => .string (part i)
def mixL (part : Nat → ByteArray) (n i : Nat) : List Value := (List.range n).map fun j => if j < i then .string (part j) else .string ⟨#[]⟩
theorem mixL_len (part : Nat → ByteArray) (n i : Nat) : (mixL part n i).length = n := by simp [mixL]
theorem mixL_get (part : Nat → ByteArray) {n i j : Nat} (hj : j < n) : (mixL part n i)[j]? = some (if j < i then .string (part j) else .string ⟨#[]⟩) := by simp [mixL, hj]
theorem mixL_set (part : Nat → ByteArray) {n i : Nat} (hi : i < n) : (mixL part n i).set i (.string (part i)) = mixL part n (i + 1) := by
  apply List.ext_getElem?
  intro j
  rw [List.getElem?_set, mixL_len]
  by_cases hj : j < n
  · rw [mixL_get part hj, mixL_get part hj]
    by_cases e : i = j
    · subst e; rw [if_pos rfl, if_pos hi, if_pos (by omega)]
    · rw [if_neg e]
      by_cases q : j < i
      · rw [if_pos q, if_pos (by omega)]
      · rw [if_neg q, if_neg (by omega)]
  · rw [if_neg (by omega), List.getElem?_eq_none (by rw [mixL_len]; omega), List.getElem?_eq_none (by rw [mixL_len]; omega)]
section
variable {h : Heap}
theorem count_S (s : ByteArray) : HCalls Tryd.prog 52 #[.string s, .string ⟨#[32]⟩] h fun v h' => v = .int .i64 (Lib.countByte s.data.toList 32) ∧ h' = h := HCalls.of_pure fun w => Tryd.strings_Count_one s 32 w
theorem index_S (s : ByteArray) : HCalls Tryd.prog 53 #[.string s, .string ⟨#[32]⟩] h fun v h' => v = .int .i64 (Lib.indexByte s.data.toList 32) ∧ h' = h := HCalls.of_pure fun w => Tryd.strings_Index_one s 32 w
theorem genSplit_S {s : ByteArray} {N : Nat} {suf part : Nat → ByteArray} (ok : SplitOk s N suf part) (hN : N ≤ 1000) (hz : zrow Tryd.prog 51 (N + 1) = (List.replicate (N + 1) (.string ⟨#[]⟩)).toArray) :
    HCalls Tryd.prog 35 #[.string s, .string ⟨#[32]⟩, .int .i64 0, .int .i64 (-1)] h fun v h' => Sat h' [sliceS 1 (N + 1) v (strL part (N + 1)), oldS h] := by
  refine HCalls.via fun R hR => ?_
  have hb := ok.big
  have hsm := ok.small
  refine HCalls.of_dev T35 Tryd.func35 rfl mixed (by kernel_rfl) ?_; rw [Tryd.results35]
  simp (maxSteps := 2000000) (disch := first | (simp only [go_sem, Nat.reduceBEq, Nat.reduceAdd, Nat.reduceMul, Nat.reduceSub, Nat.reduceEqDiff, Nat.reduceLeDiff, Nat.reduceLT, Int.reduceEq, Int.reduceAdd, Int.reduceSub, Int.reduceMul, Int.reduceNeg, Int.reduceLT, Int.reduceLE, Int.reduceToNat, Int.reduceBEq, Int.reduceNe, reduceCtorEq, sp_ne]; done) | omega | (simp only [go_sem, Nat.reduceBEq, Nat.reduceAdd, Nat.reduceMul, Nat.reduceSub, Nat.reduceEqDiff, Nat.reduceLeDiff, Nat.reduceLT, Int.reduceEq, Int.reduceAdd, Int.reduceSub, Int.reduceMul, Int.reduceNeg, Int.reduceLT, Int.reduceLE, Int.reduceToNat, Int.reduceBEq, Int.reduceNe, reduceCtorEq, sp_ne]; omega)) only [go_sem, Nat.reduceBEq, Nat.reduceAdd, Nat.reduceMul, Nat.reduceSub, Nat.reduceEqDiff, Nat.reduceLeDiff, Nat.reduceLT, Int.reduceEq, Int.reduceAdd, Int.reduceSub, Int.reduceMul, Int.reduceNeg, Int.reduceLT, Int.reduceLE, Int.reduceToNat, Int.reduceBEq, Int.reduceNe, reduceCtorEq, w64_id, w8_id, w16_id, w32_id, tmod_pos, tdiv_pos, Bool.or_true, Bool.true_or, Bool.or_false, Bool.false_or, Bool.and_false, Bool.false_and, condK_decide, sp_ne]
  refine (count_S s).mono ?_
  rintro v h' ⟨rfl, rfl⟩
  rw [ok.cnt]
  simp (maxSteps := 2000000) (disch := first | (simp only [go_sem, Nat.reduceBEq, Nat.reduceAdd, Nat.reduceMul, Nat.reduceSub, Nat.reduceEqDiff, Nat.reduceLeDiff, Nat.reduceLT, Int.reduceEq, Int.reduceAdd, Int.reduceSub, Int.reduceMul, Int.reduceNeg, Int.reduceLT, Int.reduceLE, Int.reduceToNat, Int.reduceBEq, Int.reduceNe, reduceCtorEq, sp_ne]; done) | omega | (simp only [go_sem, Nat.reduceBEq, Nat.reduceAdd, Nat.reduceMul, Nat.reduceSub, Nat.reduceEqDiff, Nat.reduceLeDiff, Nat.reduceLT, Int.reduceEq, Int.reduceAdd, Int.reduceSub, Int.reduceMul, Int.reduceNeg, Int.reduceLT, Int.reduceLE, Int.reduceToNat, Int.reduceBEq, Int.reduceNe, reduceCtorEq, sp_ne]; omega)) only [go_sem, Nat.reduceBEq, Nat.reduceAdd, Nat.reduceMul, Nat.reduceSub, Nat.reduceEqDiff, Nat.reduceLeDiff, Nat.reduceLT, Int.reduceEq, Int.reduceAdd, Int.reduceSub, Int.reduceMul, Int.reduceNeg, Int.reduceLT, Int.reduceLE, Int.reduceToNat, Int.reduceBEq, Int.reduceNe, reduceCtorEq, w64_id, w8_id, w16_id, w32_id, tmod_pos, tdiv_pos, Bool.or_true, Bool.true_or, Bool.or_false, Bool.false_or, Bool.and_false, Bool.false_and, condK_decide, sp_ne]
  have hmin : min ((N : Int) + 1) ((s.size : Int) + 1) = ((N + 1 : Nat) : Int) := by omega
  have b1 : (tbytes Tryd.prog (sliceElem Tryd.prog 51)).getD 0 * (N + 1) ≤ 281474976710656 := by
    rw [selem_51, tbytes_9]; simp only [Option.getD_some]; omega
  have ec : (Obj.cells (zrow Tryd.prog 51 (N + 1)) (sliceElem Tryd.prog 51) (0, 0)) = Obj.cells (mixL part (N + 1) 0).toArray 9 (0, 0) := by
    rw [hz, selem_51]
    congr 1
    congr 1
    apply List.ext_getElem?
    intro j
    by_cases hj : j < N + 1
    · rw [mixL_get part hj, List.getElem?_replicate, if_pos hj, if_neg (by omega)]
    · rw [List.getElem?_eq_none (by rw [List.length_replicate]; omega), List.getElem?_eq_none (by rw [mixL_len]; omega)]
  rw [hmin, runH_makeSlice (n := N + 1) (by rfl) (by rfl) b1 (by omega), ec]
  have s1 := (Sat.init h').push (.cells (mixL part (N + 1) 0).toArray 9 (0, 0))
  simp (maxSteps := 2000000) (disch := first | (simp only [go_sem, Nat.reduceBEq, Nat.reduceAdd, Nat.reduceMul, Nat.reduceSub, Nat.reduceEqDiff, Nat.reduceLeDiff, Nat.reduceLT, Int.reduceEq, Int.reduceAdd, Int.reduceSub, Int.reduceMul, Int.reduceNeg, Int.reduceLT, Int.reduceLE, Int.reduceToNat, Int.reduceBEq, Int.reduceNe, reduceCtorEq]; done) | omega | (simp only [go_sem, Nat.reduceBEq, Nat.reduceAdd, Nat.reduceMul, Nat.reduceSub, Nat.reduceEqDiff, Nat.reduceLeDiff, Nat.reduceLT, Int.reduceEq, Int.reduceAdd, Int.reduceSub, Int.reduceMul, Int.reduceNeg, Int.reduceLT, Int.reduceLE, Int.reduceToNat, Int.reduceBEq, Int.reduceNe, reduceCtorEq]; omega)) only [go_sem, Nat.reduceBEq, Nat.reduceAdd, Nat.reduceMul, Nat.reduceSub, Nat.reduceEqDiff, Nat.reduceLeDiff, Nat.reduceLT, Int.reduceEq, Int.reduceAdd, Int.reduceSub, Int.reduceMul, Int.reduceNeg, Int.reduceLT, Int.reduceLE, Int.reduceToNat, Int.reduceBEq, Int.reduceNe, reduceCtorEq, w64_id, w8_id, w16_id, w32_id, tmod_pos, tdiv_pos, Bool.or_true, Bool.true_or, Bool.or_false, Bool.false_or, Bool.and_false, Bool.false_and, condK_decide]
  refine loopH.intro (fun i : Nat => (.cons 0 (.string (suf i)) true (.cons 1 (.string ⟨#[32]⟩) true (.cons 2 (.int .i64 0) true (.cons 3 (.int .i64 N) true (.cons 9 (.slice (some ⟨h'.size, 0, none⟩) (N + 1) (N + 1)) true (.cons 10 (.int .i64 i) true .nil)))))))
    (fun i k => Sat k [cellAt h'.size (.cells (mixL part (N + 1) i).toArray 9 (0, 0)), oldS h'] ∧ i ≤ N) (fun i _ => N + 1 - i) 0 ?_ ⟨s1, by omega⟩ ?_
  · simp (maxSteps := 2000000) (disch := first | (simp only [go_sem, Nat.reduceBEq, Nat.reduceAdd, Nat.reduceMul, Nat.reduceSub, Nat.reduceEqDiff, Nat.reduceLeDiff, Nat.reduceLT, Int.reduceEq, Int.reduceAdd, Int.reduceSub, Int.reduceMul, Int.reduceNeg, Int.reduceLT, Int.reduceLE, Int.reduceToNat, Int.reduceBEq, Int.reduceNe, reduceCtorEq]; done) | omega | (simp only [go_sem, Nat.reduceBEq, Nat.reduceAdd, Nat.reduceMul, Nat.reduceSub, Nat.reduceEqDiff, Nat.reduceLeDiff, Nat.reduceLT, Int.reduceEq, Int.reduceAdd, Int.reduceSub, Int.reduceMul, Int.reduceNeg, Int.reduceLT, Int.reduceLE, Int.reduceToNat, Int.reduceBEq, Int.reduceNe, reduceCtorEq]; omega)) only [go_sem, Nat.reduceBEq, Nat.reduceAdd, Nat.reduceMul, Nat.reduceSub, Nat.reduceEqDiff, Nat.reduceLeDiff, Nat.reduceLT, Int.reduceEq, Int.reduceAdd, Int.reduceSub, Int.reduceMul, Int.reduceNeg, Int.reduceLT, Int.reduceLE, Int.reduceToNat, Int.reduceBEq, Int.reduceNe, reduceCtorEq, w64_id, w8_id, w16_id, w32_id, tmod_pos, tdiv_pos, Bool.or_true, Bool.true_or, Bool.or_false, Bool.false_or, Bool.and_false, Bool.false_and, condK_decide]
    rw [ok.zero, show ((N + 1 : Nat) : Int) - 1 = N by omega]
    rfl
  clear s1 ec
  rintro i k ⟨s, hi⟩
  have hlen := mixL_len part (N + 1) i
  by_cases q : i < N
  · obtain ⟨m, e1, e2, e3, e4⟩ := ok.idx i q
    have q2 : (i : Int) < N := by omega
    simp (maxSteps := 2000000) (disch := first | (simp only [go_sem, Nat.reduceBEq, Nat.reduceAdd, Nat.reduceMul, Nat.reduceSub, Nat.reduceEqDiff, Nat.reduceLeDiff, Nat.reduceLT, Int.reduceEq, Int.reduceAdd, Int.reduceSub, Int.reduceMul, Int.reduceNeg, Int.reduceLT, Int.reduceLE, Int.reduceToNat, Int.reduceBEq, Int.reduceNe, reduceCtorEq, q2]; done) | omega | (simp only [go_sem, Nat.reduceBEq, Nat.reduceAdd, Nat.reduceMul, Nat.reduceSub, Nat.reduceEqDiff, Nat.reduceLeDiff, Nat.reduceLT, Int.reduceEq, Int.reduceAdd, Int.reduceSub, Int.reduceMul, Int.reduceNeg, Int.reduceLT, Int.reduceLE, Int.reduceToNat, Int.reduceBEq, Int.reduceNe, reduceCtorEq, q2]; omega)) only [go_sem, Nat.reduceBEq, Nat.reduceAdd, Nat.reduceMul, Nat.reduceSub, Nat.reduceEqDiff, Nat.reduceLeDiff, Nat.reduceLT, Int.reduceEq, Int.reduceAdd, Int.reduceSub, Int.reduceMul, Int.reduceNeg, Int.reduceLT, Int.reduceLE, Int.reduceToNat, Int.reduceBEq, Int.reduceNe, reduceCtorEq, w64_id, w8_id, w16_id, w32_id, tmod_pos, tdiv_pos, Bool.or_true, Bool.true_or, Bool.or_false, Bool.false_or, Bool.and_false, Bool.false_and, condK_decide, q2]
    refine (index_S (suf i)).mono ?_
    rintro v k2 ⟨rfl, rfl⟩
    rw [e1]
    have m0 : ¬ (m : Int) < 0 := by omega
    have hsz := ok.sz i hi
    have wr0 : IntKind.i64.wrap ((m : Int) + 0) = m := by rw [Int.add_zero]; exact w64_id (by omega) (by omega)
    have wr1 : IntKind.i64.wrap ((m : Int) + ((1 : Nat) : Int)) = ((m + 1 : Nat) : Int) := by rw [w64_id (by omega) (by omega)]; rfl
    have sl1 : ∀ h : Heap, runD Tryd.prog (iSliceAt 9 (.string (suf i)) none (some (.int .i64 m)) none) h = some (.string ((suf i).extract 0 m)) := fun h => runD_slice_str isStr_9 (sliceBounds_to (by omega))
    have sl2 : ∀ h : Heap, runD Tryd.prog (iSliceAt 9 (.string (suf i)) (some (.int .i64 ((m + 1 : Nat) : Int))) none none) h = some (.string ((suf i).extract (m + 1) (suf i).size)) := fun h => runD_slice_str isStr_9 (sliceBounds_from (by omega))
    simp (maxSteps := 2000000) (disch := first | (simp only [go_sem, Nat.reduceBEq, Nat.reduceAdd, Nat.reduceMul, Nat.reduceSub, Nat.reduceEqDiff, Nat.reduceLeDiff, Nat.reduceLT, Int.reduceEq, Int.reduceAdd, Int.reduceSub, Int.reduceMul, Int.reduceNeg, Int.reduceLT, Int.reduceLE, Int.reduceToNat, Int.reduceBEq, Int.reduceNe, reduceCtorEq, q2, m0, wr0, wr1, sl1, sl2, s.get]; done) | omega | (simp only [go_sem, Nat.reduceBEq, Nat.reduceAdd, Nat.reduceMul, Nat.reduceSub, Nat.reduceEqDiff, Nat.reduceLeDiff, Nat.reduceLT, Int.reduceEq, Int.reduceAdd, Int.reduceSub, Int.reduceMul, Int.reduceNeg, Int.reduceLT, Int.reduceLE, Int.reduceToNat, Int.reduceBEq, Int.reduceNe, reduceCtorEq, q2, m0, wr0, wr1, sl1, sl2, s.get]; omega)) only [go_sem, Nat.reduceBEq, Nat.reduceAdd, Nat.reduceMul, Nat.reduceSub, Nat.reduceEqDiff, Nat.reduceLeDiff, Nat.reduceLT, Int.reduceEq, Int.reduceAdd, Int.reduceSub, Int.reduceMul, Int.reduceNeg, Int.reduceLT, Int.reduceLE, Int.reduceToNat, Int.reduceBEq, Int.reduceNe, reduceCtorEq, w64_id, w8_id, w16_id, w32_id, tmod_pos, tdiv_pos, Bool.or_true, Bool.true_or, Bool.or_false, Bool.false_or, Bool.and_false, Bool.false_and, condK_decide, q2, m0, wr0, wr1, sl1, sl2, s.get]
    refine ⟨by omega, ?_⟩
    rw [← e3, ← e4, mixL_set part (by omega)]
    exact ⟨i + 1, rfl, ⟨s.set _, by omega⟩, by simp only; omega⟩
  · have q2 : ¬ (i : Int) < N := by omega
    obtain rfl : i = N := by omega
    have sl3 : ∀ h : Heap, runD Tryd.prog (iSliceAt 51 (.slice (some ⟨h'.size, 0, none⟩) (i + 1) (i + 1)) none (some (.int .i64 ((i : Int) + 1))) none) h = some (.slice (some ⟨h'.size, 0, none⟩) (i + 1) (i + 1)) := fun h => by
      rw [show ((i : Int) + 1) = ((i + 1 : Nat) : Int) by omega, runD_slice_slice isSlice_51 (sliceBounds_to (by omega))]
      simp [add_mk]
    simp (maxSteps := 2000000) (disch := first | (simp only [go_sem, Nat.reduceBEq, Nat.reduceAdd, Nat.reduceMul, Nat.reduceSub, Nat.reduceEqDiff, Nat.reduceLeDiff, Nat.reduceLT, Int.reduceEq, Int.reduceAdd, Int.reduceSub, Int.reduceMul, Int.reduceNeg, Int.reduceLT, Int.reduceLE, Int.reduceToNat, Int.reduceBEq, Int.reduceNe, reduceCtorEq, q2, s.get, sl3]; done) | omega | (simp only [go_sem, Nat.reduceBEq, Nat.reduceAdd, Nat.reduceMul, Nat.reduceSub, Nat.reduceEqDiff, Nat.reduceLeDiff, Nat.reduceLT, Int.reduceEq, Int.reduceAdd, Int.reduceSub, Int.reduceMul, Int.reduceNeg, Int.reduceLT, Int.reduceLE, Int.reduceToNat, Int.reduceBEq, Int.reduceNe, reduceCtorEq, q2, s.get, sl3]; omega)) only [go_sem, Nat.reduceBEq, Nat.reduceAdd, Nat.reduceMul, Nat.reduceSub, Nat.reduceEqDiff, Nat.reduceLeDiff, Nat.reduceLT, Int.reduceEq, Int.reduceAdd, Int.reduceSub, Int.reduceMul, Int.reduceNeg, Int.reduceLT, Int.reduceLE, Int.reduceToNat, Int.reduceBEq, Int.reduceNe, reduceCtorEq, w64_id, w8_id, w16_id, w32_id, tmod_pos, tdiv_pos, Bool.or_true, Bool.true_or, Bool.or_false, Bool.false_or, Bool.and_false, Bool.false_and, condK_decide, q2, s.get, sl3]
    refine ⟨by omega, ?_⟩
    rw [← ok.last, mixL_set part (by omega)]
    have s2 := s.set (.cells (mixL part (i + 1) (i + 1)).toArray 9 (0, 0))
    have hall : mixL part (i + 1) (i + 1) = strL part (i + 1) := by
      apply List.ext_getElem?
      intro j
      by_cases hj : j < i + 1
      · rw [mixL_get part hj, if_pos hj]; simp [strL, hj]
      · rw [List.getElem?_eq_none (by rw [mixL_len]; omega), List.getElem?_eq_none (by simp [strL]; omega)]
    rw [hall] at s2 ⊢
    have hl : (strL part (i + 1)).length = i + 1 := by simp [strL]
    exact hR _ _ (s2.toSlice (sz := 1) (by rw [hl]; omega) (fun x hx => by simp only [strL, List.mem_map] at hx; obtain ⟨j, -, rfl⟩ := hx; rfl) (Nat.le_refl _) (by rw [List.size_toArray, hl]; omega) (fun j hj => by simp))
theorem split_S {s : ByteArray} {N : Nat} {suf part : Nat → ByteArray} (ok : SplitOk s N suf part) (hN : N ≤ 1000) (hz : zrow Tryd.prog 51 (N + 1) = (List.replicate (N + 1) (.string ⟨#[]⟩)).toArray) :
    HCalls Tryd.prog 30 #[.string s, .string ⟨#[32]⟩] h fun v h' => Sat h' [sliceS 1 (N + 1) v (strL part (N + 1)), oldS h] := by
  refine HCalls.via fun R hR => ?_
  refine HCalls.of_dev T30 Tryd.func30 rfl mixed (by kernel_rfl) ?_; rw [Tryd.results30]
  simp (maxSteps := 2000000) (disch := first | (simp only [go_sem, Nat.reduceBEq, Nat.reduceAdd, Nat.reduceMul, Nat.reduceSub, Nat.reduceEqDiff, Nat.reduceLeDiff, Nat.reduceLT, Int.reduceEq, Int.reduceAdd, Int.reduceSub, Int.reduceMul, Int.reduceNeg, Int.reduceLT, Int.reduceLE, Int.reduceToNat, Int.reduceBEq, Int.reduceNe, reduceCtorEq]; done) | omega | (simp only [go_sem, Nat.reduceBEq, Nat.reduceAdd, Nat.reduceMul, Nat.reduceSub, Nat.reduceEqDiff, Nat.reduceLeDiff, Nat.reduceLT, Int.reduceEq, Int.reduceAdd, Int.reduceSub, Int.reduceMul, Int.reduceNeg, Int.reduceLT, Int.reduceLE, Int.reduceToNat, Int.reduceBEq, Int.reduceNe, reduceCtorEq]; omega)) only [go_sem, Nat.reduceBEq, Nat.reduceAdd, Nat.reduceMul, Nat.reduceSub, Nat.reduceEqDiff, Nat.reduceLeDiff, Nat.reduceLT, Int.reduceEq, Int.reduceAdd, Int.reduceSub, Int.reduceMul, Int.reduceNeg, Int.reduceLT, Int.reduceLE, Int.reduceToNat, Int.reduceBEq, Int.reduceNe, reduceCtorEq, w64_id, w8_id, w16_id, w32_id, tmod_pos, tdiv_pos, Bool.or_true, Bool.true_or, Bool.or_false, Bool.false_or, Bool.and_false, Bool.false_and, condK_decide]
  refine (genSplit_S ok hN hz).mono ?_
  rintro v h' s
  obtain ⟨sl, cap, rfl, -⟩ := s.elems
  simp (maxSteps := 2000000) (disch := first | (simp only [go_sem, Nat.reduceBEq, Nat.reduceAdd, Nat.reduceMul, Nat.reduceSub, Nat.reduceEqDiff, Nat.reduceLeDiff, Nat.reduceLT, Int.reduceEq, Int.reduceAdd, Int.reduceSub, Int.reduceMul, Int.reduceNeg, Int.reduceLT, Int.reduceLE, Int.reduceToNat, Int.reduceBEq, Int.reduceNe, reduceCtorEq]; done) | omega | (simp only [go_sem, Nat.reduceBEq, Nat.reduceAdd, Nat.reduceMul, Nat.reduceSub, Nat.reduceEqDiff, Nat.reduceLeDiff, Nat.reduceLT, Int.reduceEq, Int.reduceAdd, Int.reduceSub, Int.reduceMul, Int.reduceNeg, Int.reduceLT, Int.reduceLE, Int.reduceToNat, Int.reduceBEq, Int.reduceNe, reduceCtorEq]; omega)) only [go_sem, Nat.reduceBEq, Nat.reduceAdd, Nat.reduceMul, Nat.reduceSub, Nat.reduceEqDiff, Nat.reduceLeDiff, Nat.reduceLT, Int.reduceEq, Int.reduceAdd, Int.reduceSub, Int.reduceMul, Int.reduceNeg, Int.reduceLT, Int.reduceLE, Int.reduceToNat, Int.reduceBEq, Int.reduceNe, reduceCtorEq, w64_id, w8_id, w16_id, w32_id, tmod_pos, tdiv_pos, Bool.or_true, Bool.true_or, Bool.or_false, Bool.false_or, Bool.and_false, Bool.false_and, condK_decide]
  exact hR _ _ s
end
end Go.Eng
