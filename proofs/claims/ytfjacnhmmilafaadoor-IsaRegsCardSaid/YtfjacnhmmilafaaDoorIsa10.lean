/-
  package isa: Reads.
-/
import Derived.Test.YtfjacnhmmilafaaDoorIsa9
import Derived.Test.YtfjacnhmmilafaaDoorMapR
import Derived.Test.YtfjacnhmmilafaaDoorSrtI
namespace Go.Eng
set_option linter.unusedSimpArgs false
set_option linter.unusedVariables false
set_option maxRecDepth 16000
set_option maxHeartbeats 4000000
open Go Go.Proofs
def rv (i : Ins) (b : UInt8) : Int := if b.toNat = 97 then i.A else if b.toNat = 98 then i.B else if b.toNat = 99 then i.C else 0
def rl (op : Int) (j : Nat) : List UInt8 := ((rgO op).take j).drop (if wrO op then 1 else 0)
theorem rl_skip {op : Int} (w : wrO op = true) : rl op 1 = rl op 0 := by
  unfold rl
  rw [w, if_pos rfl]
  cases rgO op <;> rfl
theorem rl_add {op : Int} {j : Nat} {b : UInt8} (hb : (rgO op)[j]? = some b) (w : ¬ (wrO op = true ∧ j = 0)) : rl op (j + 1) = rl op j ++ [b] := by
  unfold rl
  have hj : j < (rgO op).length := by
    rw [List.getElem?_eq_some_iff] at hb
    exact hb.1
  have ht : (rgO op).take (j + 1) = (rgO op).take j ++ [b] := by rw [List.take_add_one, hb]; rfl
  rw [ht, List.drop_append_of_le_length]
  rw [List.length_take]
  cases hw : wrO op with
  | false => simp
  | true =>
    have : j ≠ 0 := fun e => w ⟨hw, e⟩
    simp only [if_true]
    omega
theorem rgO_asc (op : Int) : ∀ b ∈ rgO op, b.toNat < 128 := by
  unfold rgO
  repeat' split
  all_goals simp
theorem rgO_len (op : Int) : (rgO op).length ≤ 3 := by
  unfold rgO
  repeat' split
  all_goals simp
def rr (op : Int) : List UInt8 :=
  if op = 2 ∨ op = 3 ∨ op = 4 ∨ op = 5 ∨ op = 6 then [98, 99] else if op = 7 ∨ op = 9 ∨ op = 16 ∨ op = 20 ∨ op = 23 then [98]
  else if op = 8 ∨ op = 10 ∨ op = 11 ∨ op = 12 ∨ op = 13 then [97, 98] else []
theorem rr_tab : ∀ o : Nat, o < 26 → 1 ≤ o → (rgO o).drop (if wrO o then 1 else 0) = rr o := by decide +kernel
theorem rr_eq (op : Int) : rl op (rgO op).length = rr op := by
  unfold rl
  rw [List.take_length]
  by_cases c : 1 ≤ op ∧ op ≤ 25
  · obtain ⟨o, rfl⟩ := Int.eq_ofNat_of_zero_le (show 0 ≤ op by omega)
    exact rr_tab o (by omega) (by omega)
  · have e1 : rgO op = [] := by
      unfold rgO
      rw [if_neg (by omega), if_neg (by omega), if_neg (by omega), if_neg (by omega)]
    have e2 : rr op = [] := by
      unfold rr
      rw [if_neg (by omega), if_neg (by omega), if_neg (by omega)]
    rw [e1, e2]; simp
theorem compact_one (a : Int) : Lib.compact [a] = [a] := by
  simp [Lib.compact, Lib.compactUpTo, Lib.keeps, List.range_succ]
theorem compact_two (a b : Int) : Lib.compact [a, b] = if a = b then [a] else [a, b] := by
  by_cases c : a = b
  · subst c
    simp [Lib.compact, Lib.compactUpTo, Lib.keeps, List.range_succ]
  · have c2 : ¬ b = a := fun e => c e.symm
    simp [Lib.compact, Lib.compactUpTo, Lib.keeps, List.range_succ, c, c2]
theorem sort_two (a b : Int) : [a, b].mergeSort (fun x y => decide (x ≤ y)) = if a ≤ b then [a, b] else [b, a] := by
  by_cases c : a ≤ b <;> simp [List.mergeSort, List.MergeSort.Internal.splitInTwo, c]
theorem sort_compact (a b : Int) : Lib.compact ([a, b].mergeSort fun x y => decide (x ≤ y)) = two a b := by
  rw [sort_two]
  unfold two
  by_cases c : a ≤ b
  · rw [if_pos c, compact_two]
    by_cases d : a = b
    · rw [if_pos d, if_pos d]
    · rw [if_neg d, if_neg d, if_pos (by omega)]
  · rw [if_neg c, compact_two, if_neg (by omega), if_neg (by omega), if_neg (by omega)]
theorem reads_plain (i : Ins) : Lib.compact (((rl i.Op (rgO i.Op).length).map (rv i)).mergeSort fun x y => decide (x ≤ y)) = rdP i := by
  rw [rr_eq]
  unfold rr rdP
  split
  · exact sort_compact i.B i.C
  split
  · have : two i.B i.B = [i.B] := by unfold two; rw [if_pos rfl]
    rw [this]
    show Lib.compact ([i.B].mergeSort _) = _
    rw [List.mergeSort_singleton, compact_one]
  split
  · exact sort_compact i.A i.B
  · rw [List.map_nil, List.mergeSort_nil]
    exact List.eq_nil_of_length_eq_zero (Nat.le_zero.1 (Lib.compact_length_le []))
theorem find_rv (i : Ins) (b : UInt8) : ∃ o, Instr.findNow (.int .i32) (.int .i32 (b.toNat : Int)) (((#[].push ⟨.int .i32 97, .int .i64 i.A, 0⟩).push ⟨.int .i32 98, .int .i64 i.B, 0 + 1⟩).push ⟨.int .i32 99, .int .i64 i.C, 0 + 1 + 1⟩ : Array MapEntry).toList 0 = some o ∧ (o.map (·.2)).getD (.int .i64 0) = .int .i64 (rv i b) := by
  unfold rv
  by_cases c1 : b.toNat = 97
  · rw [c1]; exact ⟨_, rfl, rfl⟩
  by_cases c2 : b.toNat = 98
  · rw [c2]; exact ⟨_, rfl, rfl⟩
  by_cases c3 : b.toNat = 99
  · rw [c3]; exact ⟨_, rfl, rfl⟩
  rw [if_neg c1, if_neg c2, if_neg c3]
  refine ⟨none, ?_, rfl⟩
  have d1 : ((b.toNat : Int) == 97) = false := by simpa using (by omega : ¬ (b.toNat : Int) = 97)
  have d2 : ((b.toNat : Int) == 98) = false := by simpa using (by omega : ¬ (b.toNat : Int) = 98)
  have d3 : ((b.toNat : Int) == 99) = false := by simpa using (by omega : ¬ (b.toNat : Int) = 99)
  simp only [Array.toList_push, List.nil_append, List.cons_append, Instr.findNow, Instr.sameNow, if_true, d1, d2, d3]
section
variable {h : Heap}
theorem reads_S (i : Ins) : HCalls Tryd.prog 17 #[.agg i.cells.toArray] h fun v h' => Sat h' [sliceS 1 (rdI i).length v ((rdI i).map (Value.int .i64)), oldS h] := by
  refine HCalls.via fun R hR => ?_
  refine HCalls.of_dev T17 Tryd.func17 rfl mixed (by kernel_rfl) ?_; rw [Tryd.results17]
  simp (maxSteps := 2000000) (disch := first | (simp only [go_sem, Nat.reduceBEq, Nat.reduceAdd, Nat.reduceMul, Nat.reduceSub, Nat.reduceEqDiff, Nat.reduceLeDiff, Nat.reduceLT, Int.reduceEq, Int.reduceAdd, Int.reduceSub, Int.reduceMul, Int.reduceNeg, Int.reduceLT, Int.reduceLE, Int.reduceToNat, Int.reduceBEq, Int.reduceNe, reduceCtorEq]; done) | omega | (simp only [go_sem, Nat.reduceBEq, Nat.reduceAdd, Nat.reduceMul, Nat.reduceSub, Nat.reduceEqDiff, Nat.reduceLeDiff, Nat.reduceLT, Int.reduceEq, Int.reduceAdd, Int.reduceSub, Int.reduceMul, Int.reduceNeg, Int.reduceLT, Int.reduceLE, Int.reduceToNat, Int.reduceBEq, Int.reduceNe, reduceCtorEq]; omega)) only [go_sem, Nat.reduceBEq, Nat.reduceAdd, Nat.reduceMul, Nat.reduceSub, Nat.reduceEqDiff, Nat.reduceLeDiff, Nat.reduceLT, Int.reduceEq, Int.reduceAdd, Int.reduceSub, Int.reduceMul, Int.reduceNeg, Int.reduceLT, Int.reduceLE, Int.reduceToNat, Int.reduceBEq, Int.reduceNe, reduceCtorEq, w64_id, w8_id, w16_id, w32_id, tmod_pos, tdiv_pos, Bool.or_true, Bool.true_or, Bool.or_false, Bool.false_or, Bool.and_false, Bool.false_and, condK_decide]
  have s1 := ((Sat.init h).push (.cells i.cells.toArray 23 (0, 0)))
  simp only [Ins.cells_eq] at s1
  refine (right_S _).mono ?_
  rintro v h1 ⟨rfl, x1⟩
  have s2 := s1.grow x1
  unfold rdI at hR
  cases r : rightI i with
  | false =>
    rw [r] at hR
    simp (maxSteps := 2000000) (disch := first | (simp only [go_sem, Nat.reduceBEq, Nat.reduceAdd, Nat.reduceMul, Nat.reduceSub, Nat.reduceEqDiff, Nat.reduceLeDiff, Nat.reduceLT, Int.reduceEq, Int.reduceAdd, Int.reduceSub, Int.reduceMul, Int.reduceNeg, Int.reduceLT, Int.reduceLE, Int.reduceToNat, Int.reduceBEq, Int.reduceNe, reduceCtorEq, s2.get]; done) | omega | (simp only [go_sem, Nat.reduceBEq, Nat.reduceAdd, Nat.reduceMul, Nat.reduceSub, Nat.reduceEqDiff, Nat.reduceLeDiff, Nat.reduceLT, Int.reduceEq, Int.reduceAdd, Int.reduceSub, Int.reduceMul, Int.reduceNeg, Int.reduceLT, Int.reduceLE, Int.reduceToNat, Int.reduceBEq, Int.reduceNe, reduceCtorEq, s2.get]; omega)) only [go_sem, Nat.reduceBEq, Nat.reduceAdd, Nat.reduceMul, Nat.reduceSub, Nat.reduceEqDiff, Nat.reduceLeDiff, Nat.reduceLT, Int.reduceEq, Int.reduceAdd, Int.reduceSub, Int.reduceMul, Int.reduceNeg, Int.reduceLT, Int.reduceLE, Int.reduceToNat, Int.reduceBEq, Int.reduceNe, reduceCtorEq, w64_id, w8_id, w16_id, w32_id, tmod_pos, tdiv_pos, Bool.or_true, Bool.true_or, Bool.or_false, Bool.false_or, Bool.and_false, Bool.false_and, condK_decide, s2.get]
    exact hR _ _ s2.tail.nilS
  | true =>
    rw [r] at hR
    simp (maxSteps := 2000000) (disch := first | (simp only [go_sem, Nat.reduceBEq, Nat.reduceAdd, Nat.reduceMul, Nat.reduceSub, Nat.reduceEqDiff, Nat.reduceLeDiff, Nat.reduceLT, Int.reduceEq, Int.reduceAdd, Int.reduceSub, Int.reduceMul, Int.reduceNeg, Int.reduceLT, Int.reduceLE, Int.reduceToNat, Int.reduceBEq, Int.reduceNe, reduceCtorEq, s2.get]; done) | omega | (simp only [go_sem, Nat.reduceBEq, Nat.reduceAdd, Nat.reduceMul, Nat.reduceSub, Nat.reduceEqDiff, Nat.reduceLeDiff, Nat.reduceLT, Int.reduceEq, Int.reduceAdd, Int.reduceSub, Int.reduceMul, Int.reduceNeg, Int.reduceLT, Int.reduceLE, Int.reduceToNat, Int.reduceBEq, Int.reduceNe, reduceCtorEq, s2.get]; omega)) only [go_sem, Nat.reduceBEq, Nat.reduceAdd, Nat.reduceMul, Nat.reduceSub, Nat.reduceEqDiff, Nat.reduceLeDiff, Nat.reduceLT, Int.reduceEq, Int.reduceAdd, Int.reduceSub, Int.reduceMul, Int.reduceNeg, Int.reduceLT, Int.reduceLE, Int.reduceToNat, Int.reduceBEq, Int.reduceNe, reduceCtorEq, w64_id, w8_id, w16_id, w32_id, tmod_pos, tdiv_pos, Bool.or_true, Bool.true_or, Bool.or_false, Bool.false_or, Bool.and_false, Bool.false_and, condK_decide, s2.get]
    refine (form_S _).mono ?_
    rintro v h2 ⟨rfl, x2⟩
    have s3 := s2.grow x2
    obtain ⟨e1, e2⟩ := sg_eq i.Op
    generalize (formN i.Op).2.1 = g at *
    generalize (formN i.Op).2.2 = k at *
    simp (maxSteps := 2000000) (disch := first | (simp only [go_sem, Nat.reduceBEq, Nat.reduceAdd, Nat.reduceMul, Nat.reduceSub, Nat.reduceEqDiff, Nat.reduceLeDiff, Nat.reduceLT, Int.reduceEq, Int.reduceAdd, Int.reduceSub, Int.reduceMul, Int.reduceNeg, Int.reduceLT, Int.reduceLE, Int.reduceToNat, Int.reduceBEq, Int.reduceNe, reduceCtorEq, s3.get]; done) | omega | (simp only [go_sem, Nat.reduceBEq, Nat.reduceAdd, Nat.reduceMul, Nat.reduceSub, Nat.reduceEqDiff, Nat.reduceLeDiff, Nat.reduceLT, Int.reduceEq, Int.reduceAdd, Int.reduceSub, Int.reduceMul, Int.reduceNeg, Int.reduceLT, Int.reduceLE, Int.reduceToNat, Int.reduceBEq, Int.reduceNe, reduceCtorEq, s3.get]; omega)) only [go_sem, Nat.reduceBEq, Nat.reduceAdd, Nat.reduceMul, Nat.reduceSub, Nat.reduceEqDiff, Nat.reduceLeDiff, Nat.reduceLT, Int.reduceEq, Int.reduceAdd, Int.reduceSub, Int.reduceMul, Int.reduceNeg, Int.reduceLT, Int.reduceLE, Int.reduceToNat, Int.reduceBEq, Int.reduceNe, reduceCtorEq, w64_id, w8_id, w16_id, w32_id, tmod_pos, tdiv_pos, Bool.or_true, Bool.true_or, Bool.or_false, Bool.false_or, Bool.and_false, Bool.false_and, condK_decide, s3.get]
    rw [runH_rangeStr isStr_9]
    simp (maxSteps := 2000000) (disch := first | (simp only [go_sem, Nat.reduceBEq, Nat.reduceAdd, Nat.reduceMul, Nat.reduceSub, Nat.reduceEqDiff, Nat.reduceLeDiff, Nat.reduceLT, Int.reduceEq, Int.reduceAdd, Int.reduceSub, Int.reduceMul, Int.reduceNeg, Int.reduceLT, Int.reduceLE, Int.reduceToNat, Int.reduceBEq, Int.reduceNe, reduceCtorEq]; done) | omega | (simp only [go_sem, Nat.reduceBEq, Nat.reduceAdd, Nat.reduceMul, Nat.reduceSub, Nat.reduceEqDiff, Nat.reduceLeDiff, Nat.reduceLT, Int.reduceEq, Int.reduceAdd, Int.reduceSub, Int.reduceMul, Int.reduceNeg, Int.reduceLT, Int.reduceLE, Int.reduceToNat, Int.reduceBEq, Int.reduceNe, reduceCtorEq]; omega)) only [go_sem, Nat.reduceBEq, Nat.reduceAdd, Nat.reduceMul, Nat.reduceSub, Nat.reduceEqDiff, Nat.reduceLeDiff, Nat.reduceLT, Int.reduceEq, Int.reduceAdd, Int.reduceSub, Int.reduceMul, Int.reduceNeg, Int.reduceLT, Int.reduceLE, Int.reduceToNat, Int.reduceBEq, Int.reduceNe, reduceCtorEq, w64_id, w8_id, w16_id, w32_id, tmod_pos, tdiv_pos, Bool.or_true, Bool.true_or, Bool.or_false, Bool.false_or, Bool.and_false, Bool.false_and, condK_decide]
    have hks : k.size = (rgO i.Op).length := by rw [← e2]; rfl
    have hk3 := rgO_len i.Op
    have hg : (g.toList == (⟨#[62]⟩ : ByteArray).toList) = wrO i.Op := by
      rw [ByteArray.toList_eq, ByteArray.toList_eq, e1]
      unfold sgO
      cases wrO i.Op
      · rw [if_neg Bool.false_ne_true]
        split <;> rfl
      · rfl
    refine loopH.intro (fun t : Nat × Value => (.cons 1 (.pointer (some ⟨h.size, 0, none⟩)) true (.cons 4 (.string g) true (.cons 6 (t.2) true (.cons 20 (.pointer (some ⟨h2.size, 0, none⟩)) true .nil)))))
      (fun t h' => Sat h' [sliceS 1 (rl i.Op t.1).length t.2 ((rl i.Op t.1).map fun b => .int .i64 (rv i b)), cellAt h2.size (.stringIter k t.1), cellAt h.size (.cells i.cells.toArray 23 (0, 0)), oldS h] ∧ t.1 ≤ k.size) (fun t _ => k.size + 1 - t.1) (0, .slice none 0 0) ?_ ⟨?_, by simp only; omega⟩ ?_
    · simp (maxSteps := 2000000) (disch := first | (simp only [go_sem, Nat.reduceBEq, Nat.reduceAdd, Nat.reduceMul, Nat.reduceSub, Nat.reduceEqDiff, Nat.reduceLeDiff, Nat.reduceLT, Int.reduceEq, Int.reduceAdd, Int.reduceSub, Int.reduceMul, Int.reduceNeg, Int.reduceLT, Int.reduceLE, Int.reduceToNat, Int.reduceBEq, Int.reduceNe, reduceCtorEq]; done) | omega | (simp only [go_sem, Nat.reduceBEq, Nat.reduceAdd, Nat.reduceMul, Nat.reduceSub, Nat.reduceEqDiff, Nat.reduceLeDiff, Nat.reduceLT, Int.reduceEq, Int.reduceAdd, Int.reduceSub, Int.reduceMul, Int.reduceNeg, Int.reduceLT, Int.reduceLE, Int.reduceToNat, Int.reduceBEq, Int.reduceNe, reduceCtorEq]; omega)) only [go_sem, Nat.reduceBEq, Nat.reduceAdd, Nat.reduceMul, Nat.reduceSub, Nat.reduceEqDiff, Nat.reduceLeDiff, Nat.reduceLT, Int.reduceEq, Int.reduceAdd, Int.reduceSub, Int.reduceMul, Int.reduceNeg, Int.reduceLT, Int.reduceLE, Int.reduceToNat, Int.reduceBEq, Int.reduceNe, reduceCtorEq, w64_id, w8_id, w16_id, w32_id, tmod_pos, tdiv_pos, Bool.or_true, Bool.true_or, Bool.or_false, Bool.false_or, Bool.and_false, Bool.false_and, condK_decide]
    · have : rl i.Op 0 = [] := by unfold rl; simp
      rw [this]
      exact (s3.push (.stringIter k 0)).nilS
    clear s1 s2 s3
    rintro ⟨j, v⟩ h3 ⟨s, hj⟩
    simp only at s hj
    simp (maxSteps := 2000000) (disch := first | (simp only [go_sem, Nat.reduceBEq, Nat.reduceAdd, Nat.reduceMul, Nat.reduceSub, Nat.reduceEqDiff, Nat.reduceLeDiff, Nat.reduceLT, Int.reduceEq, Int.reduceAdd, Int.reduceSub, Int.reduceMul, Int.reduceNeg, Int.reduceLT, Int.reduceLE, Int.reduceToNat, Int.reduceBEq, Int.reduceNe, reduceCtorEq]; done) | omega | (simp only [go_sem, Nat.reduceBEq, Nat.reduceAdd, Nat.reduceMul, Nat.reduceSub, Nat.reduceEqDiff, Nat.reduceLeDiff, Nat.reduceLT, Int.reduceEq, Int.reduceAdd, Int.reduceSub, Int.reduceMul, Int.reduceNeg, Int.reduceLT, Int.reduceLE, Int.reduceToNat, Int.reduceBEq, Int.reduceNe, reduceCtorEq]; omega)) only [go_sem, Nat.reduceBEq, Nat.reduceAdd, Nat.reduceMul, Nat.reduceSub, Nat.reduceEqDiff, Nat.reduceLeDiff, Nat.reduceLT, Int.reduceEq, Int.reduceAdd, Int.reduceSub, Int.reduceMul, Int.reduceNeg, Int.reduceLT, Int.reduceLE, Int.reduceToNat, Int.reduceBEq, Int.reduceNe, reduceCtorEq, w64_id, w8_id, w16_id, w32_id, tmod_pos, tdiv_pos, Bool.or_true, Bool.true_or, Bool.or_false, Bool.false_or, Bool.and_false, Bool.false_and, condK_decide]
    refine runH_nextStr (s.front 1).get (fun hp => ?_) (fun hp => ?_)
    · obtain rfl : j = k.size := by omega
      simp (maxSteps := 2000000) (disch := first | (simp only [go_sem, Nat.reduceBEq, Nat.reduceAdd, Nat.reduceMul, Nat.reduceSub, Nat.reduceEqDiff, Nat.reduceLeDiff, Nat.reduceLT, Int.reduceEq, Int.reduceAdd, Int.reduceSub, Int.reduceMul, Int.reduceNeg, Int.reduceLT, Int.reduceLE, Int.reduceToNat, Int.reduceBEq, Int.reduceNe, reduceCtorEq]; done) | omega | (simp only [go_sem, Nat.reduceBEq, Nat.reduceAdd, Nat.reduceMul, Nat.reduceSub, Nat.reduceEqDiff, Nat.reduceLeDiff, Nat.reduceLT, Int.reduceEq, Int.reduceAdd, Int.reduceSub, Int.reduceMul, Int.reduceNeg, Int.reduceLT, Int.reduceLE, Int.reduceToNat, Int.reduceBEq, Int.reduceNe, reduceCtorEq]; omega)) only [go_sem, Nat.reduceBEq, Nat.reduceAdd, Nat.reduceMul, Nat.reduceSub, Nat.reduceEqDiff, Nat.reduceLeDiff, Nat.reduceLT, Int.reduceEq, Int.reduceAdd, Int.reduceSub, Int.reduceMul, Int.reduceNeg, Int.reduceLT, Int.reduceLE, Int.reduceToNat, Int.reduceBEq, Int.reduceNe, reduceCtorEq, w64_id, w8_id, w16_id, w32_id, tmod_pos, tdiv_pos, Bool.or_true, Bool.true_or, Bool.or_false, Bool.false_or, Bool.and_false, Bool.false_and, condK_decide]
      have hz : (rl i.Op k.size).map (fun b => Value.int .i64 (rv i b)) = ((rl i.Op k.size).map (rv i)).map (Value.int .i64) := by rw [List.map_map]; rfl
      have hl : (rl i.Op k.size).length = ((rl i.Op k.size).map (rv i)).length := by rw [List.length_map]
      have hlen : (rl i.Op k.size).length ≤ 3 := by unfold rl; rw [List.length_drop, List.length_take]; omega
      rw [hz, hl] at s
      have hp2 := reads_plain i
      rw [← hks] at hp2
      generalize (rl i.Op k.size).map (rv i) = zs at *
      refine (Sat.sortI s (by omega)).mono ?_
      rintro v2 h4 ⟨rfl, s6⟩
      simp (maxSteps := 2000000) (disch := first | (simp only [go_sem, Nat.reduceBEq, Nat.reduceAdd, Nat.reduceMul, Nat.reduceSub, Nat.reduceEqDiff, Nat.reduceLeDiff, Nat.reduceLT, Int.reduceEq, Int.reduceAdd, Int.reduceSub, Int.reduceMul, Int.reduceNeg, Int.reduceLT, Int.reduceLE, Int.reduceToNat, Int.reduceBEq, Int.reduceNe, reduceCtorEq]; done) | omega | (simp only [go_sem, Nat.reduceBEq, Nat.reduceAdd, Nat.reduceMul, Nat.reduceSub, Nat.reduceEqDiff, Nat.reduceLeDiff, Nat.reduceLT, Int.reduceEq, Int.reduceAdd, Int.reduceSub, Int.reduceMul, Int.reduceNeg, Int.reduceLT, Int.reduceLE, Int.reduceToNat, Int.reduceBEq, Int.reduceNe, reduceCtorEq]; omega)) only [go_sem, Nat.reduceBEq, Nat.reduceAdd, Nat.reduceMul, Nat.reduceSub, Nat.reduceEqDiff, Nat.reduceLeDiff, Nat.reduceLT, Int.reduceEq, Int.reduceAdd, Int.reduceSub, Int.reduceMul, Int.reduceNeg, Int.reduceLT, Int.reduceLE, Int.reduceToNat, Int.reduceBEq, Int.reduceNe, reduceCtorEq, w64_id, w8_id, w16_id, w32_id, tmod_pos, tdiv_pos, Bool.or_true, Bool.true_or, Bool.or_false, Bool.false_or, Bool.and_false, Bool.false_and, condK_decide]
      rw [← List.length_mergeSort (le := fun x y => decide (x ≤ y)) zs] at s6
      refine (Sat.compactI s6 (by rw [List.length_mergeSort]; omega)).mono ?_
      rintro v3 h5 s7
      simp (maxSteps := 2000000) (disch := first | (simp only [go_sem, Nat.reduceBEq, Nat.reduceAdd, Nat.reduceMul, Nat.reduceSub, Nat.reduceEqDiff, Nat.reduceLeDiff, Nat.reduceLT, Int.reduceEq, Int.reduceAdd, Int.reduceSub, Int.reduceMul, Int.reduceNeg, Int.reduceLT, Int.reduceLE, Int.reduceToNat, Int.reduceBEq, Int.reduceNe, reduceCtorEq]; done) | omega | (simp only [go_sem, Nat.reduceBEq, Nat.reduceAdd, Nat.reduceMul, Nat.reduceSub, Nat.reduceEqDiff, Nat.reduceLeDiff, Nat.reduceLT, Int.reduceEq, Int.reduceAdd, Int.reduceSub, Int.reduceMul, Int.reduceNeg, Int.reduceLT, Int.reduceLE, Int.reduceToNat, Int.reduceBEq, Int.reduceNe, reduceCtorEq]; omega)) only [go_sem, Nat.reduceBEq, Nat.reduceAdd, Nat.reduceMul, Nat.reduceSub, Nat.reduceEqDiff, Nat.reduceLeDiff, Nat.reduceLT, Int.reduceEq, Int.reduceAdd, Int.reduceSub, Int.reduceMul, Int.reduceNeg, Int.reduceLT, Int.reduceLE, Int.reduceToNat, Int.reduceBEq, Int.reduceNe, reduceCtorEq, w64_id, w8_id, w16_id, w32_id, tmod_pos, tdiv_pos, Bool.or_true, Bool.true_or, Bool.or_false, Bool.false_or, Bool.and_false, Bool.false_and, condK_decide]
      rw [hp2] at s7
      exact hR _ _ s7.drop1.drop1
    · have hb : (rgO i.Op)[j]? = some (k.data[j]'hp) := by rw [← e2]; simp
      have hasc := rgO_asc i.Op _ (List.mem_of_getElem? hb)
      rw [decode_ascii hp hasc]
      have s5 := (s.front 1).set (.stringIter k (j + 1))
      generalize k.data[j] = b at *
      by_cases w : wrO i.Op = true ∧ j = 0
      · obtain ⟨w, rfl⟩ := w
        have h00 : ((0 : Nat) : Int) = 0 := rfl
        simp (maxSteps := 2000000) (disch := first | (simp only [go_sem, Nat.reduceBEq, Nat.reduceAdd, Nat.reduceMul, Nat.reduceSub, Nat.reduceEqDiff, Nat.reduceLeDiff, Nat.reduceLT, Int.reduceEq, Int.reduceAdd, Int.reduceSub, Int.reduceMul, Int.reduceNeg, Int.reduceLT, Int.reduceLE, Int.reduceToNat, Int.reduceBEq, Int.reduceNe, reduceCtorEq, hg, w, h00]; done) | omega | (simp only [go_sem, Nat.reduceBEq, Nat.reduceAdd, Nat.reduceMul, Nat.reduceSub, Nat.reduceEqDiff, Nat.reduceLeDiff, Nat.reduceLT, Int.reduceEq, Int.reduceAdd, Int.reduceSub, Int.reduceMul, Int.reduceNeg, Int.reduceLT, Int.reduceLE, Int.reduceToNat, Int.reduceBEq, Int.reduceNe, reduceCtorEq, hg, w, h00]; omega)) only [go_sem, Nat.reduceBEq, Nat.reduceAdd, Nat.reduceMul, Nat.reduceSub, Nat.reduceEqDiff, Nat.reduceLeDiff, Nat.reduceLT, Int.reduceEq, Int.reduceAdd, Int.reduceSub, Int.reduceMul, Int.reduceNeg, Int.reduceLT, Int.reduceLE, Int.reduceToNat, Int.reduceBEq, Int.reduceNe, reduceCtorEq, w64_id, w8_id, w16_id, w32_id, tmod_pos, tdiv_pos, Bool.or_true, Bool.true_or, Bool.or_false, Bool.false_or, Bool.and_false, Bool.false_and, condK_decide, hg, w, h00]
        refine ⟨(1, v), rfl, ⟨?_, by simp only; omega⟩, by simp only; omega⟩
        simp only
        rw [rl_skip w]
        exact s5.swap
      · have hsk : (wrO i.Op && decide ((j : Int) = 0)) = false := by
          rw [Bool.eq_false_iff]
          intro q
          simp only [Bool.and_eq_true, decide_eq_true_eq] at q
          exact w ⟨q.1, by omega⟩
        have hb2 : ((b.toNat : Nat) : Int) = b.toNat := rfl
        have s6 := s5.push (.map #[] 0)
        simp only [Array.size_setIfInBounds, Ins.cells_eq] at s6
        simp (maxSteps := 2000000) (disch := first | (simp only [go_sem, Nat.reduceBEq, Nat.reduceAdd, Nat.reduceMul, Nat.reduceSub, Nat.reduceEqDiff, Nat.reduceLeDiff, Nat.reduceLT, Int.reduceEq, Int.reduceAdd, Int.reduceSub, Int.reduceMul, Int.reduceNeg, Int.reduceLT, Int.reduceLE, Int.reduceToNat, Int.reduceBEq, Int.reduceNe, reduceCtorEq, hg, hsk, s6.get, (s6.front 3).get]; done) | omega | (simp only [go_sem, Nat.reduceBEq, Nat.reduceAdd, Nat.reduceMul, Nat.reduceSub, Nat.reduceEqDiff, Nat.reduceLeDiff, Nat.reduceLT, Int.reduceEq, Int.reduceAdd, Int.reduceSub, Int.reduceMul, Int.reduceNeg, Int.reduceLT, Int.reduceLE, Int.reduceToNat, Int.reduceBEq, Int.reduceNe, reduceCtorEq, hg, hsk, s6.get, (s6.front 3).get]; omega)) only [go_sem, Nat.reduceBEq, Nat.reduceAdd, Nat.reduceMul, Nat.reduceSub, Nat.reduceEqDiff, Nat.reduceLeDiff, Nat.reduceLT, Int.reduceEq, Int.reduceAdd, Int.reduceSub, Int.reduceMul, Int.reduceNeg, Int.reduceLT, Int.reduceLE, Int.reduceToNat, Int.reduceBEq, Int.reduceNe, reduceCtorEq, w64_id, w8_id, w16_id, w32_id, tmod_pos, tdiv_pos, Bool.or_true, Bool.true_or, Bool.or_false, Bool.false_or, Bool.and_false, Bool.false_and, condK_decide, hg, hsk, s6.get, (s6.front 3).get]
        refine runH_updateR s6.get Tryd.underlying48 Tryd.underlying21 rfl ?_
        have s7 := s6.set (.map (#[].push ⟨.int .i32 97, .int .i64 i.A, 0⟩) (0 + 1))
        simp (maxSteps := 2000000) (disch := first | (simp only [go_sem, Nat.reduceBEq, Nat.reduceAdd, Nat.reduceMul, Nat.reduceSub, Nat.reduceEqDiff, Nat.reduceLeDiff, Nat.reduceLT, Int.reduceEq, Int.reduceAdd, Int.reduceSub, Int.reduceMul, Int.reduceNeg, Int.reduceLT, Int.reduceLE, Int.reduceToNat, Int.reduceBEq, Int.reduceNe, reduceCtorEq, s7.get, (s7.front 3).get]; done) | omega | (simp only [go_sem, Nat.reduceBEq, Nat.reduceAdd, Nat.reduceMul, Nat.reduceSub, Nat.reduceEqDiff, Nat.reduceLeDiff, Nat.reduceLT, Int.reduceEq, Int.reduceAdd, Int.reduceSub, Int.reduceMul, Int.reduceNeg, Int.reduceLT, Int.reduceLE, Int.reduceToNat, Int.reduceBEq, Int.reduceNe, reduceCtorEq, s7.get, (s7.front 3).get]; omega)) only [go_sem, Nat.reduceBEq, Nat.reduceAdd, Nat.reduceMul, Nat.reduceSub, Nat.reduceEqDiff, Nat.reduceLeDiff, Nat.reduceLT, Int.reduceEq, Int.reduceAdd, Int.reduceSub, Int.reduceMul, Int.reduceNeg, Int.reduceLT, Int.reduceLE, Int.reduceToNat, Int.reduceBEq, Int.reduceNe, reduceCtorEq, w64_id, w8_id, w16_id, w32_id, tmod_pos, tdiv_pos, Bool.or_true, Bool.true_or, Bool.or_false, Bool.false_or, Bool.and_false, Bool.false_and, condK_decide, s7.get, (s7.front 3).get]
        refine runH_updateR s7.get Tryd.underlying48 Tryd.underlying21 rfl ?_
        have s8 := s7.set (.map ((#[].push ⟨.int .i32 97, .int .i64 i.A, 0⟩).push ⟨.int .i32 98, .int .i64 i.B, 0 + 1⟩) (0 + 1 + 1))
        simp (maxSteps := 2000000) (disch := first | (simp only [go_sem, Nat.reduceBEq, Nat.reduceAdd, Nat.reduceMul, Nat.reduceSub, Nat.reduceEqDiff, Nat.reduceLeDiff, Nat.reduceLT, Int.reduceEq, Int.reduceAdd, Int.reduceSub, Int.reduceMul, Int.reduceNeg, Int.reduceLT, Int.reduceLE, Int.reduceToNat, Int.reduceBEq, Int.reduceNe, reduceCtorEq, s8.get, (s8.front 3).get]; done) | omega | (simp only [go_sem, Nat.reduceBEq, Nat.reduceAdd, Nat.reduceMul, Nat.reduceSub, Nat.reduceEqDiff, Nat.reduceLeDiff, Nat.reduceLT, Int.reduceEq, Int.reduceAdd, Int.reduceSub, Int.reduceMul, Int.reduceNeg, Int.reduceLT, Int.reduceLE, Int.reduceToNat, Int.reduceBEq, Int.reduceNe, reduceCtorEq, s8.get, (s8.front 3).get]; omega)) only [go_sem, Nat.reduceBEq, Nat.reduceAdd, Nat.reduceMul, Nat.reduceSub, Nat.reduceEqDiff, Nat.reduceLeDiff, Nat.reduceLT, Int.reduceEq, Int.reduceAdd, Int.reduceSub, Int.reduceMul, Int.reduceNeg, Int.reduceLT, Int.reduceLE, Int.reduceToNat, Int.reduceBEq, Int.reduceNe, reduceCtorEq, w64_id, w8_id, w16_id, w32_id, tmod_pos, tdiv_pos, Bool.or_true, Bool.true_or, Bool.or_false, Bool.false_or, Bool.and_false, Bool.false_and, condK_decide, s8.get, (s8.front 3).get]
        refine runH_updateR s8.get Tryd.underlying48 Tryd.underlying21 rfl ?_
        have s9 := s8.set (.map (((#[].push ⟨.int .i32 97, .int .i64 i.A, 0⟩).push ⟨.int .i32 98, .int .i64 i.B, 0 + 1⟩).push ⟨.int .i32 99, .int .i64 i.C, 0 + 1 + 1⟩) (0 + 1 + 1 + 1))
        obtain ⟨o, hf, ho⟩ := find_rv i b
        rw [runD_lookupR s9.get Tryd.underlying48 Tryd.underlying21 tzero_3 hf, ho]
        have hl : (rl i.Op j).length ≤ 3 := by unfold rl; rw [List.length_drop, List.length_take]; omega
        have hby : (tbytes Tryd.prog (sliceElem Tryd.prog 34)).getD 0 = 8 := by kernel_rfl
        simp (maxSteps := 2000000) (disch := first | (simp only [go_sem, Nat.reduceBEq, Nat.reduceAdd, Nat.reduceMul, Nat.reduceSub, Nat.reduceEqDiff, Nat.reduceLeDiff, Nat.reduceLT, Int.reduceEq, Int.reduceAdd, Int.reduceSub, Int.reduceMul, Int.reduceNeg, Int.reduceLT, Int.reduceLE, Int.reduceToNat, Int.reduceBEq, Int.reduceNe, reduceCtorEq]; done) | omega | (simp only [go_sem, Nat.reduceBEq, Nat.reduceAdd, Nat.reduceMul, Nat.reduceSub, Nat.reduceEqDiff, Nat.reduceLeDiff, Nat.reduceLT, Int.reduceEq, Int.reduceAdd, Int.reduceSub, Int.reduceMul, Int.reduceNeg, Int.reduceLT, Int.reduceLE, Int.reduceToNat, Int.reduceBEq, Int.reduceNe, reduceCtorEq]; omega)) only [go_sem, Nat.reduceBEq, Nat.reduceAdd, Nat.reduceMul, Nat.reduceSub, Nat.reduceEqDiff, Nat.reduceLeDiff, Nat.reduceLT, Int.reduceEq, Int.reduceAdd, Int.reduceSub, Int.reduceMul, Int.reduceNeg, Int.reduceLT, Int.reduceLE, Int.reduceToNat, Int.reduceBEq, Int.reduceNe, reduceCtorEq, w64_id, w8_id, w16_id, w32_id, tmod_pos, tdiv_pos, Bool.or_true, Bool.true_or, Bool.or_false, Bool.false_or, Bool.and_false, Bool.false_and, condK_decide]
        have s10 := (s9.push (.cells [.int .i64 (rv i b)].toArray 3 (0, 0))).front 3
        simp only [Array.size_setIfInBounds, Array.size_push] at s10
        refine Sat.append s10 (SrcAt.lit (n := 1) (s10.front 1).get rfl (by simp [single])) isSlice_34 ssz_34 (by kernel_rfl) (by kernel_rfl) (by rw [hby]; omega) (by omega) ?_
        intro v5 h5 s11
        simp (maxSteps := 2000000) (disch := first | (simp only [go_sem, Nat.reduceBEq, Nat.reduceAdd, Nat.reduceMul, Nat.reduceSub, Nat.reduceEqDiff, Nat.reduceLeDiff, Nat.reduceLT, Int.reduceEq, Int.reduceAdd, Int.reduceSub, Int.reduceMul, Int.reduceNeg, Int.reduceLT, Int.reduceLE, Int.reduceToNat, Int.reduceBEq, Int.reduceNe, reduceCtorEq]; done) | omega | (simp only [go_sem, Nat.reduceBEq, Nat.reduceAdd, Nat.reduceMul, Nat.reduceSub, Nat.reduceEqDiff, Nat.reduceLeDiff, Nat.reduceLT, Int.reduceEq, Int.reduceAdd, Int.reduceSub, Int.reduceMul, Int.reduceNeg, Int.reduceLT, Int.reduceLE, Int.reduceToNat, Int.reduceBEq, Int.reduceNe, reduceCtorEq]; omega)) only [go_sem, Nat.reduceBEq, Nat.reduceAdd, Nat.reduceMul, Nat.reduceSub, Nat.reduceEqDiff, Nat.reduceLeDiff, Nat.reduceLT, Int.reduceEq, Int.reduceAdd, Int.reduceSub, Int.reduceMul, Int.reduceNeg, Int.reduceLT, Int.reduceLE, Int.reduceToNat, Int.reduceBEq, Int.reduceNe, reduceCtorEq, w64_id, w8_id, w16_id, w32_id, tmod_pos, tdiv_pos, Bool.or_true, Bool.true_or, Bool.or_false, Bool.false_or, Bool.and_false, Bool.false_and, condK_decide]
        refine ⟨(j + 1, v5), rfl, ⟨?_, by simp only; omega⟩, by simp only; omega⟩
        simp only
        rw [rl_add hb w, List.length_append, List.map_append]
        exact s11.drop1.drop1
end
end Go.Eng
