/-
  Encode.
-/
import Derived.Test.YtfjacnhmmilafaaDoorIsa5
namespace Go.Eng
set_option linter.unusedSimpArgs false
set_option linter.unusedVariables false
set_option maxRecDepth 16000
set_option maxHeartbeats 4000000
open Go Go.Proofs
def wordI (i : Ins) : Int := ((i.Op * 16 + i.A) * 16 + i.B) * 65536 + i.C + i.I
structure InB (i : Ins) : Prop where
  o1 : 1 ≤ i.Op
  o2 : i.Op ≤ 25
  a1 : 0 ≤ i.A
  a2 : i.A ≤ 15
  b1 : 0 ≤ i.B
  b2 : i.B ≤ 15
  c1 : 0 ≤ i.C
  c2 : i.C ≤ 15
  m1 : 0 ≤ i.I
  m2 : i.I ≤ 65535
  z : i.C = 0 ∨ i.I = 0
theorem rightI_B {i : Ins} (r : rightI i = true) : InB i := by
  have hc := kd_nine i.Op
  have ho : 1 ≤ i.Op ∧ i.Op ≤ 25 := by
    refine Classical.byContradiction fun c => ?_
    unfold rightI at r
    rw [kd_out c] at r
    simp [neB_eq] at r
  unfold rightI at r
  simp only [neB_eq, fieldP, hasB] at r
  generalize kd i.Op = k at *
  rcases hc with rfl | rfl | rfl | rfl | rfl | rfl | rfl | rfl | rfl
  all_goals simp at r
  all_goals exact ⟨by omega, by omega, by omega, by omega, by omega, by omega, by omega, by omega, by omega, by omega, by omega⟩
theorem or64 {x y : Int} (s k : Nat) (hx : x = (2 ^ k * s : Nat)) (h0 : 0 ≤ y) (hy : y < (2 ^ k : Nat)) (hb : x + y < 9223372036854775808) :
    IntKind.i64.wrap (((BitVec.ofInt 64 x ||| BitVec.ofInt 64 y).toNat : Nat) : Int) = x + y := by
  obtain ⟨n, rfl⟩ := Int.eq_ofNat_of_zero_le h0
  have hn : n < 2 ^ k := by omega
  have e : (BitVec.ofInt 64 x ||| BitVec.ofInt 64 (n : Int)).toNat = 2 ^ k * s + n := by
    rw [hx, BitVec.toNat_or, BitVec.ofInt_natCast, BitVec.ofInt_natCast, BitVec.toNat_ofNat, BitVec.toNat_ofNat, Nat.mod_eq_of_lt (by omega), Nat.mod_eq_of_lt (by omega)]
    exact (Nat.two_pow_add_eq_or_of_lt hn s).symm
  rw [e, w64_id (by omega) (by omega)]
  omega
theorem word_bits {i : Ins} (b : InB i) : IntKind.u32.wrap (IntKind.i64.wrap ↑(BitVec.ofInt 64 (IntKind.i64.wrap ↑(BitVec.ofInt 64 (IntKind.i64.wrap ↑(BitVec.ofInt 64 (IntKind.i64.wrap ↑(BitVec.ofInt 64 (IntKind.i64.wrap (i.Op * 2 ^ min 24 64)) ||| BitVec.ofInt 64 (IntKind.i64.wrap (i.A * 2 ^ min 20 64))).toNat) ||| BitVec.ofInt 64 (IntKind.i64.wrap (i.B * 2 ^ min 16 64))).toNat) ||| BitVec.ofInt 64 i.C).toNat) ||| BitVec.ofInt 64 i.I).toNat) = wordI i := by
  obtain ⟨op, a, bb, c, m⟩ := i
  obtain ⟨o1, o2, a1, a2, b1, b2, c1, c2, m1, m2, z⟩ := b
  simp only at *
  obtain ⟨op, rfl⟩ := Int.eq_ofNat_of_zero_le (show 0 ≤ op by omega)
  obtain ⟨a, rfl⟩ := Int.eq_ofNat_of_zero_le a1
  obtain ⟨bb, rfl⟩ := Int.eq_ofNat_of_zero_le b1
  obtain ⟨c, rfl⟩ := Int.eq_ofNat_of_zero_le c1
  rw [show (2 : Int) ^ min 24 64 = 16777216 from rfl, show (2 : Int) ^ min 20 64 = 1048576 from rfl, show (2 : Int) ^ min 16 64 = 65536 from rfl]
  rw [w64_id (a := (op : Int) * 16777216) (by omega) (by omega), w64_id (a := (a : Int) * 1048576) (by omega) (by omega), w64_id (a := (bb : Int) * 65536) (by omega) (by omega)]
  rw [or64 (x := (op : Int) * 16777216) (y := (a : Int) * 1048576) op 24 (by omega) (by omega) (by omega) (by omega)]
  rw [or64 (x := (op : Int) * 16777216 + (a : Int) * 1048576) (y := (bb : Int) * 65536) (op * 16 + a) 20 (by omega) (by omega) (by omega) (by omega)]
  rw [or64 (x := (op : Int) * 16777216 + (a : Int) * 1048576 + (bb : Int) * 65536) (y := (c : Int)) ((op * 16 + a) * 16 + bb) 16 (by omega) (by omega) (by omega) (by omega)]
  rcases z with z | z
  · rw [or64 (x := (op : Int) * 16777216 + (a : Int) * 1048576 + (bb : Int) * 65536 + (c : Int)) (y := m) ((op * 16 + a) * 16 + bb) 16 (by omega) (by omega) (by omega) (by omega), w32_id (by omega) (by omega)]
    simp only [wordI]
    omega
  · rw [or64 (x := (op : Int) * 16777216 + (a : Int) * 1048576 + (bb : Int) * 65536 + (c : Int)) (y := m) (((op * 16 + a) * 16 + bb) * 65536 + c) 0 (by omega) (by omega) (by omega) (by omega), w32_id (by omega) (by omega)]
    simp only [wordI]
    omega
def encV (i : Ins) : Value := if rightI i then .tuple #[.int .u32 (wordI i), .int .i64 0] else .tuple #[.int .u32 0, .int .i64 50]
section
variable {h : Heap}
theorem encode_S (i : Ins) : HCalls Tryd.prog 11 #[.agg i.cells.toArray] h fun v h' => v = encV i ∧ Ext h h' := by
  refine HCalls.via fun R hR => ?_
  refine HCalls.of_dev T11 Tryd.func11 rfl mixed (by kernel_rfl) ?_; rw [Tryd.results11]
  simp (maxSteps := 2000000) (disch := first | (simp only [go_sem, Nat.reduceBEq, Nat.reduceAdd, Nat.reduceMul, Nat.reduceSub, Nat.reduceEqDiff, Nat.reduceLeDiff, Nat.reduceLT, Int.reduceEq, Int.reduceAdd, Int.reduceSub, Int.reduceMul, Int.reduceNeg, Int.reduceLT, Int.reduceLE, Int.reduceToNat, Int.reduceBEq, Int.reduceNe, reduceCtorEq]; done) | omega | (simp only [go_sem, Nat.reduceBEq, Nat.reduceAdd, Nat.reduceMul, Nat.reduceSub, Nat.reduceEqDiff, Nat.reduceLeDiff, Nat.reduceLT, Int.reduceEq, Int.reduceAdd, Int.reduceSub, Int.reduceMul, Int.reduceNeg, Int.reduceLT, Int.reduceLE, Int.reduceToNat, Int.reduceBEq, Int.reduceNe, reduceCtorEq]; omega)) only [go_sem, Nat.reduceBEq, Nat.reduceAdd, Nat.reduceMul, Nat.reduceSub, Nat.reduceEqDiff, Nat.reduceLeDiff, Nat.reduceLT, Int.reduceEq, Int.reduceAdd, Int.reduceSub, Int.reduceMul, Int.reduceNeg, Int.reduceLT, Int.reduceLE, Int.reduceToNat, Int.reduceBEq, Int.reduceNe, reduceCtorEq, w64_id, w8_id, w16_id, w32_id, tmod_pos, tdiv_pos, Bool.or_true, Bool.true_or, Bool.or_false, Bool.false_or, Bool.and_false, Bool.false_and, condK_decide]
  have s1 := ((Sat.init h).push (.cells i.cells.toArray 23 (0, 0)))
  simp only [Ins.cells_eq] at s1
  refine (right_S i).mono ?_
  rintro v h1 ⟨rfl, x1⟩
  have s2 := s1.grow x1
  unfold encV at hR
  by_cases r : rightI i
  · simp (maxSteps := 2000000) (disch := first | (simp only [go_sem, Nat.reduceBEq, Nat.reduceAdd, Nat.reduceMul, Nat.reduceSub, Nat.reduceEqDiff, Nat.reduceLeDiff, Nat.reduceLT, Int.reduceEq, Int.reduceAdd, Int.reduceSub, Int.reduceMul, Int.reduceNeg, Int.reduceLT, Int.reduceLE, Int.reduceToNat, Int.reduceBEq, Int.reduceNe, reduceCtorEq, r, s2.get]; done) | omega | (simp only [go_sem, Nat.reduceBEq, Nat.reduceAdd, Nat.reduceMul, Nat.reduceSub, Nat.reduceEqDiff, Nat.reduceLeDiff, Nat.reduceLT, Int.reduceEq, Int.reduceAdd, Int.reduceSub, Int.reduceMul, Int.reduceNeg, Int.reduceLT, Int.reduceLE, Int.reduceToNat, Int.reduceBEq, Int.reduceNe, reduceCtorEq, r, s2.get]; omega)) only [go_sem, Nat.reduceBEq, Nat.reduceAdd, Nat.reduceMul, Nat.reduceSub, Nat.reduceEqDiff, Nat.reduceLeDiff, Nat.reduceLT, Int.reduceEq, Int.reduceAdd, Int.reduceSub, Int.reduceMul, Int.reduceNeg, Int.reduceLT, Int.reduceLE, Int.reduceToNat, Int.reduceBEq, Int.reduceNe, reduceCtorEq, w64_id, w8_id, w16_id, w32_id, tmod_pos, tdiv_pos, Bool.or_true, Bool.true_or, Bool.or_false, Bool.false_or, Bool.and_false, Bool.false_and, condK_decide, r, s2.get]
    exact hR _ _ ⟨(congrArg (fun z => Value.tuple #[.int .u32 z, .int .i64 0]) (word_bits (rightI_B r))).trans (if_pos r).symm, s2.swap.ext⟩
  · simp (maxSteps := 2000000) (disch := first | (simp only [go_sem, Nat.reduceBEq, Nat.reduceAdd, Nat.reduceMul, Nat.reduceSub, Nat.reduceEqDiff, Nat.reduceLeDiff, Nat.reduceLT, Int.reduceEq, Int.reduceAdd, Int.reduceSub, Int.reduceMul, Int.reduceNeg, Int.reduceLT, Int.reduceLE, Int.reduceToNat, Int.reduceBEq, Int.reduceNe, reduceCtorEq, r, s2.get]; done) | omega | (simp only [go_sem, Nat.reduceBEq, Nat.reduceAdd, Nat.reduceMul, Nat.reduceSub, Nat.reduceEqDiff, Nat.reduceLeDiff, Nat.reduceLT, Int.reduceEq, Int.reduceAdd, Int.reduceSub, Int.reduceMul, Int.reduceNeg, Int.reduceLT, Int.reduceLE, Int.reduceToNat, Int.reduceBEq, Int.reduceNe, reduceCtorEq, r, s2.get]; omega)) only [go_sem, Nat.reduceBEq, Nat.reduceAdd, Nat.reduceMul, Nat.reduceSub, Nat.reduceEqDiff, Nat.reduceLeDiff, Nat.reduceLT, Int.reduceEq, Int.reduceAdd, Int.reduceSub, Int.reduceMul, Int.reduceNeg, Int.reduceLT, Int.reduceLE, Int.reduceToNat, Int.reduceBEq, Int.reduceNe, reduceCtorEq, w64_id, w8_id, w16_id, w32_id, tmod_pos, tdiv_pos, Bool.or_true, Bool.true_or, Bool.or_false, Bool.false_or, Bool.and_false, Bool.false_and, condK_decide, r, s2.get]
    exact hR _ _ ⟨by rw [if_neg r], s2.swap.ext⟩
theorem refEncode_S (i : Ins) : HCalls Tryd.prog 12 #[.agg i.cells.toArray] h fun v h' => v = encV i ∧ Ext h h' := by
  refine HCalls.via fun R hR => ?_
  refine HCalls.of_dev T12 Tryd.func12 rfl mixed (by kernel_rfl) ?_; rw [Tryd.results12]
  simp (maxSteps := 2000000) (disch := first | (simp only [go_sem, Nat.reduceBEq, Nat.reduceAdd, Nat.reduceMul, Nat.reduceSub, Nat.reduceEqDiff, Nat.reduceLeDiff, Nat.reduceLT, Int.reduceEq, Int.reduceAdd, Int.reduceSub, Int.reduceMul, Int.reduceNeg, Int.reduceLT, Int.reduceLE, Int.reduceToNat, Int.reduceBEq, Int.reduceNe, reduceCtorEq]; done) | omega | (simp only [go_sem, Nat.reduceBEq, Nat.reduceAdd, Nat.reduceMul, Nat.reduceSub, Nat.reduceEqDiff, Nat.reduceLeDiff, Nat.reduceLT, Int.reduceEq, Int.reduceAdd, Int.reduceSub, Int.reduceMul, Int.reduceNeg, Int.reduceLT, Int.reduceLE, Int.reduceToNat, Int.reduceBEq, Int.reduceNe, reduceCtorEq]; omega)) only [go_sem, Nat.reduceBEq, Nat.reduceAdd, Nat.reduceMul, Nat.reduceSub, Nat.reduceEqDiff, Nat.reduceLeDiff, Nat.reduceLT, Int.reduceEq, Int.reduceAdd, Int.reduceSub, Int.reduceMul, Int.reduceNeg, Int.reduceLT, Int.reduceLE, Int.reduceToNat, Int.reduceBEq, Int.reduceNe, reduceCtorEq, w64_id, w8_id, w16_id, w32_id, tmod_pos, tdiv_pos, Bool.or_true, Bool.true_or, Bool.or_false, Bool.false_or, Bool.and_false, Bool.false_and, condK_decide]
  have s1 := ((Sat.init h).push (.cells i.cells.toArray 23 (0, 0)))
  simp only [Ins.cells_eq] at s1
  refine (refRight_S i).mono ?_
  rintro v h1 ⟨rfl, x1⟩
  have s2 := s1.grow x1
  unfold encV at hR
  by_cases r : rightI i
  · have b := rightI_B r
    obtain ⟨o1, o2, a1, a2, b1, b2, c1, c2, m1, m2, z⟩ := b
    simp (maxSteps := 2000000) (disch := first | (simp only [go_sem, Nat.reduceBEq, Nat.reduceAdd, Nat.reduceMul, Nat.reduceSub, Nat.reduceEqDiff, Nat.reduceLeDiff, Nat.reduceLT, Int.reduceEq, Int.reduceAdd, Int.reduceSub, Int.reduceMul, Int.reduceNeg, Int.reduceLT, Int.reduceLE, Int.reduceToNat, Int.reduceBEq, Int.reduceNe, reduceCtorEq, r, s2.get]; done) | omega | (simp only [go_sem, Nat.reduceBEq, Nat.reduceAdd, Nat.reduceMul, Nat.reduceSub, Nat.reduceEqDiff, Nat.reduceLeDiff, Nat.reduceLT, Int.reduceEq, Int.reduceAdd, Int.reduceSub, Int.reduceMul, Int.reduceNeg, Int.reduceLT, Int.reduceLE, Int.reduceToNat, Int.reduceBEq, Int.reduceNe, reduceCtorEq, r, s2.get]; omega)) only [go_sem, Nat.reduceBEq, Nat.reduceAdd, Nat.reduceMul, Nat.reduceSub, Nat.reduceEqDiff, Nat.reduceLeDiff, Nat.reduceLT, Int.reduceEq, Int.reduceAdd, Int.reduceSub, Int.reduceMul, Int.reduceNeg, Int.reduceLT, Int.reduceLE, Int.reduceToNat, Int.reduceBEq, Int.reduceNe, reduceCtorEq, w64_id, w8_id, w16_id, w32_id, tmod_pos, tdiv_pos, Bool.or_true, Bool.true_or, Bool.or_false, Bool.false_or, Bool.and_false, Bool.false_and, condK_decide, r, s2.get]
    exact hR _ _ ⟨by rw [if_pos r]; rfl, s2.swap.ext⟩
  · simp (maxSteps := 2000000) (disch := first | (simp only [go_sem, Nat.reduceBEq, Nat.reduceAdd, Nat.reduceMul, Nat.reduceSub, Nat.reduceEqDiff, Nat.reduceLeDiff, Nat.reduceLT, Int.reduceEq, Int.reduceAdd, Int.reduceSub, Int.reduceMul, Int.reduceNeg, Int.reduceLT, Int.reduceLE, Int.reduceToNat, Int.reduceBEq, Int.reduceNe, reduceCtorEq, r, s2.get]; done) | omega | (simp only [go_sem, Nat.reduceBEq, Nat.reduceAdd, Nat.reduceMul, Nat.reduceSub, Nat.reduceEqDiff, Nat.reduceLeDiff, Nat.reduceLT, Int.reduceEq, Int.reduceAdd, Int.reduceSub, Int.reduceMul, Int.reduceNeg, Int.reduceLT, Int.reduceLE, Int.reduceToNat, Int.reduceBEq, Int.reduceNe, reduceCtorEq, r, s2.get]; omega)) only [go_sem, Nat.reduceBEq, Nat.reduceAdd, Nat.reduceMul, Nat.reduceSub, Nat.reduceEqDiff, Nat.reduceLeDiff, Nat.reduceLT, Int.reduceEq, Int.reduceAdd, Int.reduceSub, Int.reduceMul, Int.reduceNeg, Int.reduceLT, Int.reduceLE, Int.reduceToNat, Int.reduceBEq, Int.reduceNe, reduceCtorEq, w64_id, w8_id, w16_id, w32_id, tmod_pos, tdiv_pos, Bool.or_true, Bool.true_or, Bool.or_false, Bool.false_or, Bool.and_false, Bool.false_and, condK_decide, r, s2.get]
    exact hR _ _ ⟨by rw [if_neg r], s2.swap.ext⟩
end
end Go.Eng
