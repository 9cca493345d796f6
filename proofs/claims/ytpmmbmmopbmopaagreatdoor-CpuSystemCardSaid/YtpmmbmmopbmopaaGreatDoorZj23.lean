/-
  A guest's system registers, plain.
-/
import Derived.Test.YtpmmbmmopbmopaaGreatDoorZj20
namespace Go.Eng
set_option linter.unusedSimpArgs false
set_option linter.unusedVariables false
set_option maxRecDepth 16000
set_option maxHeartbeats 4000000
open Go Go.Proofs
def inS (w : Int) : Cp := ⟨[0, 0, w, 0, 0, 0, 0, 0, 0, 0, 0, 0, 0, 0, 0, 0], 0, [0, 0, 0, 0, 0, 0, 77, 0]⟩
def msrI (n : Nat) : Ins := ⟨20, 0, 2, 0, n⟩
def mrsI (n : Nat) : Ins := ⟨19, 3, 0, 0, n⟩
theorem msrI_right {n : Nat} (hn : n < 65536) : rightI (msrI n) = true := by
  unfold msrI rightI
  rw [show kd 20 = ⟨#[98, 105]⟩ from rfl]
  simp [neB_eq, fieldP, hasB]
  omega
theorem mrsI_right {n : Nat} (hn : n < 65536) : rightI (mrsI n) = true := by
  unfold mrsI rightI
  rw [show kd 19 = ⟨#[97, 105]⟩ from rfl]
  simp [neB_eq, fieldP, hasB]
  omega
theorem sys1 {n : Nat} (hn : n < 65536) (w : Int) : (stepP 16 (exMch (msrI n) true) (inS w) 1 3 0).c = (if 6 ≤ n then inS w else { setS (inS w) n w with Pc := 4 }) ∧ (stepP 16 (exMch (msrI n) true) (inS w) 1 3 0).t = if 6 ≤ n then ⟨7, n, 0, okF⟩ else okT := by
  rw [exStep (msrI_right hn) true (inS w) rfl rfl, if_neg (by simp)]
  by_cases q : 6 ≤ n
  · have q1 : (6 : Int) ≤ n := by omega
    simp [doP, msrI, q, q1, inS]
  · have q1 : ¬ (6 : Int) ≤ n := by omega
    simp [doP, msrI, q, q1, inS, go, rg, setS]
theorem sys2 {n : Nat} (hn : n < 65536) (c : Cp) (hc : c.Pc = 0) (h0 : sy c 0 = 0) : (stepP 16 (exMch (mrsI n) true) c 1 3 0).c = (if 6 < n then c else { setR c 3 (sy c n) with Pc := 4 }) ∧ (stepP 16 (exMch (mrsI n) true) c 1 3 0).t = if 6 < n then ⟨7, n, 0, okF⟩ else okT := by
  rw [exStep (mrsI_right hn) true c hc (by unfold spaceP; rw [h0]; rfl), if_neg (by simp)]
  by_cases q : 6 < n
  · have q1 : (6 : Int) < n := by omega
    simp [doP, mrsI, q, q1, hc]
  · have q1 : ¬ (6 : Int) < n := by omega
    simp [doP, mrsI, q, q1, hc, go]
theorem inS_fit {w : Int} (h0 : 0 ≤ w) (h1 : w < 4294967296) : (inS w).fit := ⟨rfl, rfl, by intro x hx; simp [inS] at hx; omega, by intro x hx; simp [inS] at hx; omega, by simp [inS], by simp [inS]⟩
end Go.Eng
/-
  The law CpuSystem.
-/
namespace Go.Eng
set_option linter.unusedSimpArgs false
set_option linter.unusedVariables false
set_option maxRecDepth 16000
set_option maxHeartbeats 4000000
open Go Go.Proofs
theorem sy_set0 {c : Cp} : sy (setS c 0 0) 0 = 0 := by
  unfold sy setS
  cases c.Sys <;> rfl
theorem sy_setn {w : Int} {n : Nat} (hn : n < 8) {p : Int} : sy ⟨(setS (inS w) n w).Regs, p, (setS (inS w) n w).Sys⟩ n = w := by
  unfold sy setS inS
  simp only [Int.toNat_natCast]
  rw [List.getD_eq_getElem?_getD, List.getElem?_set_self (by simpa using hn)]
  rfl
theorem rg_set3 {c : Cp} (f : c.fit) {v p : Int} : rg ⟨(setR c 3 v).Regs, p, (setR c 3 v).Sys⟩ 3 = v := by
  unfold rg setR
  show (c.Regs.set 3 v).getD 3 0 = v
  rw [List.getD_eq_getElem?_getD, List.getElem?_set_self (by rw [f.lr]; decide)]
  rfl
section
variable {h : Heap}
theorem system_law (n : Int) (w : Nat) (hw : w < 4294967296) :
    HCalls Tryz.prog 5 #[.int .i64 n, .int .u32 w] h fun v h' => v = .bool true ∧ Ext h h' := by
  refine HCalls.via fun R hR => ?_
  refine HCalls.of_dev T5 Tryz.func5 rfl mixed (by kernel_rfl) ?_; rw [Tryz.results5]
  simp (maxSteps := 2000000) (disch := first | (simp only [go_sem, Nat.reduceBEq, Nat.reduceAdd, Nat.reduceMul, Nat.reduceSub, Nat.reduceEqDiff, Nat.reduceLeDiff, Nat.reduceLT, Int.reduceEq, Int.reduceAdd, Int.reduceSub, Int.reduceMul, Int.reduceNeg, Int.reduceLT, Int.reduceLE, Int.reduceToNat, Int.reduceBEq, Int.reduceNe, reduceCtorEq] <;> omega) | omega) only [go_sem, Nat.reduceBEq, Nat.reduceAdd, Nat.reduceMul, Nat.reduceSub, Nat.reduceEqDiff, Nat.reduceLeDiff, Nat.reduceLT, Int.reduceEq, Int.reduceAdd, Int.reduceSub, Int.reduceMul, Int.reduceNeg, Int.reduceLT, Int.reduceLE, Int.reduceToNat, Int.reduceBEq, Int.reduceNe, reduceCtorEq, w64_id, w8_id, w16_id, w32_id, tmod_pos, tdiv_pos, Bool.or_true, Bool.true_or, Bool.or_false, Bool.false_or, Bool.and_false, Bool.false_and, condK_decide]
  refine awake_S.mono ?_
  rintro v h1 ⟨rfl, x1⟩
  have s1 := (Sat.init h).grow x1
  have out : R (.bool true) h1 := hR _ _ ⟨rfl, s1.ext⟩
  by_cases c0 : n < 0
  · simp (maxSteps := 2000000) (disch := first | (simp only [go_sem, Nat.reduceBEq, Nat.reduceAdd, Nat.reduceMul, Nat.reduceSub, Nat.reduceEqDiff, Nat.reduceLeDiff, Nat.reduceLT, Int.reduceEq, Int.reduceAdd, Int.reduceSub, Int.reduceMul, Int.reduceNeg, Int.reduceLT, Int.reduceLE, Int.reduceToNat, Int.reduceBEq, Int.reduceNe, reduceCtorEq, c0] <;> omega) | omega) only [go_sem, Nat.reduceBEq, Nat.reduceAdd, Nat.reduceMul, Nat.reduceSub, Nat.reduceEqDiff, Nat.reduceLeDiff, Nat.reduceLT, Int.reduceEq, Int.reduceAdd, Int.reduceSub, Int.reduceMul, Int.reduceNeg, Int.reduceLT, Int.reduceLE, Int.reduceToNat, Int.reduceBEq, Int.reduceNe, reduceCtorEq, w64_id, w8_id, w16_id, w32_id, tmod_pos, tdiv_pos, Bool.or_true, Bool.true_or, Bool.or_false, Bool.false_or, Bool.and_false, Bool.false_and, condK_decide, c0]
    repeat (first | exact out | refine rdK_any fun _ => ?_)
  by_cases c1 : 65535 < n
  · simp (maxSteps := 2000000) (disch := first | (simp only [go_sem, Nat.reduceBEq, Nat.reduceAdd, Nat.reduceMul, Nat.reduceSub, Nat.reduceEqDiff, Nat.reduceLeDiff, Nat.reduceLT, Int.reduceEq, Int.reduceAdd, Int.reduceSub, Int.reduceMul, Int.reduceNeg, Int.reduceLT, Int.reduceLE, Int.reduceToNat, Int.reduceBEq, Int.reduceNe, reduceCtorEq, c0, c1] <;> omega) | omega) only [go_sem, Nat.reduceBEq, Nat.reduceAdd, Nat.reduceMul, Nat.reduceSub, Nat.reduceEqDiff, Nat.reduceLeDiff, Nat.reduceLT, Int.reduceEq, Int.reduceAdd, Int.reduceSub, Int.reduceMul, Int.reduceNeg, Int.reduceLT, Int.reduceLE, Int.reduceToNat, Int.reduceBEq, Int.reduceNe, reduceCtorEq, w64_id, w8_id, w16_id, w32_id, tmod_pos, tdiv_pos, Bool.or_true, Bool.true_or, Bool.or_false, Bool.false_or, Bool.and_false, Bool.false_and, condK_decide, c0, c1]
    repeat (first | exact out | refine rdK_any fun _ => ?_)
  obtain ⟨n, rfl⟩ := Int.eq_ofNat_of_zero_le (show 0 ≤ n by omega)
  have hn : n < 65536 := by omega
  simp (maxSteps := 2000000) (disch := first | (simp only [go_sem, Nat.reduceBEq, Nat.reduceAdd, Nat.reduceMul, Nat.reduceSub, Nat.reduceEqDiff, Nat.reduceLeDiff, Nat.reduceLT, Int.reduceEq, Int.reduceAdd, Int.reduceSub, Int.reduceMul, Int.reduceNeg, Int.reduceLT, Int.reduceLE, Int.reduceToNat, Int.reduceBEq, Int.reduceNe, reduceCtorEq, c0, c1] <;> omega) | omega) only [go_sem, Nat.reduceBEq, Nat.reduceAdd, Nat.reduceMul, Nat.reduceSub, Nat.reduceEqDiff, Nat.reduceLeDiff, Nat.reduceLT, Int.reduceEq, Int.reduceAdd, Int.reduceSub, Int.reduceMul, Int.reduceNeg, Int.reduceLT, Int.reduceLE, Int.reduceToNat, Int.reduceBEq, Int.reduceNe, reduceCtorEq, w64_id, w8_id, w16_id, w32_id, tmod_pos, tdiv_pos, Bool.or_true, Bool.true_or, Bool.or_false, Bool.false_or, Bool.and_false, Bool.false_and, condK_decide, c0, c1]
  have r := msrI_right hn
  obtain ⟨w0, w1⟩ := word_lt r
  refine (example_S (msrI n) true).mono ?_
  rintro v h2 ⟨v1, v2, rfl, r1, r2, x2⟩
  have s2 := s1.grow x2
  simp (maxSteps := 2000000) (disch := first | (simp only [go_sem, Nat.reduceBEq, Nat.reduceAdd, Nat.reduceMul, Nat.reduceSub, Nat.reduceEqDiff, Nat.reduceLeDiff, Nat.reduceLT, Int.reduceEq, Int.reduceAdd, Int.reduceSub, Int.reduceMul, Int.reduceNeg, Int.reduceLT, Int.reduceLE, Int.reduceToNat, Int.reduceBEq, Int.reduceNe, reduceCtorEq] <;> omega) | omega) only [go_sem, Nat.reduceBEq, Nat.reduceAdd, Nat.reduceMul, Nat.reduceSub, Nat.reduceEqDiff, Nat.reduceLeDiff, Nat.reduceLT, Int.reduceEq, Int.reduceAdd, Int.reduceSub, Int.reduceMul, Int.reduceNeg, Int.reduceLT, Int.reduceLE, Int.reduceToNat, Int.reduceBEq, Int.reduceNe, reduceCtorEq, w64_id, w8_id, w16_id, w32_id, tmod_pos, tdiv_pos, Bool.or_true, Bool.true_or, Bool.or_false, Bool.false_or, Bool.and_false, Bool.false_and, condK_decide]
  refine (madeEx_S (msrI n) true ⟨by rw [if_pos r]; exact w0, by rw [if_pos r]; exact w1⟩ r1 r2).mono ?_
  rintro v h3 ⟨rb, tb, p, y1, y2, y3, rfl, m1⟩
  have s3 := s2.over m1
  have s4 := s3.push (.cells #[.pointer (some ⟨rb, 0, none⟩), .pointer (some ⟨tb, 0, none⟩), .pointer p, .pointer y1, .pointer y2, .pointer y3] 38 (0, 0))
  simp (maxSteps := 2000000) (disch := first | (simp only [go_sem, Nat.reduceBEq, Nat.reduceAdd, Nat.reduceMul, Nat.reduceSub, Nat.reduceEqDiff, Nat.reduceLeDiff, Nat.reduceLT, Int.reduceEq, Int.reduceAdd, Int.reduceSub, Int.reduceMul, Int.reduceNeg, Int.reduceLT, Int.reduceLE, Int.reduceToNat, Int.reduceBEq, Int.reduceNe, reduceCtorEq] <;> omega) | omega) only [go_sem, Nat.reduceBEq, Nat.reduceAdd, Nat.reduceMul, Nat.reduceSub, Nat.reduceEqDiff, Nat.reduceLeDiff, Nat.reduceLT, Int.reduceEq, Int.reduceAdd, Int.reduceSub, Int.reduceMul, Int.reduceNeg, Int.reduceLT, Int.reduceLE, Int.reduceToNat, Int.reduceBEq, Int.reduceNe, reduceCtorEq, w64_id, w8_id, w16_id, w32_id, tmod_pos, tdiv_pos, Bool.or_true, Bool.true_or, Bool.or_false, Bool.false_or, Bool.and_false, Bool.false_and, condK_decide]
  have q := mrsI_right hn
  obtain ⟨u0, u1⟩ := word_lt q
  refine (example_S (mrsI n) true).mono ?_
  rintro v h4 ⟨v3, v4, rfl, r3, r4, x3⟩
  have s5 := s4.grow x3
  simp (maxSteps := 2000000) (disch := first | (simp only [go_sem, Nat.reduceBEq, Nat.reduceAdd, Nat.reduceMul, Nat.reduceSub, Nat.reduceEqDiff, Nat.reduceLeDiff, Nat.reduceLT, Int.reduceEq, Int.reduceAdd, Int.reduceSub, Int.reduceMul, Int.reduceNeg, Int.reduceLT, Int.reduceLE, Int.reduceToNat, Int.reduceBEq, Int.reduceNe, reduceCtorEq] <;> omega) | omega) only [go_sem, Nat.reduceBEq, Nat.reduceAdd, Nat.reduceMul, Nat.reduceSub, Nat.reduceEqDiff, Nat.reduceLeDiff, Nat.reduceLT, Int.reduceEq, Int.reduceAdd, Int.reduceSub, Int.reduceMul, Int.reduceNeg, Int.reduceLT, Int.reduceLE, Int.reduceToNat, Int.reduceBEq, Int.reduceNe, reduceCtorEq, w64_id, w8_id, w16_id, w32_id, tmod_pos, tdiv_pos, Bool.or_true, Bool.true_or, Bool.or_false, Bool.false_or, Bool.and_false, Bool.false_and, condK_decide]
  refine (madeEx_S (mrsI n) true ⟨by rw [if_pos q]; exact u0, by rw [if_pos q]; exact u1⟩ r3 r4).mono ?_
  rintro v h5 ⟨rb2, tb2, p2, y4, y5, y6, rfl, m2⟩
  have s6 := s5.over m2
  have s7 := s6.push (.cells #[.pointer (some ⟨rb2, 0, none⟩), .pointer (some ⟨tb2, 0, none⟩), .pointer p2, .pointer y4, .pointer y5, .pointer y6] 38 (0, 0))
  simp (maxSteps := 2000000) (disch := first | (simp only [go_sem, Nat.reduceBEq, Nat.reduceAdd, Nat.reduceMul, Nat.reduceSub, Nat.reduceEqDiff, Nat.reduceLeDiff, Nat.reduceLT, Int.reduceEq, Int.reduceAdd, Int.reduceSub, Int.reduceMul, Int.reduceNeg, Int.reduceLT, Int.reduceLE, Int.reduceToNat, Int.reduceBEq, Int.reduceNe, reduceCtorEq] <;> omega) | omega) only [go_sem, Nat.reduceBEq, Nat.reduceAdd, Nat.reduceMul, Nat.reduceSub, Nat.reduceEqDiff, Nat.reduceLeDiff, Nat.reduceLT, Int.reduceEq, Int.reduceAdd, Int.reduceSub, Int.reduceMul, Int.reduceNeg, Int.reduceLT, Int.reduceLE, Int.reduceToNat, Int.reduceBEq, Int.reduceNe, reduceCtorEq, w64_id, w8_id, w16_id, w32_id, tmod_pos, tdiv_pos, Bool.or_true, Bool.true_or, Bool.or_false, Bool.false_or, Bool.and_false, Bool.false_and, condK_decide]
  have s8 := s7.push (.cells #[.int .u32 0, .int .u32 0, .int .u32 w, .int .u32 0, .int .u32 0, .int .u32 0, .int .u32 0, .int .u32 0, .int .u32 0, .int .u32 0, .int .u32 0, .int .u32 0, .int .u32 0, .int .u32 0, .int .u32 0, .int .u32 0, .int .i64 0, .int .u32 0, .int .u32 0, .int .u32 0, .int .u32 0, .int .u32 0, .int .u32 0, .int .u32 77, .int .u32 0] 48 (0, 0))
  simp only [size_push'] at s8
  have gm := (s8.front 3).get
  simp (maxSteps := 2000000) (disch := first | (simp only [go_sem, Nat.reduceBEq, Nat.reduceAdd, Nat.reduceMul, Nat.reduceSub, Nat.reduceEqDiff, Nat.reduceLeDiff, Nat.reduceLT, Int.reduceEq, Int.reduceAdd, Int.reduceSub, Int.reduceMul, Int.reduceNeg, Int.reduceLT, Int.reduceLE, Int.reduceToNat, Int.reduceBEq, Int.reduceNe, reduceCtorEq, gm] <;> omega) | omega) only [go_sem, Nat.reduceBEq, Nat.reduceAdd, Nat.reduceMul, Nat.reduceSub, Nat.reduceEqDiff, Nat.reduceLeDiff, Nat.reduceLT, Int.reduceEq, Int.reduceAdd, Int.reduceSub, Int.reduceMul, Int.reduceNeg, Int.reduceLT, Int.reduceLE, Int.reduceToNat, Int.reduceBEq, Int.reduceNe, reduceCtorEq, w64_id, w8_id, w16_id, w32_id, tmod_pos, tdiv_pos, Bool.or_true, Bool.true_or, Bool.or_false, Bool.false_or, Bool.and_false, Bool.false_and, condK_decide, gm]
  have fS := inS_fit (w := w) (by omega) (by omega)
  refine (stepM_S (c := inS w) fS (s8.front 4) 1 3 0 (fun _ _ _ _ _ _ _ => Nat.zero_le _)).mono ?_
  rintro v h6 ⟨rfl, f1, t1⟩
  have e := sys1 hn w
  simp only [exMch, if_true] at e f1 t1 ⊢
  obtain ⟨st, hst⟩ : ∃ st, stepP 16 ⟨exM (msrI n), noT, some 256⟩ (inS w) 1 3 0 = st := ⟨_, rfl⟩
  rw [hst] at e f1 t1 ⊢
  clear hst
  obtain ⟨M1, c1, tr⟩ := st
  simp only at e f1 t1 ⊢
  obtain ⟨e1, e2⟩ := e
  simp (maxSteps := 2000000) (disch := first | (simp only [go_sem, Nat.reduceBEq, Nat.reduceAdd, Nat.reduceMul, Nat.reduceSub, Nat.reduceEqDiff, Nat.reduceLeDiff, Nat.reduceLT, Int.reduceEq, Int.reduceAdd, Int.reduceSub, Int.reduceMul, Int.reduceNeg, Int.reduceLT, Int.reduceLE, Int.reduceToNat, Int.reduceBEq, Int.reduceNe, reduceCtorEq] <;> omega) | omega) only [go_sem, Nat.reduceBEq, Nat.reduceAdd, Nat.reduceMul, Nat.reduceSub, Nat.reduceEqDiff, Nat.reduceLeDiff, Nat.reduceLT, Int.reduceEq, Int.reduceAdd, Int.reduceSub, Int.reduceMul, Int.reduceNeg, Int.reduceLT, Int.reduceLE, Int.reduceToNat, Int.reduceBEq, Int.reduceNe, reduceCtorEq, w64_id, w8_id, w16_id, w32_id, tmod_pos, tdiv_pos, Bool.or_true, Bool.true_or, Bool.or_false, Bool.false_or, Bool.and_false, Bool.false_and, condK_decide]
  have q0 := (t1.push (.cells (tzeroD Tryz.prog 48).cells 48 (0, 0))).push (.cells okT.cells.toArray 52 (0, 0))
  simp only [tzeroD_48, Trp.cells_eq, okT, okF, size_push'] at q0
  refine store_cpu f1 (q0.front 1).get (by rfl) ?_
  have q1 := (t1.push (.cells c1.cells.toArray 48 (0, 0))).push (.cells okT.cells.toArray 52 (0, 0))
  have q2 := (t1.push (.cells c1.cells.toArray 48 (0, 0))).push (.cells tr.cells.toArray 52 (0, 0))
  simp only [Trp.cells_eq, okT, okF, size_push'] at q1 q2
  have gt := q1.get
  have g2 := q2.get
  have gc := (q2.front 1).get
  have gin := (q2.front 3).get
  have tk1 := take_cpu f1
  have f2 : (pcC c1 0).fit := setPc_fit f1 (by decide) (by decide)
  have f3 : (setS (pcC c1 0) 0 0).fit := setS_fit f2 (by decide)
  have l1 : 16 < c1.cells.length := by rw [Cp.len f1]; omega
  have l2 : 17 < (pcC c1 0).cells.length := by rw [Cp.len f2]; omega
  have p1 : c1.cells.set 16 (.int .i64 0) = (pcC c1 0).cells := setPc_cells f1
  have p2 : (pcC c1 0).cells.set 17 (.int .u32 0) = (setS (pcC c1 0) 0 0).cells := setS_cells f2 (a := 0)
  obtain ⟨c2, hc2⟩ : ∃ c2, setS (pcC c1 0) 0 0 = c2 := ⟨_, rfl⟩
  rw [hc2] at f3 p2
  have q3 := (q2.front 1).set (.cells (pcC c1 0).cells.toArray 48 (0, 0))
  have q4 := q3.set (.cells c2.cells.toArray 48 (0, 0))
  have g3 := q3.get
  have g4 := q4.get
  have gm2 := (q4.front 4).get
  have tk2 := take_cpu f3
  by_cases k : 5 < (n : Int)
  · rw [if_pos (by omega)] at e1 e2
    have be := fun (h : Heap) (x y : Operand) => binD_neq_flat (h := h) (x := x) (y := y) (P := Tryz.prog) (t := 48) (by kernel_rfl) (fitC f1) (fitC fS)
    simp only [eqC f1 fS, decide_eq_true e1, Bool.not_true] at be
    have be' : ∀ (h : Heap) (x y : Operand), binD Tryz.prog h .neq 48 x y (.agg c1.cells.toArray) (.agg #[.int .u32 0, .int .u32 0, .int .u32 w, .int .u32 0, .int .u32 0, .int .u32 0, .int .u32 0, .int .u32 0, .int .u32 0, .int .u32 0, .int .u32 0, .int .u32 0, .int .u32 0, .int .u32 0, .int .u32 0, .int .u32 0, .int .i64 0, .int .u32 0, .int .u32 0, .int .u32 0, .int .u32 0, .int .u32 0, .int .u32 0, .int .u32 77, .int .u32 0]) = some (.bool false) := be
    subst e2
    simp only [okF] at q2 g2 gc gin gm2 g3 g4
    have x2 : okF = ⟨0, 0, 0, false, 0⟩ := rfl
    simp (maxSteps := 2000000) (disch := first | (simp only [go_sem, Nat.reduceBEq, Nat.reduceAdd, Nat.reduceMul, Nat.reduceSub, Nat.reduceEqDiff, Nat.reduceLeDiff, Nat.reduceLT, Int.reduceEq, Int.reduceAdd, Int.reduceSub, Int.reduceMul, Int.reduceNeg, Int.reduceLT, Int.reduceLE, Int.reduceToNat, Int.reduceBEq, Int.reduceNe, reduceCtorEq, k, gt, g2, gc, gin, tk1, be', eqls_52, neqs_52, l1, l2, p1, p2, g3, g4, gm2, tk2, x2] <;> omega) | omega) only [go_sem, Nat.reduceBEq, Nat.reduceAdd, Nat.reduceMul, Nat.reduceSub, Nat.reduceEqDiff, Nat.reduceLeDiff, Nat.reduceLT, Int.reduceEq, Int.reduceAdd, Int.reduceSub, Int.reduceMul, Int.reduceNeg, Int.reduceLT, Int.reduceLE, Int.reduceToNat, Int.reduceBEq, Int.reduceNe, reduceCtorEq, w64_id, w8_id, w16_id, w32_id, tmod_pos, tdiv_pos, Bool.or_true, Bool.true_or, Bool.or_false, Bool.false_or, Bool.and_false, Bool.false_and, condK_decide, k, gt, g2, gc, gin, tk1, be', eqls_52, neqs_52, l1, l2, p1, p2, g3, g4, gm2, tk2, x2]
    have q5 := (t1.push (.cells c2.cells.toArray 48 (0, 0))).push (.cells #[.int .i64 7, .int .i64 n, .int .i64 0, .int .i64 0, .int .i64 0, .int .i64 0, .bool false, .int .i64 0] 52 (0, 0))
    simp only [size_push'] at q5
    have gm5 := (q5.front 4).get
    simp (maxSteps := 2000000) (disch := first | (simp only [go_sem, Nat.reduceBEq, Nat.reduceAdd, Nat.reduceMul, Nat.reduceSub, Nat.reduceEqDiff, Nat.reduceLeDiff, Nat.reduceLT, Int.reduceEq, Int.reduceAdd, Int.reduceSub, Int.reduceMul, Int.reduceNeg, Int.reduceLT, Int.reduceLE, Int.reduceToNat, Int.reduceBEq, Int.reduceNe, reduceCtorEq, gm5] <;> omega) | omega) only [go_sem, Nat.reduceBEq, Nat.reduceAdd, Nat.reduceMul, Nat.reduceSub, Nat.reduceEqDiff, Nat.reduceLeDiff, Nat.reduceLT, Int.reduceEq, Int.reduceAdd, Int.reduceSub, Int.reduceMul, Int.reduceNeg, Int.reduceLT, Int.reduceLE, Int.reduceToNat, Int.reduceBEq, Int.reduceNe, reduceCtorEq, w64_id, w8_id, w16_id, w32_id, tmod_pos, tdiv_pos, Bool.or_true, Bool.true_or, Bool.or_false, Bool.false_or, Bool.and_false, Bool.false_and, condK_decide, gm5]
    refine (stepM_S (c := c2) f3 (q5.front 5) 1 3 0 (fun _ _ _ _ _ _ _ => Nat.zero_le _)).mono ?_
    rintro v h7 ⟨rfl, f4, t2⟩
    have e := sys2 hn c2 (by rw [← hc2]; rfl) (by rw [← hc2]; exact sy_set0)
    simp only [exMch, if_true] at e f4 t2 ⊢
    obtain ⟨st, hst⟩ : ∃ st, stepP 16 ⟨exM (mrsI n), noT, some 256⟩ c2 1 3 0 = st := ⟨_, rfl⟩
    rw [hst] at e f4 t2 ⊢
    clear hst
    obtain ⟨M2, c3, tr2⟩ := st
    simp only at e f4 t2 ⊢
    obtain ⟨e3, e4⟩ := e
    simp (maxSteps := 2000000) (disch := first | (simp only [go_sem, Nat.reduceBEq, Nat.reduceAdd, Nat.reduceMul, Nat.reduceSub, Nat.reduceEqDiff, Nat.reduceLeDiff, Nat.reduceLT, Int.reduceEq, Int.reduceAdd, Int.reduceSub, Int.reduceMul, Int.reduceNeg, Int.reduceLT, Int.reduceLE, Int.reduceToNat, Int.reduceBEq, Int.reduceNe, reduceCtorEq] <;> omega) | omega) only [go_sem, Nat.reduceBEq, Nat.reduceAdd, Nat.reduceMul, Nat.reduceSub, Nat.reduceEqDiff, Nat.reduceLeDiff, Nat.reduceLT, Int.reduceEq, Int.reduceAdd, Int.reduceSub, Int.reduceMul, Int.reduceNeg, Int.reduceLT, Int.reduceLE, Int.reduceToNat, Int.reduceBEq, Int.reduceNe, reduceCtorEq, w64_id, w8_id, w16_id, w32_id, tmod_pos, tdiv_pos, Bool.or_true, Bool.true_or, Bool.or_false, Bool.false_or, Bool.and_false, Bool.false_and, condK_decide]
    have z0 := (t2.push (.cells (tzeroD Tryz.prog 48).cells 48 (0, 0))).push (.cells okT.cells.toArray 52 (0, 0))
    simp only [tzeroD_48, Trp.cells_eq, okT, okF, size_push'] at z0
    refine store_cpu f4 (z0.front 1).get (by rfl) ?_
    have z1 := (t2.push (.cells c3.cells.toArray 48 (0, 0))).push (.cells okT.cells.toArray 52 (0, 0))
    have z2 := (t2.push (.cells c3.cells.toArray 48 (0, 0))).push (.cells tr2.cells.toArray 52 (0, 0))
    simp only [Trp.cells_eq, okT, okF, size_push'] at z1 z2
    have y1 := z1.get
    have y2 := z2.get
    have y3 := (z2.front 1).get
    have y4 := (z2.front 4).get
    have tk3 := take_cpu f4
    have n3 : nthL c3.cells 3 = some (.int .u32 (rg c3 3)) := by rw [nthL_eq]; exact Cp.reg f4 (i := 3) (by decide)
    by_cases k6 : 6 < (n : Int)
    · have x3 := x2
      rw [if_pos (by omega)] at e3 e4
      have be2 := fun (h : Heap) (x y : Operand) => binD_eql_flat (h := h) (x := x) (y := y) (P := Tryz.prog) (t := 48) (by kernel_rfl) (fitC f4) (fitC f3)
      simp only [eqC f4 f3, decide_eq_true e3] at be2
      subst e4
      simp only [okF] at z2 y2 y3 y4 ⊢
      simp (maxSteps := 2000000) (disch := first | (simp only [go_sem, Nat.reduceBEq, Nat.reduceAdd, Nat.reduceMul, Nat.reduceSub, Nat.reduceEqDiff, Nat.reduceLeDiff, Nat.reduceLT, Int.reduceEq, Int.reduceAdd, Int.reduceSub, Int.reduceMul, Int.reduceNeg, Int.reduceLT, Int.reduceLE, Int.reduceToNat, Int.reduceBEq, Int.reduceNe, reduceCtorEq, y1, y2, y3, y4, tk3, tk2, k6, be2, eqls_52] <;> omega) | omega) only [go_sem, Nat.reduceBEq, Nat.reduceAdd, Nat.reduceMul, Nat.reduceSub, Nat.reduceEqDiff, Nat.reduceLeDiff, Nat.reduceLT, Int.reduceEq, Int.reduceAdd, Int.reduceSub, Int.reduceMul, Int.reduceNeg, Int.reduceLT, Int.reduceLE, Int.reduceToNat, Int.reduceBEq, Int.reduceNe, reduceCtorEq, w64_id, w8_id, w16_id, w32_id, tmod_pos, tdiv_pos, Bool.or_true, Bool.true_or, Bool.or_false, Bool.false_or, Bool.and_false, Bool.false_and, condK_decide, y1, y2, y3, y4, tk3, tk2, k6, be2, eqls_52]
      exact hR _ _ ⟨rfl, (z2.front 9).ext⟩
    · have x3 := x2
      rw [if_neg (by omega)] at e3 e4
      subst e4
      have nS : nthL c2.cells (17 + n) = some (.int .u32 (sy c2 n)) := by rw [nthL_eq]; exact Cp.sys f3 (by omega)
      have r3 : rg c3 3 = sy c2 n := by rw [e3]; exact rg_set3 f3
      have i0 : (0 : Int) ≤ n := by omega
      have i1 : (n : Int) < 8 := by omega
      simp only [okT, okF] at z2 y2 y3 y4 ⊢
      simp (maxSteps := 2000000) (disch := first | (simp only [go_sem, Nat.reduceBEq, Nat.reduceAdd, Nat.reduceMul, Nat.reduceSub, Nat.reduceEqDiff, Nat.reduceLeDiff, Nat.reduceLT, Int.reduceEq, Int.reduceAdd, Int.reduceSub, Int.reduceMul, Int.reduceNeg, Int.reduceLT, Int.reduceLE, Int.reduceToNat, Int.reduceBEq, Int.reduceNe, reduceCtorEq, y1, y2, y3, y4, n3, nS, r3, k6, i0, i1, eqls_52] <;> omega) | omega) only [go_sem, Nat.reduceBEq, Nat.reduceAdd, Nat.reduceMul, Nat.reduceSub, Nat.reduceEqDiff, Nat.reduceLeDiff, Nat.reduceLT, Int.reduceEq, Int.reduceAdd, Int.reduceSub, Int.reduceMul, Int.reduceNeg, Int.reduceLT, Int.reduceLE, Int.reduceToNat, Int.reduceBEq, Int.reduceNe, reduceCtorEq, w64_id, w8_id, w16_id, w32_id, tmod_pos, tdiv_pos, Bool.or_true, Bool.true_or, Bool.or_false, Bool.false_or, Bool.and_false, Bool.false_and, condK_decide, y1, y2, y3, y4, n3, nS, r3, k6, i0, i1, eqls_52]
      exact hR _ _ ⟨rfl, (z2.front 9).ext⟩
  · rw [if_neg (by omega)] at e1 e2
    subst e2
    simp only [okT, okF] at q2 g2 gc gin gm2 g3 g4 ⊢
    have nS1 : nthL c1.cells (17 + n) = some (.int .u32 (sy c1 n)) := by rw [nthL_eq]; exact Cp.sys f1 (by omega)
    have sw : sy c1 n = w := by rw [e1]; exact sy_setn (by omega)
    have nP : nthL c1.cells 16 = some (.int .i64 c1.Pc) := by rw [nthL_eq]; exact Cp.pc f1
    have pw : c1.Pc = 4 := by rw [e1]
    have i0 : (0 : Int) ≤ n := by omega
    have i1 : (n : Int) < 8 := by omega
    rw [sw] at nS1
    rw [pw] at nP
    simp (maxSteps := 2000000) (disch := first | (simp only [go_sem, Nat.reduceBEq, Nat.reduceAdd, Nat.reduceMul, Nat.reduceSub, Nat.reduceEqDiff, Nat.reduceLeDiff, Nat.reduceLT, Int.reduceEq, Int.reduceAdd, Int.reduceSub, Int.reduceMul, Int.reduceNeg, Int.reduceLT, Int.reduceLE, Int.reduceToNat, Int.reduceBEq, Int.reduceNe, reduceCtorEq, k, gt, g2, gc, gin, tk1, nS1, nP, i0, i1, eqls_52, neqs_52, l1, l2, p1, p2, g3, g4, gm2, tk2] <;> omega) | omega) only [go_sem, Nat.reduceBEq, Nat.reduceAdd, Nat.reduceMul, Nat.reduceSub, Nat.reduceEqDiff, Nat.reduceLeDiff, Nat.reduceLT, Int.reduceEq, Int.reduceAdd, Int.reduceSub, Int.reduceMul, Int.reduceNeg, Int.reduceLT, Int.reduceLE, Int.reduceToNat, Int.reduceBEq, Int.reduceNe, reduceCtorEq, w64_id, w8_id, w16_id, w32_id, tmod_pos, tdiv_pos, Bool.or_true, Bool.true_or, Bool.or_false, Bool.false_or, Bool.and_false, Bool.false_and, condK_decide, k, gt, g2, gc, gin, tk1, nS1, nP, i0, i1, eqls_52, neqs_52, l1, l2, p1, p2, g3, g4, gm2, tk2]
    have q5 := (t1.push (.cells c2.cells.toArray 48 (0, 0))).push (.cells #[.int .i64 0, .int .i64 0, .int .i64 0, .int .i64 0, .int .i64 0, .int .i64 0, .bool false, .int .i64 0] 52 (0, 0))
    simp only [size_push'] at q5
    have gm5 := (q5.front 4).get
    simp (maxSteps := 2000000) (disch := first | (simp only [go_sem, Nat.reduceBEq, Nat.reduceAdd, Nat.reduceMul, Nat.reduceSub, Nat.reduceEqDiff, Nat.reduceLeDiff, Nat.reduceLT, Int.reduceEq, Int.reduceAdd, Int.reduceSub, Int.reduceMul, Int.reduceNeg, Int.reduceLT, Int.reduceLE, Int.reduceToNat, Int.reduceBEq, Int.reduceNe, reduceCtorEq, gm5] <;> omega) | omega) only [go_sem, Nat.reduceBEq, Nat.reduceAdd, Nat.reduceMul, Nat.reduceSub, Nat.reduceEqDiff, Nat.reduceLeDiff, Nat.reduceLT, Int.reduceEq, Int.reduceAdd, Int.reduceSub, Int.reduceMul, Int.reduceNeg, Int.reduceLT, Int.reduceLE, Int.reduceToNat, Int.reduceBEq, Int.reduceNe, reduceCtorEq, w64_id, w8_id, w16_id, w32_id, tmod_pos, tdiv_pos, Bool.or_true, Bool.true_or, Bool.or_false, Bool.false_or, Bool.and_false, Bool.false_and, condK_decide, gm5]
    refine (stepM_S (c := c2) f3 (q5.front 5) 1 3 0 (fun _ _ _ _ _ _ _ => Nat.zero_le _)).mono ?_
    rintro v h7 ⟨rfl, f4, t2⟩
    have e := sys2 hn c2 (by rw [← hc2]; rfl) (by rw [← hc2]; exact sy_set0)
    simp only [exMch, if_true] at e f4 t2 ⊢
    obtain ⟨st, hst⟩ : ∃ st, stepP 16 ⟨exM (mrsI n), noT, some 256⟩ c2 1 3 0 = st := ⟨_, rfl⟩
    rw [hst] at e f4 t2 ⊢
    clear hst
    obtain ⟨M2, c3, tr2⟩ := st
    simp only at e f4 t2 ⊢
    obtain ⟨e3, e4⟩ := e
    simp (maxSteps := 2000000) (disch := first | (simp only [go_sem, Nat.reduceBEq, Nat.reduceAdd, Nat.reduceMul, Nat.reduceSub, Nat.reduceEqDiff, Nat.reduceLeDiff, Nat.reduceLT, Int.reduceEq, Int.reduceAdd, Int.reduceSub, Int.reduceMul, Int.reduceNeg, Int.reduceLT, Int.reduceLE, Int.reduceToNat, Int.reduceBEq, Int.reduceNe, reduceCtorEq] <;> omega) | omega) only [go_sem, Nat.reduceBEq, Nat.reduceAdd, Nat.reduceMul, Nat.reduceSub, Nat.reduceEqDiff, Nat.reduceLeDiff, Nat.reduceLT, Int.reduceEq, Int.reduceAdd, Int.reduceSub, Int.reduceMul, Int.reduceNeg, Int.reduceLT, Int.reduceLE, Int.reduceToNat, Int.reduceBEq, Int.reduceNe, reduceCtorEq, w64_id, w8_id, w16_id, w32_id, tmod_pos, tdiv_pos, Bool.or_true, Bool.true_or, Bool.or_false, Bool.false_or, Bool.and_false, Bool.false_and, condK_decide]
    have z0 := (t2.push (.cells (tzeroD Tryz.prog 48).cells 48 (0, 0))).push (.cells okT.cells.toArray 52 (0, 0))
    simp only [tzeroD_48, Trp.cells_eq, okT, okF, size_push'] at z0
    refine store_cpu f4 (z0.front 1).get (by rfl) ?_
    have z1 := (t2.push (.cells c3.cells.toArray 48 (0, 0))).push (.cells okT.cells.toArray 52 (0, 0))
    have z2 := (t2.push (.cells c3.cells.toArray 48 (0, 0))).push (.cells tr2.cells.toArray 52 (0, 0))
    simp only [Trp.cells_eq, okT, okF, size_push'] at z1 z2
    have y1 := z1.get
    have y2 := z2.get
    have y3 := (z2.front 1).get
    have y4 := (z2.front 4).get
    have tk3 := take_cpu f4
    have n3 : nthL c3.cells 3 = some (.int .u32 (rg c3 3)) := by rw [nthL_eq]; exact Cp.reg f4 (i := 3) (by decide)
    have k6 : ¬ 6 < (n : Int) := by omega
    · have x3 := k6
      rw [if_neg (by omega)] at e3 e4
      subst e4
      have nS : nthL c2.cells (17 + n) = some (.int .u32 (sy c2 n)) := by rw [nthL_eq]; exact Cp.sys f3 (by omega)
      have r3 : rg c3 3 = sy c2 n := by rw [e3]; exact rg_set3 f3
      have i0 : (0 : Int) ≤ n := by omega
      have i1 : (n : Int) < 8 := by omega
      simp only [okT, okF] at z2 y2 y3 y4 ⊢
      simp (maxSteps := 2000000) (disch := first | (simp only [go_sem, Nat.reduceBEq, Nat.reduceAdd, Nat.reduceMul, Nat.reduceSub, Nat.reduceEqDiff, Nat.reduceLeDiff, Nat.reduceLT, Int.reduceEq, Int.reduceAdd, Int.reduceSub, Int.reduceMul, Int.reduceNeg, Int.reduceLT, Int.reduceLE, Int.reduceToNat, Int.reduceBEq, Int.reduceNe, reduceCtorEq, y1, y2, y3, y4, n3, nS, r3, k6, i0, i1, eqls_52] <;> omega) | omega) only [go_sem, Nat.reduceBEq, Nat.reduceAdd, Nat.reduceMul, Nat.reduceSub, Nat.reduceEqDiff, Nat.reduceLeDiff, Nat.reduceLT, Int.reduceEq, Int.reduceAdd, Int.reduceSub, Int.reduceMul, Int.reduceNeg, Int.reduceLT, Int.reduceLE, Int.reduceToNat, Int.reduceBEq, Int.reduceNe, reduceCtorEq, w64_id, w8_id, w16_id, w32_id, tmod_pos, tdiv_pos, Bool.or_true, Bool.true_or, Bool.or_false, Bool.false_or, Bool.and_false, Bool.false_and, condK_decide, y1, y2, y3, y4, n3, nS, r3, k6, i0, i1, eqls_52]
      exact hR _ _ ⟨rfl, (z2.front 9).ext⟩
end
end Go.Eng
