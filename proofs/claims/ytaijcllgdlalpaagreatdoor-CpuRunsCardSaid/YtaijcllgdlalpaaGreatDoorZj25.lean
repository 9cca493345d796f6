/-
  The law CpuRuns.
-/
import Derived.Test.YtaijcllgdlalpaaGreatDoorZj24
import Derived.Test.YtaijcllgdlalpaaGreatDoorZj20
import Derived.Test.YtaijcllgdlalpaaGreatDoorZj23
namespace Go.Eng
set_option linter.unusedSimpArgs false
set_option linter.unusedVariables false
set_option maxRecDepth 16000
set_option maxHeartbeats 4000000
open Go Go.Proofs
section
variable {h : Heap}
theorem runs_law {v1 v2 : Value} {P : List PutP} {L : List WordP} (hp : rdL PutP.cells 6 h v1 P) (hL : rdL WordP.cells 2 h v2 L) (hb : ∀ x ∈ L, 0 ≤ x.w ∧ x.w < 4294967296) (g : Bool) (vm se many : Int) {c : Cp} (f : c.fit) :
    HCalls Tryz.prog 5 #[.agg #[v1, v2, .bool g, .int .i64 vm, .int .i64 se], .agg c.cells.toArray, .int .i64 many] h fun v h' => v = .bool true ∧ Ext h h' := by
  refine HCalls.via fun R hR => ?_
  refine HCalls.of_dev T5 Tryz.func5 rfl mixed (by kernel_rfl) ?_; rw [Tryz.results5]
  have s0 := ((Sat.init h).push (.cells #[v1, v2, .bool g, .int .i64 vm, .int .i64 se] 25 (0, 0))).push (.cells c.cells.toArray 30 (0, 0))
  simp only [size_push'] at s0
  have tk := take_cpu f
  simp (maxSteps := 2000000) (disch := first | (simp only [go_sem, Nat.reduceBEq, Nat.reduceAdd, Nat.reduceMul, Nat.reduceSub, Nat.reduceEqDiff, Nat.reduceLeDiff, Nat.reduceLT, Int.reduceEq, Int.reduceAdd, Int.reduceSub, Int.reduceMul, Int.reduceNeg, Int.reduceLT, Int.reduceLE, Int.reduceToNat, Int.reduceBEq, Int.reduceNe, reduceCtorEq, tk] <;> omega) | omega) only [go_sem, Nat.reduceBEq, Nat.reduceAdd, Nat.reduceMul, Nat.reduceSub, Nat.reduceEqDiff, Nat.reduceLeDiff, Nat.reduceLT, Int.reduceEq, Int.reduceAdd, Int.reduceSub, Int.reduceMul, Int.reduceNeg, Int.reduceLT, Int.reduceLE, Int.reduceToNat, Int.reduceBEq, Int.reduceNe, reduceCtorEq, w64_id, w8_id, w16_id, w32_id, tmod_pos, tdiv_pos, Bool.or_true, Bool.true_or, Bool.or_false, Bool.false_or, Bool.and_false, Bool.false_and, condK_decide, tk]
  refine awake_S.mono ?_
  rintro v h1 ⟨rfl, x1⟩
  have s1 := s0.grow x1
  have gx := (s1.front 1).get
  simp (maxSteps := 2000000) (disch := first | (simp only [go_sem, Nat.reduceBEq, Nat.reduceAdd, Nat.reduceMul, Nat.reduceSub, Nat.reduceEqDiff, Nat.reduceLeDiff, Nat.reduceLT, Int.reduceEq, Int.reduceAdd, Int.reduceSub, Int.reduceMul, Int.reduceNeg, Int.reduceLT, Int.reduceLE, Int.reduceToNat, Int.reduceBEq, Int.reduceNe, reduceCtorEq, gx] <;> omega) | omega) only [go_sem, Nat.reduceBEq, Nat.reduceAdd, Nat.reduceMul, Nat.reduceSub, Nat.reduceEqDiff, Nat.reduceLeDiff, Nat.reduceLT, Int.reduceEq, Int.reduceAdd, Int.reduceSub, Int.reduceMul, Int.reduceNeg, Int.reduceLT, Int.reduceLE, Int.reduceToNat, Int.reduceBEq, Int.reduceNe, reduceCtorEq, w64_id, w8_id, w16_id, w32_id, tmod_pos, tdiv_pos, Bool.or_true, Bool.true_or, Bool.or_false, Bool.false_or, Bool.and_false, Bool.false_and, condK_decide, gx]
  have e1 := (s1.front 2).ext
  refine (made_S hb g vm se (hp.ext e1) (hL.ext e1)).mono ?_
  rintro v h2 ⟨rb, tb, pv, y1, y2, y3, rfl, m1⟩
  have s2 := (s1.over m1).push (.cells #[.pointer (some ⟨rb, 0, none⟩), .pointer (some ⟨tb, 0, none⟩), .pointer pv, .pointer y1, .pointer y2, .pointer y3] 43 (0, 0))
  have gx2 := (s2.front 3).get
  simp (maxSteps := 2000000) (disch := first | (simp only [go_sem, Nat.reduceBEq, Nat.reduceAdd, Nat.reduceMul, Nat.reduceSub, Nat.reduceEqDiff, Nat.reduceLeDiff, Nat.reduceLT, Int.reduceEq, Int.reduceAdd, Int.reduceSub, Int.reduceMul, Int.reduceNeg, Int.reduceLT, Int.reduceLE, Int.reduceToNat, Int.reduceBEq, Int.reduceNe, reduceCtorEq, gx2] <;> omega) | omega) only [go_sem, Nat.reduceBEq, Nat.reduceAdd, Nat.reduceMul, Nat.reduceSub, Nat.reduceEqDiff, Nat.reduceLeDiff, Nat.reduceLT, Int.reduceEq, Int.reduceAdd, Int.reduceSub, Int.reduceMul, Int.reduceNeg, Int.reduceLT, Int.reduceLE, Int.reduceToNat, Int.reduceBEq, Int.reduceNe, reduceCtorEq, w64_id, w8_id, w16_id, w32_id, tmod_pos, tdiv_pos, Bool.or_true, Bool.true_or, Bool.or_false, Bool.false_or, Bool.and_false, Bool.false_and, condK_decide, gx2]
  have e2 := (s2.front 4).ext
  refine (made_S hb g vm se (hp.ext e2) (hL.ext e2)).mono ?_
  rintro v h3 ⟨rb', tb', pv', y1', y2', y3', rfl, m2⟩
  have s3 := (s2.over m2).push (.cells #[.pointer (some ⟨rb', 0, none⟩), .pointer (some ⟨tb', 0, none⟩), .pointer pv', .pointer y1', .pointer y2', .pointer y3'] 43 (0, 0))
  generalize hV : (if g = true then some (256 : Int) else none) = V at s3
  generalize hmem : memP P L = mem at s3
  have out : R (.bool true) (h3.push (.cells #[.pointer (some ⟨rb', 0, none⟩), .pointer (some ⟨tb', 0, none⟩), .pointer pv', .pointer y1', .pointer y2', .pointer y3'] 43 (0, 0))) := hR _ _ ⟨rfl, (s3.front 6).ext⟩
  by_cases c0 : many < 0
  · simp (maxSteps := 2000000) (disch := first | (simp only [go_sem, Nat.reduceBEq, Nat.reduceAdd, Nat.reduceMul, Nat.reduceSub, Nat.reduceEqDiff, Nat.reduceLeDiff, Nat.reduceLT, Int.reduceEq, Int.reduceAdd, Int.reduceSub, Int.reduceMul, Int.reduceNeg, Int.reduceLT, Int.reduceLE, Int.reduceToNat, Int.reduceBEq, Int.reduceNe, reduceCtorEq, c0] <;> omega) | omega) only [go_sem, Nat.reduceBEq, Nat.reduceAdd, Nat.reduceMul, Nat.reduceSub, Nat.reduceEqDiff, Nat.reduceLeDiff, Nat.reduceLT, Int.reduceEq, Int.reduceAdd, Int.reduceSub, Int.reduceMul, Int.reduceNeg, Int.reduceLT, Int.reduceLE, Int.reduceToNat, Int.reduceBEq, Int.reduceNe, reduceCtorEq, w64_id, w8_id, w16_id, w32_id, tmod_pos, tdiv_pos, Bool.or_true, Bool.true_or, Bool.or_false, Bool.false_or, Bool.and_false, Bool.false_and, condK_decide, c0]
    repeat (first | exact out | refine rdK_any fun _ => ?_)
  by_cases c1 : 60 < many
  · simp (maxSteps := 2000000) (disch := first | (simp only [go_sem, Nat.reduceBEq, Nat.reduceAdd, Nat.reduceMul, Nat.reduceSub, Nat.reduceEqDiff, Nat.reduceLeDiff, Nat.reduceLT, Int.reduceEq, Int.reduceAdd, Int.reduceSub, Int.reduceMul, Int.reduceNeg, Int.reduceLT, Int.reduceLE, Int.reduceToNat, Int.reduceBEq, Int.reduceNe, reduceCtorEq, c0, c1] <;> omega) | omega) only [go_sem, Nat.reduceBEq, Nat.reduceAdd, Nat.reduceMul, Nat.reduceSub, Nat.reduceEqDiff, Nat.reduceLeDiff, Nat.reduceLT, Int.reduceEq, Int.reduceAdd, Int.reduceSub, Int.reduceMul, Int.reduceNeg, Int.reduceLT, Int.reduceLE, Int.reduceToNat, Int.reduceBEq, Int.reduceNe, reduceCtorEq, w64_id, w8_id, w16_id, w32_id, tmod_pos, tdiv_pos, Bool.or_true, Bool.true_or, Bool.or_false, Bool.false_or, Bool.and_false, Bool.false_and, condK_decide, c0, c1]
    repeat (first | exact out | refine rdK_any fun _ => ?_)
  have gA := (s3.front 2).get
  have gc := (s3.front 4).get
  have gx3 := (s3.front 5).get
  simp (maxSteps := 2000000) (disch := first | (simp only [go_sem, Nat.reduceBEq, Nat.reduceAdd, Nat.reduceMul, Nat.reduceSub, Nat.reduceEqDiff, Nat.reduceLeDiff, Nat.reduceLT, Int.reduceEq, Int.reduceAdd, Int.reduceSub, Int.reduceMul, Int.reduceNeg, Int.reduceLT, Int.reduceLE, Int.reduceToNat, Int.reduceBEq, Int.reduceNe, reduceCtorEq, c0, c1, gA, gc, gx3, tk] <;> omega) | omega) only [go_sem, Nat.reduceBEq, Nat.reduceAdd, Nat.reduceMul, Nat.reduceSub, Nat.reduceEqDiff, Nat.reduceLeDiff, Nat.reduceLT, Int.reduceEq, Int.reduceAdd, Int.reduceSub, Int.reduceMul, Int.reduceNeg, Int.reduceLT, Int.reduceLE, Int.reduceToNat, Int.reduceBEq, Int.reduceNe, reduceCtorEq, w64_id, w8_id, w16_id, w32_id, tmod_pos, tdiv_pos, Bool.or_true, Bool.true_or, Bool.or_false, Bool.false_or, Bool.and_false, Bool.false_and, condK_decide, c0, c1, gA, gc, gx3, tk]
  refine (run_S f (s3.front 3) vm se many).mono ?_
  rintro v h4 ⟨rfl, fr, t1⟩
  have hlim : (min many 1000).toNat = many.toNat := by omega
  rw [hlim] at fr t1 ⊢
  obtain ⟨r, hr⟩ : ∃ r, runP 16 vm se many.toNat ⟨mem, noT, V⟩ c 0 = r := ⟨_, rfl⟩
  rw [hr] at fr t1 ⊢
  obtain ⟨M, cr, tr, kr⟩ := r
  simp only at fr t1 ⊢
  simp (maxSteps := 2000000) (disch := first | (simp only [go_sem, Nat.reduceBEq, Nat.reduceAdd, Nat.reduceMul, Nat.reduceSub, Nat.reduceEqDiff, Nat.reduceLeDiff, Nat.reduceLT, Int.reduceEq, Int.reduceAdd, Int.reduceSub, Int.reduceMul, Int.reduceNeg, Int.reduceLT, Int.reduceLE, Int.reduceToNat, Int.reduceBEq, Int.reduceNe, reduceCtorEq] <;> omega) | omega) only [go_sem, Nat.reduceBEq, Nat.reduceAdd, Nat.reduceMul, Nat.reduceSub, Nat.reduceEqDiff, Nat.reduceLeDiff, Nat.reduceLT, Int.reduceEq, Int.reduceAdd, Int.reduceSub, Int.reduceMul, Int.reduceNeg, Int.reduceLT, Int.reduceLE, Int.reduceToNat, Int.reduceBEq, Int.reduceNe, reduceCtorEq, w64_id, w8_id, w16_id, w32_id, tmod_pos, tdiv_pos, Bool.or_true, Bool.true_or, Bool.or_false, Bool.false_or, Bool.and_false, Bool.false_and, condK_decide]
  have q0 := (t1.push (.cells (tzeroD Tryz.prog 30).cells 30 (0, 0))).push (.cells okT.cells.toArray 56 (0, 0))
  simp only [tzeroD_30, Trp.cells_eq, okT, okF, size_push'] at q0
  refine store_cpu fr (q0.front 1).get (by rfl) ?_
  have q1 := (t1.push (.cells cr.cells.toArray 30 (0, 0))).push (.cells okT.cells.toArray 56 (0, 0))
  have q2 := (t1.push (.cells cr.cells.toArray 30 (0, 0))).push (.cells tr.cells.toArray 56 (0, 0))
  simp only [Trp.cells_eq, okT, okF, size_push'] at q1 q2
  have w1 := q1.get
  have w2 := (q2.front 6).get
  simp (maxSteps := 2000000) (disch := first | (simp only [go_sem, Nat.reduceBEq, Nat.reduceAdd, Nat.reduceMul, Nat.reduceSub, Nat.reduceEqDiff, Nat.reduceLeDiff, Nat.reduceLT, Int.reduceEq, Int.reduceAdd, Int.reduceSub, Int.reduceMul, Int.reduceNeg, Int.reduceLT, Int.reduceLE, Int.reduceToNat, Int.reduceBEq, Int.reduceNe, reduceCtorEq, w1, w2, tk] <;> omega) | omega) only [go_sem, Nat.reduceBEq, Nat.reduceAdd, Nat.reduceMul, Nat.reduceSub, Nat.reduceEqDiff, Nat.reduceLeDiff, Nat.reduceLT, Int.reduceEq, Int.reduceAdd, Int.reduceSub, Int.reduceMul, Int.reduceNeg, Int.reduceLT, Int.reduceLE, Int.reduceToNat, Int.reduceBEq, Int.reduceNe, reduceCtorEq, w64_id, w8_id, w16_id, w32_id, tmod_pos, tdiv_pos, Bool.or_true, Bool.true_or, Bool.or_false, Bool.false_or, Bool.and_false, Bool.false_and, condK_decide, w1, w2, tk]
  have q3 := q2.push (.cells (tzeroD Tryz.prog 30).cells 30 (0, 0))
  simp only [tzeroD_30, size_push'] at q3
  refine store_cpu f q3.get (by rfl) ?_
  have q4 := (q2.push (.cells c.cells.toArray 30 (0, 0))).push (.cells okT.cells.toArray 56 (0, 0))
  simp only [size_push'] at q4
  have q5 := q4.re [0, 1, 6, 2, 3, 4, 5, 7, 9, 10]
  simp (maxSteps := 2000000) (disch := first | (simp only [go_sem, Nat.reduceBEq, Nat.reduceAdd, Nat.reduceMul, Nat.reduceSub, Nat.reduceEqDiff, Nat.reduceLeDiff, Nat.reduceLT, Int.reduceEq, Int.reduceAdd, Int.reduceSub, Int.reduceMul, Int.reduceNeg, Int.reduceLT, Int.reduceLE, Int.reduceToNat, Int.reduceBEq, Int.reduceNe, reduceCtorEq] <;> omega) | omega) only [go_sem, Nat.reduceBEq, Nat.reduceAdd, Nat.reduceMul, Nat.reduceSub, Nat.reduceEqDiff, Nat.reduceLeDiff, Nat.reduceLT, Int.reduceEq, Int.reduceAdd, Int.reduceSub, Int.reduceMul, Int.reduceNeg, Int.reduceLT, Int.reduceLE, Int.reduceToNat, Int.reduceBEq, Int.reduceNe, reduceCtorEq, w64_id, w8_id, w16_id, w32_id, tmod_pos, tdiv_pos, Bool.or_true, Bool.true_or, Bool.or_false, Bool.false_or, Bool.and_false, Bool.false_and, condK_decide]
  refine loopH.intro (fun t : Nat × Mch × Cp × Trp => (.cons 2 (.int .i64 many) true (.cons 3 (.pointer (some ⟨h.size, 0, none⟩)) true (.cons 7 (.bool true) true (.cons 8 (.pointer (some ⟨h2.size, 0, none⟩)) true (.cons 10 (.pointer (some ⟨h3.size, 0, none⟩)) true (.cons 12 (.pointer (some ⟨h4.size, 0, none⟩)) true (.cons 13 (.pointer (some ⟨h4.size + 1, 0, none⟩)) true (.cons 14 (.int .i64 kr) true (.cons 15 (.pointer (some ⟨h4.size + 1 + 1, 0, none⟩)) true (.cons 16 (.pointer (some ⟨h4.size + 1 + 1 + 1, 0, none⟩)) true (.cons 17 (.int .i64 t.1) true .nil))))))))))))
    (fun t h' => t.1 ≤ many.toNat ∧ t.2.2.1.fit ∧ ((t.2.2.2 = okT ∧ runP 16 vm se (many.toNat - t.1) t.2.1 t.2.2.1 t.1 = ⟨M, cr, tr, kr⟩) ∨ (t.2.2.2.C ≠ 0 ∧ (⟨t.2.1, t.2.2.1, t.2.2.2, t.1⟩ : Run4) = ⟨M, cr, tr, kr⟩)) ∧
      Sat h' [cellAt (h4.size + 1 + 1 + 1) (.cells t.2.2.2.cells.toArray 56 (0, 0)), cellAt (h4.size + 1 + 1) (.cells t.2.2.1.cells.toArray 30 (0, 0)), mchS 16 rb' tb' (.pointer pv') t.2.1, cellAt (h4.size + 1) (.cells tr.cells.toArray 56 (0, 0)), cellAt h4.size (.cells cr.cells.toArray 30 (0, 0)), mchS 16 rb tb (.pointer pv) M,
        cellAt h3.size (.cells #[.pointer (some ⟨rb', 0, none⟩), .pointer (some ⟨tb', 0, none⟩), .pointer pv', .pointer y1', .pointer y2', .pointer y3'] 43 (0, 0)), cellAt h2.size (.cells #[.pointer (some ⟨rb, 0, none⟩), .pointer (some ⟨tb, 0, none⟩), .pointer pv, .pointer y1, .pointer y2, .pointer y3] 43 (0, 0)),
        cellAt h.size (.cells #[v1, v2, .bool g, .int .i64 vm, .int .i64 se] 25 (0, 0)), oldS h]) (fun t _ => 2 * (many.toNat - t.1) + (if t.2.2.2.C = 0 then 1 else 0)) (0, ⟨mem, noT, V⟩, c, okT) ?_ ⟨by simp, f, .inl ⟨rfl, hr⟩, q5⟩ ?_
  · rfl
  clear q5 q4 q3 q2 q1 q0 t1 w1 w2 s3 s2 s1 s0 out gA gc gx3 gx2 gx m1 m2
  rintro ⟨m, M2, c2, t2⟩ h5 ⟨hm, f2, hcase, s⟩
  simp only at hm f2 hcase s
  have gt := s.get
  simp only [Trp.cells_eq] at gt
  have gd := (s.front 1).get
  have gB := (s.front 6).get
  have gx := (s.front 8).get
  have tk2 := take_cpu f2
  have n16 : nthL c2.cells 16 = some (.int .i64 c2.Pc) := by rw [nthL_eq]; exact Cp.pc f2
  by_cases go : (m : Int) < many ∧ t2.C = 0
  · obtain ⟨k1, k2⟩ := go
    rcases hcase with ⟨rfl, hrun⟩ | ⟨hz, -⟩
    · obtain ⟨j, hj⟩ : ∃ j, many.toNat - m = j + 1 := ⟨many.toNat - m - 1, by omega⟩
      rw [hj] at hrun
      have wq : IntKind.i64.wrap (c2.Pc.tdiv 4) = c2.Pc.tdiv 4 := w64_id (tdiv4_bd f2.p1 f2.p2).1 (tdiv4_bd f2.p1 f2.p2).2
      have ha := at_mod c2.Pc
      have wa : IntKind.i64.wrap (atP c2.Pc) = atP c2.Pc := w64_id (by have := atP_bd c2.Pc; omega) (by have := atP_bd c2.Pc; omega)
      simp only [okT, okF] at gt
      by_cases neg : (c2.Pc.tdiv 4).tmod 8 < 0
      · rw [if_pos neg] at ha
        simp (maxSteps := 2000000) (disch := first | (simp only [go_sem, Nat.reduceBEq, Nat.reduceAdd, Nat.reduceMul, Nat.reduceSub, Nat.reduceEqDiff, Nat.reduceLeDiff, Nat.reduceLT, Int.reduceEq, Int.reduceAdd, Int.reduceSub, Int.reduceMul, Int.reduceNeg, Int.reduceLT, Int.reduceLE, Int.reduceToNat, Int.reduceBEq, Int.reduceNe, reduceCtorEq, k1, gt, gd, gB, gx, tk2, n16, wq, neg, ha, wa] <;> omega) | omega) only [go_sem, Nat.reduceBEq, Nat.reduceAdd, Nat.reduceMul, Nat.reduceSub, Nat.reduceEqDiff, Nat.reduceLeDiff, Nat.reduceLT, Int.reduceEq, Int.reduceAdd, Int.reduceSub, Int.reduceMul, Int.reduceNeg, Int.reduceLT, Int.reduceLE, Int.reduceToNat, Int.reduceBEq, Int.reduceNe, reduceCtorEq, w64_id, w8_id, w16_id, w32_id, tmod_pos, tdiv_pos, Bool.or_true, Bool.true_or, Bool.or_false, Bool.false_or, Bool.and_false, Bool.false_and, condK_decide, k1, gt, gd, gB, gx, tk2, n16, wq, neg, ha, wa]
        refine (stepM_S f2 (s.front 2) vm se (atP c2.Pc) (fun _ _ _ _ _ _ _ => Nat.zero_le _)).mono ?_
        rintro v h6 ⟨rfl, f3, t2⟩
        have htr := (stepP_trap (n := 16) M2 c2 vm se (atP c2.Pc)).1
        have hgo : (stepP 16 M2 c2 vm se (atP c2.Pc)).t.C = 0 → runP 16 vm se j (stepP 16 M2 c2 vm se (atP c2.Pc)).M (stepP 16 M2 c2 vm se (atP c2.Pc)).c (m + 1) = ⟨M, cr, tr, kr⟩ := fun z => by rw [← hrun, runP_go z]
        have hst : (stepP 16 M2 c2 vm se (atP c2.Pc)).t.C ≠ 0 → (⟨(stepP 16 M2 c2 vm se (atP c2.Pc)).M, (stepP 16 M2 c2 vm se (atP c2.Pc)).c, (stepP 16 M2 c2 vm se (atP c2.Pc)).t, m⟩ : Run4) = ⟨M, cr, tr, kr⟩ := fun z => by rw [← hrun, runP_stop z]
        obtain ⟨st, hs0⟩ : ∃ st, stepP 16 M2 c2 vm se (atP c2.Pc) = st := ⟨_, rfl⟩
        rw [hs0] at f3 t2 htr hgo hst ⊢
        clear hs0
        obtain ⟨M3, c3, t3⟩ := st
        simp only at f3 t2 htr hgo hst ⊢
        simp (maxSteps := 2000000) (disch := first | (simp only [go_sem, Nat.reduceBEq, Nat.reduceAdd, Nat.reduceMul, Nat.reduceSub, Nat.reduceEqDiff, Nat.reduceLeDiff, Nat.reduceLT, Int.reduceEq, Int.reduceAdd, Int.reduceSub, Int.reduceMul, Int.reduceNeg, Int.reduceLT, Int.reduceLE, Int.reduceToNat, Int.reduceBEq, Int.reduceNe, reduceCtorEq] <;> omega) | omega) only [go_sem, Nat.reduceBEq, Nat.reduceAdd, Nat.reduceMul, Nat.reduceSub, Nat.reduceEqDiff, Nat.reduceLeDiff, Nat.reduceLT, Int.reduceEq, Int.reduceAdd, Int.reduceSub, Int.reduceMul, Int.reduceNeg, Int.reduceLT, Int.reduceLE, Int.reduceToNat, Int.reduceBEq, Int.reduceNe, reduceCtorEq, w64_id, w8_id, w16_id, w32_id, tmod_pos, tdiv_pos, Bool.or_true, Bool.true_or, Bool.or_false, Bool.false_or, Bool.and_false, Bool.false_and, condK_decide]
        have q0 := (t2.push (.cells (tzeroD Tryz.prog 30).cells 30 (0, 0))).push (.cells okT.cells.toArray 56 (0, 0))
        simp only [tzeroD_30, Trp.cells_eq, okT, okF, size_push'] at q0
        refine store_cpu f3 (q0.front 1).get (by rfl) ?_
        have q1 := (t2.push (.cells c3.cells.toArray 30 (0, 0))).push (.cells okT.cells.toArray 56 (0, 0))
        have q2 := (t2.push (.cells c3.cells.toArray 30 (0, 0))).push (.cells t3.cells.toArray 56 (0, 0))
        simp only [Trp.cells_eq, okT, okF, size_push'] at q1 q2
        have tk3 := take_cpu f3
        have y1 := q1.get
        have y2 := q2.get
        have y3 := (q2.front 1).get
        simp (maxSteps := 2000000) (disch := first | (simp only [go_sem, Nat.reduceBEq, Nat.reduceAdd, Nat.reduceMul, Nat.reduceSub, Nat.reduceEqDiff, Nat.reduceLeDiff, Nat.reduceLT, Int.reduceEq, Int.reduceAdd, Int.reduceSub, Int.reduceMul, Int.reduceNeg, Int.reduceLT, Int.reduceLE, Int.reduceToNat, Int.reduceBEq, Int.reduceNe, reduceCtorEq, y1, y2, y3, tk3] <;> omega) | omega) only [go_sem, Nat.reduceBEq, Nat.reduceAdd, Nat.reduceMul, Nat.reduceSub, Nat.reduceEqDiff, Nat.reduceLeDiff, Nat.reduceLT, Int.reduceEq, Int.reduceAdd, Int.reduceSub, Int.reduceMul, Int.reduceNeg, Int.reduceLT, Int.reduceLE, Int.reduceToNat, Int.reduceBEq, Int.reduceNe, reduceCtorEq, w64_id, w8_id, w16_id, w32_id, tmod_pos, tdiv_pos, Bool.or_true, Bool.true_or, Bool.or_false, Bool.false_or, Bool.and_false, Bool.false_and, condK_decide, y1, y2, y3, tk3]
        refine store_cpu f3 (q2.front 4).get (by simp [Cp.len f2]) ?_
        have q3 := (q2.front 4).set (.cells c3.cells.toArray 30 (0, 0))
        have q4 := (q3.front 4).set (.cells t3.cells.toArray 56 (0, 0))
        simp only [Trp.cells_eq] at q4
        have y4 := (q3.front 1).get
        have y5 := (q3.front 4).get
        have y6 := (q4.front 2).get
        have y7 := q4.get
        have q5 := (q4.re [0, 1, 4, 5, 6, 7, 8, 9, 10, 11])
        by_cases z : t3.C = 0
        · have e3 := htr z
          subst e3
          simp only [okT, okF] at y4 y5 y6 y7
          simp (maxSteps := 2000000) (disch := first | (simp only [go_sem, Nat.reduceBEq, Nat.reduceAdd, Nat.reduceMul, Nat.reduceSub, Nat.reduceEqDiff, Nat.reduceLeDiff, Nat.reduceLT, Int.reduceEq, Int.reduceAdd, Int.reduceSub, Int.reduceMul, Int.reduceNeg, Int.reduceLT, Int.reduceLE, Int.reduceToNat, Int.reduceBEq, Int.reduceNe, reduceCtorEq, y4, y5, y6, y7, okT, okF] <;> omega) | omega) only [go_sem, Nat.reduceBEq, Nat.reduceAdd, Nat.reduceMul, Nat.reduceSub, Nat.reduceEqDiff, Nat.reduceLeDiff, Nat.reduceLT, Int.reduceEq, Int.reduceAdd, Int.reduceSub, Int.reduceMul, Int.reduceNeg, Int.reduceLT, Int.reduceLE, Int.reduceToNat, Int.reduceBEq, Int.reduceNe, reduceCtorEq, w64_id, w8_id, w16_id, w32_id, tmod_pos, tdiv_pos, Bool.or_true, Bool.true_or, Bool.or_false, Bool.false_or, Bool.and_false, Bool.false_and, condK_decide, y4, y5, y6, y7, okT, okF]
          exact ⟨(m + 1, M3, c3, okT), rfl, ⟨by simp only; omega, f3, .inl ⟨rfl, by simp only; rw [show many.toNat - (m + 1) = j by omega]; exact hgo rfl⟩, q5⟩, by simp [okT]; omega⟩
        · simp (maxSteps := 2000000) (disch := first | (simp only [go_sem, Nat.reduceBEq, Nat.reduceAdd, Nat.reduceMul, Nat.reduceSub, Nat.reduceEqDiff, Nat.reduceLeDiff, Nat.reduceLT, Int.reduceEq, Int.reduceAdd, Int.reduceSub, Int.reduceMul, Int.reduceNeg, Int.reduceLT, Int.reduceLE, Int.reduceToNat, Int.reduceBEq, Int.reduceNe, reduceCtorEq, y4, y5, y6, y7, z] <;> omega) | omega) only [go_sem, Nat.reduceBEq, Nat.reduceAdd, Nat.reduceMul, Nat.reduceSub, Nat.reduceEqDiff, Nat.reduceLeDiff, Nat.reduceLT, Int.reduceEq, Int.reduceAdd, Int.reduceSub, Int.reduceMul, Int.reduceNeg, Int.reduceLT, Int.reduceLE, Int.reduceToNat, Int.reduceBEq, Int.reduceNe, reduceCtorEq, w64_id, w8_id, w16_id, w32_id, tmod_pos, tdiv_pos, Bool.or_true, Bool.true_or, Bool.or_false, Bool.false_or, Bool.and_false, Bool.false_and, condK_decide, y4, y5, y6, y7, z]
          exact ⟨(m, M3, c3, t3), rfl, ⟨hm, f3, .inr ⟨z, hst z⟩, q5⟩, by simp [okT, z]⟩
      · rw [if_neg neg] at ha
        have nn : ¬ atP c2.Pc < 0 := by have := atP_bd c2.Pc; omega
        simp (maxSteps := 2000000) (disch := first | (simp only [go_sem, Nat.reduceBEq, Nat.reduceAdd, Nat.reduceMul, Nat.reduceSub, Nat.reduceEqDiff, Nat.reduceLeDiff, Nat.reduceLT, Int.reduceEq, Int.reduceAdd, Int.reduceSub, Int.reduceMul, Int.reduceNeg, Int.reduceLT, Int.reduceLE, Int.reduceToNat, Int.reduceBEq, Int.reduceNe, reduceCtorEq, k1, gt, gd, gB, gx, tk2, n16, wq, ha, nn, wa] <;> omega) | omega) only [go_sem, Nat.reduceBEq, Nat.reduceAdd, Nat.reduceMul, Nat.reduceSub, Nat.reduceEqDiff, Nat.reduceLeDiff, Nat.reduceLT, Int.reduceEq, Int.reduceAdd, Int.reduceSub, Int.reduceMul, Int.reduceNeg, Int.reduceLT, Int.reduceLE, Int.reduceToNat, Int.reduceBEq, Int.reduceNe, reduceCtorEq, w64_id, w8_id, w16_id, w32_id, tmod_pos, tdiv_pos, Bool.or_true, Bool.true_or, Bool.or_false, Bool.false_or, Bool.and_false, Bool.false_and, condK_decide, k1, gt, gd, gB, gx, tk2, n16, wq, ha, nn, wa]
        refine (stepM_S f2 (s.front 2) vm se (atP c2.Pc) (fun _ _ _ _ _ _ _ => Nat.zero_le _)).mono ?_
        rintro v h6 ⟨rfl, f3, t2⟩
        have htr := (stepP_trap (n := 16) M2 c2 vm se (atP c2.Pc)).1
        have hgo : (stepP 16 M2 c2 vm se (atP c2.Pc)).t.C = 0 → runP 16 vm se j (stepP 16 M2 c2 vm se (atP c2.Pc)).M (stepP 16 M2 c2 vm se (atP c2.Pc)).c (m + 1) = ⟨M, cr, tr, kr⟩ := fun z => by rw [← hrun, runP_go z]
        have hst : (stepP 16 M2 c2 vm se (atP c2.Pc)).t.C ≠ 0 → (⟨(stepP 16 M2 c2 vm se (atP c2.Pc)).M, (stepP 16 M2 c2 vm se (atP c2.Pc)).c, (stepP 16 M2 c2 vm se (atP c2.Pc)).t, m⟩ : Run4) = ⟨M, cr, tr, kr⟩ := fun z => by rw [← hrun, runP_stop z]
        obtain ⟨st, hs0⟩ : ∃ st, stepP 16 M2 c2 vm se (atP c2.Pc) = st := ⟨_, rfl⟩
        rw [hs0] at f3 t2 htr hgo hst ⊢
        clear hs0
        obtain ⟨M3, c3, t3⟩ := st
        simp only at f3 t2 htr hgo hst ⊢
        simp (maxSteps := 2000000) (disch := first | (simp only [go_sem, Nat.reduceBEq, Nat.reduceAdd, Nat.reduceMul, Nat.reduceSub, Nat.reduceEqDiff, Nat.reduceLeDiff, Nat.reduceLT, Int.reduceEq, Int.reduceAdd, Int.reduceSub, Int.reduceMul, Int.reduceNeg, Int.reduceLT, Int.reduceLE, Int.reduceToNat, Int.reduceBEq, Int.reduceNe, reduceCtorEq] <;> omega) | omega) only [go_sem, Nat.reduceBEq, Nat.reduceAdd, Nat.reduceMul, Nat.reduceSub, Nat.reduceEqDiff, Nat.reduceLeDiff, Nat.reduceLT, Int.reduceEq, Int.reduceAdd, Int.reduceSub, Int.reduceMul, Int.reduceNeg, Int.reduceLT, Int.reduceLE, Int.reduceToNat, Int.reduceBEq, Int.reduceNe, reduceCtorEq, w64_id, w8_id, w16_id, w32_id, tmod_pos, tdiv_pos, Bool.or_true, Bool.true_or, Bool.or_false, Bool.false_or, Bool.and_false, Bool.false_and, condK_decide]
        have q0 := (t2.push (.cells (tzeroD Tryz.prog 30).cells 30 (0, 0))).push (.cells okT.cells.toArray 56 (0, 0))
        simp only [tzeroD_30, Trp.cells_eq, okT, okF, size_push'] at q0
        refine store_cpu f3 (q0.front 1).get (by rfl) ?_
        have q1 := (t2.push (.cells c3.cells.toArray 30 (0, 0))).push (.cells okT.cells.toArray 56 (0, 0))
        have q2 := (t2.push (.cells c3.cells.toArray 30 (0, 0))).push (.cells t3.cells.toArray 56 (0, 0))
        simp only [Trp.cells_eq, okT, okF, size_push'] at q1 q2
        have tk3 := take_cpu f3
        have y1 := q1.get
        have y2 := q2.get
        have y3 := (q2.front 1).get
        simp (maxSteps := 2000000) (disch := first | (simp only [go_sem, Nat.reduceBEq, Nat.reduceAdd, Nat.reduceMul, Nat.reduceSub, Nat.reduceEqDiff, Nat.reduceLeDiff, Nat.reduceLT, Int.reduceEq, Int.reduceAdd, Int.reduceSub, Int.reduceMul, Int.reduceNeg, Int.reduceLT, Int.reduceLE, Int.reduceToNat, Int.reduceBEq, Int.reduceNe, reduceCtorEq, y1, y2, y3, tk3] <;> omega) | omega) only [go_sem, Nat.reduceBEq, Nat.reduceAdd, Nat.reduceMul, Nat.reduceSub, Nat.reduceEqDiff, Nat.reduceLeDiff, Nat.reduceLT, Int.reduceEq, Int.reduceAdd, Int.reduceSub, Int.reduceMul, Int.reduceNeg, Int.reduceLT, Int.reduceLE, Int.reduceToNat, Int.reduceBEq, Int.reduceNe, reduceCtorEq, w64_id, w8_id, w16_id, w32_id, tmod_pos, tdiv_pos, Bool.or_true, Bool.true_or, Bool.or_false, Bool.false_or, Bool.and_false, Bool.false_and, condK_decide, y1, y2, y3, tk3]
        refine store_cpu f3 (q2.front 4).get (by simp [Cp.len f2]) ?_
        have q3 := (q2.front 4).set (.cells c3.cells.toArray 30 (0, 0))
        have q4 := (q3.front 4).set (.cells t3.cells.toArray 56 (0, 0))
        simp only [Trp.cells_eq] at q4
        have y4 := (q3.front 1).get
        have y5 := (q3.front 4).get
        have y6 := (q4.front 2).get
        have y7 := q4.get
        have q5 := (q4.re [0, 1, 4, 5, 6, 7, 8, 9, 10, 11])
        by_cases z : t3.C = 0
        · have e3 := htr z
          subst e3
          simp only [okT, okF] at y4 y5 y6 y7
          simp (maxSteps := 2000000) (disch := first | (simp only [go_sem, Nat.reduceBEq, Nat.reduceAdd, Nat.reduceMul, Nat.reduceSub, Nat.reduceEqDiff, Nat.reduceLeDiff, Nat.reduceLT, Int.reduceEq, Int.reduceAdd, Int.reduceSub, Int.reduceMul, Int.reduceNeg, Int.reduceLT, Int.reduceLE, Int.reduceToNat, Int.reduceBEq, Int.reduceNe, reduceCtorEq, y4, y5, y6, y7, okT, okF] <;> omega) | omega) only [go_sem, Nat.reduceBEq, Nat.reduceAdd, Nat.reduceMul, Nat.reduceSub, Nat.reduceEqDiff, Nat.reduceLeDiff, Nat.reduceLT, Int.reduceEq, Int.reduceAdd, Int.reduceSub, Int.reduceMul, Int.reduceNeg, Int.reduceLT, Int.reduceLE, Int.reduceToNat, Int.reduceBEq, Int.reduceNe, reduceCtorEq, w64_id, w8_id, w16_id, w32_id, tmod_pos, tdiv_pos, Bool.or_true, Bool.true_or, Bool.or_false, Bool.false_or, Bool.and_false, Bool.false_and, condK_decide, y4, y5, y6, y7, okT, okF]
          exact ⟨(m + 1, M3, c3, okT), rfl, ⟨by simp only; omega, f3, .inl ⟨rfl, by simp only; rw [show many.toNat - (m + 1) = j by omega]; exact hgo rfl⟩, q5⟩, by simp [okT]; omega⟩
        · simp (maxSteps := 2000000) (disch := first | (simp only [go_sem, Nat.reduceBEq, Nat.reduceAdd, Nat.reduceMul, Nat.reduceSub, Nat.reduceEqDiff, Nat.reduceLeDiff, Nat.reduceLT, Int.reduceEq, Int.reduceAdd, Int.reduceSub, Int.reduceMul, Int.reduceNeg, Int.reduceLT, Int.reduceLE, Int.reduceToNat, Int.reduceBEq, Int.reduceNe, reduceCtorEq, y4, y5, y6, y7, z] <;> omega) | omega) only [go_sem, Nat.reduceBEq, Nat.reduceAdd, Nat.reduceMul, Nat.reduceSub, Nat.reduceEqDiff, Nat.reduceLeDiff, Nat.reduceLT, Int.reduceEq, Int.reduceAdd, Int.reduceSub, Int.reduceMul, Int.reduceNeg, Int.reduceLT, Int.reduceLE, Int.reduceToNat, Int.reduceBEq, Int.reduceNe, reduceCtorEq, w64_id, w8_id, w16_id, w32_id, tmod_pos, tdiv_pos, Bool.or_true, Bool.true_or, Bool.or_false, Bool.false_or, Bool.and_false, Bool.false_and, condK_decide, y4, y5, y6, y7, z]
          exact ⟨(m, M3, c3, t3), rfl, ⟨hm, f3, .inr ⟨z, hst z⟩, q5⟩, by simp [okT, z]⟩
    · exact absurd k2 hz
  · have fin : (⟨M2, c2, t2, m⟩ : Run4) = ⟨M, cr, tr, kr⟩ := by
      rcases hcase with ⟨rfl, hrun⟩ | ⟨hz, he⟩
      · have : ¬ (m : Int) < many := fun q => go ⟨q, rfl⟩
        rw [show many.toNat - m = 0 by omega] at hrun
        exact hrun
      · exact he
    simp only [Run4.mk.injEq] at fin
    obtain ⟨rfl, rfl, rfl, rfl⟩ := fin
    by_cases k1 : (m : Int) < many
    · have k2 : ¬ t2.C = 0 := fun e => go ⟨k1, e⟩
      simp (maxSteps := 2000000) (disch := first | (simp only [go_sem, Nat.reduceBEq, Nat.reduceAdd, Nat.reduceMul, Nat.reduceSub, Nat.reduceEqDiff, Nat.reduceLeDiff, Nat.reduceLT, Int.reduceEq, Int.reduceAdd, Int.reduceSub, Int.reduceMul, Int.reduceNeg, Int.reduceLT, Int.reduceLE, Int.reduceToNat, Int.reduceBEq, Int.reduceNe, reduceCtorEq, k1, gt, k2] <;> omega) | omega) only [go_sem, Nat.reduceBEq, Nat.reduceAdd, Nat.reduceMul, Nat.reduceSub, Nat.reduceEqDiff, Nat.reduceLeDiff, Nat.reduceLT, Int.reduceEq, Int.reduceAdd, Int.reduceSub, Int.reduceMul, Int.reduceNeg, Int.reduceLT, Int.reduceLE, Int.reduceToNat, Int.reduceBEq, Int.reduceNe, reduceCtorEq, w64_id, w8_id, w16_id, w32_id, tmod_pos, tdiv_pos, Bool.or_true, Bool.true_or, Bool.or_false, Bool.false_or, Bool.and_false, Bool.false_and, condK_decide, k1, gt, k2]
      refine loopH.intro (fun i : Nat => (.cons 7 (.bool true) true (.cons 8 (.pointer (some ⟨h2.size, 0, none⟩)) true (.cons 10 (.pointer (some ⟨h3.size, 0, none⟩)) true (.cons 12 (.pointer (some ⟨h4.size, 0, none⟩)) true (.cons 13 (.pointer (some ⟨h4.size + 1, 0, none⟩)) true (.cons 14 (.int .i64 m) true (.cons 15 (.pointer (some ⟨h4.size + 1 + 1, 0, none⟩)) true (.cons 16 (.pointer (some ⟨h4.size + 1 + 1 + 1, 0, none⟩)) true (.cons 17 (.int .i64 m) true (.cons 21 (.int .i64 i) true .nil)))))))))))
        (fun i h' => i ≤ 16 ∧ Sat h' [cellAt (h4.size + 1 + 1 + 1) (.cells t2.cells.toArray 56 (0, 0)), cellAt (h4.size + 1 + 1) (.cells c2.cells.toArray 30 (0, 0)), mchS 16 rb' tb' (.pointer pv') M2, cellAt (h4.size + 1) (.cells t2.cells.toArray 56 (0, 0)), cellAt h4.size (.cells c2.cells.toArray 30 (0, 0)), mchS 16 rb tb (.pointer pv) M2,
          cellAt h3.size (.cells #[.pointer (some ⟨rb', 0, none⟩), .pointer (some ⟨tb', 0, none⟩), .pointer pv', .pointer y1', .pointer y2', .pointer y3'] 43 (0, 0)), cellAt h2.size (.cells #[.pointer (some ⟨rb, 0, none⟩), .pointer (some ⟨tb, 0, none⟩), .pointer pv, .pointer y1, .pointer y2, .pointer y3] 43 (0, 0)),
          cellAt h.size (.cells #[v1, v2, .bool g, .int .i64 vm, .int .i64 se] 25 (0, 0)), oldS h]) (fun i _ => 17 - i) 0 ?_ ⟨by omega, s⟩ ?_
      · rfl
      clear s gt gd gB gx
      rintro i h6 ⟨hi, s⟩
      by_cases k : (i : Int) < 16
      · have gA := (s.front 7).get
        have gB := (s.front 6).get
        simp (maxSteps := 2000000) (disch := first | (simp only [go_sem, Nat.reduceBEq, Nat.reduceAdd, Nat.reduceMul, Nat.reduceSub, Nat.reduceEqDiff, Nat.reduceLeDiff, Nat.reduceLT, Int.reduceEq, Int.reduceAdd, Int.reduceSub, Int.reduceMul, Int.reduceNeg, Int.reduceLT, Int.reduceLE, Int.reduceToNat, Int.reduceBEq, Int.reduceNe, reduceCtorEq, k, gA] <;> omega) | omega) only [go_sem, Nat.reduceBEq, Nat.reduceAdd, Nat.reduceMul, Nat.reduceSub, Nat.reduceEqDiff, Nat.reduceLeDiff, Nat.reduceLT, Int.reduceEq, Int.reduceAdd, Int.reduceSub, Int.reduceMul, Int.reduceNeg, Int.reduceLT, Int.reduceLE, Int.reduceToNat, Int.reduceBEq, Int.reduceNe, reduceCtorEq, w64_id, w8_id, w16_id, w32_id, tmod_pos, tdiv_pos, Bool.or_true, Bool.true_or, Bool.or_false, Bool.false_or, Bool.and_false, Bool.false_and, condK_decide, k, gA]
        refine (frame_S (Sat.star.1 (s.front 5)) i).mono ?_
        rintro v h7 (⟨-, -, w, rfl, s4⟩ | ⟨q, -⟩)
        · have gB2 := (s4.front 9).get
          simp (maxSteps := 2000000) (disch := first | (simp only [go_sem, Nat.reduceBEq, Nat.reduceAdd, Nat.reduceMul, Nat.reduceSub, Nat.reduceEqDiff, Nat.reduceLeDiff, Nat.reduceLT, Int.reduceEq, Int.reduceAdd, Int.reduceSub, Int.reduceMul, Int.reduceNeg, Int.reduceLT, Int.reduceLE, Int.reduceToNat, Int.reduceBEq, Int.reduceNe, reduceCtorEq, gB2] <;> omega) | omega) only [go_sem, Nat.reduceBEq, Nat.reduceAdd, Nat.reduceMul, Nat.reduceSub, Nat.reduceEqDiff, Nat.reduceLeDiff, Nat.reduceLT, Int.reduceEq, Int.reduceAdd, Int.reduceSub, Int.reduceMul, Int.reduceNeg, Int.reduceLT, Int.reduceLE, Int.reduceToNat, Int.reduceBEq, Int.reduceNe, reduceCtorEq, w64_id, w8_id, w16_id, w32_id, tmod_pos, tdiv_pos, Bool.or_true, Bool.true_or, Bool.or_false, Bool.false_or, Bool.and_false, Bool.false_and, condK_decide, gB2]
          refine (frame_S (Sat.star.1 (s4.front 6)) i).mono ?_
          rintro v h8 (⟨-, -, w', rfl, s5⟩ | ⟨q, -⟩)
          · simp (maxSteps := 2000000) (disch := first | (simp only [go_sem, Nat.reduceBEq, Nat.reduceAdd, Nat.reduceMul, Nat.reduceSub, Nat.reduceEqDiff, Nat.reduceLeDiff, Nat.reduceLT, Int.reduceEq, Int.reduceAdd, Int.reduceSub, Int.reduceMul, Int.reduceNeg, Int.reduceLT, Int.reduceLE, Int.reduceToNat, Int.reduceBEq, Int.reduceNe, reduceCtorEq] <;> omega) | omega) only [go_sem, Nat.reduceBEq, Nat.reduceAdd, Nat.reduceMul, Nat.reduceSub, Nat.reduceEqDiff, Nat.reduceLeDiff, Nat.reduceLT, Int.reduceEq, Int.reduceAdd, Int.reduceSub, Int.reduceMul, Int.reduceNeg, Int.reduceLT, Int.reduceLE, Int.reduceToNat, Int.reduceBEq, Int.reduceNe, reduceCtorEq, w64_id, w8_id, w16_id, w32_id, tmod_pos, tdiv_pos, Bool.or_true, Bool.true_or, Bool.or_false, Bool.false_or, Bool.and_false, Bool.false_and, condK_decide]
            refine (same_S (s5.front 4) (by omega) (by omega)).mono ?_
            rintro r h9 ⟨b, rfl, hb2, rfl⟩
            obtain rfl : b = true := hb2.2 ⟨rfl, fun _ _ => rfl⟩
            simp (maxSteps := 2000000) (disch := first | (simp only [go_sem, Nat.reduceBEq, Nat.reduceAdd, Nat.reduceMul, Nat.reduceSub, Nat.reduceEqDiff, Nat.reduceLeDiff, Nat.reduceLT, Int.reduceEq, Int.reduceAdd, Int.reduceSub, Int.reduceMul, Int.reduceNeg, Int.reduceLT, Int.reduceLE, Int.reduceToNat, Int.reduceBEq, Int.reduceNe, reduceCtorEq] <;> omega) | omega) only [go_sem, Nat.reduceBEq, Nat.reduceAdd, Nat.reduceMul, Nat.reduceSub, Nat.reduceEqDiff, Nat.reduceLeDiff, Nat.reduceLT, Int.reduceEq, Int.reduceAdd, Int.reduceSub, Int.reduceMul, Int.reduceNeg, Int.reduceLT, Int.reduceLE, Int.reduceToNat, Int.reduceBEq, Int.reduceNe, reduceCtorEq, w64_id, w8_id, w16_id, w32_id, tmod_pos, tdiv_pos, Bool.or_true, Bool.true_or, Bool.or_false, Bool.false_or, Bool.and_false, Bool.false_and, condK_decide]
            have z1 := s5.re [1, 2, 3, 5, 6, 7, 8, 9, 10, 11, 12, 13, 14, 15]
            have z2 : Sat h9 (mchS 16 rb' tb' (.pointer pv') M2 :: _) := Sat.star.2 z1
            have z3 := z2.back 3
            have z4 : Sat h9 (mchS 16 rb tb (.pointer pv) M2 :: _) := Sat.star.2 z3
            exact ⟨i + 1, rfl, ⟨by omega, z4.re [2, 3, 1, 4, 5, 0, 6, 7, 8, 9]⟩, by simp only; omega⟩
          · omega
        · omega
      · have be := fun (h : Heap) (x y : Operand) => binD_eql_flat (h := h) (x := x) (y := y) (P := Tryz.prog) (t := 30) (by kernel_rfl) (fitC f2) (fitC f2)
        simp only [eqC f2 f2, decide_true] at be
        have g1 := s.get
        have g2 := (s.front 3).get
        have g3 := (s.front 1).get
        have g4 := (s.front 4).get
        simp only [Trp.cells_eq] at g1 g2
        simp (maxSteps := 2000000) (disch := first | (simp only [go_sem, Nat.reduceBEq, Nat.reduceAdd, Nat.reduceMul, Nat.reduceSub, Nat.reduceEqDiff, Nat.reduceLeDiff, Nat.reduceLT, Int.reduceEq, Int.reduceAdd, Int.reduceSub, Int.reduceMul, Int.reduceNeg, Int.reduceLT, Int.reduceLE, Int.reduceToNat, Int.reduceBEq, Int.reduceNe, reduceCtorEq, k, g1, g2, g3, g4, tk2, be, eqls_56] <;> omega) | omega) only [go_sem, Nat.reduceBEq, Nat.reduceAdd, Nat.reduceMul, Nat.reduceSub, Nat.reduceEqDiff, Nat.reduceLeDiff, Nat.reduceLT, Int.reduceEq, Int.reduceAdd, Int.reduceSub, Int.reduceMul, Int.reduceNeg, Int.reduceLT, Int.reduceLE, Int.reduceToNat, Int.reduceBEq, Int.reduceNe, reduceCtorEq, w64_id, w8_id, w16_id, w32_id, tmod_pos, tdiv_pos, Bool.or_true, Bool.true_or, Bool.or_false, Bool.false_or, Bool.and_false, Bool.false_and, condK_decide, k, g1, g2, g3, g4, tk2, be, eqls_56]
        exact hR _ _ ⟨rfl, (s.front 9).ext⟩
    · simp (maxSteps := 2000000) (disch := first | (simp only [go_sem, Nat.reduceBEq, Nat.reduceAdd, Nat.reduceMul, Nat.reduceSub, Nat.reduceEqDiff, Nat.reduceLeDiff, Nat.reduceLT, Int.reduceEq, Int.reduceAdd, Int.reduceSub, Int.reduceMul, Int.reduceNeg, Int.reduceLT, Int.reduceLE, Int.reduceToNat, Int.reduceBEq, Int.reduceNe, reduceCtorEq, k1] <;> omega) | omega) only [go_sem, Nat.reduceBEq, Nat.reduceAdd, Nat.reduceMul, Nat.reduceSub, Nat.reduceEqDiff, Nat.reduceLeDiff, Nat.reduceLT, Int.reduceEq, Int.reduceAdd, Int.reduceSub, Int.reduceMul, Int.reduceNeg, Int.reduceLT, Int.reduceLE, Int.reduceToNat, Int.reduceBEq, Int.reduceNe, reduceCtorEq, w64_id, w8_id, w16_id, w32_id, tmod_pos, tdiv_pos, Bool.or_true, Bool.true_or, Bool.or_false, Bool.false_or, Bool.and_false, Bool.false_and, condK_decide, k1]
      refine rdK_any fun _ => rdK_any fun _ => ?_
      refine loopH.intro (fun i : Nat => (.cons 7 (.bool true) true (.cons 8 (.pointer (some ⟨h2.size, 0, none⟩)) true (.cons 10 (.pointer (some ⟨h3.size, 0, none⟩)) true (.cons 12 (.pointer (some ⟨h4.size, 0, none⟩)) true (.cons 13 (.pointer (some ⟨h4.size + 1, 0, none⟩)) true (.cons 14 (.int .i64 m) true (.cons 15 (.pointer (some ⟨h4.size + 1 + 1, 0, none⟩)) true (.cons 16 (.pointer (some ⟨h4.size + 1 + 1 + 1, 0, none⟩)) true (.cons 17 (.int .i64 m) true (.cons 21 (.int .i64 i) true .nil)))))))))))
        (fun i h' => i ≤ 16 ∧ Sat h' [cellAt (h4.size + 1 + 1 + 1) (.cells t2.cells.toArray 56 (0, 0)), cellAt (h4.size + 1 + 1) (.cells c2.cells.toArray 30 (0, 0)), mchS 16 rb' tb' (.pointer pv') M2, cellAt (h4.size + 1) (.cells t2.cells.toArray 56 (0, 0)), cellAt h4.size (.cells c2.cells.toArray 30 (0, 0)), mchS 16 rb tb (.pointer pv) M2,
          cellAt h3.size (.cells #[.pointer (some ⟨rb', 0, none⟩), .pointer (some ⟨tb', 0, none⟩), .pointer pv', .pointer y1', .pointer y2', .pointer y3'] 43 (0, 0)), cellAt h2.size (.cells #[.pointer (some ⟨rb, 0, none⟩), .pointer (some ⟨tb, 0, none⟩), .pointer pv, .pointer y1, .pointer y2, .pointer y3] 43 (0, 0)),
          cellAt h.size (.cells #[v1, v2, .bool g, .int .i64 vm, .int .i64 se] 25 (0, 0)), oldS h]) (fun i _ => 17 - i) 0 ?_ ⟨by omega, s⟩ ?_
      · rfl
      clear s gt gd gB gx
      rintro i h6 ⟨hi, s⟩
      by_cases k : (i : Int) < 16
      · have gA := (s.front 7).get
        have gB := (s.front 6).get
        simp (maxSteps := 2000000) (disch := first | (simp only [go_sem, Nat.reduceBEq, Nat.reduceAdd, Nat.reduceMul, Nat.reduceSub, Nat.reduceEqDiff, Nat.reduceLeDiff, Nat.reduceLT, Int.reduceEq, Int.reduceAdd, Int.reduceSub, Int.reduceMul, Int.reduceNeg, Int.reduceLT, Int.reduceLE, Int.reduceToNat, Int.reduceBEq, Int.reduceNe, reduceCtorEq, k, gA] <;> omega) | omega) only [go_sem, Nat.reduceBEq, Nat.reduceAdd, Nat.reduceMul, Nat.reduceSub, Nat.reduceEqDiff, Nat.reduceLeDiff, Nat.reduceLT, Int.reduceEq, Int.reduceAdd, Int.reduceSub, Int.reduceMul, Int.reduceNeg, Int.reduceLT, Int.reduceLE, Int.reduceToNat, Int.reduceBEq, Int.reduceNe, reduceCtorEq, w64_id, w8_id, w16_id, w32_id, tmod_pos, tdiv_pos, Bool.or_true, Bool.true_or, Bool.or_false, Bool.false_or, Bool.and_false, Bool.false_and, condK_decide, k, gA]
        refine (frame_S (Sat.star.1 (s.front 5)) i).mono ?_
        rintro v h7 (⟨-, -, w, rfl, s4⟩ | ⟨q, -⟩)
        · have gB2 := (s4.front 9).get
          simp (maxSteps := 2000000) (disch := first | (simp only [go_sem, Nat.reduceBEq, Nat.reduceAdd, Nat.reduceMul, Nat.reduceSub, Nat.reduceEqDiff, Nat.reduceLeDiff, Nat.reduceLT, Int.reduceEq, Int.reduceAdd, Int.reduceSub, Int.reduceMul, Int.reduceNeg, Int.reduceLT, Int.reduceLE, Int.reduceToNat, Int.reduceBEq, Int.reduceNe, reduceCtorEq, gB2] <;> omega) | omega) only [go_sem, Nat.reduceBEq, Nat.reduceAdd, Nat.reduceMul, Nat.reduceSub, Nat.reduceEqDiff, Nat.reduceLeDiff, Nat.reduceLT, Int.reduceEq, Int.reduceAdd, Int.reduceSub, Int.reduceMul, Int.reduceNeg, Int.reduceLT, Int.reduceLE, Int.reduceToNat, Int.reduceBEq, Int.reduceNe, reduceCtorEq, w64_id, w8_id, w16_id, w32_id, tmod_pos, tdiv_pos, Bool.or_true, Bool.true_or, Bool.or_false, Bool.false_or, Bool.and_false, Bool.false_and, condK_decide, gB2]
          refine (frame_S (Sat.star.1 (s4.front 6)) i).mono ?_
          rintro v h8 (⟨-, -, w', rfl, s5⟩ | ⟨q, -⟩)
          · simp (maxSteps := 2000000) (disch := first | (simp only [go_sem, Nat.reduceBEq, Nat.reduceAdd, Nat.reduceMul, Nat.reduceSub, Nat.reduceEqDiff, Nat.reduceLeDiff, Nat.reduceLT, Int.reduceEq, Int.reduceAdd, Int.reduceSub, Int.reduceMul, Int.reduceNeg, Int.reduceLT, Int.reduceLE, Int.reduceToNat, Int.reduceBEq, Int.reduceNe, reduceCtorEq] <;> omega) | omega) only [go_sem, Nat.reduceBEq, Nat.reduceAdd, Nat.reduceMul, Nat.reduceSub, Nat.reduceEqDiff, Nat.reduceLeDiff, Nat.reduceLT, Int.reduceEq, Int.reduceAdd, Int.reduceSub, Int.reduceMul, Int.reduceNeg, Int.reduceLT, Int.reduceLE, Int.reduceToNat, Int.reduceBEq, Int.reduceNe, reduceCtorEq, w64_id, w8_id, w16_id, w32_id, tmod_pos, tdiv_pos, Bool.or_true, Bool.true_or, Bool.or_false, Bool.false_or, Bool.and_false, Bool.false_and, condK_decide]
            refine (same_S (s5.front 4) (by omega) (by omega)).mono ?_
            rintro r h9 ⟨b, rfl, hb2, rfl⟩
            obtain rfl : b = true := hb2.2 ⟨rfl, fun _ _ => rfl⟩
            simp (maxSteps := 2000000) (disch := first | (simp only [go_sem, Nat.reduceBEq, Nat.reduceAdd, Nat.reduceMul, Nat.reduceSub, Nat.reduceEqDiff, Nat.reduceLeDiff, Nat.reduceLT, Int.reduceEq, Int.reduceAdd, Int.reduceSub, Int.reduceMul, Int.reduceNeg, Int.reduceLT, Int.reduceLE, Int.reduceToNat, Int.reduceBEq, Int.reduceNe, reduceCtorEq] <;> omega) | omega) only [go_sem, Nat.reduceBEq, Nat.reduceAdd, Nat.reduceMul, Nat.reduceSub, Nat.reduceEqDiff, Nat.reduceLeDiff, Nat.reduceLT, Int.reduceEq, Int.reduceAdd, Int.reduceSub, Int.reduceMul, Int.reduceNeg, Int.reduceLT, Int.reduceLE, Int.reduceToNat, Int.reduceBEq, Int.reduceNe, reduceCtorEq, w64_id, w8_id, w16_id, w32_id, tmod_pos, tdiv_pos, Bool.or_true, Bool.true_or, Bool.or_false, Bool.false_or, Bool.and_false, Bool.false_and, condK_decide]
            have z1 := s5.re [1, 2, 3, 5, 6, 7, 8, 9, 10, 11, 12, 13, 14, 15]
            have z2 : Sat h9 (mchS 16 rb' tb' (.pointer pv') M2 :: _) := Sat.star.2 z1
            have z3 := z2.back 3
            have z4 : Sat h9 (mchS 16 rb tb (.pointer pv) M2 :: _) := Sat.star.2 z3
            exact ⟨i + 1, rfl, ⟨by omega, z4.re [2, 3, 1, 4, 5, 0, 6, 7, 8, 9]⟩, by simp only; omega⟩
          · omega
        · omega
      · have be := fun (h : Heap) (x y : Operand) => binD_eql_flat (h := h) (x := x) (y := y) (P := Tryz.prog) (t := 30) (by kernel_rfl) (fitC f2) (fitC f2)
        simp only [eqC f2 f2, decide_true] at be
        have g1 := s.get
        have g2 := (s.front 3).get
        have g3 := (s.front 1).get
        have g4 := (s.front 4).get
        simp only [Trp.cells_eq] at g1 g2
        simp (maxSteps := 2000000) (disch := first | (simp only [go_sem, Nat.reduceBEq, Nat.reduceAdd, Nat.reduceMul, Nat.reduceSub, Nat.reduceEqDiff, Nat.reduceLeDiff, Nat.reduceLT, Int.reduceEq, Int.reduceAdd, Int.reduceSub, Int.reduceMul, Int.reduceNeg, Int.reduceLT, Int.reduceLE, Int.reduceToNat, Int.reduceBEq, Int.reduceNe, reduceCtorEq, k, g1, g2, g3, g4, tk2, be, eqls_56] <;> omega) | omega) only [go_sem, Nat.reduceBEq, Nat.reduceAdd, Nat.reduceMul, Nat.reduceSub, Nat.reduceEqDiff, Nat.reduceLeDiff, Nat.reduceLT, Int.reduceEq, Int.reduceAdd, Int.reduceSub, Int.reduceMul, Int.reduceNeg, Int.reduceLT, Int.reduceLE, Int.reduceToNat, Int.reduceBEq, Int.reduceNe, reduceCtorEq, w64_id, w8_id, w16_id, w32_id, tmod_pos, tdiv_pos, Bool.or_true, Bool.true_or, Bool.or_false, Bool.false_or, Bool.and_false, Bool.false_and, condK_decide, k, g1, g2, g3, g4, tk2, be, eqls_56]
        exact hR _ _ ⟨rfl, (s.front 9).ext⟩
end
end Go.Eng
