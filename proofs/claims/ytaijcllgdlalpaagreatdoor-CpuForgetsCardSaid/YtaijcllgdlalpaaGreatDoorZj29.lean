/-
  The law CpuForgets.
-/
import Derived.Test.YtaijcllgdlalpaaGreatDoorZj20
import Derived.Test.YtaijcllgdlalpaaGreatDoorZj22
import Derived.Test.YtaijcllgdlalpaaGreatDoorZj19
import Derived.Test.YtaijcllgdlalpaaGreatDoorZj23
import Derived.Test.YtaijcllgdlalpaaGreatDoorZj28
namespace Go.Eng
set_option linter.unusedSimpArgs false
set_option linter.unusedVariables false
set_option maxRecDepth 16000
set_option maxHeartbeats 4000000
open Go Go.Proofs
/-- What the guard asks of a page. -/
def pageOk (m : Nat → Int) (se : Int) (p : Int) : Prop := (sgW 16 m se p).f.K = 0 → andI (sgW 16 m se p).Ri 2 ≠ 0 → (sgW 16 m se p).Fr ≠ se ∧ ∀ i : Int, 0 ≤ i → i < 32 → ¬ ((getE 16 m se i).2 = 0 ∧ (getE 16 m se i).1.V = true ∧ (getE 16 m se i).1.F = (sgW 16 m se p).Fr)
theorem shutT_pages {m : Nat → Int} {se : Int} (h : ∀ p : Int, 0 ≤ p → p < 1024 → pageOk m se p) : shutT 16 m se := by
  refine shutT_of ?_ ?_
  · rintro ⟨p, a, b, c⟩
    obtain ⟨p0, p1⟩ := sgW_page a
    exact (h p p0 p1 a b).1 c
  · rintro i i0 i1 e v l hF ⟨p, a, b, c⟩
    obtain ⟨p0, p1⟩ := sgW_page a
    exact (h p p0 p1 a b).2 i i0 i1 ⟨e, v, c.symm⟩
theorem noT_zero2 : ∀ l ∈ noT, l = zeroL := by
  intro l hl
  simpa [noT] using hl
section
variable {h : Heap}
theorem forgets_law {v1 v2 : Value} {P : List PutP} {L : List WordP} (hp : rdL PutP.cells 6 h v1 P) (hL : rdL WordP.cells 2 h v2 L) (hb : ∀ x ∈ L, 0 ≤ x.w ∧ x.w < 4294967296) (g : Bool) (vm se steps : Int) {c : Cp} (f : c.fit) :
    HCalls Tryz.prog 3 #[.agg #[v1, v2, .bool g, .int .i64 vm, .int .i64 se], .agg c.cells.toArray, .int .i64 steps] h fun v h' => v = .bool true ∧ Ext h h' := by
  refine HCalls.via fun R hR => ?_
  refine HCalls.of_dev T3 Tryz.func3 rfl mixed (by kernel_rfl) ?_; rw [Tryz.results3]
  have s0 := ((Sat.init h).push (.cells #[v1, v2, .bool g, .int .i64 vm, .int .i64 se] 25 (0, 0))).push (.cells c.cells.toArray 30 (0, 0))
  simp only [size_push'] at s0
  have tk := take_cpu f
  simp (maxSteps := 2000000) (disch := first | (simp only [go_sem, Nat.reduceBEq, Nat.reduceAdd, Nat.reduceMul, Nat.reduceSub, Nat.reduceEqDiff, Nat.reduceLeDiff, Nat.reduceLT, Int.reduceEq, Int.reduceAdd, Int.reduceSub, Int.reduceMul, Int.reduceNeg, Int.reduceLT, Int.reduceLE, Int.reduceToNat, Int.reduceBEq, Int.reduceNe, reduceCtorEq, tk] <;> omega) | omega) only [go_sem, Nat.reduceBEq, Nat.reduceAdd, Nat.reduceMul, Nat.reduceSub, Nat.reduceEqDiff, Nat.reduceLeDiff, Nat.reduceLT, Int.reduceEq, Int.reduceAdd, Int.reduceSub, Int.reduceMul, Int.reduceNeg, Int.reduceLT, Int.reduceLE, Int.reduceToNat, Int.reduceBEq, Int.reduceNe, reduceCtorEq, w64_id, w8_id, w16_id, w32_id, tmod_pos, tdiv_pos, Bool.or_true, Bool.true_or, Bool.or_false, Bool.false_or, Bool.and_false, Bool.false_and, condK_decide, tk]
  refine awake_S.mono ?_
  rintro v h1 ⟨rfl, x1⟩
  have s1 := s0.grow x1
  have gx := (s1.front 1).get
  have out : R (.bool true) h1 := hR _ _ ⟨rfl, (s1.front 2).ext⟩
  cases g with
  | true =>
    simp (maxSteps := 2000000) (disch := first | (simp only [go_sem, Nat.reduceBEq, Nat.reduceAdd, Nat.reduceMul, Nat.reduceSub, Nat.reduceEqDiff, Nat.reduceLeDiff, Nat.reduceLT, Int.reduceEq, Int.reduceAdd, Int.reduceSub, Int.reduceMul, Int.reduceNeg, Int.reduceLT, Int.reduceLE, Int.reduceToNat, Int.reduceBEq, Int.reduceNe, reduceCtorEq, gx] <;> omega) | omega) only [go_sem, Nat.reduceBEq, Nat.reduceAdd, Nat.reduceMul, Nat.reduceSub, Nat.reduceEqDiff, Nat.reduceLeDiff, Nat.reduceLT, Int.reduceEq, Int.reduceAdd, Int.reduceSub, Int.reduceMul, Int.reduceNeg, Int.reduceLT, Int.reduceLE, Int.reduceToNat, Int.reduceBEq, Int.reduceNe, reduceCtorEq, w64_id, w8_id, w16_id, w32_id, tmod_pos, tdiv_pos, Bool.or_true, Bool.true_or, Bool.or_false, Bool.false_or, Bool.and_false, Bool.false_and, condK_decide, gx]
    repeat (first | exact out | refine rdK_any fun _ => ?_)
  | false =>
  by_cases c0 : se < 0
  · simp (maxSteps := 2000000) (disch := first | (simp only [go_sem, Nat.reduceBEq, Nat.reduceAdd, Nat.reduceMul, Nat.reduceSub, Nat.reduceEqDiff, Nat.reduceLeDiff, Nat.reduceLT, Int.reduceEq, Int.reduceAdd, Int.reduceSub, Int.reduceMul, Int.reduceNeg, Int.reduceLT, Int.reduceLE, Int.reduceToNat, Int.reduceBEq, Int.reduceNe, reduceCtorEq, gx, c0] <;> omega) | omega) only [go_sem, Nat.reduceBEq, Nat.reduceAdd, Nat.reduceMul, Nat.reduceSub, Nat.reduceEqDiff, Nat.reduceLeDiff, Nat.reduceLT, Int.reduceEq, Int.reduceAdd, Int.reduceSub, Int.reduceMul, Int.reduceNeg, Int.reduceLT, Int.reduceLE, Int.reduceToNat, Int.reduceBEq, Int.reduceNe, reduceCtorEq, w64_id, w8_id, w16_id, w32_id, tmod_pos, tdiv_pos, Bool.or_true, Bool.true_or, Bool.or_false, Bool.false_or, Bool.and_false, Bool.false_and, condK_decide, gx, c0]
    repeat (first | exact out | refine rdK_any fun _ => ?_)
  by_cases c1 : 15 < se
  · simp (maxSteps := 2000000) (disch := first | (simp only [go_sem, Nat.reduceBEq, Nat.reduceAdd, Nat.reduceMul, Nat.reduceSub, Nat.reduceEqDiff, Nat.reduceLeDiff, Nat.reduceLT, Int.reduceEq, Int.reduceAdd, Int.reduceSub, Int.reduceMul, Int.reduceNeg, Int.reduceLT, Int.reduceLE, Int.reduceToNat, Int.reduceBEq, Int.reduceNe, reduceCtorEq, gx, c0, c1] <;> omega) | omega) only [go_sem, Nat.reduceBEq, Nat.reduceAdd, Nat.reduceMul, Nat.reduceSub, Nat.reduceEqDiff, Nat.reduceLeDiff, Nat.reduceLT, Int.reduceEq, Int.reduceAdd, Int.reduceSub, Int.reduceMul, Int.reduceNeg, Int.reduceLT, Int.reduceLE, Int.reduceToNat, Int.reduceBEq, Int.reduceNe, reduceCtorEq, w64_id, w8_id, w16_id, w32_id, tmod_pos, tdiv_pos, Bool.or_true, Bool.true_or, Bool.or_false, Bool.false_or, Bool.and_false, Bool.false_and, condK_decide, gx, c0, c1]
    repeat (first | exact out | refine rdK_any fun _ => ?_)
  simp (maxSteps := 2000000) (disch := first | (simp only [go_sem, Nat.reduceBEq, Nat.reduceAdd, Nat.reduceMul, Nat.reduceSub, Nat.reduceEqDiff, Nat.reduceLeDiff, Nat.reduceLT, Int.reduceEq, Int.reduceAdd, Int.reduceSub, Int.reduceMul, Int.reduceNeg, Int.reduceLT, Int.reduceLE, Int.reduceToNat, Int.reduceBEq, Int.reduceNe, reduceCtorEq, gx, c0, c1] <;> omega) | omega) only [go_sem, Nat.reduceBEq, Nat.reduceAdd, Nat.reduceMul, Nat.reduceSub, Nat.reduceEqDiff, Nat.reduceLeDiff, Nat.reduceLT, Int.reduceEq, Int.reduceAdd, Int.reduceSub, Int.reduceMul, Int.reduceNeg, Int.reduceLT, Int.reduceLE, Int.reduceToNat, Int.reduceBEq, Int.reduceNe, reduceCtorEq, w64_id, w8_id, w16_id, w32_id, tmod_pos, tdiv_pos, Bool.or_true, Bool.true_or, Bool.or_false, Bool.false_or, Bool.and_false, Bool.false_and, condK_decide, gx, c0, c1]
  have e1 := (s1.front 2).ext
  refine (made_S2 hb false vm se (hp.ext e1) (hL.ext e1)).mono ?_
  rintro v h2 ⟨rb, tb, pv, rrb, rtb, y3, rfl, m1⟩
  have m1' : Sat h2 (starL [_, _, _] :: [oldS h1]) := Sat.star.2 m1
  have s1b := Sat.star.1 (s1.over m1')
  simp only [List.cons_append, List.nil_append] at s1b
  have s2 := s1b.push (.cells #[.pointer (some ⟨rb, 0, none⟩), .pointer (some ⟨tb, 0, none⟩), .pointer pv, .pointer (some ⟨rrb, 0, none⟩), .pointer (some ⟨rtb, 0, none⟩), .pointer y3] 43 (0, 0))
  have gx2 := (s2.front 5).get
  simp (maxSteps := 2000000) (disch := first | (simp only [go_sem, Nat.reduceBEq, Nat.reduceAdd, Nat.reduceMul, Nat.reduceSub, Nat.reduceEqDiff, Nat.reduceLeDiff, Nat.reduceLT, Int.reduceEq, Int.reduceAdd, Int.reduceSub, Int.reduceMul, Int.reduceNeg, Int.reduceLT, Int.reduceLE, Int.reduceToNat, Int.reduceBEq, Int.reduceNe, reduceCtorEq, gx2] <;> omega) | omega) only [go_sem, Nat.reduceBEq, Nat.reduceAdd, Nat.reduceMul, Nat.reduceSub, Nat.reduceEqDiff, Nat.reduceLeDiff, Nat.reduceLT, Int.reduceEq, Int.reduceAdd, Int.reduceSub, Int.reduceMul, Int.reduceNeg, Int.reduceLT, Int.reduceLE, Int.reduceToNat, Int.reduceBEq, Int.reduceNe, reduceCtorEq, w64_id, w8_id, w16_id, w32_id, tmod_pos, tdiv_pos, Bool.or_true, Bool.true_or, Bool.or_false, Bool.false_or, Bool.and_false, Bool.false_and, condK_decide, gx2]
  have e2 := (s2.front 6).ext
  refine (made_S2 hb false vm se (hp.ext e2) (hL.ext e2)).mono ?_
  rintro v h3 ⟨rb', tb', pv', rrb', rtb', y3', rfl, m2⟩
  have m2' : Sat h3 (starL [_, _, _] :: [oldS _]) := Sat.star.2 m2
  have s2b := Sat.star.1 (s2.over m2')
  simp only [List.cons_append, List.nil_append] at s2b
  have s3 := s2b.push (.cells #[.pointer (some ⟨rb', 0, none⟩), .pointer (some ⟨tb', 0, none⟩), .pointer pv', .pointer (some ⟨rrb', 0, none⟩), .pointer (some ⟨rtb', 0, none⟩), .pointer y3'] 43 (0, 0))
  simp only [Bool.false_eq_true, if_false] at s3
  generalize hmem : memP P L = mem at s3
  simp (maxSteps := 2000000) (disch := first | (simp only [go_sem, Nat.reduceBEq, Nat.reduceAdd, Nat.reduceMul, Nat.reduceSub, Nat.reduceEqDiff, Nat.reduceLeDiff, Nat.reduceLT, Int.reduceEq, Int.reduceAdd, Int.reduceSub, Int.reduceMul, Int.reduceNeg, Int.reduceLT, Int.reduceLE, Int.reduceToNat, Int.reduceBEq, Int.reduceNe, reduceCtorEq] <;> omega) | omega) only [go_sem, Nat.reduceBEq, Nat.reduceAdd, Nat.reduceMul, Nat.reduceSub, Nat.reduceEqDiff, Nat.reduceLeDiff, Nat.reduceLT, Int.reduceEq, Int.reduceAdd, Int.reduceSub, Int.reduceMul, Int.reduceNeg, Int.reduceLT, Int.reduceLE, Int.reduceToNat, Int.reduceBEq, Int.reduceNe, reduceCtorEq, w64_id, w8_id, w16_id, w32_id, tmod_pos, tdiv_pos, Bool.or_true, Bool.true_or, Bool.or_false, Bool.false_or, Bool.and_false, Bool.false_and, condK_decide]
  clear out gx gx2 s2b s1b s2 s1 s0 m1' m2' m1 m2
  refine loopH.intro (fun k : Nat => (.cons 2 (.int .i64 steps) true (.cons 3 (.pointer (some ⟨h.size, 0, none⟩)) true (.cons 4 (.pointer (some ⟨h.size + 1, 0, none⟩)) true (.cons 7 (.bool true) true (.cons 8 (.pointer (some ⟨h2.size, 0, none⟩)) true (.cons 10 (.pointer (some ⟨h3.size, 0, none⟩)) true (.cons 12 (.int .i64 k) true .nil))))))))
    (fun k h' => k ≤ 1024 ∧ Sat h' [cellAt h3.size (.cells #[.pointer (some ⟨rb', 0, none⟩), .pointer (some ⟨tb', 0, none⟩), .pointer pv', .pointer (some ⟨rrb', 0, none⟩), .pointer (some ⟨rtb', 0, none⟩), .pointer y3'] 43 (0, 0)), mchS 16 rb' tb' (.pointer pv') ⟨mem, noT, none⟩, refRamS rrb' 16 mem, cellAt rtb' (.cells (List.replicate 42 (Value.int .i64 0)).toArray 101 (0, 0)),
      cellAt h2.size (.cells #[.pointer (some ⟨rb, 0, none⟩), .pointer (some ⟨tb, 0, none⟩), .pointer pv, .pointer (some ⟨rrb, 0, none⟩), .pointer (some ⟨rtb, 0, none⟩), .pointer y3] 43 (0, 0)), mchS 16 rb tb (.pointer pv) ⟨mem, noT, none⟩, refRamS rrb 16 mem, cellAt rtb (.cells (List.replicate 42 (Value.int .i64 0)).toArray 101 (0, 0)),
      cellAt (h.size + 1) (.cells c.cells.toArray 30 (0, 0)), cellAt h.size (.cells #[v1, v2, .bool false, .int .i64 vm, .int .i64 se] 25 (0, 0)), oldS h] ∧ ∀ p : Int, 0 ≤ p → p < k → pageOk mem se p) (fun k _ => 1025 - k) 0 ?_ ⟨by omega, s3, fun p a b => absurd b (by omega)⟩ ?_
  · rfl
  clear s3
  rintro k h4 ⟨hk, s, hpg⟩
  have gA := (s.front 4).get
  have gx := (s.front 9).get
  by_cases q : (k : Int) < 1024
  · have hdiv : (k : Int) / 32 < 32 := by omega
    simp (maxSteps := 2000000) (disch := first | (simp only [go_sem, Nat.reduceBEq, Nat.reduceAdd, Nat.reduceMul, Nat.reduceSub, Nat.reduceEqDiff, Nat.reduceLeDiff, Nat.reduceLT, Int.reduceEq, Int.reduceAdd, Int.reduceSub, Int.reduceMul, Int.reduceNeg, Int.reduceLT, Int.reduceLE, Int.reduceToNat, Int.reduceBEq, Int.reduceNe, reduceCtorEq, q, gA, gx] <;> omega) | omega) only [go_sem, Nat.reduceBEq, Nat.reduceAdd, Nat.reduceMul, Nat.reduceSub, Nat.reduceEqDiff, Nat.reduceLeDiff, Nat.reduceLT, Int.reduceEq, Int.reduceAdd, Int.reduceSub, Int.reduceMul, Int.reduceNeg, Int.reduceLT, Int.reduceLE, Int.reduceToNat, Int.reduceBEq, Int.reduceNe, reduceCtorEq, w64_id, w8_id, w16_id, w32_id, tmod_pos, tdiv_pos, Bool.or_true, Bool.true_or, Bool.or_false, Bool.false_or, Bool.and_false, Bool.false_and, condK_decide, q, gA, gx]
    refine (rsingle_S (s.front 6) se k).mono ?_
    rintro v h5 ⟨rfl, x5⟩
    have hnew : pageOk mem se k → ∀ p : Int, 0 ≤ p → p < (k + 1 : Nat) → pageOk mem se p := fun z p a b => by
      by_cases e : p = k
      · subst e; exact z
      · exact hpg p a (by omega)
    unfold pageOk at hnew
    unfold Wlk.val
    generalize sgW 16 mem se k = W at *
    obtain ⟨fr, ri, ff⟩ := W
    have s5 := (s.grow x5).push (.cells ff.cells.toArray 47 (0, 0))
    simp only [Flt.cells_eq] at s5
    have gA5 := (s5.front 5).get
    have gx5 := (s5.front 10).get
    simp (maxSteps := 2000000) (disch := first | (simp only [go_sem, Nat.reduceBEq, Nat.reduceAdd, Nat.reduceMul, Nat.reduceSub, Nat.reduceEqDiff, Nat.reduceLeDiff, Nat.reduceLT, Int.reduceEq, Int.reduceAdd, Int.reduceSub, Int.reduceMul, Int.reduceNeg, Int.reduceLT, Int.reduceLE, Int.reduceToNat, Int.reduceBEq, Int.reduceNe, reduceCtorEq, gA5, gx5] <;> omega) | omega) only [go_sem, Nat.reduceBEq, Nat.reduceAdd, Nat.reduceMul, Nat.reduceSub, Nat.reduceEqDiff, Nat.reduceLeDiff, Nat.reduceLT, Int.reduceEq, Int.reduceAdd, Int.reduceSub, Int.reduceMul, Int.reduceNeg, Int.reduceLT, Int.reduceLE, Int.reduceToNat, Int.reduceBEq, Int.reduceNe, reduceCtorEq, w64_id, w8_id, w16_id, w32_id, tmod_pos, tdiv_pos, Bool.or_true, Bool.true_or, Bool.or_false, Bool.false_or, Bool.and_false, Bool.false_and, condK_decide, gA5, gx5]
    refine (rptGet_S (s5.front 7) se ((k : Int) / 32)).mono ?_
    rintro v h6 ⟨rfl, x6⟩
    generalize getE 16 mem se ((k : Int) / 32) = G
    obtain ⟨⟨gV, gL, gR, gF⟩, ge⟩ := G
    have s6 := (s5.grow x6).push (.cells #[.bool gV, .bool gL, .int .i64 gR, .int .i64 gF] 51 (0, 0))
    have g1 := s6.get
    have g2 := (s6.front 1).get
    have g3 := (s6.front 11).get
    simp (maxSteps := 2000000) (disch := first | (simp only [go_sem, Nat.reduceBEq, Nat.reduceAdd, Nat.reduceMul, Nat.reduceSub, Nat.reduceEqDiff, Nat.reduceLeDiff, Nat.reduceLT, Int.reduceEq, Int.reduceAdd, Int.reduceSub, Int.reduceMul, Int.reduceNeg, Int.reduceLT, Int.reduceLE, Int.reduceToNat, Int.reduceBEq, Int.reduceNe, reduceCtorEq, g1, g2, g3] <;> omega) | omega) only [go_sem, Nat.reduceBEq, Nat.reduceAdd, Nat.reduceMul, Nat.reduceSub, Nat.reduceEqDiff, Nat.reduceLeDiff, Nat.reduceLT, Int.reduceEq, Int.reduceAdd, Int.reduceSub, Int.reduceMul, Int.reduceNeg, Int.reduceLT, Int.reduceLE, Int.reduceToNat, Int.reduceBEq, Int.reduceNe, reduceCtorEq, w64_id, w8_id, w16_id, w32_id, tmod_pos, tdiv_pos, Bool.or_true, Bool.true_or, Bool.or_false, Bool.false_or, Bool.and_false, Bool.false_and, condK_decide, g1, g2, g3]
    refine ⟨fun _ => hR _ _ ⟨rfl, (s6.front 12).ext⟩, fun q1 => ?_⟩
    simp only at hnew
    refine loopH.intro (fun i : Nat => (.cons 2 (.int .i64 steps) true (.cons 3 (.pointer (some ⟨h.size, 0, none⟩)) true (.cons 4 (.pointer (some ⟨h.size + 1, 0, none⟩)) true (.cons 7 (.bool true) true (.cons 8 (.pointer (some ⟨h2.size, 0, none⟩)) true (.cons 10 (.pointer (some ⟨h3.size, 0, none⟩)) true (.cons 12 (.int .i64 k) true (.cons 13 (.int .i64 fr) true (.cons 14 (.int .i64 ri) true (.cons 15 (.pointer (some ⟨h5.size, 0, none⟩)) true (.cons 18 (.int .i64 i) true .nil))))))))))))
      (fun i h' => i ≤ 32 ∧ Sat h' [cellAt h6.size (.cells #[.bool gV, .bool gL, .int .i64 gR, .int .i64 gF] 51 (0, 0)), cellAt h5.size (.cells #[.int .i64 ff.K, .int .i64 ff.S, .int .i64 ff.L, .bool ff.W, .int .i64 ff.P] 47 (0, 0)), cellAt h3.size (.cells #[.pointer (some ⟨rb', 0, none⟩), .pointer (some ⟨tb', 0, none⟩), .pointer pv', .pointer (some ⟨rrb', 0, none⟩), .pointer (some ⟨rtb', 0, none⟩), .pointer y3'] 43 (0, 0)), mchS 16 rb' tb' (.pointer pv') ⟨mem, noT, none⟩, refRamS rrb' 16 mem, cellAt rtb' (.cells (List.replicate 42 (Value.int .i64 0)).toArray 101 (0, 0)),
      cellAt h2.size (.cells #[.pointer (some ⟨rb, 0, none⟩), .pointer (some ⟨tb, 0, none⟩), .pointer pv, .pointer (some ⟨rrb, 0, none⟩), .pointer (some ⟨rtb, 0, none⟩), .pointer y3] 43 (0, 0)), mchS 16 rb tb (.pointer pv) ⟨mem, noT, none⟩, refRamS rrb 16 mem, cellAt rtb (.cells (List.replicate 42 (Value.int .i64 0)).toArray 101 (0, 0)),
      cellAt (h.size + 1) (.cells c.cells.toArray 30 (0, 0)), cellAt h.size (.cells #[v1, v2, .bool false, .int .i64 vm, .int .i64 se] 25 (0, 0)), oldS h] ∧
        ∀ j : Int, 0 ≤ j → j < i → ¬ ((getE 16 mem se j).2 = 0 ∧ (getE 16 mem se j).1.V = true ∧ (getE 16 mem se j).1.F = fr)) (fun i _ => 33 - i) 0 ?_ ⟨by omega, s6, fun j a b => absurd b (by omega)⟩ ?_
    · rfl
    clear s6 s5 s gA gx gA5 gx5 g1 g2 g3
    rintro i h7 ⟨hi, s, hj⟩
    have gA := (s.front 6).get
    have gx := (s.front 11).get
    have gf := (s.front 1).get
    by_cases q2 : (i : Int) < 32
    · simp (maxSteps := 2000000) (disch := first | (simp only [go_sem, Nat.reduceBEq, Nat.reduceAdd, Nat.reduceMul, Nat.reduceSub, Nat.reduceEqDiff, Nat.reduceLeDiff, Nat.reduceLT, Int.reduceEq, Int.reduceAdd, Int.reduceSub, Int.reduceMul, Int.reduceNeg, Int.reduceLT, Int.reduceLE, Int.reduceToNat, Int.reduceBEq, Int.reduceNe, reduceCtorEq, q2, gA, gx, gf] <;> omega) | omega) only [go_sem, Nat.reduceBEq, Nat.reduceAdd, Nat.reduceMul, Nat.reduceSub, Nat.reduceEqDiff, Nat.reduceLeDiff, Nat.reduceLT, Int.reduceEq, Int.reduceAdd, Int.reduceSub, Int.reduceMul, Int.reduceNeg, Int.reduceLT, Int.reduceLE, Int.reduceToNat, Int.reduceBEq, Int.reduceNe, reduceCtorEq, w64_id, w8_id, w16_id, w32_id, tmod_pos, tdiv_pos, Bool.or_true, Bool.true_or, Bool.or_false, Bool.false_or, Bool.and_false, Bool.false_and, condK_decide, q2, gA, gx, gf]
      refine ⟨fun q3 => ?_, fun q3 => ?_⟩
      · refine (rptGet_S (s.front 8) se i).mono ?_
        rintro v h8 ⟨rfl, x8⟩
        have hlast : ¬ ((getE 16 mem se i).2 = 0 ∧ (getE 16 mem se i).1.V = true ∧ (getE 16 mem se i).1.F = fr) → ∀ j : Int, 0 ≤ j → j < (i + 1 : Nat) → ¬ ((getE 16 mem se j).2 = 0 ∧ (getE 16 mem se j).1.V = true ∧ (getE 16 mem se j).1.F = fr) := fun z j a b => by
          by_cases e : j = i
          · subst e; exact z
          · exact hj j a (by omega)
        generalize getE 16 mem se i = U at *
        obtain ⟨⟨uV, uL, uR, uF⟩, ue⟩ := U
        simp only at hlast
        have s8 := (s.grow x8).push (.cells #[.bool uV, .bool uL, .int .i64 uR, .int .i64 uF] 51 (0, 0))
        simp (maxSteps := 2000000) (disch := first | (simp only [go_sem, Nat.reduceBEq, Nat.reduceAdd, Nat.reduceMul, Nat.reduceSub, Nat.reduceEqDiff, Nat.reduceLeDiff, Nat.reduceLT, Int.reduceEq, Int.reduceAdd, Int.reduceSub, Int.reduceMul, Int.reduceNeg, Int.reduceLT, Int.reduceLE, Int.reduceToNat, Int.reduceBEq, Int.reduceNe, reduceCtorEq, s8.get] <;> omega) | omega) only [go_sem, Nat.reduceBEq, Nat.reduceAdd, Nat.reduceMul, Nat.reduceSub, Nat.reduceEqDiff, Nat.reduceLeDiff, Nat.reduceLT, Int.reduceEq, Int.reduceAdd, Int.reduceSub, Int.reduceMul, Int.reduceNeg, Int.reduceLT, Int.reduceLE, Int.reduceToNat, Int.reduceBEq, Int.reduceNe, reduceCtorEq, w64_id, w8_id, w16_id, w32_id, tmod_pos, tdiv_pos, Bool.or_true, Bool.true_or, Bool.or_false, Bool.false_or, Bool.and_false, Bool.false_and, condK_decide, s8.get]
        refine ⟨fun _ => hR _ _ ⟨rfl, (s8.front 13).ext⟩, fun q4 => ?_⟩
        refine ⟨i + 1, rfl, ⟨by omega, s8.tail, hlast ?_⟩, by simp only; omega⟩
        rintro ⟨a, b, c⟩
        subst a b c
        simp at q4
      · refine ⟨k + 1, rfl, ⟨by omega, s.tail.tail, hnew fun a1 a2 => ?_⟩, by simp only; omega⟩
        exfalso
        simp only [Bool.and_eq_false_iff, decide_eq_false_iff_not] at q3
        rcases q3 with y | y
        · exact y a1
        · exact y a2
    · simp (maxSteps := 2000000) (disch := first | (simp only [go_sem, Nat.reduceBEq, Nat.reduceAdd, Nat.reduceMul, Nat.reduceSub, Nat.reduceEqDiff, Nat.reduceLeDiff, Nat.reduceLT, Int.reduceEq, Int.reduceAdd, Int.reduceSub, Int.reduceMul, Int.reduceNeg, Int.reduceLT, Int.reduceLE, Int.reduceToNat, Int.reduceBEq, Int.reduceNe, reduceCtorEq, q2] <;> omega) | omega) only [go_sem, Nat.reduceBEq, Nat.reduceAdd, Nat.reduceMul, Nat.reduceSub, Nat.reduceEqDiff, Nat.reduceLeDiff, Nat.reduceLT, Int.reduceEq, Int.reduceAdd, Int.reduceSub, Int.reduceMul, Int.reduceNeg, Int.reduceLT, Int.reduceLE, Int.reduceToNat, Int.reduceBEq, Int.reduceNe, reduceCtorEq, w64_id, w8_id, w16_id, w32_id, tmod_pos, tdiv_pos, Bool.or_true, Bool.true_or, Bool.or_false, Bool.false_or, Bool.and_false, Bool.false_and, condK_decide, q2]
      refine rdK_any fun _ => rdK_any fun _ => ?_
      refine ⟨k + 1, rfl, ⟨by omega, s.tail.tail, hnew fun a1 a2 => ⟨fun e => ?_, fun j j0 j1 => hj j j0 (by omega)⟩⟩, by simp only; omega⟩
      simp only [Bool.and_eq_false_iff, Bool.or_eq_false_iff, decide_eq_false_iff_not] at q1
      rcases q1 with (y | y) | y
      · exact y a1
      · exact y a2
      · exact y.1 e
  obtain rfl : k = 1024 := by omega
  have hshut := shutT_pages (m := mem) (se := se) fun p a b => hpg p a (by omega)
  have hpair : pairF 16 mem se ⟨vm, 0, -1, se⟩ mem noT := ⟨⟨fun F _ _ => frameEq.rfl, fun l hl hw => by
    rw [noT_zero2 l hl] at hw
    exact absurd (by rfl) hw⟩, conT_no noT_zero2⟩
  have gc := (s.front 8).get
  simp (maxSteps := 2000000) (disch := first | (simp only [go_sem, Nat.reduceBEq, Nat.reduceAdd, Nat.reduceMul, Nat.reduceSub, Nat.reduceEqDiff, Nat.reduceLeDiff, Nat.reduceLT, Int.reduceEq, Int.reduceAdd, Int.reduceSub, Int.reduceMul, Int.reduceNeg, Int.reduceLT, Int.reduceLE, Int.reduceToNat, Int.reduceBEq, Int.reduceNe, reduceCtorEq, q, gc, tk] <;> omega) | omega) only [go_sem, Nat.reduceBEq, Nat.reduceAdd, Nat.reduceMul, Nat.reduceSub, Nat.reduceEqDiff, Nat.reduceLeDiff, Nat.reduceLT, Int.reduceEq, Int.reduceAdd, Int.reduceSub, Int.reduceMul, Int.reduceNeg, Int.reduceLT, Int.reduceLE, Int.reduceToNat, Int.reduceBEq, Int.reduceNe, reduceCtorEq, w64_id, w8_id, w16_id, w32_id, tmod_pos, tdiv_pos, Bool.or_true, Bool.true_or, Bool.or_false, Bool.false_or, Bool.and_false, Bool.false_and, condK_decide, q, gc, tk]
  have d0 := s.push (.cells (tzeroD Tryz.prog 30).cells 30 (0, 0))
  simp only [tzeroD_30] at d0
  refine store_cpu f d0.get (by rfl) ?_
  have d1 := s.push (.cells c.cells.toArray 30 (0, 0))
  simp (maxSteps := 2000000) (disch := first | (simp only [go_sem, Nat.reduceBEq, Nat.reduceAdd, Nat.reduceMul, Nat.reduceSub, Nat.reduceEqDiff, Nat.reduceLeDiff, Nat.reduceLT, Int.reduceEq, Int.reduceAdd, Int.reduceSub, Int.reduceMul, Int.reduceNeg, Int.reduceLT, Int.reduceLE, Int.reduceToNat, Int.reduceBEq, Int.reduceNe, reduceCtorEq] <;> omega) | omega) only [go_sem, Nat.reduceBEq, Nat.reduceAdd, Nat.reduceMul, Nat.reduceSub, Nat.reduceEqDiff, Nat.reduceLeDiff, Nat.reduceLT, Int.reduceEq, Int.reduceAdd, Int.reduceSub, Int.reduceMul, Int.reduceNeg, Int.reduceLT, Int.reduceLE, Int.reduceToNat, Int.reduceBEq, Int.reduceNe, reduceCtorEq, w64_id, w8_id, w16_id, w32_id, tmod_pos, tdiv_pos, Bool.or_true, Bool.true_or, Bool.or_false, Bool.false_or, Bool.and_false, Bool.false_and, condK_decide]
  refine loopH.intro (fun t : Nat × (Nat → Int) × List Ln × List Ln × Cp => (.cons 2 (.int .i64 steps) true (.cons 3 (.pointer (some ⟨h.size, 0, none⟩)) true (.cons 4 (.pointer (some ⟨h.size + 1, 0, none⟩)) true (.cons 7 (.bool true) true (.cons 8 (.pointer (some ⟨h2.size, 0, none⟩)) true (.cons 10 (.pointer (some ⟨h3.size, 0, none⟩)) true (.cons 21 (.pointer (some ⟨h4.size, 0, none⟩)) true (.cons 22 (.int .i64 t.1) true .nil)))))))))
    (fun t h' => t.1 ≤ 60 ∧ t.2.2.2.2.fit ∧ pairF 16 mem se ⟨vm, 0, -1, se⟩ t.2.1 t.2.2.1 ∧ Sat h' [cellAt h4.size (.cells t.2.2.2.2.cells.toArray 30 (0, 0)), cellAt h3.size (.cells #[.pointer (some ⟨rb', 0, none⟩), .pointer (some ⟨tb', 0, none⟩), .pointer pv', .pointer (some ⟨rrb', 0, none⟩), .pointer (some ⟨rtb', 0, none⟩), .pointer y3'] 43 (0, 0)), mchS 16 rb' tb' (.pointer pv') ⟨t.2.1, t.2.2.2.1, none⟩, refRamS rrb' 16 mem, cellAt rtb' (.cells (List.replicate 42 (Value.int .i64 0)).toArray 101 (0, 0)),
      cellAt h2.size (.cells #[.pointer (some ⟨rb, 0, none⟩), .pointer (some ⟨tb, 0, none⟩), .pointer pv, .pointer (some ⟨rrb, 0, none⟩), .pointer (some ⟨rtb, 0, none⟩), .pointer y3] 43 (0, 0)), mchS 16 rb tb (.pointer pv) ⟨t.2.1, t.2.2.1, none⟩, refRamS rrb 16 mem, cellAt rtb (.cells (List.replicate 42 (Value.int .i64 0)).toArray 101 (0, 0)),
      cellAt (h.size + 1) (.cells t.2.2.2.2.cells.toArray 30 (0, 0)), cellAt h.size (.cells #[v1, v2, .bool false, .int .i64 vm, .int .i64 se] 25 (0, 0)), oldS h]) (fun t _ => 61 - t.1) (0, mem, noT, noT, c) ?_ ⟨by simp, f, hpair, d1⟩ ?_
  · rfl
  clear d0 d1 s gc gA gx hpg tk f
  rintro ⟨i, m, Ta, Tb, c⟩ h5 ⟨hi, f, hpair, s⟩
  simp only at hi f hpair s
  have tk := take_cpu f
  have gA := (s.front 5).get
  have gc := (s.front 9).get
  have gx := (s.front 10).get
  by_cases q2 : (i : Int) < steps
  · by_cases q3 : (i : Int) < 60
    · simp (maxSteps := 2000000) (disch := first | (simp only [go_sem, Nat.reduceBEq, Nat.reduceAdd, Nat.reduceMul, Nat.reduceSub, Nat.reduceEqDiff, Nat.reduceLeDiff, Nat.reduceLT, Int.reduceEq, Int.reduceAdd, Int.reduceSub, Int.reduceMul, Int.reduceNeg, Int.reduceLT, Int.reduceLE, Int.reduceToNat, Int.reduceBEq, Int.reduceNe, reduceCtorEq, q2, q3, gA, gc, gx, tk] <;> omega) | omega) only [go_sem, Nat.reduceBEq, Nat.reduceAdd, Nat.reduceMul, Nat.reduceSub, Nat.reduceEqDiff, Nat.reduceLeDiff, Nat.reduceLT, Int.reduceEq, Int.reduceAdd, Int.reduceSub, Int.reduceMul, Int.reduceNeg, Int.reduceLT, Int.reduceLE, Int.reduceToNat, Int.reduceBEq, Int.reduceNe, reduceCtorEq, w64_id, w8_id, w16_id, w32_id, tmod_pos, tdiv_pos, Bool.or_true, Bool.true_or, Bool.or_false, Bool.false_or, Bool.and_false, Bool.false_and, condK_decide, q2, q3, gA, gc, gx, tk]
      refine (stepM_S f (s.front 6) vm se ((i : Int) % 8) (fun _ _ _ _ _ _ _ => Nat.zero_le _)).mono ?_
      rintro v h6 ⟨rfl, f1, t1⟩
      obtain ⟨al, hpair2⟩ := hpair.step hshut (flush_all_zero (T := Tb)) c ((i : Int) % 8) 0
      have hVa := stepP_V (n := 16) (M := ⟨m, Ta, none⟩) (c := c) (vm := vm) (se := se) (at_ := (i : Int) % 8) rfl
      obtain ⟨st, hst⟩ : ∃ st, stepP 16 ⟨m, Ta, none⟩ c vm se ((i : Int) % 8) = st := ⟨_, rfl⟩
      rw [hst] at f1 t1 al hpair2 hVa ⊢
      clear hst
      obtain ⟨⟨ma, Ta2, Va⟩, ca, ta⟩ := st
      simp only at f1 t1 hpair2 hVa ⊢
      subst hVa
      simp (maxSteps := 2000000) (disch := first | (simp only [go_sem, Nat.reduceBEq, Nat.reduceAdd, Nat.reduceMul, Nat.reduceSub, Nat.reduceEqDiff, Nat.reduceLeDiff, Nat.reduceLT, Int.reduceEq, Int.reduceAdd, Int.reduceSub, Int.reduceMul, Int.reduceNeg, Int.reduceLT, Int.reduceLE, Int.reduceToNat, Int.reduceBEq, Int.reduceNe, reduceCtorEq] <;> omega) | omega) only [go_sem, Nat.reduceBEq, Nat.reduceAdd, Nat.reduceMul, Nat.reduceSub, Nat.reduceEqDiff, Nat.reduceLeDiff, Nat.reduceLT, Int.reduceEq, Int.reduceAdd, Int.reduceSub, Int.reduceMul, Int.reduceNeg, Int.reduceLT, Int.reduceLE, Int.reduceToNat, Int.reduceBEq, Int.reduceNe, reduceCtorEq, w64_id, w8_id, w16_id, w32_id, tmod_pos, tdiv_pos, Bool.or_true, Bool.true_or, Bool.or_false, Bool.false_or, Bool.and_false, Bool.false_and, condK_decide]
      have q0 := (t1.push (.cells (tzeroD Tryz.prog 30).cells 30 (0, 0))).push (.cells okT.cells.toArray 56 (0, 0))
      simp only [tzeroD_30, Trp.cells_eq, okT, okF, size_push'] at q0
      refine store_cpu f1 (q0.front 1).get (by rfl) ?_
      have q1 := (t1.push (.cells ca.cells.toArray 30 (0, 0))).push (.cells okT.cells.toArray 56 (0, 0))
      have q2 := (t1.push (.cells ca.cells.toArray 30 (0, 0))).push (.cells ta.cells.toArray 56 (0, 0))
      simp only [Trp.cells_eq, okT, okF, size_push'] at q1 q2
      have gq1 := q1.get
      have gB2 := (q2.front 4).get
      simp (maxSteps := 2000000) (disch := first | (simp only [go_sem, Nat.reduceBEq, Nat.reduceAdd, Nat.reduceMul, Nat.reduceSub, Nat.reduceEqDiff, Nat.reduceLeDiff, Nat.reduceLT, Int.reduceEq, Int.reduceAdd, Int.reduceSub, Int.reduceMul, Int.reduceNeg, Int.reduceLT, Int.reduceLE, Int.reduceToNat, Int.reduceBEq, Int.reduceNe, reduceCtorEq, gq1, gB2] <;> omega) | omega) only [go_sem, Nat.reduceBEq, Nat.reduceAdd, Nat.reduceMul, Nat.reduceSub, Nat.reduceEqDiff, Nat.reduceLeDiff, Nat.reduceLT, Int.reduceEq, Int.reduceAdd, Int.reduceSub, Int.reduceMul, Int.reduceNeg, Int.reduceLT, Int.reduceLE, Int.reduceToNat, Int.reduceBEq, Int.reduceNe, reduceCtorEq, w64_id, w8_id, w16_id, w32_id, tmod_pos, tdiv_pos, Bool.or_true, Bool.true_or, Bool.or_false, Bool.false_or, Bool.and_false, Bool.false_and, condK_decide, gq1, gB2]
      refine (flushAll_S ((Sat.star.1 (q2.front 5)).front 1)).mono ?_
      rintro v h7 ⟨⟨nn, rfl⟩, q3⟩
      have q4 : Sat h7 (mchS 16 rb' tb' (.pointer pv') ⟨m, flushT Tb fun _ => true, none⟩ :: _) := Sat.star.2 q3.swap
      have gB3 := (q4.front 5).get
      have gd3 := (q4.front 4).get
      have gx3 := (q4.front 12).get
      simp (maxSteps := 2000000) (disch := first | (simp only [go_sem, Nat.reduceBEq, Nat.reduceAdd, Nat.reduceMul, Nat.reduceSub, Nat.reduceEqDiff, Nat.reduceLeDiff, Nat.reduceLT, Int.reduceEq, Int.reduceAdd, Int.reduceSub, Int.reduceMul, Int.reduceNeg, Int.reduceLT, Int.reduceLE, Int.reduceToNat, Int.reduceBEq, Int.reduceNe, reduceCtorEq, gB3, gd3, gx3, tk] <;> omega) | omega) only [go_sem, Nat.reduceBEq, Nat.reduceAdd, Nat.reduceMul, Nat.reduceSub, Nat.reduceEqDiff, Nat.reduceLeDiff, Nat.reduceLT, Int.reduceEq, Int.reduceAdd, Int.reduceSub, Int.reduceMul, Int.reduceNeg, Int.reduceLT, Int.reduceLE, Int.reduceToNat, Int.reduceBEq, Int.reduceNe, reduceCtorEq, w64_id, w8_id, w16_id, w32_id, tmod_pos, tdiv_pos, Bool.or_true, Bool.true_or, Bool.or_false, Bool.false_or, Bool.and_false, Bool.false_and, condK_decide, gB3, gd3, gx3, tk]
      refine (stepM_S f q4 vm se 0 (fun _ _ _ _ _ _ _ => Nat.zero_le _)).mono ?_
      rintro v h8 ⟨rfl, f2, t2⟩
      have hVb := stepP_V (n := 16) (M := ⟨m, flushT Tb fun _ => true, none⟩) (c := c) (vm := vm) (se := se) (at_ := 0) rfl
      obtain ⟨st, hst⟩ : ∃ st, stepP 16 ⟨m, flushT Tb fun _ => true, none⟩ c vm se 0 = st := ⟨_, rfl⟩
      rw [hst] at f2 t2 al hVb ⊢
      clear hst
      obtain ⟨⟨mb, Tb2, Vb⟩, cb, tb2⟩ := st
      obtain ⟨a1, a2, a3, a4⟩ := al
      simp only at f2 t2 hVb a1 a2 a3 a4 ⊢
      subst a1 a2 a3 hVb
      simp (maxSteps := 2000000) (disch := first | (simp only [go_sem, Nat.reduceBEq, Nat.reduceAdd, Nat.reduceMul, Nat.reduceSub, Nat.reduceEqDiff, Nat.reduceLeDiff, Nat.reduceLT, Int.reduceEq, Int.reduceAdd, Int.reduceSub, Int.reduceMul, Int.reduceNeg, Int.reduceLT, Int.reduceLE, Int.reduceToNat, Int.reduceBEq, Int.reduceNe, reduceCtorEq] <;> omega) | omega) only [go_sem, Nat.reduceBEq, Nat.reduceAdd, Nat.reduceMul, Nat.reduceSub, Nat.reduceEqDiff, Nat.reduceLeDiff, Nat.reduceLT, Int.reduceEq, Int.reduceAdd, Int.reduceSub, Int.reduceMul, Int.reduceNeg, Int.reduceLT, Int.reduceLE, Int.reduceToNat, Int.reduceBEq, Int.reduceNe, reduceCtorEq, w64_id, w8_id, w16_id, w32_id, tmod_pos, tdiv_pos, Bool.or_true, Bool.true_or, Bool.or_false, Bool.false_or, Bool.and_false, Bool.false_and, condK_decide]
      have u0 := (t2.push (.cells (tzeroD Tryz.prog 30).cells 30 (0, 0))).push (.cells okT.cells.toArray 56 (0, 0))
      simp only [tzeroD_30, Trp.cells_eq, okT, okF, size_push'] at u0
      refine store_cpu f2 (u0.front 1).get (by rfl) ?_
      have u1 := (t2.push (.cells ca.cells.toArray 30 (0, 0))).push (.cells okT.cells.toArray 56 (0, 0))
      have u2 := (t2.push (.cells ca.cells.toArray 30 (0, 0))).push (.cells ta.cells.toArray 56 (0, 0))
      simp only [Trp.cells_eq, okT, okF, size_push'] at u1 u2
      have tka := take_cpu f1
      have gu1 := u1.get
      have gp := (u2.front 4).get
      simp (maxSteps := 2000000) (disch := first | (simp only [go_sem, Nat.reduceBEq, Nat.reduceAdd, Nat.reduceMul, Nat.reduceSub, Nat.reduceEqDiff, Nat.reduceLeDiff, Nat.reduceLT, Int.reduceEq, Int.reduceAdd, Int.reduceSub, Int.reduceMul, Int.reduceNeg, Int.reduceLT, Int.reduceLE, Int.reduceToNat, Int.reduceBEq, Int.reduceNe, reduceCtorEq, gu1, gp, tka] <;> omega) | omega) only [go_sem, Nat.reduceBEq, Nat.reduceAdd, Nat.reduceMul, Nat.reduceSub, Nat.reduceEqDiff, Nat.reduceLeDiff, Nat.reduceLT, Int.reduceEq, Int.reduceAdd, Int.reduceSub, Int.reduceMul, Int.reduceNeg, Int.reduceLT, Int.reduceLE, Int.reduceToNat, Int.reduceBEq, Int.reduceNe, reduceCtorEq, w64_id, w8_id, w16_id, w32_id, tmod_pos, tdiv_pos, Bool.or_true, Bool.true_or, Bool.or_false, Bool.false_or, Bool.and_false, Bool.false_and, condK_decide, gu1, gp, tka]
      refine store_cpu f1 (u2.front 13).get (by simp [Cp.len f]) ?_
      have u3 := (u2.front 13).set (.cells ca.cells.toArray 30 (0, 0))
      have gq := (u3.front 2).get
      simp (maxSteps := 2000000) (disch := first | (simp only [go_sem, Nat.reduceBEq, Nat.reduceAdd, Nat.reduceMul, Nat.reduceSub, Nat.reduceEqDiff, Nat.reduceLeDiff, Nat.reduceLT, Int.reduceEq, Int.reduceAdd, Int.reduceSub, Int.reduceMul, Int.reduceNeg, Int.reduceLT, Int.reduceLE, Int.reduceToNat, Int.reduceBEq, Int.reduceNe, reduceCtorEq, gq, tka] <;> omega) | omega) only [go_sem, Nat.reduceBEq, Nat.reduceAdd, Nat.reduceMul, Nat.reduceSub, Nat.reduceEqDiff, Nat.reduceLeDiff, Nat.reduceLT, Int.reduceEq, Int.reduceAdd, Int.reduceSub, Int.reduceMul, Int.reduceNeg, Int.reduceLT, Int.reduceLE, Int.reduceToNat, Int.reduceBEq, Int.reduceNe, reduceCtorEq, w64_id, w8_id, w16_id, w32_id, tmod_pos, tdiv_pos, Bool.or_true, Bool.true_or, Bool.or_false, Bool.false_or, Bool.and_false, Bool.false_and, condK_decide, gq, tka]
      refine store_cpu f1 (u3.front 7).get (by simp [Cp.len f]) ?_
      have u4 := (u3.front 7).set (.cells ca.cells.toArray 30 (0, 0))
      have w1 := (u4.front 6).get
      have w2 := (u4.front 3).get
      have w3 := (u4.front 5).get
      have w4 := (u4.front 2).get
      have be := fun (h : Heap) (x y : Operand) => binD_neq_flat (h := h) (x := x) (y := y) (P := Tryz.prog) (t := 30) (by kernel_rfl) (fitC f1) (fitC f1)
      simp only [eqC f1 f1, decide_true, Bool.not_true] at be
      have fin := u4.re [0, 8, 4, 9, 10, 11, 7, 12, 13, 1, 14, 15]
      by_cases z : ta.C = 0
      · obtain ⟨tC, tN, tA, tf⟩ := ta
        simp only at z w1 w2 w3 w4 fin ⊢
        subst z
        simp (maxSteps := 2000000) (disch := first | (simp only [go_sem, Nat.reduceBEq, Nat.reduceAdd, Nat.reduceMul, Nat.reduceSub, Nat.reduceEqDiff, Nat.reduceLeDiff, Nat.reduceLT, Int.reduceEq, Int.reduceAdd, Int.reduceSub, Int.reduceMul, Int.reduceNeg, Int.reduceLT, Int.reduceLE, Int.reduceToNat, Int.reduceBEq, Int.reduceNe, reduceCtorEq, w1, w2, w3, w4, tka, be, neqs_56] <;> omega) | omega) only [go_sem, Nat.reduceBEq, Nat.reduceAdd, Nat.reduceMul, Nat.reduceSub, Nat.reduceEqDiff, Nat.reduceLeDiff, Nat.reduceLT, Int.reduceEq, Int.reduceAdd, Int.reduceSub, Int.reduceMul, Int.reduceNeg, Int.reduceLT, Int.reduceLE, Int.reduceToNat, Int.reduceBEq, Int.reduceNe, reduceCtorEq, w64_id, w8_id, w16_id, w32_id, tmod_pos, tdiv_pos, Bool.or_true, Bool.true_or, Bool.or_false, Bool.false_or, Bool.and_false, Bool.false_and, condK_decide, w1, w2, w3, w4, tka, be, neqs_56]
        exact ⟨(i + 1, ma, Ta2, Tb2, ca), rfl, ⟨by simp only; omega, f1, hpair2, fin⟩, by simp only; omega⟩
      · simp (maxSteps := 2000000) (disch := first | (simp only [go_sem, Nat.reduceBEq, Nat.reduceAdd, Nat.reduceMul, Nat.reduceSub, Nat.reduceEqDiff, Nat.reduceLeDiff, Nat.reduceLT, Int.reduceEq, Int.reduceAdd, Int.reduceSub, Int.reduceMul, Int.reduceNeg, Int.reduceLT, Int.reduceLE, Int.reduceToNat, Int.reduceBEq, Int.reduceNe, reduceCtorEq, w1, w2, w3, w4, tka, be, neqs_56, z] <;> omega) | omega) only [go_sem, Nat.reduceBEq, Nat.reduceAdd, Nat.reduceMul, Nat.reduceSub, Nat.reduceEqDiff, Nat.reduceLeDiff, Nat.reduceLT, Int.reduceEq, Int.reduceAdd, Int.reduceSub, Int.reduceMul, Int.reduceNeg, Int.reduceLT, Int.reduceLE, Int.reduceToNat, Int.reduceBEq, Int.reduceNe, reduceCtorEq, w64_id, w8_id, w16_id, w32_id, tmod_pos, tdiv_pos, Bool.or_true, Bool.true_or, Bool.or_false, Bool.false_or, Bool.and_false, Bool.false_and, condK_decide, w1, w2, w3, w4, tka, be, neqs_56, z]
        refine loopH.intro (fun i : Nat => (.cons 7 (.bool true) true (.cons 8 (.pointer (some ⟨h2.size, 0, none⟩)) true (.cons 10 (.pointer (some ⟨h3.size, 0, none⟩)) true (.cons 27 (.int .i64 i) true .nil)))))
          (fun i h' => i ≤ 16 ∧ Sat h' [mchS 16 rb tb (.pointer pv) ⟨ma, Ta2, none⟩, mchS 16 rb' tb' (.pointer pv') ⟨ma, Tb2, none⟩, cellAt h2.size (.cells #[.pointer (some ⟨rb, 0, none⟩), .pointer (some ⟨tb, 0, none⟩), .pointer pv, .pointer (some ⟨rrb, 0, none⟩), .pointer (some ⟨rtb, 0, none⟩), .pointer y3] 43 (0, 0)), cellAt h3.size (.cells #[.pointer (some ⟨rb', 0, none⟩), .pointer (some ⟨tb', 0, none⟩), .pointer pv', .pointer (some ⟨rrb', 0, none⟩), .pointer (some ⟨rtb', 0, none⟩), .pointer y3'] 43 (0, 0)), oldS h]) (fun i _ => 17 - i) 0 ?_ ⟨by omega, fin.re [6, 2, 5, 1, 11]⟩ ?_
        · rfl
        rintro i hh ⟨hi, u⟩
        by_cases k : (i : Int) < 16
        · have gA := (u.front 2).get
          simp (maxSteps := 2000000) (disch := first | (simp only [go_sem, Nat.reduceBEq, Nat.reduceAdd, Nat.reduceMul, Nat.reduceSub, Nat.reduceEqDiff, Nat.reduceLeDiff, Nat.reduceLT, Int.reduceEq, Int.reduceAdd, Int.reduceSub, Int.reduceMul, Int.reduceNeg, Int.reduceLT, Int.reduceLE, Int.reduceToNat, Int.reduceBEq, Int.reduceNe, reduceCtorEq, k, gA] <;> omega) | omega) only [go_sem, Nat.reduceBEq, Nat.reduceAdd, Nat.reduceMul, Nat.reduceSub, Nat.reduceEqDiff, Nat.reduceLeDiff, Nat.reduceLT, Int.reduceEq, Int.reduceAdd, Int.reduceSub, Int.reduceMul, Int.reduceNeg, Int.reduceLT, Int.reduceLE, Int.reduceToNat, Int.reduceBEq, Int.reduceNe, reduceCtorEq, w64_id, w8_id, w16_id, w32_id, tmod_pos, tdiv_pos, Bool.or_true, Bool.true_or, Bool.or_false, Bool.false_or, Bool.and_false, Bool.false_and, condK_decide, k, gA]
          refine (frame_S (Sat.star.1 u) i).mono ?_
          rintro v hh1 (⟨-, -, w, rfl, u4⟩ | ⟨z, -⟩)
          · have gB := (u4.front 6).get
            simp (maxSteps := 2000000) (disch := first | (simp only [go_sem, Nat.reduceBEq, Nat.reduceAdd, Nat.reduceMul, Nat.reduceSub, Nat.reduceEqDiff, Nat.reduceLeDiff, Nat.reduceLT, Int.reduceEq, Int.reduceAdd, Int.reduceSub, Int.reduceMul, Int.reduceNeg, Int.reduceLT, Int.reduceLE, Int.reduceToNat, Int.reduceBEq, Int.reduceNe, reduceCtorEq, gB] <;> omega) | omega) only [go_sem, Nat.reduceBEq, Nat.reduceAdd, Nat.reduceMul, Nat.reduceSub, Nat.reduceEqDiff, Nat.reduceLeDiff, Nat.reduceLT, Int.reduceEq, Int.reduceAdd, Int.reduceSub, Int.reduceMul, Int.reduceNeg, Int.reduceLT, Int.reduceLE, Int.reduceToNat, Int.reduceBEq, Int.reduceNe, reduceCtorEq, w64_id, w8_id, w16_id, w32_id, tmod_pos, tdiv_pos, Bool.or_true, Bool.true_or, Bool.or_false, Bool.false_or, Bool.and_false, Bool.false_and, condK_decide, gB]
            refine (frame_S (Sat.star.1 (u4.front 4)) i).mono ?_
            rintro v hh2 (⟨-, -, w', rfl, u5⟩ | ⟨z, -⟩)
            · simp (maxSteps := 2000000) (disch := first | (simp only [go_sem, Nat.reduceBEq, Nat.reduceAdd, Nat.reduceMul, Nat.reduceSub, Nat.reduceEqDiff, Nat.reduceLeDiff, Nat.reduceLT, Int.reduceEq, Int.reduceAdd, Int.reduceSub, Int.reduceMul, Int.reduceNeg, Int.reduceLT, Int.reduceLE, Int.reduceToNat, Int.reduceBEq, Int.reduceNe, reduceCtorEq] <;> omega) | omega) only [go_sem, Nat.reduceBEq, Nat.reduceAdd, Nat.reduceMul, Nat.reduceSub, Nat.reduceEqDiff, Nat.reduceLeDiff, Nat.reduceLT, Int.reduceEq, Int.reduceAdd, Int.reduceSub, Int.reduceMul, Int.reduceNeg, Int.reduceLT, Int.reduceLE, Int.reduceToNat, Int.reduceBEq, Int.reduceNe, reduceCtorEq, w64_id, w8_id, w16_id, w32_id, tmod_pos, tdiv_pos, Bool.or_true, Bool.true_or, Bool.or_false, Bool.false_or, Bool.and_false, Bool.false_and, condK_decide]
              refine (same_S (u5.front 4) (by omega) (by omega)).mono ?_
              rintro r hh3 ⟨b, rfl, hb2, rfl⟩
              obtain rfl : b = true := hb2.2 ⟨rfl, fun _ _ => rfl⟩
              simp (maxSteps := 2000000) (disch := first | (simp only [go_sem, Nat.reduceBEq, Nat.reduceAdd, Nat.reduceMul, Nat.reduceSub, Nat.reduceEqDiff, Nat.reduceLeDiff, Nat.reduceLT, Int.reduceEq, Int.reduceAdd, Int.reduceSub, Int.reduceMul, Int.reduceNeg, Int.reduceLT, Int.reduceLE, Int.reduceToNat, Int.reduceBEq, Int.reduceNe, reduceCtorEq] <;> omega) | omega) only [go_sem, Nat.reduceBEq, Nat.reduceAdd, Nat.reduceMul, Nat.reduceSub, Nat.reduceEqDiff, Nat.reduceLeDiff, Nat.reduceLT, Int.reduceEq, Int.reduceAdd, Int.reduceSub, Int.reduceMul, Int.reduceNeg, Int.reduceLT, Int.reduceLE, Int.reduceToNat, Int.reduceBEq, Int.reduceNe, reduceCtorEq, w64_id, w8_id, w16_id, w32_id, tmod_pos, tdiv_pos, Bool.or_true, Bool.true_or, Bool.or_false, Bool.false_or, Bool.and_false, Bool.false_and, condK_decide]
              have z2 : Sat hh3 (mchS 16 rb' tb' (.pointer pv') ⟨ma, Tb2, none⟩ :: _) := Sat.star.2 (u5.re [1, 2, 3, 5, 6, 7, 8, 9, 10])
              have z4 : Sat hh3 (mchS 16 rb tb (.pointer pv) ⟨ma, Ta2, none⟩ :: _) := Sat.star.2 (z2.back 3)
              exact ⟨i + 1, rfl, ⟨by omega, z4⟩, by simp only; omega⟩
            · omega
          · omega
        · simp (maxSteps := 2000000) (disch := first | (simp only [go_sem, Nat.reduceBEq, Nat.reduceAdd, Nat.reduceMul, Nat.reduceSub, Nat.reduceEqDiff, Nat.reduceLeDiff, Nat.reduceLT, Int.reduceEq, Int.reduceAdd, Int.reduceSub, Int.reduceMul, Int.reduceNeg, Int.reduceLT, Int.reduceLE, Int.reduceToNat, Int.reduceBEq, Int.reduceNe, reduceCtorEq, k] <;> omega) | omega) only [go_sem, Nat.reduceBEq, Nat.reduceAdd, Nat.reduceMul, Nat.reduceSub, Nat.reduceEqDiff, Nat.reduceLeDiff, Nat.reduceLT, Int.reduceEq, Int.reduceAdd, Int.reduceSub, Int.reduceMul, Int.reduceNeg, Int.reduceLT, Int.reduceLE, Int.reduceToNat, Int.reduceBEq, Int.reduceNe, reduceCtorEq, w64_id, w8_id, w16_id, w32_id, tmod_pos, tdiv_pos, Bool.or_true, Bool.true_or, Bool.or_false, Bool.false_or, Bool.and_false, Bool.false_and, condK_decide, k]
          exact hR _ _ ⟨rfl, (u.front 4).ext⟩
    · simp (maxSteps := 2000000) (disch := first | (simp only [go_sem, Nat.reduceBEq, Nat.reduceAdd, Nat.reduceMul, Nat.reduceSub, Nat.reduceEqDiff, Nat.reduceLeDiff, Nat.reduceLT, Int.reduceEq, Int.reduceAdd, Int.reduceSub, Int.reduceMul, Int.reduceNeg, Int.reduceLT, Int.reduceLE, Int.reduceToNat, Int.reduceBEq, Int.reduceNe, reduceCtorEq, q2, q3] <;> omega) | omega) only [go_sem, Nat.reduceBEq, Nat.reduceAdd, Nat.reduceMul, Nat.reduceSub, Nat.reduceEqDiff, Nat.reduceLeDiff, Nat.reduceLT, Int.reduceEq, Int.reduceAdd, Int.reduceSub, Int.reduceMul, Int.reduceNeg, Int.reduceLT, Int.reduceLE, Int.reduceToNat, Int.reduceBEq, Int.reduceNe, reduceCtorEq, w64_id, w8_id, w16_id, w32_id, tmod_pos, tdiv_pos, Bool.or_true, Bool.true_or, Bool.or_false, Bool.false_or, Bool.and_false, Bool.false_and, condK_decide, q2, q3]
      refine loopH.intro (fun i : Nat => (.cons 7 (.bool true) true (.cons 8 (.pointer (some ⟨h2.size, 0, none⟩)) true (.cons 10 (.pointer (some ⟨h3.size, 0, none⟩)) true (.cons 27 (.int .i64 i) true .nil)))))
        (fun i h' => i ≤ 16 ∧ Sat h' [mchS 16 rb tb (.pointer pv) ⟨m, Ta, none⟩, mchS 16 rb' tb' (.pointer pv') ⟨m, Tb, none⟩, cellAt h2.size (.cells #[.pointer (some ⟨rb, 0, none⟩), .pointer (some ⟨tb, 0, none⟩), .pointer pv, .pointer (some ⟨rrb, 0, none⟩), .pointer (some ⟨rtb, 0, none⟩), .pointer y3] 43 (0, 0)), cellAt h3.size (.cells #[.pointer (some ⟨rb', 0, none⟩), .pointer (some ⟨tb', 0, none⟩), .pointer pv', .pointer (some ⟨rrb', 0, none⟩), .pointer (some ⟨rtb', 0, none⟩), .pointer y3'] 43 (0, 0)), oldS h]) (fun i _ => 17 - i) 0 ?_ ⟨by omega, s.re [6, 2, 5, 1, 11]⟩ ?_
      · rfl
      rintro i hh ⟨hi, u⟩
      by_cases k : (i : Int) < 16
      · have gA := (u.front 2).get
        simp (maxSteps := 2000000) (disch := first | (simp only [go_sem, Nat.reduceBEq, Nat.reduceAdd, Nat.reduceMul, Nat.reduceSub, Nat.reduceEqDiff, Nat.reduceLeDiff, Nat.reduceLT, Int.reduceEq, Int.reduceAdd, Int.reduceSub, Int.reduceMul, Int.reduceNeg, Int.reduceLT, Int.reduceLE, Int.reduceToNat, Int.reduceBEq, Int.reduceNe, reduceCtorEq, k, gA] <;> omega) | omega) only [go_sem, Nat.reduceBEq, Nat.reduceAdd, Nat.reduceMul, Nat.reduceSub, Nat.reduceEqDiff, Nat.reduceLeDiff, Nat.reduceLT, Int.reduceEq, Int.reduceAdd, Int.reduceSub, Int.reduceMul, Int.reduceNeg, Int.reduceLT, Int.reduceLE, Int.reduceToNat, Int.reduceBEq, Int.reduceNe, reduceCtorEq, w64_id, w8_id, w16_id, w32_id, tmod_pos, tdiv_pos, Bool.or_true, Bool.true_or, Bool.or_false, Bool.false_or, Bool.and_false, Bool.false_and, condK_decide, k, gA]
        refine (frame_S (Sat.star.1 u) i).mono ?_
        rintro v hh1 (⟨-, -, w, rfl, u4⟩ | ⟨z, -⟩)
        · have gB := (u4.front 6).get
          simp (maxSteps := 2000000) (disch := first | (simp only [go_sem, Nat.reduceBEq, Nat.reduceAdd, Nat.reduceMul, Nat.reduceSub, Nat.reduceEqDiff, Nat.reduceLeDiff, Nat.reduceLT, Int.reduceEq, Int.reduceAdd, Int.reduceSub, Int.reduceMul, Int.reduceNeg, Int.reduceLT, Int.reduceLE, Int.reduceToNat, Int.reduceBEq, Int.reduceNe, reduceCtorEq, gB] <;> omega) | omega) only [go_sem, Nat.reduceBEq, Nat.reduceAdd, Nat.reduceMul, Nat.reduceSub, Nat.reduceEqDiff, Nat.reduceLeDiff, Nat.reduceLT, Int.reduceEq, Int.reduceAdd, Int.reduceSub, Int.reduceMul, Int.reduceNeg, Int.reduceLT, Int.reduceLE, Int.reduceToNat, Int.reduceBEq, Int.reduceNe, reduceCtorEq, w64_id, w8_id, w16_id, w32_id, tmod_pos, tdiv_pos, Bool.or_true, Bool.true_or, Bool.or_false, Bool.false_or, Bool.and_false, Bool.false_and, condK_decide, gB]
          refine (frame_S (Sat.star.1 (u4.front 4)) i).mono ?_
          rintro v hh2 (⟨-, -, w', rfl, u5⟩ | ⟨z, -⟩)
          · simp (maxSteps := 2000000) (disch := first | (simp only [go_sem, Nat.reduceBEq, Nat.reduceAdd, Nat.reduceMul, Nat.reduceSub, Nat.reduceEqDiff, Nat.reduceLeDiff, Nat.reduceLT, Int.reduceEq, Int.reduceAdd, Int.reduceSub, Int.reduceMul, Int.reduceNeg, Int.reduceLT, Int.reduceLE, Int.reduceToNat, Int.reduceBEq, Int.reduceNe, reduceCtorEq] <;> omega) | omega) only [go_sem, Nat.reduceBEq, Nat.reduceAdd, Nat.reduceMul, Nat.reduceSub, Nat.reduceEqDiff, Nat.reduceLeDiff, Nat.reduceLT, Int.reduceEq, Int.reduceAdd, Int.reduceSub, Int.reduceMul, Int.reduceNeg, Int.reduceLT, Int.reduceLE, Int.reduceToNat, Int.reduceBEq, Int.reduceNe, reduceCtorEq, w64_id, w8_id, w16_id, w32_id, tmod_pos, tdiv_pos, Bool.or_true, Bool.true_or, Bool.or_false, Bool.false_or, Bool.and_false, Bool.false_and, condK_decide]
            refine (same_S (u5.front 4) (by omega) (by omega)).mono ?_
            rintro r hh3 ⟨b, rfl, hb2, rfl⟩
            obtain rfl : b = true := hb2.2 ⟨rfl, fun _ _ => rfl⟩
            simp (maxSteps := 2000000) (disch := first | (simp only [go_sem, Nat.reduceBEq, Nat.reduceAdd, Nat.reduceMul, Nat.reduceSub, Nat.reduceEqDiff, Nat.reduceLeDiff, Nat.reduceLT, Int.reduceEq, Int.reduceAdd, Int.reduceSub, Int.reduceMul, Int.reduceNeg, Int.reduceLT, Int.reduceLE, Int.reduceToNat, Int.reduceBEq, Int.reduceNe, reduceCtorEq] <;> omega) | omega) only [go_sem, Nat.reduceBEq, Nat.reduceAdd, Nat.reduceMul, Nat.reduceSub, Nat.reduceEqDiff, Nat.reduceLeDiff, Nat.reduceLT, Int.reduceEq, Int.reduceAdd, Int.reduceSub, Int.reduceMul, Int.reduceNeg, Int.reduceLT, Int.reduceLE, Int.reduceToNat, Int.reduceBEq, Int.reduceNe, reduceCtorEq, w64_id, w8_id, w16_id, w32_id, tmod_pos, tdiv_pos, Bool.or_true, Bool.true_or, Bool.or_false, Bool.false_or, Bool.and_false, Bool.false_and, condK_decide]
            have z2 : Sat hh3 (mchS 16 rb' tb' (.pointer pv') ⟨m, Tb, none⟩ :: _) := Sat.star.2 (u5.re [1, 2, 3, 5, 6, 7, 8, 9, 10])
            have z4 : Sat hh3 (mchS 16 rb tb (.pointer pv) ⟨m, Ta, none⟩ :: _) := Sat.star.2 (z2.back 3)
            exact ⟨i + 1, rfl, ⟨by omega, z4⟩, by simp only; omega⟩
          · omega
        · omega
      · simp (maxSteps := 2000000) (disch := first | (simp only [go_sem, Nat.reduceBEq, Nat.reduceAdd, Nat.reduceMul, Nat.reduceSub, Nat.reduceEqDiff, Nat.reduceLeDiff, Nat.reduceLT, Int.reduceEq, Int.reduceAdd, Int.reduceSub, Int.reduceMul, Int.reduceNeg, Int.reduceLT, Int.reduceLE, Int.reduceToNat, Int.reduceBEq, Int.reduceNe, reduceCtorEq, k] <;> omega) | omega) only [go_sem, Nat.reduceBEq, Nat.reduceAdd, Nat.reduceMul, Nat.reduceSub, Nat.reduceEqDiff, Nat.reduceLeDiff, Nat.reduceLT, Int.reduceEq, Int.reduceAdd, Int.reduceSub, Int.reduceMul, Int.reduceNeg, Int.reduceLT, Int.reduceLE, Int.reduceToNat, Int.reduceBEq, Int.reduceNe, reduceCtorEq, w64_id, w8_id, w16_id, w32_id, tmod_pos, tdiv_pos, Bool.or_true, Bool.true_or, Bool.or_false, Bool.false_or, Bool.and_false, Bool.false_and, condK_decide, k]
        exact hR _ _ ⟨rfl, (u.front 4).ext⟩
  · simp (maxSteps := 2000000) (disch := first | (simp only [go_sem, Nat.reduceBEq, Nat.reduceAdd, Nat.reduceMul, Nat.reduceSub, Nat.reduceEqDiff, Nat.reduceLeDiff, Nat.reduceLT, Int.reduceEq, Int.reduceAdd, Int.reduceSub, Int.reduceMul, Int.reduceNeg, Int.reduceLT, Int.reduceLE, Int.reduceToNat, Int.reduceBEq, Int.reduceNe, reduceCtorEq, q2] <;> omega) | omega) only [go_sem, Nat.reduceBEq, Nat.reduceAdd, Nat.reduceMul, Nat.reduceSub, Nat.reduceEqDiff, Nat.reduceLeDiff, Nat.reduceLT, Int.reduceEq, Int.reduceAdd, Int.reduceSub, Int.reduceMul, Int.reduceNeg, Int.reduceLT, Int.reduceLE, Int.reduceToNat, Int.reduceBEq, Int.reduceNe, reduceCtorEq, w64_id, w8_id, w16_id, w32_id, tmod_pos, tdiv_pos, Bool.or_true, Bool.true_or, Bool.or_false, Bool.false_or, Bool.and_false, Bool.false_and, condK_decide, q2]
    refine loopH.intro (fun i : Nat => (.cons 7 (.bool true) true (.cons 8 (.pointer (some ⟨h2.size, 0, none⟩)) true (.cons 10 (.pointer (some ⟨h3.size, 0, none⟩)) true (.cons 27 (.int .i64 i) true .nil)))))
      (fun i h' => i ≤ 16 ∧ Sat h' [mchS 16 rb tb (.pointer pv) ⟨m, Ta, none⟩, mchS 16 rb' tb' (.pointer pv') ⟨m, Tb, none⟩, cellAt h2.size (.cells #[.pointer (some ⟨rb, 0, none⟩), .pointer (some ⟨tb, 0, none⟩), .pointer pv, .pointer (some ⟨rrb, 0, none⟩), .pointer (some ⟨rtb, 0, none⟩), .pointer y3] 43 (0, 0)), cellAt h3.size (.cells #[.pointer (some ⟨rb', 0, none⟩), .pointer (some ⟨tb', 0, none⟩), .pointer pv', .pointer (some ⟨rrb', 0, none⟩), .pointer (some ⟨rtb', 0, none⟩), .pointer y3'] 43 (0, 0)), oldS h]) (fun i _ => 17 - i) 0 ?_ ⟨by omega, s.re [6, 2, 5, 1, 11]⟩ ?_
    · rfl
    rintro i hh ⟨hi, u⟩
    by_cases k : (i : Int) < 16
    · have gA := (u.front 2).get
      simp (maxSteps := 2000000) (disch := first | (simp only [go_sem, Nat.reduceBEq, Nat.reduceAdd, Nat.reduceMul, Nat.reduceSub, Nat.reduceEqDiff, Nat.reduceLeDiff, Nat.reduceLT, Int.reduceEq, Int.reduceAdd, Int.reduceSub, Int.reduceMul, Int.reduceNeg, Int.reduceLT, Int.reduceLE, Int.reduceToNat, Int.reduceBEq, Int.reduceNe, reduceCtorEq, k, gA] <;> omega) | omega) only [go_sem, Nat.reduceBEq, Nat.reduceAdd, Nat.reduceMul, Nat.reduceSub, Nat.reduceEqDiff, Nat.reduceLeDiff, Nat.reduceLT, Int.reduceEq, Int.reduceAdd, Int.reduceSub, Int.reduceMul, Int.reduceNeg, Int.reduceLT, Int.reduceLE, Int.reduceToNat, Int.reduceBEq, Int.reduceNe, reduceCtorEq, w64_id, w8_id, w16_id, w32_id, tmod_pos, tdiv_pos, Bool.or_true, Bool.true_or, Bool.or_false, Bool.false_or, Bool.and_false, Bool.false_and, condK_decide, k, gA]
      refine (frame_S (Sat.star.1 u) i).mono ?_
      rintro v hh1 (⟨-, -, w, rfl, u4⟩ | ⟨z, -⟩)
      · have gB := (u4.front 6).get
        simp (maxSteps := 2000000) (disch := first | (simp only [go_sem, Nat.reduceBEq, Nat.reduceAdd, Nat.reduceMul, Nat.reduceSub, Nat.reduceEqDiff, Nat.reduceLeDiff, Nat.reduceLT, Int.reduceEq, Int.reduceAdd, Int.reduceSub, Int.reduceMul, Int.reduceNeg, Int.reduceLT, Int.reduceLE, Int.reduceToNat, Int.reduceBEq, Int.reduceNe, reduceCtorEq, gB] <;> omega) | omega) only [go_sem, Nat.reduceBEq, Nat.reduceAdd, Nat.reduceMul, Nat.reduceSub, Nat.reduceEqDiff, Nat.reduceLeDiff, Nat.reduceLT, Int.reduceEq, Int.reduceAdd, Int.reduceSub, Int.reduceMul, Int.reduceNeg, Int.reduceLT, Int.reduceLE, Int.reduceToNat, Int.reduceBEq, Int.reduceNe, reduceCtorEq, w64_id, w8_id, w16_id, w32_id, tmod_pos, tdiv_pos, Bool.or_true, Bool.true_or, Bool.or_false, Bool.false_or, Bool.and_false, Bool.false_and, condK_decide, gB]
        refine (frame_S (Sat.star.1 (u4.front 4)) i).mono ?_
        rintro v hh2 (⟨-, -, w', rfl, u5⟩ | ⟨z, -⟩)
        · simp (maxSteps := 2000000) (disch := first | (simp only [go_sem, Nat.reduceBEq, Nat.reduceAdd, Nat.reduceMul, Nat.reduceSub, Nat.reduceEqDiff, Nat.reduceLeDiff, Nat.reduceLT, Int.reduceEq, Int.reduceAdd, Int.reduceSub, Int.reduceMul, Int.reduceNeg, Int.reduceLT, Int.reduceLE, Int.reduceToNat, Int.reduceBEq, Int.reduceNe, reduceCtorEq] <;> omega) | omega) only [go_sem, Nat.reduceBEq, Nat.reduceAdd, Nat.reduceMul, Nat.reduceSub, Nat.reduceEqDiff, Nat.reduceLeDiff, Nat.reduceLT, Int.reduceEq, Int.reduceAdd, Int.reduceSub, Int.reduceMul, Int.reduceNeg, Int.reduceLT, Int.reduceLE, Int.reduceToNat, Int.reduceBEq, Int.reduceNe, reduceCtorEq, w64_id, w8_id, w16_id, w32_id, tmod_pos, tdiv_pos, Bool.or_true, Bool.true_or, Bool.or_false, Bool.false_or, Bool.and_false, Bool.false_and, condK_decide]
          refine (same_S (u5.front 4) (by omega) (by omega)).mono ?_
          rintro r hh3 ⟨b, rfl, hb2, rfl⟩
          obtain rfl : b = true := hb2.2 ⟨rfl, fun _ _ => rfl⟩
          simp (maxSteps := 2000000) (disch := first | (simp only [go_sem, Nat.reduceBEq, Nat.reduceAdd, Nat.reduceMul, Nat.reduceSub, Nat.reduceEqDiff, Nat.reduceLeDiff, Nat.reduceLT, Int.reduceEq, Int.reduceAdd, Int.reduceSub, Int.reduceMul, Int.reduceNeg, Int.reduceLT, Int.reduceLE, Int.reduceToNat, Int.reduceBEq, Int.reduceNe, reduceCtorEq] <;> omega) | omega) only [go_sem, Nat.reduceBEq, Nat.reduceAdd, Nat.reduceMul, Nat.reduceSub, Nat.reduceEqDiff, Nat.reduceLeDiff, Nat.reduceLT, Int.reduceEq, Int.reduceAdd, Int.reduceSub, Int.reduceMul, Int.reduceNeg, Int.reduceLT, Int.reduceLE, Int.reduceToNat, Int.reduceBEq, Int.reduceNe, reduceCtorEq, w64_id, w8_id, w16_id, w32_id, tmod_pos, tdiv_pos, Bool.or_true, Bool.true_or, Bool.or_false, Bool.false_or, Bool.and_false, Bool.false_and, condK_decide]
          have z2 : Sat hh3 (mchS 16 rb' tb' (.pointer pv') ⟨m, Tb, none⟩ :: _) := Sat.star.2 (u5.re [1, 2, 3, 5, 6, 7, 8, 9, 10])
          have z4 : Sat hh3 (mchS 16 rb tb (.pointer pv) ⟨m, Ta, none⟩ :: _) := Sat.star.2 (z2.back 3)
          exact ⟨i + 1, rfl, ⟨by omega, z4⟩, by simp only; omega⟩
        · omega
      · omega
    · simp (maxSteps := 2000000) (disch := first | (simp only [go_sem, Nat.reduceBEq, Nat.reduceAdd, Nat.reduceMul, Nat.reduceSub, Nat.reduceEqDiff, Nat.reduceLeDiff, Nat.reduceLT, Int.reduceEq, Int.reduceAdd, Int.reduceSub, Int.reduceMul, Int.reduceNeg, Int.reduceLT, Int.reduceLE, Int.reduceToNat, Int.reduceBEq, Int.reduceNe, reduceCtorEq, k] <;> omega) | omega) only [go_sem, Nat.reduceBEq, Nat.reduceAdd, Nat.reduceMul, Nat.reduceSub, Nat.reduceEqDiff, Nat.reduceLeDiff, Nat.reduceLT, Int.reduceEq, Int.reduceAdd, Int.reduceSub, Int.reduceMul, Int.reduceNeg, Int.reduceLT, Int.reduceLE, Int.reduceToNat, Int.reduceBEq, Int.reduceNe, reduceCtorEq, w64_id, w8_id, w16_id, w32_id, tmod_pos, tdiv_pos, Bool.or_true, Bool.true_or, Bool.or_false, Bool.false_or, Bool.and_false, Bool.false_and, condK_decide, k]
      exact hR _ _ ⟨rfl, (u.front 4).ext⟩
end
end Go.Eng
