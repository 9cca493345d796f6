/-
  Layer 12: CspaceHolds.
-/
import Derived.Test.YtlkofpoginokbaaCsq9
import Derived.Test.YtlkofpoginokbaaPutL
namespace Go.Eng
set_option linter.unusedSimpArgs false
set_option linter.unusedVariables false
set_option maxRecDepth 16000
set_option maxHeartbeats 4000000
open Go Go.Proofs
/-! What is put changes one slot. -/
theorem slotR_set (n : Nd) (i : Nat) (c : Cap) (j : Nat) (hj : j ≠ i) : slotR { n with S := n.S.set i c } j = slotR n j := by
  unfold slotR
  simp only
  rw [List.getElem?_set_ne (fun e => hj e.symm)]
theorem fullTo_set (n : Nd) (i : Nat) (c : Cap) : ∀ j, ((fullTo { n with S := n.S.set i c } j).length : Int) - (fullTo n j).length = if i < j then ((slotR { n with S := n.S.set i c } i).length : Int) - (slotR n i).length else 0
  | 0 => by simp [fullTo]
  | j + 1 => by
    have ih := fullTo_set n i c j
    rw [fullTo_succ, fullTo_succ, List.length_append, List.length_append]
    by_cases e : j = i
    · subst e
      rw [if_neg (by omega)] at ih
      rw [if_pos (by omega)]
      omega
    · rw [slotR_set n i c j e]
      by_cases hi : i < j
      · rw [if_pos hi] at ih
        rw [if_pos (by omega)]
        omega
      · rw [if_neg hi] at ih
        rw [if_neg (by omega)]
        omega
theorem fullNode_set (n : Nd) (i : Nat) (c : Cap) : -1 ≤ ((fullNode { n with S := n.S.set i c }).length : Int) - (fullNode n).length ∧ ((fullNode { n with S := n.S.set i c }).length : Int) - (fullNode n).length ≤ 1 := by
  have h := fullTo_set n i c n.S.length
  have h1 := slotR_len { n with S := n.S.set i c } i
  have h2 := slotR_len n i
  unfold fullNode
  simp only [List.length_set] at h ⊢
  split at h <;> omega
theorem fullN_set {id : Int} {n : Nd} {S : List Cap} : ∀ {L : List Nd}, findN L id = some n → ((fullN (setS L id S)).length : Int) - (fullN L).length = ((fullNode { n with S := S }).length : Int) - (fullNode n).length
  | [], h => by cases h
  | m :: L, h => by
    unfold findN at h
    rw [List.find?_cons] at h
    unfold setS fullN
    by_cases e : m.I = id
    · rw [show (m.I == id) = true by simpa using e] at h
      simp only [Option.some.injEq] at h
      subst h
      rw [if_pos e, List.flatMap_cons, List.flatMap_cons, List.length_append, List.length_append]
      omega
    · rw [show (m.I == id) = false by simpa using e] at h
      have ih := fullN_set (id := id) (S := S) (L := L) h
      rw [if_neg e, List.flatMap_cons, List.flatMap_cons, List.length_append, List.length_append]
      unfold fullN at ih
      omega
theorem holds_plain {L : List Nd} (hw : wfL L) (on oi : Int) (c : Cap) :
    (-1 ≤ ((fullN (putN L on oi c).1).length : Int) - (fullN L).length ∧ ((fullN (putN L on oi c).1).length : Int) - (fullN L).length ≤ 1) ∧
    ((putN L on oi c).2 ≠ 0 → (putN L on oi c).1 = L) ∧ ((putN L on oi c).2 = 0 → getN (putN L on oi c).1 on oi = (c, 0)) := by
  unfold putN
  cases hn : findN L on with
  | none => exact ⟨by simp, fun _ => rfl, fun h => by cases h⟩
  | some n =>
    simp only
    by_cases g : 0 ≤ oi ∧ oi < n.S.length
    · rw [if_pos g]
      by_cases r : RightP c
      · rw [if_pos r]
        simp only
        refine ⟨?_, fun h => (h rfl).elim, fun _ => ?_⟩
        · rw [fullN_set hn]; exact fullNode_set n _ c
        · unfold getN
          rw [findN_setS, hn]
          simp only [Option.map_some, if_true, if_pos g.1]
          rw [List.getElem?_set_self (by omega)]
      · rw [if_neg r]
        exact ⟨by simp, fun _ => rfl, fun h => by cases h⟩
    · rw [if_neg g]
      exact ⟨by simp, fun _ => rfl, fun h => by cases h⟩
theorem full_in {L : List Nd} (hw : wfL L) {x : Int × Int} (h : x ∈ fullN L) : (getN L x.1 x.2).2 = 0 := by
  unfold fullN at h
  obtain ⟨n, hn, hx⟩ := List.mem_flatMap.1 h
  unfold fullNode fullTo at hx
  obtain ⟨i, hi, hx⟩ := List.mem_flatMap.1 hx
  obtain ⟨h1, h2, c, h3, -⟩ := slotR_mem hx
  unfold getN
  rw [h1, findN_mem hw hn, h2]
  simp only [if_pos (Int.natCast_nonneg i), Int.toNat_natCast, h3]
theorem put_in {L : List Nd} (on oi : Int) (c : Cap) (k i : Int) : (getN (putN L on oi c).1 k i).2 = (getN L k i).2 := by
  by_cases e : k = on ∧ i = oi
  · obtain ⟨rfl, rfl⟩ := e
    unfold putN
    cases hn : findN L k with
    | none => rfl
    | some n =>
      simp only
      split
      · rename_i g
        split
        · unfold getN
          rw [findN_setS, hn]
          simp only [Option.map_some, if_true, if_pos g.1]
          rw [List.getElem?_set_self (by omega), List.getElem?_eq_getElem (by omega)]
        · rfl
      · rfl
  · rw [putN_get _ _ _ _ _ _ e]
theorem cholds_spec (sl : Option Addr) (n cap : Nat) (A : Nat → CAct) (on oi : Int) (c : Cap) (h : Heap) (hA : ActsC h sl n A) (hc : c.fit) :
    HCalls Try.prog 8 #[.slice sl n cap, .agg #[.int .i64 on, .int .i64 oi], .agg c.cells.toArray] h fun v h' => v = .bool true ∧ Ext h h' := by
  refine HCalls.via fun R hR => ?_
  have s0 := ((Sat.init h).push (.cells [.int .i64 on, .int .i64 oi].toArray 27 (0, 0))).push (.cells c.cells.toArray 24 (0, 0))
  simp only [Cap.cells_eq, size_push'] at s0
  refine HCalls.of_dev T8 Try.func8 rfl mixed (by kernel_rfl) ?_; rw [Try.results8]
  simp (maxSteps := 2000000) (disch := first | (simp only [go_sem, Nat.reduceBEq, Nat.reduceAdd, Nat.reduceMul, Nat.reduceSub, Nat.reduceEqDiff, Nat.reduceLeDiff, Nat.reduceLT, Int.reduceEq, Int.reduceAdd, Int.reduceSub, Int.reduceMul, Int.reduceNeg, Int.reduceLT, Int.reduceLE, Int.reduceToNat, Int.reduceBEq, Int.reduceNe, reduceCtorEq]; done) | omega | (simp only [go_sem, Nat.reduceBEq, Nat.reduceAdd, Nat.reduceMul, Nat.reduceSub, Nat.reduceEqDiff, Nat.reduceLeDiff, Nat.reduceLT, Int.reduceEq, Int.reduceAdd, Int.reduceSub, Int.reduceMul, Int.reduceNeg, Int.reduceLT, Int.reduceLE, Int.reduceToNat, Int.reduceBEq, Int.reduceNe, reduceCtorEq]; omega)) only [go_sem, Nat.reduceBEq, Nat.reduceAdd, Nat.reduceMul, Nat.reduceSub, Nat.reduceEqDiff, Nat.reduceLeDiff, Nat.reduceLT, Int.reduceEq, Int.reduceAdd, Int.reduceSub, Int.reduceMul, Int.reduceNeg, Int.reduceLT, Int.reduceLE, Int.reduceToNat, Int.reduceBEq, Int.reduceNe, reduceCtorEq, w64_id, w8_id, w16_id, w32_id, tmod_pos, tdiv_pos, Bool.or_true, Bool.true_or, Bool.or_false, Bool.false_or, Bool.and_false, Bool.false_and, condK_decide]
  refine (cawake_S s0).mono ?_
  rintro v h1 ⟨rfl, s1⟩
  clear s0
  simp (maxSteps := 2000000) (disch := first | (simp only [go_sem, Nat.reduceBEq, Nat.reduceAdd, Nat.reduceMul, Nat.reduceSub, Nat.reduceEqDiff, Nat.reduceLeDiff, Nat.reduceLT, Int.reduceEq, Int.reduceAdd, Int.reduceSub, Int.reduceMul, Int.reduceNeg, Int.reduceLT, Int.reduceLE, Int.reduceToNat, Int.reduceBEq, Int.reduceNe, reduceCtorEq]; done) | omega | (simp only [go_sem, Nat.reduceBEq, Nat.reduceAdd, Nat.reduceMul, Nat.reduceSub, Nat.reduceEqDiff, Nat.reduceLeDiff, Nat.reduceLT, Int.reduceEq, Int.reduceAdd, Int.reduceSub, Int.reduceMul, Int.reduceNeg, Int.reduceLT, Int.reduceLE, Int.reduceToNat, Int.reduceBEq, Int.reduceNe, reduceCtorEq]; omega)) only [go_sem, Nat.reduceBEq, Nat.reduceAdd, Nat.reduceMul, Nat.reduceSub, Nat.reduceEqDiff, Nat.reduceLeDiff, Nat.reduceLT, Int.reduceEq, Int.reduceAdd, Int.reduceSub, Int.reduceMul, Int.reduceNeg, Int.reduceLT, Int.reduceLE, Int.reduceToNat, Int.reduceBEq, Int.reduceNe, reduceCtorEq, w64_id, w8_id, w16_id, w32_id, tmod_pos, tdiv_pos, Bool.or_true, Bool.true_or, Bool.or_false, Bool.false_or, Bool.and_false, Bool.false_and, condK_decide]
  refine (cNew_S s1).mono ?_
  rintro v h2 ⟨sb, rfl, s2⟩
  simp (maxSteps := 2000000) (disch := first | (simp only [go_sem, Nat.reduceBEq, Nat.reduceAdd, Nat.reduceMul, Nat.reduceSub, Nat.reduceEqDiff, Nat.reduceLeDiff, Nat.reduceLT, Int.reduceEq, Int.reduceAdd, Int.reduceSub, Int.reduceMul, Int.reduceNeg, Int.reduceLT, Int.reduceLE, Int.reduceToNat, Int.reduceBEq, Int.reduceNe, reduceCtorEq]; done) | omega | (simp only [go_sem, Nat.reduceBEq, Nat.reduceAdd, Nat.reduceMul, Nat.reduceSub, Nat.reduceEqDiff, Nat.reduceLeDiff, Nat.reduceLT, Int.reduceEq, Int.reduceAdd, Int.reduceSub, Int.reduceMul, Int.reduceNeg, Int.reduceLT, Int.reduceLE, Int.reduceToNat, Int.reduceBEq, Int.reduceNe, reduceCtorEq]; omega)) only [go_sem, Nat.reduceBEq, Nat.reduceAdd, Nat.reduceMul, Nat.reduceSub, Nat.reduceEqDiff, Nat.reduceLeDiff, Nat.reduceLT, Int.reduceEq, Int.reduceAdd, Int.reduceSub, Int.reduceMul, Int.reduceNeg, Int.reduceLT, Int.reduceLE, Int.reduceToNat, Int.reduceBEq, Int.reduceNe, reduceCtorEq, w64_id, w8_id, w16_id, w32_id, tmod_pos, tdiv_pos, Bool.or_true, Bool.true_or, Bool.or_false, Bool.false_or, Bool.and_false, Bool.false_and, condK_decide]
  have s3 := Sat.refSpNil (s2.push (.cells [.slice none 0 0].toArray 34 (0, 0)))
  obtain ⟨qb, hqb⟩ : ∃ qb, qb = h2.size := ⟨_, rfl⟩
  rw [← hqb] at s3
  have s4 := s3.swap
  simp (maxSteps := 2000000) (disch := first | (simp only [go_sem, Nat.reduceBEq, Nat.reduceAdd, Nat.reduceMul, Nat.reduceSub, Nat.reduceEqDiff, Nat.reduceLeDiff, Nat.reduceLT, Int.reduceEq, Int.reduceAdd, Int.reduceSub, Int.reduceMul, Int.reduceNeg, Int.reduceLT, Int.reduceLE, Int.reduceToNat, Int.reduceBEq, Int.reduceNe, reduceCtorEq, ← hqb]; done) | omega | (simp only [go_sem, Nat.reduceBEq, Nat.reduceAdd, Nat.reduceMul, Nat.reduceSub, Nat.reduceEqDiff, Nat.reduceLeDiff, Nat.reduceLT, Int.reduceEq, Int.reduceAdd, Int.reduceSub, Int.reduceMul, Int.reduceNeg, Int.reduceLT, Int.reduceLE, Int.reduceToNat, Int.reduceBEq, Int.reduceNe, reduceCtorEq, ← hqb]; omega)) only [go_sem, Nat.reduceBEq, Nat.reduceAdd, Nat.reduceMul, Nat.reduceSub, Nat.reduceEqDiff, Nat.reduceLeDiff, Nat.reduceLT, Int.reduceEq, Int.reduceAdd, Int.reduceSub, Int.reduceMul, Int.reduceNeg, Int.reduceLT, Int.reduceLE, Int.reduceToNat, Int.reduceBEq, Int.reduceNe, reduceCtorEq, w64_id, w8_id, w16_id, w32_id, tmod_pos, tdiv_pos, Bool.or_true, Bool.true_or, Bool.or_false, Bool.false_or, Bool.and_false, Bool.false_and, condK_decide, ← hqb]
  refine loopH.intro (fun i : Nat => (.cons 0 (.slice sl n cap) true (.cons 4 (.pointer (some ⟨h.size, 0, none⟩)) true (.cons 5 (.pointer (some ⟨h.size + 1, 0, none⟩)) true (.cons 7 (.bool true) true (.cons 8 (.pointer (some ⟨sb, 0, none⟩)) true (.cons 9 (.pointer (some ⟨qb, 0, none⟩)) true (.cons 10 (.int .i64 i) true .nil))))))))
    (fun i h' => i ≤ 100 ∧ ∃ L, wfL L ∧ Sat h' (spaceS sb L :: refSpS qb L :: [cellAt (h.size + 1) (.cells c.cells.toArray 24 (0, 0)), cellAt h.size (.cells [.int .i64 on, .int .i64 oi].toArray 27 (0, 0)), oldS h])) (fun i _ => 101 - i) 0 ?_ ⟨by omega, [], wfL.nil, s4⟩ ?_
  · simp (maxSteps := 2000000) (disch := first | (simp only [go_sem, Nat.reduceBEq, Nat.reduceAdd, Nat.reduceMul, Nat.reduceSub, Nat.reduceEqDiff, Nat.reduceLeDiff, Nat.reduceLT, Int.reduceEq, Int.reduceAdd, Int.reduceSub, Int.reduceMul, Int.reduceNeg, Int.reduceLT, Int.reduceLE, Int.reduceToNat, Int.reduceBEq, Int.reduceNe, reduceCtorEq]; done) | omega | (simp only [go_sem, Nat.reduceBEq, Nat.reduceAdd, Nat.reduceMul, Nat.reduceSub, Nat.reduceEqDiff, Nat.reduceLeDiff, Nat.reduceLT, Int.reduceEq, Int.reduceAdd, Int.reduceSub, Int.reduceMul, Int.reduceNeg, Int.reduceLT, Int.reduceLE, Int.reduceToNat, Int.reduceBEq, Int.reduceNe, reduceCtorEq]; omega)) only [go_sem, Nat.reduceBEq, Nat.reduceAdd, Nat.reduceMul, Nat.reduceSub, Nat.reduceEqDiff, Nat.reduceLeDiff, Nat.reduceLT, Int.reduceEq, Int.reduceAdd, Int.reduceSub, Int.reduceMul, Int.reduceNeg, Int.reduceLT, Int.reduceLE, Int.reduceToNat, Int.reduceBEq, Int.reduceNe, reduceCtorEq, w64_id, w8_id, w16_id, w32_id, tmod_pos, tdiv_pos, Bool.or_true, Bool.true_or, Bool.or_false, Bool.false_or, Bool.and_false, Bool.false_and, condK_decide]; rfl
  clear s1 s2 s3 s4 hqb
  rintro i h' ⟨hi, L, hw, s⟩
  simp only [Cap.cells_eq] at s
  simp (maxSteps := 2000000) (disch := first | (simp only [go_sem, Nat.reduceBEq, Nat.reduceAdd, Nat.reduceMul, Nat.reduceSub, Nat.reduceEqDiff, Nat.reduceLeDiff, Nat.reduceLT, Int.reduceEq, Int.reduceAdd, Int.reduceSub, Int.reduceMul, Int.reduceNeg, Int.reduceLT, Int.reduceLE, Int.reduceToNat, Int.reduceBEq, Int.reduceNe, reduceCtorEq]; done) | omega | (simp only [go_sem, Nat.reduceBEq, Nat.reduceAdd, Nat.reduceMul, Nat.reduceSub, Nat.reduceEqDiff, Nat.reduceLeDiff, Nat.reduceLT, Int.reduceEq, Int.reduceAdd, Int.reduceSub, Int.reduceMul, Int.reduceNeg, Int.reduceLT, Int.reduceLE, Int.reduceToNat, Int.reduceBEq, Int.reduceNe, reduceCtorEq]; omega)) only [go_sem, Nat.reduceBEq, Nat.reduceAdd, Nat.reduceMul, Nat.reduceSub, Nat.reduceEqDiff, Nat.reduceLeDiff, Nat.reduceLT, Int.reduceEq, Int.reduceAdd, Int.reduceSub, Int.reduceMul, Int.reduceNeg, Int.reduceLT, Int.reduceLE, Int.reduceToNat, Int.reduceBEq, Int.reduceNe, reduceCtorEq, w64_id, w8_id, w16_id, w32_id, tmod_pos, tdiv_pos, Bool.or_true, Bool.true_or, Bool.or_false, Bool.false_or, Bool.and_false, Bool.false_and, condK_decide]
  refine ⟨fun hcd => ?_, fun hcd => ?_⟩
  · simp only [Bool.and_eq_true, decide_eq_true_eq] at hcd
    obtain ⟨fit, b, o, rfl, hrd⟩ := (hA.ext (s.front 4).ext).2 i (by omega)
    have c0 : (0 : Int) ≤ i := by omega
    have c1 : (i : Int) < n := by omega
    simp (maxSteps := 2000000) (disch := first | (simp only [go_sem, Nat.reduceBEq, Nat.reduceAdd, Nat.reduceMul, Nat.reduceSub, Nat.reduceEqDiff, Nat.reduceLeDiff, Nat.reduceLT, Int.reduceEq, Int.reduceAdd, Int.reduceSub, Int.reduceMul, Int.reduceNeg, Int.reduceLT, Int.reduceLE, Int.reduceToNat, Int.reduceBEq, Int.reduceNe, reduceCtorEq, c0, c1, hrd]; done) | omega | (simp only [go_sem, Nat.reduceBEq, Nat.reduceAdd, Nat.reduceMul, Nat.reduceSub, Nat.reduceEqDiff, Nat.reduceLeDiff, Nat.reduceLT, Int.reduceEq, Int.reduceAdd, Int.reduceSub, Int.reduceMul, Int.reduceNeg, Int.reduceLT, Int.reduceLE, Int.reduceToNat, Int.reduceBEq, Int.reduceNe, reduceCtorEq, c0, c1, hrd]; omega)) only [go_sem, Nat.reduceBEq, Nat.reduceAdd, Nat.reduceMul, Nat.reduceSub, Nat.reduceEqDiff, Nat.reduceLeDiff, Nat.reduceLT, Int.reduceEq, Int.reduceAdd, Int.reduceSub, Int.reduceMul, Int.reduceNeg, Int.reduceLT, Int.reduceLE, Int.reduceToNat, Int.reduceBEq, Int.reduceNe, reduceCtorEq, w64_id, w8_id, w16_id, w32_id, tmod_pos, tdiv_pos, Bool.or_true, Bool.true_or, Bool.or_false, Bool.false_or, Bool.and_false, Bool.false_and, condK_decide, c0, c1, hrd]
    refine (cdoes_S s hw (A i) fit).mono ?_
    rintro v h'' ⟨rfl, s'⟩
    simp (maxSteps := 2000000) (disch := first | (simp only [go_sem, Nat.reduceBEq, Nat.reduceAdd, Nat.reduceMul, Nat.reduceSub, Nat.reduceEqDiff, Nat.reduceLeDiff, Nat.reduceLT, Int.reduceEq, Int.reduceAdd, Int.reduceSub, Int.reduceMul, Int.reduceNeg, Int.reduceLT, Int.reduceLE, Int.reduceToNat, Int.reduceBEq, Int.reduceNe, reduceCtorEq]; done) | omega | (simp only [go_sem, Nat.reduceBEq, Nat.reduceAdd, Nat.reduceMul, Nat.reduceSub, Nat.reduceEqDiff, Nat.reduceLeDiff, Nat.reduceLT, Int.reduceEq, Int.reduceAdd, Int.reduceSub, Int.reduceMul, Int.reduceNeg, Int.reduceLT, Int.reduceLE, Int.reduceToNat, Int.reduceBEq, Int.reduceNe, reduceCtorEq]; omega)) only [go_sem, Nat.reduceBEq, Nat.reduceAdd, Nat.reduceMul, Nat.reduceSub, Nat.reduceEqDiff, Nat.reduceLeDiff, Nat.reduceLT, Int.reduceEq, Int.reduceAdd, Int.reduceSub, Int.reduceMul, Int.reduceNeg, Int.reduceLT, Int.reduceLE, Int.reduceToNat, Int.reduceBEq, Int.reduceNe, reduceCtorEq, w64_id, w8_id, w16_id, w32_id, tmod_pos, tdiv_pos, Bool.or_true, Bool.true_or, Bool.or_false, Bool.false_or, Bool.and_false, Bool.false_and, condK_decide]
    exact ⟨i + 1, rfl, ⟨by omega, _, hw.step fit, s'⟩, by simp only; omega⟩
  clear hcd
  have hL := hw.len
  have hfl := fullN_len hw.1
  obtain ⟨hp1, hp2, hp3⟩ := holds_plain hw on oi c
  have hin := fun x => full_in hw (x := x)
  refine (cfull_S s hw).mono ?_
  rintro v h3 s3
  obtain ⟨va, ca, rfl, -⟩ := s3.elems
  simp (maxSteps := 2000000) (disch := first | (simp only [go_sem, Nat.reduceBEq, Nat.reduceAdd, Nat.reduceMul, Nat.reduceSub, Nat.reduceEqDiff, Nat.reduceLeDiff, Nat.reduceLT, Int.reduceEq, Int.reduceAdd, Int.reduceSub, Int.reduceMul, Int.reduceNeg, Int.reduceLT, Int.reduceLE, Int.reduceToNat, Int.reduceBEq, Int.reduceNe, reduceCtorEq, (s3.front 3).get, (s3.front 4).get]; done) | omega | (simp only [go_sem, Nat.reduceBEq, Nat.reduceAdd, Nat.reduceMul, Nat.reduceSub, Nat.reduceEqDiff, Nat.reduceLeDiff, Nat.reduceLT, Int.reduceEq, Int.reduceAdd, Int.reduceSub, Int.reduceMul, Int.reduceNeg, Int.reduceLT, Int.reduceLE, Int.reduceToNat, Int.reduceBEq, Int.reduceNe, reduceCtorEq, (s3.front 3).get, (s3.front 4).get]; omega)) only [go_sem, Nat.reduceBEq, Nat.reduceAdd, Nat.reduceMul, Nat.reduceSub, Nat.reduceEqDiff, Nat.reduceLeDiff, Nat.reduceLT, Int.reduceEq, Int.reduceAdd, Int.reduceSub, Int.reduceMul, Int.reduceNeg, Int.reduceLT, Int.reduceLE, Int.reduceToNat, Int.reduceBEq, Int.reduceNe, reduceCtorEq, w64_id, w8_id, w16_id, w32_id, tmod_pos, tdiv_pos, Bool.or_true, Bool.true_or, Bool.or_false, Bool.false_or, Bool.and_false, Bool.false_and, condK_decide, (s3.front 3).get, (s3.front 4).get]
  refine (cput_S (s3.front 1) on oi c hc).mono ?_
  rintro v h4 ⟨rfl, s4⟩
  have hw2 := hw.put on oi c hc
  have hpi := fun k i => put_in (L := L) on oi c k i
  have hpg := fun k i => putN_get L on oi c k i
  generalize hP : putN L on oi c = P at *
  obtain ⟨L2, e⟩ := P
  simp only at hp1 hp2 hp3 s4 hw2 hpi hpg ⊢
  simp (maxSteps := 2000000) (disch := first | (simp only [go_sem, Nat.reduceBEq, Nat.reduceAdd, Nat.reduceMul, Nat.reduceSub, Nat.reduceEqDiff, Nat.reduceLeDiff, Nat.reduceLT, Int.reduceEq, Int.reduceAdd, Int.reduceSub, Int.reduceMul, Int.reduceNeg, Int.reduceLT, Int.reduceLE, Int.reduceToNat, Int.reduceBEq, Int.reduceNe, reduceCtorEq]; done) | omega | (simp only [go_sem, Nat.reduceBEq, Nat.reduceAdd, Nat.reduceMul, Nat.reduceSub, Nat.reduceEqDiff, Nat.reduceLeDiff, Nat.reduceLT, Int.reduceEq, Int.reduceAdd, Int.reduceSub, Int.reduceMul, Int.reduceNeg, Int.reduceLT, Int.reduceLE, Int.reduceToNat, Int.reduceBEq, Int.reduceNe, reduceCtorEq]; omega)) only [go_sem, Nat.reduceBEq, Nat.reduceAdd, Nat.reduceMul, Nat.reduceSub, Nat.reduceEqDiff, Nat.reduceLeDiff, Nat.reduceLT, Int.reduceEq, Int.reduceAdd, Int.reduceSub, Int.reduceMul, Int.reduceNeg, Int.reduceLT, Int.reduceLE, Int.reduceToNat, Int.reduceBEq, Int.reduceNe, reduceCtorEq, w64_id, w8_id, w16_id, w32_id, tmod_pos, tdiv_pos, Bool.or_true, Bool.true_or, Bool.or_false, Bool.false_or, Bool.and_false, Bool.false_and, condK_decide]
  refine (cfull_S s4 hw2).mono ?_
  rintro v h5 s5
  obtain ⟨vb, cb, rfl, -⟩ := s5.elems
  simp (maxSteps := 2000000) (disch := first | (simp only [go_sem, Nat.reduceBEq, Nat.reduceAdd, Nat.reduceMul, Nat.reduceSub, Nat.reduceEqDiff, Nat.reduceLeDiff, Nat.reduceLT, Int.reduceEq, Int.reduceAdd, Int.reduceSub, Int.reduceMul, Int.reduceNeg, Int.reduceLT, Int.reduceLE, Int.reduceToNat, Int.reduceBEq, Int.reduceNe, reduceCtorEq, (s5.front 5).get]; done) | omega | (simp only [go_sem, Nat.reduceBEq, Nat.reduceAdd, Nat.reduceMul, Nat.reduceSub, Nat.reduceEqDiff, Nat.reduceLeDiff, Nat.reduceLT, Int.reduceEq, Int.reduceAdd, Int.reduceSub, Int.reduceMul, Int.reduceNeg, Int.reduceLT, Int.reduceLE, Int.reduceToNat, Int.reduceBEq, Int.reduceNe, reduceCtorEq, (s5.front 5).get]; omega)) only [go_sem, Nat.reduceBEq, Nat.reduceAdd, Nat.reduceMul, Nat.reduceSub, Nat.reduceEqDiff, Nat.reduceLeDiff, Nat.reduceLT, Int.reduceEq, Int.reduceAdd, Int.reduceSub, Int.reduceMul, Int.reduceNeg, Int.reduceLT, Int.reduceLE, Int.reduceToNat, Int.reduceBEq, Int.reduceNe, reduceCtorEq, w64_id, w8_id, w16_id, w32_id, tmod_pos, tdiv_pos, Bool.or_true, Bool.true_or, Bool.or_false, Bool.false_or, Bool.and_false, Bool.false_and, condK_decide, (s5.front 5).get]
  refine (cget_S (s5.front 1) on oi).mono ?_
  rintro v h6 ⟨rfl, x6⟩
  obtain ⟨⟨d, f⟩, hy⟩ : ∃ y, getN L2 on oi = y := ⟨_, rfl⟩
  rw [hy] at hp3 ⊢
  unfold capI
  have s6 := (s5.grow x6).push (.cells d.cells.toArray 24 (0, 0))
  simp only [Cap.cells_eq] at s6
  have s7 : Sat (h6.push (.cells d.cells.toArray 24 (0, 0))) [sliceS 2 (fullN L).length (.slice va (fullN L).length ca) (refsL (fullN L)), spaceS sb L2, refSpS qb L, cellAt h.size (.cells [.int .i64 on, .int .i64 oi].toArray 27 (0, 0)), oldS h] := s6.re [3, 2, 4, 6, 7]
  simp only [Cap.cells_eq] at s7
  have hget : ∀ x ∈ fullN L, ∃ a a2, getN L x.1 x.2 = (a, 0) ∧ getN L2 x.1 x.2 = (a2, 0) ∧ ((¬ (x.1 = on ∧ x.2 = oi) ∨ e ≠ 0) → a2 = a) := by
    intro x hx
    have q1 := hin x hx
    have q2 := hpi x.1 x.2
    rw [q1] at q2
    refine ⟨(getN L x.1 x.2).1, (getN L2 x.1 x.2).1, Prod.ext rfl q1, Prod.ext rfl q2, ?_⟩
    rintro (q | q)
    · rw [hpg _ _ q]
    · rw [hp2 q]
  by_cases e0 : e = 0
  case' pos =>
    have hp3 := hp3 e0
    simp only [Prod.mk.injEq] at hp3
    obtain ⟨rfl, rfl⟩ := hp3
    have e1 := eq_true e0
    simp (maxSteps := 2000000) (disch := first | (simp only [go_sem, Nat.reduceBEq, Nat.reduceAdd, Nat.reduceMul, Nat.reduceSub, Nat.reduceEqDiff, Nat.reduceLeDiff, Nat.reduceLT, Int.reduceEq, Int.reduceAdd, Int.reduceSub, Int.reduceMul, Int.reduceNeg, Int.reduceLT, Int.reduceLE, Int.reduceToNat, Int.reduceBEq, Int.reduceNe, reduceCtorEq, s6.get, (s6.front 5).get, e1]; done) | omega | (simp only [go_sem, Nat.reduceBEq, Nat.reduceAdd, Nat.reduceMul, Nat.reduceSub, Nat.reduceEqDiff, Nat.reduceLeDiff, Nat.reduceLT, Int.reduceEq, Int.reduceAdd, Int.reduceSub, Int.reduceMul, Int.reduceNeg, Int.reduceLT, Int.reduceLE, Int.reduceToNat, Int.reduceBEq, Int.reduceNe, reduceCtorEq, s6.get, (s6.front 5).get, e1]; omega)) only [go_sem, Nat.reduceBEq, Nat.reduceAdd, Nat.reduceMul, Nat.reduceSub, Nat.reduceEqDiff, Nat.reduceLeDiff, Nat.reduceLT, Int.reduceEq, Int.reduceAdd, Int.reduceSub, Int.reduceMul, Int.reduceNeg, Int.reduceLT, Int.reduceLE, Int.reduceToNat, Int.reduceBEq, Int.reduceNe, reduceCtorEq, w64_id, w8_id, w16_id, w32_id, tmod_pos, tdiv_pos, Bool.or_true, Bool.true_or, Bool.or_false, Bool.false_or, Bool.and_false, Bool.false_and, condK_decide, s6.get, (s6.front 5).get, e1]
  case' neg =>
    have e1 := eq_false e0
    simp (maxSteps := 2000000) (disch := first | (simp only [go_sem, Nat.reduceBEq, Nat.reduceAdd, Nat.reduceMul, Nat.reduceSub, Nat.reduceEqDiff, Nat.reduceLeDiff, Nat.reduceLT, Int.reduceEq, Int.reduceAdd, Int.reduceSub, Int.reduceMul, Int.reduceNeg, Int.reduceLT, Int.reduceLE, Int.reduceToNat, Int.reduceBEq, Int.reduceNe, reduceCtorEq, s6.get, (s6.front 5).get, e1]; done) | omega | (simp only [go_sem, Nat.reduceBEq, Nat.reduceAdd, Nat.reduceMul, Nat.reduceSub, Nat.reduceEqDiff, Nat.reduceLeDiff, Nat.reduceLT, Int.reduceEq, Int.reduceAdd, Int.reduceSub, Int.reduceMul, Int.reduceNeg, Int.reduceLT, Int.reduceLE, Int.reduceToNat, Int.reduceBEq, Int.reduceNe, reduceCtorEq, s6.get, (s6.front 5).get, e1]; omega)) only [go_sem, Nat.reduceBEq, Nat.reduceAdd, Nat.reduceMul, Nat.reduceSub, Nat.reduceEqDiff, Nat.reduceLeDiff, Nat.reduceLT, Int.reduceEq, Int.reduceAdd, Int.reduceSub, Int.reduceMul, Int.reduceNeg, Int.reduceLT, Int.reduceLE, Int.reduceToNat, Int.reduceBEq, Int.reduceNe, reduceCtorEq, w64_id, w8_id, w16_id, w32_id, tmod_pos, tdiv_pos, Bool.or_true, Bool.true_or, Bool.or_false, Bool.false_or, Bool.and_false, Bool.false_and, condK_decide, s6.get, (s6.front 5).get, e1]
  all_goals
    refine loopH.intro (fun j : Nat => (.cons 4 (.pointer (some ⟨h.size, 0, none⟩)) true (.cons 7 (.bool true) true (.cons 8 (.pointer (some ⟨sb, 0, none⟩)) true (.cons 9 (.pointer (some ⟨qb, 0, none⟩)) true (.cons 11 (.slice va (fullN L).length ca) true (.cons 12 (.int .i64 e) true (.cons 13 (.slice vb (fullN L2).length cb) true (.cons 16 (.int .i64 j) true .nil)))))))))
      (fun j k => Sat k [sliceS 2 (fullN L).length (.slice va (fullN L).length ca) (refsL (fullN L)), spaceS sb L2, refSpS qb L, cellAt h.size (.cells [.int .i64 on, .int .i64 oi].toArray 27 (0, 0)), oldS h] ∧ j ≤ (fullN L).length) (fun j _ => (fullN L).length + 1 - j) 0 ?_ ⟨s7, by omega⟩ ?_
    · simp (maxSteps := 2000000) (disch := first | (simp only [go_sem, Nat.reduceBEq, Nat.reduceAdd, Nat.reduceMul, Nat.reduceSub, Nat.reduceEqDiff, Nat.reduceLeDiff, Nat.reduceLT, Int.reduceEq, Int.reduceAdd, Int.reduceSub, Int.reduceMul, Int.reduceNeg, Int.reduceLT, Int.reduceLE, Int.reduceToNat, Int.reduceBEq, Int.reduceNe, reduceCtorEq]; done) | omega | (simp only [go_sem, Nat.reduceBEq, Nat.reduceAdd, Nat.reduceMul, Nat.reduceSub, Nat.reduceEqDiff, Nat.reduceLeDiff, Nat.reduceLT, Int.reduceEq, Int.reduceAdd, Int.reduceSub, Int.reduceMul, Int.reduceNeg, Int.reduceLT, Int.reduceLE, Int.reduceToNat, Int.reduceBEq, Int.reduceNe, reduceCtorEq]; omega)) only [go_sem, Nat.reduceBEq, Nat.reduceAdd, Nat.reduceMul, Nat.reduceSub, Nat.reduceEqDiff, Nat.reduceLeDiff, Nat.reduceLT, Int.reduceEq, Int.reduceAdd, Int.reduceSub, Int.reduceMul, Int.reduceNeg, Int.reduceLT, Int.reduceLE, Int.reduceToNat, Int.reduceBEq, Int.reduceNe, reduceCtorEq, w64_id, w8_id, w16_id, w32_id, tmod_pos, tdiv_pos, Bool.or_true, Bool.true_or, Bool.or_false, Bool.false_or, Bool.and_false, Bool.false_and, condK_decide]; rfl
    clear s3 s4 s5 s6 s7 x6 s
    rintro j k ⟨s, hj⟩
    by_cases q : j < (fullN L).length
    · obtain ⟨_, _, e', hrd⟩ := refs_read s
      cases e'
      obtain ⟨lb, rfl, hr2⟩ := hrd j q
      obtain ⟨a, a2, g1, g2, g3⟩ := hget _ (List.getElem_mem q)
      have q2 : (j : Int) < (fullN L).length := by omega
      simp (maxSteps := 2000000) (disch := first | (simp only [go_sem, Nat.reduceBEq, Nat.reduceAdd, Nat.reduceMul, Nat.reduceSub, Nat.reduceEqDiff, Nat.reduceLeDiff, Nat.reduceLT, Int.reduceEq, Int.reduceAdd, Int.reduceSub, Int.reduceMul, Int.reduceNeg, Int.reduceLT, Int.reduceLE, Int.reduceToNat, Int.reduceBEq, Int.reduceNe, reduceCtorEq, q2, hr2]; done) | omega | (simp only [go_sem, Nat.reduceBEq, Nat.reduceAdd, Nat.reduceMul, Nat.reduceSub, Nat.reduceEqDiff, Nat.reduceLeDiff, Nat.reduceLT, Int.reduceEq, Int.reduceAdd, Int.reduceSub, Int.reduceMul, Int.reduceNeg, Int.reduceLT, Int.reduceLE, Int.reduceToNat, Int.reduceBEq, Int.reduceNe, reduceCtorEq, q2, hr2]; omega)) only [go_sem, Nat.reduceBEq, Nat.reduceAdd, Nat.reduceMul, Nat.reduceSub, Nat.reduceEqDiff, Nat.reduceLeDiff, Nat.reduceLT, Int.reduceEq, Int.reduceAdd, Int.reduceSub, Int.reduceMul, Int.reduceNeg, Int.reduceLT, Int.reduceLE, Int.reduceToNat, Int.reduceBEq, Int.reduceNe, reduceCtorEq, w64_id, w8_id, w16_id, w32_id, tmod_pos, tdiv_pos, Bool.or_true, Bool.true_or, Bool.or_false, Bool.false_or, Bool.and_false, Bool.false_and, condK_decide, q2, hr2]
      refine (cget_S (s.front 1) _ _).mono ?_
      rintro v k2 ⟨rfl, xk⟩
      rw [g2]
      unfold capI
      have s2 := (s.grow xk).push (.cells a2.cells.toArray 24 (0, 0))
      simp only [Cap.cells_eq] at s2
      obtain ⟨_, _, e', hrd2⟩ := refs_read (s2.front 1)
      cases e'
      obtain ⟨lb', e', hr3⟩ := hrd2 j q
      cases e'
      simp (maxSteps := 2000000) (disch := first | (simp only [go_sem, Nat.reduceBEq, Nat.reduceAdd, Nat.reduceMul, Nat.reduceSub, Nat.reduceEqDiff, Nat.reduceLeDiff, Nat.reduceLT, Int.reduceEq, Int.reduceAdd, Int.reduceSub, Int.reduceMul, Int.reduceNeg, Int.reduceLT, Int.reduceLE, Int.reduceToNat, Int.reduceBEq, Int.reduceNe, reduceCtorEq, q2, hr3, s2.get]; done) | omega | (simp only [go_sem, Nat.reduceBEq, Nat.reduceAdd, Nat.reduceMul, Nat.reduceSub, Nat.reduceEqDiff, Nat.reduceLeDiff, Nat.reduceLT, Int.reduceEq, Int.reduceAdd, Int.reduceSub, Int.reduceMul, Int.reduceNeg, Int.reduceLT, Int.reduceLE, Int.reduceToNat, Int.reduceBEq, Int.reduceNe, reduceCtorEq, q2, hr3, s2.get]; omega)) only [go_sem, Nat.reduceBEq, Nat.reduceAdd, Nat.reduceMul, Nat.reduceSub, Nat.reduceEqDiff, Nat.reduceLeDiff, Nat.reduceLT, Int.reduceEq, Int.reduceAdd, Int.reduceSub, Int.reduceMul, Int.reduceNeg, Int.reduceLT, Int.reduceLE, Int.reduceToNat, Int.reduceBEq, Int.reduceNe, reduceCtorEq, w64_id, w8_id, w16_id, w32_id, tmod_pos, tdiv_pos, Bool.or_true, Bool.true_or, Bool.or_false, Bool.false_or, Bool.and_false, Bool.false_and, condK_decide, q2, hr3, s2.get]
      refine (get12_S (s2.front 3) (by omega) hw _ _).mono ?_
      rintro v k3 ⟨rfl, xk3⟩
      rw [g1]
      unfold capI
      have s3 := (s2.grow xk3).push (.cells a.cells.toArray 24 (0, 0))
      simp only [Cap.cells_eq] at s3
      obtain ⟨_, _, e', hrd3⟩ := refs_read (s3.front 2)
      cases e'
      obtain ⟨lb', e', hr4⟩ := hrd3 j q
      cases e'
      have s3z := (s2.grow xk3).push (.cells Cap.zero.cells.toArray 24 (0, 0))
      simp only [Cap.cells_eq, Cap.zero] at s3z
      by_cases hx : ((fullN L)[j].1 = on ∧ (fullN L)[j].2 = oi) ∧ e = 0
      · first
          | exact absurd hx.2 e0
          | (simp (maxSteps := 2000000) (disch := first | (simp only [go_sem, Nat.reduceBEq, Nat.reduceAdd, Nat.reduceMul, Nat.reduceSub, Nat.reduceEqDiff, Nat.reduceLeDiff, Nat.reduceLT, Int.reduceEq, Int.reduceAdd, Int.reduceSub, Int.reduceMul, Int.reduceNeg, Int.reduceLT, Int.reduceLE, Int.reduceToNat, Int.reduceBEq, Int.reduceNe, reduceCtorEq, q2, hr4, s3.get, (s3.front 1).get, (s3.front 5).get, s3z.get]; done) | omega | (simp only [go_sem, Nat.reduceBEq, Nat.reduceAdd, Nat.reduceMul, Nat.reduceSub, Nat.reduceEqDiff, Nat.reduceLeDiff, Nat.reduceLT, Int.reduceEq, Int.reduceAdd, Int.reduceSub, Int.reduceMul, Int.reduceNeg, Int.reduceLT, Int.reduceLE, Int.reduceToNat, Int.reduceBEq, Int.reduceNe, reduceCtorEq, q2, hr4, s3.get, (s3.front 1).get, (s3.front 5).get, s3z.get]; omega)) only [go_sem, Nat.reduceBEq, Nat.reduceAdd, Nat.reduceMul, Nat.reduceSub, Nat.reduceEqDiff, Nat.reduceLeDiff, Nat.reduceLT, Int.reduceEq, Int.reduceAdd, Int.reduceSub, Int.reduceMul, Int.reduceNeg, Int.reduceLT, Int.reduceLE, Int.reduceToNat, Int.reduceBEq, Int.reduceNe, reduceCtorEq, w64_id, w8_id, w16_id, w32_id, tmod_pos, tdiv_pos, Bool.or_true, Bool.true_or, Bool.or_false, Bool.false_or, Bool.and_false, Bool.false_and, condK_decide, q2, hr4, s3.get, (s3.front 1).get, (s3.front 5).get, s3z.get]
             refine ⟨fun z => ?_, fun _ => ⟨j + 1, rfl, ⟨s3.re [2, 3, 4, 5, 6], by omega⟩, by simp only; omega⟩⟩
             simp [hx.1.1, hx.1.2, hx.2] at z)
      · have g4 : a2 = a := g3 (by
          by_cases y : (fullN L)[j].1 = on ∧ (fullN L)[j].2 = oi
          · exact .inr fun z => hx ⟨y, z⟩
          · exact .inl y)
        subst g4
        simp (maxSteps := 2000000) (disch := first | (simp only [go_sem, Nat.reduceBEq, Nat.reduceAdd, Nat.reduceMul, Nat.reduceSub, Nat.reduceEqDiff, Nat.reduceLeDiff, Nat.reduceLT, Int.reduceEq, Int.reduceAdd, Int.reduceSub, Int.reduceMul, Int.reduceNeg, Int.reduceLT, Int.reduceLE, Int.reduceToNat, Int.reduceBEq, Int.reduceNe, reduceCtorEq, q2, hr4, s3.get, (s3.front 1).get, (s3.front 5).get, s3z.get]; done) | omega | (simp only [go_sem, Nat.reduceBEq, Nat.reduceAdd, Nat.reduceMul, Nat.reduceSub, Nat.reduceEqDiff, Nat.reduceLeDiff, Nat.reduceLT, Int.reduceEq, Int.reduceAdd, Int.reduceSub, Int.reduceMul, Int.reduceNeg, Int.reduceLT, Int.reduceLE, Int.reduceToNat, Int.reduceBEq, Int.reduceNe, reduceCtorEq, q2, hr4, s3.get, (s3.front 1).get, (s3.front 5).get, s3z.get]; omega)) only [go_sem, Nat.reduceBEq, Nat.reduceAdd, Nat.reduceMul, Nat.reduceSub, Nat.reduceEqDiff, Nat.reduceLeDiff, Nat.reduceLT, Int.reduceEq, Int.reduceAdd, Int.reduceSub, Int.reduceMul, Int.reduceNeg, Int.reduceLT, Int.reduceLE, Int.reduceToNat, Int.reduceBEq, Int.reduceNe, reduceCtorEq, w64_id, w8_id, w16_id, w32_id, tmod_pos, tdiv_pos, Bool.or_true, Bool.true_or, Bool.or_false, Bool.false_or, Bool.and_false, Bool.false_and, condK_decide, q2, hr4, s3.get, (s3.front 1).get, (s3.front 5).get, s3z.get]
        exact ⟨j + 1, rfl, ⟨s3.re [2, 3, 4, 5, 6], by omega⟩, by simp only; omega⟩
    · have q2 : ¬ (j : Int) < (fullN L).length := by omega
      have hgr : IntKind.i64.wrap (((fullN L2).length : Int) - (fullN L).length) = ((fullN L2).length : Int) - (fullN L).length := w64_id (by omega) (by omega)
      have hw3 := fullN_len hw2.1
      have hL2 := hw2.len
      have g1 : -1 ≤ ((fullN L2).length : Int) - (fullN L).length := hp1.1
      have g2 : ((fullN L2).length : Int) - (fullN L).length ≤ 1 := hp1.2
      simp (maxSteps := 2000000) (disch := first | (simp only [go_sem, Nat.reduceBEq, Nat.reduceAdd, Nat.reduceMul, Nat.reduceSub, Nat.reduceEqDiff, Nat.reduceLeDiff, Nat.reduceLT, Int.reduceEq, Int.reduceAdd, Int.reduceSub, Int.reduceMul, Int.reduceNeg, Int.reduceLT, Int.reduceLE, Int.reduceToNat, Int.reduceBEq, Int.reduceNe, reduceCtorEq, q2, hgr, g1, g2, e1]; done) | omega | (simp only [go_sem, Nat.reduceBEq, Nat.reduceAdd, Nat.reduceMul, Nat.reduceSub, Nat.reduceEqDiff, Nat.reduceLeDiff, Nat.reduceLT, Int.reduceEq, Int.reduceAdd, Int.reduceSub, Int.reduceMul, Int.reduceNeg, Int.reduceLT, Int.reduceLE, Int.reduceToNat, Int.reduceBEq, Int.reduceNe, reduceCtorEq, q2, hgr, g1, g2, e1]; omega)) only [go_sem, Nat.reduceBEq, Nat.reduceAdd, Nat.reduceMul, Nat.reduceSub, Nat.reduceEqDiff, Nat.reduceLeDiff, Nat.reduceLT, Int.reduceEq, Int.reduceAdd, Int.reduceSub, Int.reduceMul, Int.reduceNeg, Int.reduceLT, Int.reduceLE, Int.reduceToNat, Int.reduceBEq, Int.reduceNe, reduceCtorEq, w64_id, w8_id, w16_id, w32_id, tmod_pos, tdiv_pos, Bool.or_true, Bool.true_or, Bool.or_false, Bool.false_or, Bool.and_false, Bool.false_and, condK_decide, q2, hgr, g1, g2, e1]
      refine hR _ _ ⟨?_, (s.front 4).ext⟩
      first
        | rfl
        | (have : L2 = L := hp2 e0
           subst this
           simp)
end Go.Eng
