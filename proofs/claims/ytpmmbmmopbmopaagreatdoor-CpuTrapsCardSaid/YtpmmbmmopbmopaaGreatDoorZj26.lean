/-
  viceroyref01: Same, of two lists of bytes.
-/
import Derived.Test.YtpmmbmmopbmopaaGreatDoorZj8
import Derived.Test.YtpmmbmmopbmopaaGreatDoorZj20
import Derived.Test.YtpmmbmmopbmopaaGreatDoorZj25
namespace Go.Eng
set_option linter.unusedSimpArgs false
set_option linter.unusedVariables false
set_option maxRecDepth 16000
set_option maxHeartbeats 4000000
open Go Go.Proofs
section
variable {h : Heap} {F : List SP} {n m : Nat} {f g : Nat → Int} {v u : Value}
theorem same_S (hs : Sat h (sliceS 1 n v (memL n f) :: sliceS 1 m u (memL m g) :: F)) (hn : n ≤ 1000000) (hm : m ≤ 1000000) :
    HCalls Tryz.prog 14 #[v, u] h fun r h' => ∃ b, r = .bool b ∧ (b = true ↔ n = m ∧ ∀ i, i < n → f i = g i) ∧ h' = h := by
  refine HCalls.via fun R hR => ?_
  obtain ⟨sl, cap, rfl, -, -, e1⟩ := hs.elems
  obtain ⟨sl2, cap2, rfl, -, -, e2⟩ := (hs.front 1).elems
  refine HCalls.of_dev T14 Tryz.func14 rfl mixed (by kernel_rfl) ?_; rw [Tryz.results14]
  by_cases q : n = m
  · subst q
    simp (maxSteps := 2000000) (disch := first | (simp only [go_sem, Nat.reduceBEq, Nat.reduceAdd, Nat.reduceMul, Nat.reduceSub, Nat.reduceEqDiff, Nat.reduceLeDiff, Nat.reduceLT, Int.reduceEq, Int.reduceAdd, Int.reduceSub, Int.reduceMul, Int.reduceNeg, Int.reduceLT, Int.reduceLE, Int.reduceToNat, Int.reduceBEq, Int.reduceNe, reduceCtorEq] <;> omega) | omega) only [go_sem, Nat.reduceBEq, Nat.reduceAdd, Nat.reduceMul, Nat.reduceSub, Nat.reduceEqDiff, Nat.reduceLeDiff, Nat.reduceLT, Int.reduceEq, Int.reduceAdd, Int.reduceSub, Int.reduceMul, Int.reduceNeg, Int.reduceLT, Int.reduceLE, Int.reduceToNat, Int.reduceBEq, Int.reduceNe, reduceCtorEq, w64_id, w8_id, w16_id, w32_id, tmod_pos, tdiv_pos, Bool.or_true, Bool.true_or, Bool.or_false, Bool.false_or, Bool.and_false, Bool.false_and, condK_decide]
    refine loopH.intro (fun i : Nat => (.cons 0 (.slice sl n cap) true (.cons 1 (.slice sl2 n cap2) true (.cons 5 (.int .i64 i) true .nil)))) (fun i h' => h' = h ∧ i ≤ n ∧ ∀ j, j < i → f j = g j) (fun i _ => n + 1 - i) 0 ?_ ⟨rfl, by omega, by omega⟩ ?_
    · rfl
    rintro i h2 ⟨rfl, hi, heq⟩
    by_cases k : (i : Int) < n
    · have hin : i < n := by omega
      obtain rfl | ⟨lb, rfl, g1, -⟩ := e1
      · omega
      obtain rfl | ⟨lb2, rfl, g2, -⟩ := e2
      · omega
      have g1 := g1 i (by omega)
      have g2 := g2 i (by omega)
      rw [memL_get hin] at g1 g2
      simp (maxSteps := 2000000) (disch := first | (simp only [go_sem, Nat.reduceBEq, Nat.reduceAdd, Nat.reduceMul, Nat.reduceSub, Nat.reduceEqDiff, Nat.reduceLeDiff, Nat.reduceLT, Int.reduceEq, Int.reduceAdd, Int.reduceSub, Int.reduceMul, Int.reduceNeg, Int.reduceLT, Int.reduceLE, Int.reduceToNat, Int.reduceBEq, Int.reduceNe, reduceCtorEq, k, g1, g2] <;> omega) | omega) only [go_sem, Nat.reduceBEq, Nat.reduceAdd, Nat.reduceMul, Nat.reduceSub, Nat.reduceEqDiff, Nat.reduceLeDiff, Nat.reduceLT, Int.reduceEq, Int.reduceAdd, Int.reduceSub, Int.reduceMul, Int.reduceNeg, Int.reduceLT, Int.reduceLE, Int.reduceToNat, Int.reduceBEq, Int.reduceNe, reduceCtorEq, w64_id, w8_id, w16_id, w32_id, tmod_pos, tdiv_pos, Bool.or_true, Bool.true_or, Bool.or_false, Bool.false_or, Bool.and_false, Bool.false_and, condK_decide, k, g1, g2]
      refine ⟨fun q => hR _ _ ⟨false, rfl, ⟨fun e => (by cases e), fun e => absurd (e.2 i hin) q⟩, rfl⟩, fun q => ?_⟩
      refine ⟨i + 1, rfl, ⟨rfl, by omega, fun j hj => ?_⟩, by simp only; omega⟩
      by_cases e : j = i
      · subst e; exact Decidable.not_not.1 q
      · exact heq j (by omega)
    · simp (maxSteps := 2000000) (disch := first | (simp only [go_sem, Nat.reduceBEq, Nat.reduceAdd, Nat.reduceMul, Nat.reduceSub, Nat.reduceEqDiff, Nat.reduceLeDiff, Nat.reduceLT, Int.reduceEq, Int.reduceAdd, Int.reduceSub, Int.reduceMul, Int.reduceNeg, Int.reduceLT, Int.reduceLE, Int.reduceToNat, Int.reduceBEq, Int.reduceNe, reduceCtorEq, k] <;> omega) | omega) only [go_sem, Nat.reduceBEq, Nat.reduceAdd, Nat.reduceMul, Nat.reduceSub, Nat.reduceEqDiff, Nat.reduceLeDiff, Nat.reduceLT, Int.reduceEq, Int.reduceAdd, Int.reduceSub, Int.reduceMul, Int.reduceNeg, Int.reduceLT, Int.reduceLE, Int.reduceToNat, Int.reduceBEq, Int.reduceNe, reduceCtorEq, w64_id, w8_id, w16_id, w32_id, tmod_pos, tdiv_pos, Bool.or_true, Bool.true_or, Bool.or_false, Bool.false_or, Bool.and_false, Bool.false_and, condK_decide, k]
      have : i = n := by omega
      subst this
      exact hR _ _ ⟨true, rfl, ⟨fun _ => ⟨rfl, heq⟩, fun _ => rfl⟩, rfl⟩
  · have q1 : ¬ (n : Int) = m := by omega
    simp (maxSteps := 2000000) (disch := first | (simp only [go_sem, Nat.reduceBEq, Nat.reduceAdd, Nat.reduceMul, Nat.reduceSub, Nat.reduceEqDiff, Nat.reduceLeDiff, Nat.reduceLT, Int.reduceEq, Int.reduceAdd, Int.reduceSub, Int.reduceMul, Int.reduceNeg, Int.reduceLT, Int.reduceLE, Int.reduceToNat, Int.reduceBEq, Int.reduceNe, reduceCtorEq, q1] <;> omega) | omega) only [go_sem, Nat.reduceBEq, Nat.reduceAdd, Nat.reduceMul, Nat.reduceSub, Nat.reduceEqDiff, Nat.reduceLeDiff, Nat.reduceLT, Int.reduceEq, Int.reduceAdd, Int.reduceSub, Int.reduceMul, Int.reduceNeg, Int.reduceLT, Int.reduceLE, Int.reduceToNat, Int.reduceBEq, Int.reduceNe, reduceCtorEq, w64_id, w8_id, w16_id, w32_id, tmod_pos, tdiv_pos, Bool.or_true, Bool.true_or, Bool.or_false, Bool.false_or, Bool.and_false, Bool.false_and, condK_decide, q1]
    exact hR _ _ ⟨false, rfl, ⟨fun e => (by cases e), fun e => absurd e.1 q⟩, rfl⟩
theorem appB {u : TypeId} {K : Value → Heap → Prop} {l l2 : List Value} {w : Value} (hs : Sat h (sliceS 1 n v l :: F)) (src : SrcAt h 1 m w l2) (hn : n + m ≤ 1000000) (hK : ∀ v' h', Sat h' (sliceS 1 (n + m) v' (l ++ l2) :: F) → K v' h') :
    runH Tryz.prog (iAppend #[62, 62] u #[v, w]) h K :=
  Sat.append hs src isSlice_62 ssz_62 (by kernel_rfl) (by kernel_rfl) (by rw [show (tbytes Tryz.prog (sliceElem Tryz.prog 62)).getD 0 = 1 from by kernel_rfl]; omega) (by omega) hK
theorem memL_append {n m : Nat} {f : Nat → Int} : memL n f ++ memL m (fun j => f (n + j)) = memL (n + m) f := by
  unfold memL
  rw [List.range_add, List.map_append, List.map_map]
  rfl
end
end Go.Eng
/-
  The law CpuTraps.
-/
namespace Go.Eng
set_option linter.unusedSimpArgs false
set_option linter.unusedVariables false
set_option maxRecDepth 16000
set_option maxHeartbeats 4000000
open Go Go.Proofs
theorem noT_zero : ∀ l ∈ noT, l = zeroL := by
  intro l hl
  simpa [noT] using hl
section
variable {h : Heap}
theorem traps_law {v1 v2 : Value} {P : List PutP} {L : List WordP} (hp : rdL PutP.cells 6 h v1 P) (hL : rdL WordP.cells 2 h v2 L) (hb : ∀ x ∈ L, 0 ≤ x.w ∧ x.w < 4294967296) (g : Bool) (vm se at_ : Int) {c : Cp} (f : c.fit) :
    HCalls Tryz.prog 6 #[.agg #[v1, v2, .bool g, .int .i64 vm, .int .i64 se], .agg c.cells.toArray, .int .i64 at_] h fun v h' => v = .bool true ∧ Ext h h' := by
  refine HCalls.via fun R hR => ?_
  refine HCalls.of_dev T6 Tryz.func6 rfl mixed (by kernel_rfl) ?_; rw [Tryz.results6]
  have s0 := ((Sat.init h).push (.cells #[v1, v2, .bool g, .int .i64 vm, .int .i64 se] 44 (0, 0))).push (.cells c.cells.toArray 48 (0, 0))
  simp only [size_push'] at s0
  have tk := take_cpu f
  simp (maxSteps := 2000000) (disch := first | (simp only [go_sem, Nat.reduceBEq, Nat.reduceAdd, Nat.reduceMul, Nat.reduceSub, Nat.reduceEqDiff, Nat.reduceLeDiff, Nat.reduceLT, Int.reduceEq, Int.reduceAdd, Int.reduceSub, Int.reduceMul, Int.reduceNeg, Int.reduceLT, Int.reduceLE, Int.reduceToNat, Int.reduceBEq, Int.reduceNe, reduceCtorEq, tk] <;> omega) | omega) only [go_sem, Nat.reduceBEq, Nat.reduceAdd, Nat.reduceMul, Nat.reduceSub, Nat.reduceEqDiff, Nat.reduceLeDiff, Nat.reduceLT, Int.reduceEq, Int.reduceAdd, Int.reduceSub, Int.reduceMul, Int.reduceNeg, Int.reduceLT, Int.reduceLE, Int.reduceToNat, Int.reduceBEq, Int.reduceNe, reduceCtorEq, w64_id, w8_id, w16_id, w32_id, tmod_pos, tdiv_pos, Bool.or_true, Bool.true_or, Bool.or_false, Bool.false_or, Bool.and_false, Bool.false_and, condK_decide, tk]
  refine awake_S.mono ?_
  rintro v h1 ⟨rfl, x1⟩
  have s1 := s0.grow x1
  have gx := (s1.front 1).get
  simp (maxSteps := 2000000) (disch := first | (simp only [go_sem, Nat.reduceBEq, Nat.reduceAdd, Nat.reduceMul, Nat.reduceSub, Nat.reduceEqDiff, Nat.reduceLeDiff, Nat.reduceLT, Int.reduceEq, Int.reduceAdd, Int.reduceSub, Int.reduceMul, Int.reduceNeg, Int.reduceLT, Int.reduceLE, Int.reduceToNat, Int.reduceBEq, Int.reduceNe, reduceCtorEq, gx] <;> omega) | omega) only [go_sem, Nat.reduceBEq, Nat.reduceAdd, Nat.reduceMul, Nat.reduceSub, Nat.reduceEqDiff, Nat.reduceLeDiff, Nat.reduceLT, Int.reduceEq, Int.reduceAdd, Int.reduceSub, Int.reduceMul, Int.reduceNeg, Int.reduceLT, Int.reduceLE, Int.reduceToNat, Int.reduceBEq, Int.reduceNe, reduceCtorEq, w64_id, w8_id, w16_id, w32_id, tmod_pos, tdiv_pos, Bool.or_true, Bool.true_or, Bool.or_false, Bool.false_or, Bool.and_false, Bool.false_and, condK_decide, gx]
  have e1 := (s1.front 2).ext
  refine (made_S hb g vm se (hp.ext e1) (hL.ext e1)).mono ?_
  rintro v h2 ⟨rb, tb, pv, y1, y2, y3, rfl, m1⟩
  generalize hmem : memP P L = mem at m1
  generalize hV : (if g = true then some (256 : Int) else none) = V at m1
  have s2 := s1.over m1
  have s3 := s2.push (.cells #[.pointer (some ⟨rb, 0, none⟩), .pointer (some ⟨tb, 0, none⟩), .pointer pv, .pointer y1, .pointer y2, .pointer y3] 38 (0, 0))
  simp (maxSteps := 2000000) (disch := first | (simp only [go_sem, Nat.reduceBEq, Nat.reduceAdd, Nat.reduceMul, Nat.reduceSub, Nat.reduceEqDiff, Nat.reduceLeDiff, Nat.reduceLT, Int.reduceEq, Int.reduceAdd, Int.reduceSub, Int.reduceMul, Int.reduceNeg, Int.reduceLT, Int.reduceLE, Int.reduceToNat, Int.reduceBEq, Int.reduceNe, reduceCtorEq] <;> omega) | omega) only [go_sem, Nat.reduceBEq, Nat.reduceAdd, Nat.reduceMul, Nat.reduceSub, Nat.reduceEqDiff, Nat.reduceLeDiff, Nat.reduceLT, Int.reduceEq, Int.reduceAdd, Int.reduceSub, Int.reduceMul, Int.reduceNeg, Int.reduceLT, Int.reduceLE, Int.reduceToNat, Int.reduceBEq, Int.reduceNe, reduceCtorEq, w64_id, w8_id, w16_id, w32_id, tmod_pos, tdiv_pos, Bool.or_true, Bool.true_or, Bool.or_false, Bool.false_or, Bool.and_false, Bool.false_and, condK_decide]
  refine loopH.intro (fun t : Nat × Value => (.cons 2 (.int .i64 at_) true (.cons 3 (.pointer (some ⟨h.size, 0, none⟩)) true (.cons 4 (.pointer (some ⟨h.size + 1, 0, none⟩)) true (.cons 7 (.bool true) true (.cons 8 (.pointer (some ⟨h2.size, 0, none⟩)) true (.cons 10 (t.2) true (.cons 11 (.slice none 0 0) true (.cons 12 (.int .i64 t.1) true .nil)))))))))
    (fun t h' => t.1 ≤ 16 ∧ Sat h' (sliceS 1 (64 * t.1) t.2 (memL (64 * t.1) mem) :: cellAt h2.size (.cells #[.pointer (some ⟨rb, 0, none⟩), .pointer (some ⟨tb, 0, none⟩), .pointer pv, .pointer y1, .pointer y2, .pointer y3] 38 (0, 0)) :: mchS 16 rb tb (.pointer pv) ⟨mem, noT, V⟩ ::
      cellAt (h.size + 1) (.cells c.cells.toArray 48 (0, 0)) :: cellAt h.size (.cells #[v1, v2, .bool g, .int .i64 vm, .int .i64 se] 44 (0, 0)) :: [oldS h])) (fun t _ => 17 - t.1) (0, .slice none 0 0) ?_ ⟨by simp, s3.nilS⟩ ?_
  · rfl
  clear s3 s2 s1 s0 m1 gx
  rintro ⟨i, vb⟩ h3 ⟨hi, s⟩
  simp only at hi s
  by_cases k : (i : Int) < 16
  · have gb := (s.front 1).get
    simp (maxSteps := 2000000) (disch := first | (simp only [go_sem, Nat.reduceBEq, Nat.reduceAdd, Nat.reduceMul, Nat.reduceSub, Nat.reduceEqDiff, Nat.reduceLeDiff, Nat.reduceLT, Int.reduceEq, Int.reduceAdd, Int.reduceSub, Int.reduceMul, Int.reduceNeg, Int.reduceLT, Int.reduceLE, Int.reduceToNat, Int.reduceBEq, Int.reduceNe, reduceCtorEq, k, gb] <;> omega) | omega) only [go_sem, Nat.reduceBEq, Nat.reduceAdd, Nat.reduceMul, Nat.reduceSub, Nat.reduceEqDiff, Nat.reduceLeDiff, Nat.reduceLT, Int.reduceEq, Int.reduceAdd, Int.reduceSub, Int.reduceMul, Int.reduceNeg, Int.reduceLT, Int.reduceLE, Int.reduceToNat, Int.reduceBEq, Int.reduceNe, reduceCtorEq, w64_id, w8_id, w16_id, w32_id, tmod_pos, tdiv_pos, Bool.or_true, Bool.true_or, Bool.or_false, Bool.false_or, Bool.and_false, Bool.false_and, condK_decide, k, gb]
    refine (frame_S (Sat.star.1 (s.front 2)) i).mono ?_
    rintro v h4 (⟨-, -, w, rfl, s4⟩ | ⟨q, -⟩)
    · simp (maxSteps := 2000000) (disch := first | (simp only [go_sem, Nat.reduceBEq, Nat.reduceAdd, Nat.reduceMul, Nat.reduceSub, Nat.reduceEqDiff, Nat.reduceLeDiff, Nat.reduceLT, Int.reduceEq, Int.reduceAdd, Int.reduceSub, Int.reduceMul, Int.reduceNeg, Int.reduceLT, Int.reduceLE, Int.reduceToNat, Int.reduceBEq, Int.reduceNe, reduceCtorEq] <;> omega) | omega) only [go_sem, Nat.reduceBEq, Nat.reduceAdd, Nat.reduceMul, Nat.reduceSub, Nat.reduceEqDiff, Nat.reduceLeDiff, Nat.reduceLT, Int.reduceEq, Int.reduceAdd, Int.reduceSub, Int.reduceMul, Int.reduceNeg, Int.reduceLT, Int.reduceLE, Int.reduceToNat, Int.reduceBEq, Int.reduceNe, reduceCtorEq, w64_id, w8_id, w16_id, w32_id, tmod_pos, tdiv_pos, Bool.or_true, Bool.true_or, Bool.or_false, Bool.false_or, Bool.and_false, Bool.false_and, condK_decide]
      refine appB (s4.front 4) s4.src (by omega) fun v' h5 s5 => ?_
      simp (maxSteps := 2000000) (disch := first | (simp only [go_sem, Nat.reduceBEq, Nat.reduceAdd, Nat.reduceMul, Nat.reduceSub, Nat.reduceEqDiff, Nat.reduceLeDiff, Nat.reduceLT, Int.reduceEq, Int.reduceAdd, Int.reduceSub, Int.reduceMul, Int.reduceNeg, Int.reduceLT, Int.reduceLE, Int.reduceToNat, Int.reduceBEq, Int.reduceNe, reduceCtorEq] <;> omega) | omega) only [go_sem, Nat.reduceBEq, Nat.reduceAdd, Nat.reduceMul, Nat.reduceSub, Nat.reduceEqDiff, Nat.reduceLeDiff, Nat.reduceLT, Int.reduceEq, Int.reduceAdd, Int.reduceSub, Int.reduceMul, Int.reduceNeg, Int.reduceLT, Int.reduceLE, Int.reduceToNat, Int.reduceBEq, Int.reduceNe, reduceCtorEq, w64_id, w8_id, w16_id, w32_id, tmod_pos, tdiv_pos, Bool.or_true, Bool.true_or, Bool.or_false, Bool.false_or, Bool.and_false, Bool.false_and, condK_decide]
      rw [Int.toNat_natCast, memL_append] at s5
      refine ⟨(i + 1, v'), rfl, ⟨by simp only; omega, ?_⟩, by simp only; omega⟩
      exact (Sat.star.2 (s5.drop1.back 3) : Sat h5 (mchS 16 rb tb (.pointer pv) ⟨mem, noT, V⟩ :: _)).back 2
    · omega
  have gb := (s.front 1).get
  have gc := (s.front 3).get
  have gx := (s.front 4).get
  simp (maxSteps := 2000000) (disch := first | (simp only [go_sem, Nat.reduceBEq, Nat.reduceAdd, Nat.reduceMul, Nat.reduceSub, Nat.reduceEqDiff, Nat.reduceLeDiff, Nat.reduceLT, Int.reduceEq, Int.reduceAdd, Int.reduceSub, Int.reduceMul, Int.reduceNeg, Int.reduceLT, Int.reduceLE, Int.reduceToNat, Int.reduceBEq, Int.reduceNe, reduceCtorEq, k, gb, gc, gx, tk] <;> omega) | omega) only [go_sem, Nat.reduceBEq, Nat.reduceAdd, Nat.reduceMul, Nat.reduceSub, Nat.reduceEqDiff, Nat.reduceLeDiff, Nat.reduceLT, Int.reduceEq, Int.reduceAdd, Int.reduceSub, Int.reduceMul, Int.reduceNeg, Int.reduceLT, Int.reduceLE, Int.reduceToNat, Int.reduceBEq, Int.reduceNe, reduceCtorEq, w64_id, w8_id, w16_id, w32_id, tmod_pos, tdiv_pos, Bool.or_true, Bool.true_or, Bool.or_false, Bool.false_or, Bool.and_false, Bool.false_and, condK_decide, k, gb, gc, gx, tk]
  obtain rfl : i = 16 := by omega
  refine (stepM_S f (s.front 2) vm se at_ (fun _ _ _ _ _ _ _ => Nat.zero_le _)).mono ?_
  rintro v h4 ⟨rfl, f1, t1⟩
  have hV0 : (stepP 16 ⟨mem, noT, V⟩ c vm se at_).t.C ≠ 0 → _ := trap_again (n := 16) (mem := mem) (T := noT) (V := V) c vm se at_ noT_zero
  have hT0 := stepP_trap (n := 16) ⟨mem, noT, V⟩ c vm se at_
  obtain ⟨st, hst⟩ : ∃ st, stepP 16 ⟨mem, noT, V⟩ c vm se at_ = st := ⟨_, rfl⟩
  rw [hst] at f1 t1 hV0 hT0 ⊢
  clear hst
  obtain ⟨M1, c1, tr⟩ := st
  simp only at f1 t1 hV0 hT0 ⊢
  obtain ⟨h00, h01, h02, h03⟩ := hT0
  simp only at h00 h01 h02 h03
  simp (maxSteps := 2000000) (disch := first | (simp only [go_sem, Nat.reduceBEq, Nat.reduceAdd, Nat.reduceMul, Nat.reduceSub, Nat.reduceEqDiff, Nat.reduceLeDiff, Nat.reduceLT, Int.reduceEq, Int.reduceAdd, Int.reduceSub, Int.reduceMul, Int.reduceNeg, Int.reduceLT, Int.reduceLE, Int.reduceToNat, Int.reduceBEq, Int.reduceNe, reduceCtorEq] <;> omega) | omega) only [go_sem, Nat.reduceBEq, Nat.reduceAdd, Nat.reduceMul, Nat.reduceSub, Nat.reduceEqDiff, Nat.reduceLeDiff, Nat.reduceLT, Int.reduceEq, Int.reduceAdd, Int.reduceSub, Int.reduceMul, Int.reduceNeg, Int.reduceLT, Int.reduceLE, Int.reduceToNat, Int.reduceBEq, Int.reduceNe, reduceCtorEq, w64_id, w8_id, w16_id, w32_id, tmod_pos, tdiv_pos, Bool.or_true, Bool.true_or, Bool.or_false, Bool.false_or, Bool.and_false, Bool.false_and, condK_decide]
  have q0 := (t1.push (.cells (tzeroD Tryz.prog 48).cells 48 (0, 0))).push (.cells okT.cells.toArray 52 (0, 0))
  simp only [tzeroD_48, Trp.cells_eq, okT, okF, size_push'] at q0
  refine store_cpu f1 (q0.front 1).get (by rfl) ?_
  have q1 := (t1.push (.cells c1.cells.toArray 48 (0, 0))).push (.cells okT.cells.toArray 52 (0, 0))
  have q2 := (t1.push (.cells c1.cells.toArray 48 (0, 0))).push (.cells tr.cells.toArray 52 (0, 0))
  simp only [Trp.cells_eq, okT, okF, size_push'] at q1 q2
  have g1 := q1.get
  have g2 := q2.get
  by_cases z : tr.C = 0
  · have := h00 z
    subst this
    simp only [okT, okF] at q2 g2 g1 ⊢
    simp (maxSteps := 2000000) (disch := first | (simp only [go_sem, Nat.reduceBEq, Nat.reduceAdd, Nat.reduceMul, Nat.reduceSub, Nat.reduceEqDiff, Nat.reduceLeDiff, Nat.reduceLT, Int.reduceEq, Int.reduceAdd, Int.reduceSub, Int.reduceMul, Int.reduceNeg, Int.reduceLT, Int.reduceLE, Int.reduceToNat, Int.reduceBEq, Int.reduceNe, reduceCtorEq, g1, g2, eqls_52] <;> omega) | omega) only [go_sem, Nat.reduceBEq, Nat.reduceAdd, Nat.reduceMul, Nat.reduceSub, Nat.reduceEqDiff, Nat.reduceLeDiff, Nat.reduceLT, Int.reduceEq, Int.reduceAdd, Int.reduceSub, Int.reduceMul, Int.reduceNeg, Int.reduceLT, Int.reduceLE, Int.reduceToNat, Int.reduceBEq, Int.reduceNe, reduceCtorEq, w64_id, w8_id, w16_id, w32_id, tmod_pos, tdiv_pos, Bool.or_true, Bool.true_or, Bool.or_false, Bool.false_or, Bool.and_false, Bool.false_and, condK_decide, g1, g2, eqls_52]
    exact hR _ _ ⟨rfl, (q2.front 7).ext⟩
  obtain ⟨rfl, hm⟩ := h01 z
  have hv1 := h02 z
  obtain ⟨m1, T1, V1⟩ := M1
  simp only at hm hv1 hV0 q1 q2
  subst hm hv1
  simp (maxSteps := 2000000) (disch := first | (simp only [go_sem, Nat.reduceBEq, Nat.reduceAdd, Nat.reduceMul, Nat.reduceSub, Nat.reduceEqDiff, Nat.reduceLeDiff, Nat.reduceLT, Int.reduceEq, Int.reduceAdd, Int.reduceSub, Int.reduceMul, Int.reduceNeg, Int.reduceLT, Int.reduceLE, Int.reduceToNat, Int.reduceBEq, Int.reduceNe, reduceCtorEq, g1, g2, z] <;> omega) | omega) only [go_sem, Nat.reduceBEq, Nat.reduceAdd, Nat.reduceMul, Nat.reduceSub, Nat.reduceEqDiff, Nat.reduceLeDiff, Nat.reduceLT, Int.reduceEq, Int.reduceAdd, Int.reduceSub, Int.reduceMul, Int.reduceNeg, Int.reduceLT, Int.reduceLE, Int.reduceToNat, Int.reduceBEq, Int.reduceNe, reduceCtorEq, w64_id, w8_id, w16_id, w32_id, tmod_pos, tdiv_pos, Bool.or_true, Bool.true_or, Bool.or_false, Bool.false_or, Bool.and_false, Bool.false_and, condK_decide, g1, g2, z]
  refine loopH.intro (fun t : Nat × Value => (.cons 2 (.int .i64 at_) true (.cons 3 (.pointer (some ⟨h.size, 0, none⟩)) true (.cons 4 (.pointer (some ⟨h.size + 1, 0, none⟩)) true (.cons 7 (.bool true) true (.cons 8 (.pointer (some ⟨h2.size, 0, none⟩)) true (.cons 10 (vb) true (.cons 11 (t.2) true (.cons 15 (.pointer (some ⟨h4.size, 0, none⟩)) true (.cons 16 (.pointer (some ⟨h4.size + 1, 0, none⟩)) true (.cons 17 (.int .i64 t.1) true .nil)))))))))))
    (fun t h' => t.1 ≤ 16 ∧ Sat h' (sliceS 1 (64 * t.1) t.2 (memL (64 * t.1) m1) :: cellAt (h4.size + 1) (.cells tr.cells.toArray 52 (0, 0)) :: cellAt h4.size (.cells c1.cells.toArray 48 (0, 0)) :: mchS 16 rb tb (.pointer pv) ⟨m1, T1, V1⟩ :: sliceS 1 (64 * 16) vb (memL (64 * 16) m1) ::
      cellAt h2.size (.cells #[.pointer (some ⟨rb, 0, none⟩), .pointer (some ⟨tb, 0, none⟩), .pointer pv, .pointer y1, .pointer y2, .pointer y3] 38 (0, 0)) ::
      cellAt (h.size + 1) (.cells c1.cells.toArray 48 (0, 0)) :: cellAt h.size (.cells #[v1, v2, .bool g, .int .i64 vm, .int .i64 se] 44 (0, 0)) :: [oldS h])) (fun t _ => 17 - t.1) (0, .slice none 0 0) ?_ ⟨by simp, q2.nilS⟩ ?_
  · rfl
  clear q2 q1 q0 t1 s gb gc gx
  rintro ⟨j, va⟩ h5 ⟨hj, s⟩
  simp only at hj s
  by_cases k2 : (j : Int) < 16
  · have gb := (s.front 5).get
    simp (maxSteps := 2000000) (disch := first | (simp only [go_sem, Nat.reduceBEq, Nat.reduceAdd, Nat.reduceMul, Nat.reduceSub, Nat.reduceEqDiff, Nat.reduceLeDiff, Nat.reduceLT, Int.reduceEq, Int.reduceAdd, Int.reduceSub, Int.reduceMul, Int.reduceNeg, Int.reduceLT, Int.reduceLE, Int.reduceToNat, Int.reduceBEq, Int.reduceNe, reduceCtorEq, k2, gb] <;> omega) | omega) only [go_sem, Nat.reduceBEq, Nat.reduceAdd, Nat.reduceMul, Nat.reduceSub, Nat.reduceEqDiff, Nat.reduceLeDiff, Nat.reduceLT, Int.reduceEq, Int.reduceAdd, Int.reduceSub, Int.reduceMul, Int.reduceNeg, Int.reduceLT, Int.reduceLE, Int.reduceToNat, Int.reduceBEq, Int.reduceNe, reduceCtorEq, w64_id, w8_id, w16_id, w32_id, tmod_pos, tdiv_pos, Bool.or_true, Bool.true_or, Bool.or_false, Bool.false_or, Bool.and_false, Bool.false_and, condK_decide, k2, gb]
    refine (frame_S (Sat.star.1 (s.front 3)) j).mono ?_
    rintro v h6 (⟨-, -, w, rfl, s4⟩ | ⟨q, -⟩)
    · simp (maxSteps := 2000000) (disch := first | (simp only [go_sem, Nat.reduceBEq, Nat.reduceAdd, Nat.reduceMul, Nat.reduceSub, Nat.reduceEqDiff, Nat.reduceLeDiff, Nat.reduceLT, Int.reduceEq, Int.reduceAdd, Int.reduceSub, Int.reduceMul, Int.reduceNeg, Int.reduceLT, Int.reduceLE, Int.reduceToNat, Int.reduceBEq, Int.reduceNe, reduceCtorEq] <;> omega) | omega) only [go_sem, Nat.reduceBEq, Nat.reduceAdd, Nat.reduceMul, Nat.reduceSub, Nat.reduceEqDiff, Nat.reduceLeDiff, Nat.reduceLT, Int.reduceEq, Int.reduceAdd, Int.reduceSub, Int.reduceMul, Int.reduceNeg, Int.reduceLT, Int.reduceLE, Int.reduceToNat, Int.reduceBEq, Int.reduceNe, reduceCtorEq, w64_id, w8_id, w16_id, w32_id, tmod_pos, tdiv_pos, Bool.or_true, Bool.true_or, Bool.or_false, Bool.false_or, Bool.and_false, Bool.false_and, condK_decide]
      refine appB (s4.front 4) s4.src (by omega) fun v' h7 s5 => ?_
      simp (maxSteps := 2000000) (disch := first | (simp only [go_sem, Nat.reduceBEq, Nat.reduceAdd, Nat.reduceMul, Nat.reduceSub, Nat.reduceEqDiff, Nat.reduceLeDiff, Nat.reduceLT, Int.reduceEq, Int.reduceAdd, Int.reduceSub, Int.reduceMul, Int.reduceNeg, Int.reduceLT, Int.reduceLE, Int.reduceToNat, Int.reduceBEq, Int.reduceNe, reduceCtorEq] <;> omega) | omega) only [go_sem, Nat.reduceBEq, Nat.reduceAdd, Nat.reduceMul, Nat.reduceSub, Nat.reduceEqDiff, Nat.reduceLeDiff, Nat.reduceLT, Int.reduceEq, Int.reduceAdd, Int.reduceSub, Int.reduceMul, Int.reduceNeg, Int.reduceLT, Int.reduceLE, Int.reduceToNat, Int.reduceBEq, Int.reduceNe, reduceCtorEq, w64_id, w8_id, w16_id, w32_id, tmod_pos, tdiv_pos, Bool.or_true, Bool.true_or, Bool.or_false, Bool.false_or, Bool.and_false, Bool.false_and, condK_decide]
      rw [Int.toNat_natCast, memL_append] at s5
      refine ⟨(j + 1, v'), rfl, ⟨by simp only; omega, ?_⟩, by simp only; omega⟩
      exact (Sat.star.2 (s5.drop1.back 3) : Sat h7 (mchS 16 rb tb (.pointer pv) ⟨m1, T1, V1⟩ :: _)).back 3
    · omega
  simp (maxSteps := 2000000) (disch := first | (simp only [go_sem, Nat.reduceBEq, Nat.reduceAdd, Nat.reduceMul, Nat.reduceSub, Nat.reduceEqDiff, Nat.reduceLeDiff, Nat.reduceLT, Int.reduceEq, Int.reduceAdd, Int.reduceSub, Int.reduceMul, Int.reduceNeg, Int.reduceLT, Int.reduceLE, Int.reduceToNat, Int.reduceBEq, Int.reduceNe, reduceCtorEq, k2] <;> omega) | omega) only [go_sem, Nat.reduceBEq, Nat.reduceAdd, Nat.reduceMul, Nat.reduceSub, Nat.reduceEqDiff, Nat.reduceLeDiff, Nat.reduceLT, Int.reduceEq, Int.reduceAdd, Int.reduceSub, Int.reduceMul, Int.reduceNeg, Int.reduceLT, Int.reduceLE, Int.reduceToNat, Int.reduceBEq, Int.reduceNe, reduceCtorEq, w64_id, w8_id, w16_id, w32_id, tmod_pos, tdiv_pos, Bool.or_true, Bool.true_or, Bool.or_false, Bool.false_or, Bool.and_false, Bool.false_and, condK_decide, k2]
  obtain rfl : j = 16 := by omega
  refine (same_S (s.front 4) (by omega) (by omega)).mono ?_
  rintro r h6 ⟨b, rfl, hb2, rfl⟩
  obtain rfl : b = true := hb2.2 ⟨rfl, fun _ _ => rfl⟩
  have gb := (s.front 5).get
  have gc := (s.front 6).get
  have gx := (s.front 7).get
  simp (maxSteps := 2000000) (disch := first | (simp only [go_sem, Nat.reduceBEq, Nat.reduceAdd, Nat.reduceMul, Nat.reduceSub, Nat.reduceEqDiff, Nat.reduceLeDiff, Nat.reduceLT, Int.reduceEq, Int.reduceAdd, Int.reduceSub, Int.reduceMul, Int.reduceNeg, Int.reduceLT, Int.reduceLE, Int.reduceToNat, Int.reduceBEq, Int.reduceNe, reduceCtorEq, gb, gc, gx, tk] <;> omega) | omega) only [go_sem, Nat.reduceBEq, Nat.reduceAdd, Nat.reduceMul, Nat.reduceSub, Nat.reduceEqDiff, Nat.reduceLeDiff, Nat.reduceLT, Int.reduceEq, Int.reduceAdd, Int.reduceSub, Int.reduceMul, Int.reduceNeg, Int.reduceLT, Int.reduceLE, Int.reduceToNat, Int.reduceBEq, Int.reduceNe, reduceCtorEq, w64_id, w8_id, w16_id, w32_id, tmod_pos, tdiv_pos, Bool.or_true, Bool.true_or, Bool.or_false, Bool.false_or, Bool.and_false, Bool.false_and, condK_decide, gb, gc, gx, tk]
  refine (stepM_S f (s.front 3) vm se at_ (fun _ _ _ _ _ _ _ => Nat.zero_le _)).mono ?_
  rintro v h7 ⟨rfl, f2, t2⟩
  have hh := hV0 z
  obtain ⟨st, hst⟩ : ∃ st, stepP 16 ⟨m1, T1, V1⟩ c1 vm se at_ = st := ⟨_, rfl⟩
  rw [hst] at f2 t2 hh ⊢
  clear hst hV0
  obtain ⟨M2, c2, tr2⟩ := st
  simp only at f2 t2 hh ⊢
  obtain ⟨rfl, rfl⟩ := hh
  simp (maxSteps := 2000000) (disch := first | (simp only [go_sem, Nat.reduceBEq, Nat.reduceAdd, Nat.reduceMul, Nat.reduceSub, Nat.reduceEqDiff, Nat.reduceLeDiff, Nat.reduceLT, Int.reduceEq, Int.reduceAdd, Int.reduceSub, Int.reduceMul, Int.reduceNeg, Int.reduceLT, Int.reduceLE, Int.reduceToNat, Int.reduceBEq, Int.reduceNe, reduceCtorEq] <;> omega) | omega) only [go_sem, Nat.reduceBEq, Nat.reduceAdd, Nat.reduceMul, Nat.reduceSub, Nat.reduceEqDiff, Nat.reduceLeDiff, Nat.reduceLT, Int.reduceEq, Int.reduceAdd, Int.reduceSub, Int.reduceMul, Int.reduceNeg, Int.reduceLT, Int.reduceLE, Int.reduceToNat, Int.reduceBEq, Int.reduceNe, reduceCtorEq, w64_id, w8_id, w16_id, w32_id, tmod_pos, tdiv_pos, Bool.or_true, Bool.true_or, Bool.or_false, Bool.false_or, Bool.and_false, Bool.false_and, condK_decide]
  have z0 := (t2.push (.cells (tzeroD Tryz.prog 48).cells 48 (0, 0))).push (.cells okT.cells.toArray 52 (0, 0))
  simp only [tzeroD_48, Trp.cells_eq, okT, okF, size_push'] at z0
  refine store_cpu f2 (z0.front 1).get (by rfl) ?_
  have z1 := (t2.push (.cells c2.cells.toArray 48 (0, 0))).push (.cells okT.cells.toArray 52 (0, 0))
  have z2 := (t2.push (.cells c2.cells.toArray 48 (0, 0))).push (.cells tr2.cells.toArray 52 (0, 0))
  simp only [Trp.cells_eq, okT, okF, size_push'] at z1 z2
  have y1 := z1.get
  have y2 := z2.get
  have y3 := (z2.front 1).get
  have y4 := (z2.front 4).get
  have y5 := (z2.front 5).get
  have y6 := (z2.front 8).get
  have be := fun (h : Heap) (x y : Operand) => binD_eql_flat (h := h) (x := x) (y := y) (P := Tryz.prog) (t := 48) (by kernel_rfl) (fitC f2) (fitC f2)
  simp only [eqC f2 f2, decide_true] at be
  simp (maxSteps := 2000000) (disch := first | (simp only [go_sem, Nat.reduceBEq, Nat.reduceAdd, Nat.reduceMul, Nat.reduceSub, Nat.reduceEqDiff, Nat.reduceLeDiff, Nat.reduceLT, Int.reduceEq, Int.reduceAdd, Int.reduceSub, Int.reduceMul, Int.reduceNeg, Int.reduceLT, Int.reduceLE, Int.reduceToNat, Int.reduceBEq, Int.reduceNe, reduceCtorEq, y1, y2, y3, y4, y5, y6, tk, be, z, h03, eqls_52] <;> omega) | omega) only [go_sem, Nat.reduceBEq, Nat.reduceAdd, Nat.reduceMul, Nat.reduceSub, Nat.reduceEqDiff, Nat.reduceLeDiff, Nat.reduceLT, Int.reduceEq, Int.reduceAdd, Int.reduceSub, Int.reduceMul, Int.reduceNeg, Int.reduceLT, Int.reduceLE, Int.reduceToNat, Int.reduceBEq, Int.reduceNe, reduceCtorEq, w64_id, w8_id, w16_id, w32_id, tmod_pos, tdiv_pos, Bool.or_true, Bool.true_or, Bool.or_false, Bool.false_or, Bool.and_false, Bool.false_and, condK_decide, y1, y2, y3, y4, y5, y6, tk, be, z, h03, eqls_52]
  exact hR _ _ ⟨rfl, (z2.front 10).ext⟩
end
end Go.Eng
