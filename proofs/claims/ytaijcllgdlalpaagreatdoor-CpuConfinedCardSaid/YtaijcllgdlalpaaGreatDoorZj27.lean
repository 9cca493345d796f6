/-
  The law CpuConfined.
-/
import Derived.Test.YtaijcllgdlalpaaGreatDoorZj24
import Derived.Test.YtaijcllgdlalpaaGreatDoorZj22
import Derived.Test.YtaijcllgdlalpaaGreatDoorZj19
import Derived.Test.YtaijcllgdlalpaaGreatDoorZj23
import Derived.Test.YtaijcllgdlalpaaGreatDoorZj26
import Derived.Test.YtaijcllgdlalpaaGreatDoorZj11
namespace Go.Eng
set_option linter.unusedSimpArgs false
set_option linter.unusedVariables false
set_option maxRecDepth 16000
set_option maxHeartbeats 4000000
open Go Go.Proofs
theorem noT_zero' : ∀ l ∈ noT, l = zeroL := by
  intro l hl
  simpa [noT] using hl
section
variable {h : Heap}
theorem confined_law {v1 v2 : Value} {P : List PutP} {L : List WordP} (hp : rdL PutP.cells 6 h v1 P) (hL : rdL WordP.cells 2 h v2 L) (hb : ∀ x ∈ L, 0 ≤ x.w ∧ x.w < 4294967296) (g : Bool) (vm se steps : Int) {c : Cp} (f : c.fit) :
    HCalls Tryz.prog 4 #[.agg #[v1, v2, .bool g, .int .i64 vm, .int .i64 se], .agg c.cells.toArray, .int .i64 steps] h fun v h' => v = .bool true ∧ Ext h h' := by
  refine HCalls.via fun R hR => ?_
  refine HCalls.of_dev T4 Tryz.func4 rfl mixed (by kernel_rfl) ?_; rw [Tryz.results4]
  have s0 := ((Sat.init h).push (.cells #[v1, v2, .bool g, .int .i64 vm, .int .i64 se] 25 (0, 0))).push (.cells c.cells.toArray 30 (0, 0))
  simp only [size_push'] at s0
  have tk := take_cpu f
  simp (maxSteps := 2000000) (disch := first | (simp only [go_sem, Nat.reduceBEq, Nat.reduceAdd, Nat.reduceMul, Nat.reduceSub, Nat.reduceEqDiff, Nat.reduceLeDiff, Nat.reduceLT, Int.reduceEq, Int.reduceAdd, Int.reduceSub, Int.reduceMul, Int.reduceNeg, Int.reduceLT, Int.reduceLE, Int.reduceToNat, Int.reduceBEq, Int.reduceNe, reduceCtorEq, tk] <;> omega) | omega) only [go_sem, Nat.reduceBEq, Nat.reduceAdd, Nat.reduceMul, Nat.reduceSub, Nat.reduceEqDiff, Nat.reduceLeDiff, Nat.reduceLT, Int.reduceEq, Int.reduceAdd, Int.reduceSub, Int.reduceMul, Int.reduceNeg, Int.reduceLT, Int.reduceLE, Int.reduceToNat, Int.reduceBEq, Int.reduceNe, reduceCtorEq, w64_id, w8_id, w16_id, w32_id, tmod_pos, tdiv_pos, Bool.or_true, Bool.true_or, Bool.or_false, Bool.false_or, Bool.and_false, Bool.false_and, condK_decide, tk]
  refine awake_S.mono ?_
  rintro v h1 ⟨rfl, x1⟩
  have s1 := s0.grow x1
  have gx := (s1.front 1).get
  simp (maxSteps := 2000000) (disch := first | (simp only [go_sem, Nat.reduceBEq, Nat.reduceAdd, Nat.reduceMul, Nat.reduceSub, Nat.reduceEqDiff, Nat.reduceLeDiff, Nat.reduceLT, Int.reduceEq, Int.reduceAdd, Int.reduceSub, Int.reduceMul, Int.reduceNeg, Int.reduceLT, Int.reduceLE, Int.reduceToNat, Int.reduceBEq, Int.reduceNe, reduceCtorEq, gx] <;> omega) | omega) only [go_sem, Nat.reduceBEq, Nat.reduceAdd, Nat.reduceMul, Nat.reduceSub, Nat.reduceEqDiff, Nat.reduceLeDiff, Nat.reduceLT, Int.reduceEq, Int.reduceAdd, Int.reduceSub, Int.reduceMul, Int.reduceNeg, Int.reduceLT, Int.reduceLE, Int.reduceToNat, Int.reduceBEq, Int.reduceNe, reduceCtorEq, w64_id, w8_id, w16_id, w32_id, tmod_pos, tdiv_pos, Bool.or_true, Bool.true_or, Bool.or_false, Bool.false_or, Bool.and_false, Bool.false_and, condK_decide, gx]
  have e1 := (s1.front 2).ext
  refine (made_S2 hb g vm se (hp.ext e1) (hL.ext e1)).mono ?_
  rintro v h2 ⟨rb, tb, pv, rrb, rtb, y3, rfl, m1⟩
  generalize hmem : memP P L = mem at m1
  generalize hV : (if g = true then some (256 : Int) else none) = V at m1
  have m1' : Sat h2 (starL [_, _, _] :: [oldS h1]) := Sat.star.2 m1
  have s2 := Sat.star.1 (s1.over m1')
  simp only [List.cons_append, List.nil_append] at s2
  have s3 := (s2.push (.cells #[.pointer (some ⟨rb, 0, none⟩), .pointer (some ⟨tb, 0, none⟩), .pointer pv, .pointer (some ⟨rrb, 0, none⟩), .pointer (some ⟨rtb, 0, none⟩), .pointer y3] 43 (0, 0))).push (.cells (boolL 16 fun _ => false).toArray 65 (0, 0))
  simp only [size_push'] at s3
  simp (maxSteps := 2000000) (disch := first | (simp only [go_sem, Nat.reduceBEq, Nat.reduceAdd, Nat.reduceMul, Nat.reduceSub, Nat.reduceEqDiff, Nat.reduceLeDiff, Nat.reduceLT, Int.reduceEq, Int.reduceAdd, Int.reduceSub, Int.reduceMul, Int.reduceNeg, Int.reduceLT, Int.reduceLE, Int.reduceToNat, Int.reduceBEq, Int.reduceNe, reduceCtorEq] <;> omega) | omega) only [go_sem, Nat.reduceBEq, Nat.reduceAdd, Nat.reduceMul, Nat.reduceSub, Nat.reduceEqDiff, Nat.reduceLeDiff, Nat.reduceLT, Int.reduceEq, Int.reduceAdd, Int.reduceSub, Int.reduceMul, Int.reduceNeg, Int.reduceLT, Int.reduceLE, Int.reduceToNat, Int.reduceBEq, Int.reduceNe, reduceCtorEq, w64_id, w8_id, w16_id, w32_id, tmod_pos, tdiv_pos, Bool.or_true, Bool.true_or, Bool.or_false, Bool.false_or, Bool.and_false, Bool.false_and, condK_decide]
  refine loopH.intro (fun t : Nat × (Nat → Bool) => (.cons 2 (.int .i64 steps) true (.cons 3 (.pointer (some ⟨h.size, 0, none⟩)) true (.cons 4 (.pointer (some ⟨h.size + 1, 0, none⟩)) true (.cons 7 (.bool true) true (.cons 8 (.pointer (some ⟨h2.size, 0, none⟩)) true (.cons 10 (.pointer (some ⟨h2.size + 1, 0, none⟩)) true (.cons 11 (.int .i64 t.1) true .nil))))))))
    (fun t h' => t.1 ≤ 1024 ∧ Sat h' [cellAt (h2.size + 1) (.cells (boolL 16 t.2).toArray 65 (0, 0)), cellAt h2.size (.cells #[.pointer (some ⟨rb, 0, none⟩), .pointer (some ⟨tb, 0, none⟩), .pointer pv, .pointer (some ⟨rrb, 0, none⟩), .pointer (some ⟨rtb, 0, none⟩), .pointer y3] 43 (0, 0)), mchS 16 rb tb (.pointer pv) ⟨mem, noT, V⟩, refRamS rrb 16 mem,
      cellAt rtb (.cells (List.replicate 42 (Value.int .i64 0)).toArray 101 (0, 0)), cellAt (h.size + 1) (.cells c.cells.toArray 30 (0, 0)), cellAt h.size (.cells #[v1, v2, .bool g, .int .i64 vm, .int .i64 se] 25 (0, 0)), oldS h] ∧ ∀ F : Nat, F < 16 → (t.2 F = true ↔ seenF 16 mem se t.1 F)) (fun t _ => 1025 - t.1) (0, fun _ => false) ?_ ⟨by simp, s3, fun F _ => ?_⟩ ?_
  · rfl
  · simp only
    exact ⟨fun e => absurd e (by simp), fun ⟨p, a, b, _⟩ => absurd b (by omega)⟩
  clear s3 s2 s1 s0 m1 gx
  rintro ⟨k, gm⟩ h3 ⟨hk, s, hg⟩
  simp only at hk s hg
  have gb := (s.front 1).get
  have gx := (s.front 6).get
  have gmay := s.get
  by_cases q : (k : Int) < 1024
  · simp (maxSteps := 2000000) (disch := first | (simp only [go_sem, Nat.reduceBEq, Nat.reduceAdd, Nat.reduceMul, Nat.reduceSub, Nat.reduceEqDiff, Nat.reduceLeDiff, Nat.reduceLT, Int.reduceEq, Int.reduceAdd, Int.reduceSub, Int.reduceMul, Int.reduceNeg, Int.reduceLT, Int.reduceLE, Int.reduceToNat, Int.reduceBEq, Int.reduceNe, reduceCtorEq, q, gb, gx] <;> omega) | omega) only [go_sem, Nat.reduceBEq, Nat.reduceAdd, Nat.reduceMul, Nat.reduceSub, Nat.reduceEqDiff, Nat.reduceLeDiff, Nat.reduceLT, Int.reduceEq, Int.reduceAdd, Int.reduceSub, Int.reduceMul, Int.reduceNeg, Int.reduceLT, Int.reduceLE, Int.reduceToNat, Int.reduceBEq, Int.reduceNe, reduceCtorEq, w64_id, w8_id, w16_id, w32_id, tmod_pos, tdiv_pos, Bool.or_true, Bool.true_or, Bool.or_false, Bool.false_or, Bool.and_false, Bool.false_and, condK_decide, q, gb, gx]
    refine (single_S (Sat.star.1 (s.front 2)) se k).mono ?_
    rintro v h4 ⟨rfl, x4⟩
    obtain ⟨fr0, fr1, ri0, ri1⟩ := sgW_bd 16 mem se k
    have hsucc := fun F : Int => seenF_succ (n := 16) (m := mem) (root := se) (F := F) (k := k)
    unfold Wlk.val
    generalize sgW 16 mem se k = W at *
    obtain ⟨fr, ri, ff⟩ := W
    have s4 := s.grow x4
    have s5 := s4.push (.cells ff.cells.toArray 47 (0, 0))
    simp only [Flt.cells_eq] at s5
    simp only at fr0 fr1 hsucc
    simp (maxSteps := 2000000) (disch := first | (simp only [go_sem, Nat.reduceBEq, Nat.reduceAdd, Nat.reduceMul, Nat.reduceSub, Nat.reduceEqDiff, Nat.reduceLeDiff, Nat.reduceLT, Int.reduceEq, Int.reduceAdd, Int.reduceSub, Int.reduceMul, Int.reduceNeg, Int.reduceLT, Int.reduceLE, Int.reduceToNat, Int.reduceBEq, Int.reduceNe, reduceCtorEq, s5.get] <;> omega) | omega) only [go_sem, Nat.reduceBEq, Nat.reduceAdd, Nat.reduceMul, Nat.reduceSub, Nat.reduceEqDiff, Nat.reduceLeDiff, Nat.reduceLT, Int.reduceEq, Int.reduceAdd, Int.reduceSub, Int.reduceMul, Int.reduceNeg, Int.reduceLT, Int.reduceLE, Int.reduceToNat, Int.reduceBEq, Int.reduceNe, reduceCtorEq, w64_id, w8_id, w16_id, w32_id, tmod_pos, tdiv_pos, Bool.or_true, Bool.true_or, Bool.or_false, Bool.false_or, Bool.and_false, Bool.false_and, condK_decide, s5.get]
    refine ⟨fun q1 => ?_, fun q1 => ?_⟩
    · simp only [Bool.and_eq_true, decide_eq_true_eq] at q1
      obtain ⟨⟨a1, a2⟩, a3⟩ := q1
      have i1 : fr < 16 := a3
      have l1 : fr.toNat < (boolL 16 gm).length := by rw [boolL_len]; omega
      have sc := boolL_set (n := 16) (g := gm) (k := fr.toNat) (x := true)
      have g5 := (s5.front 1).get
      have s6 := (s5.front 1).set (.cells (boolL 16 fun j => if j = fr.toNat then true else gm j).toArray 65 (0, 0))
      simp (maxSteps := 2000000) (disch := first | (simp only [go_sem, Nat.reduceBEq, Nat.reduceAdd, Nat.reduceMul, Nat.reduceSub, Nat.reduceEqDiff, Nat.reduceLeDiff, Nat.reduceLT, Int.reduceEq, Int.reduceAdd, Int.reduceSub, Int.reduceMul, Int.reduceNeg, Int.reduceLT, Int.reduceLE, Int.reduceToNat, Int.reduceBEq, Int.reduceNe, reduceCtorEq, fr0, i1, g5, l1, sc] <;> omega) | omega) only [go_sem, Nat.reduceBEq, Nat.reduceAdd, Nat.reduceMul, Nat.reduceSub, Nat.reduceEqDiff, Nat.reduceLeDiff, Nat.reduceLT, Int.reduceEq, Int.reduceAdd, Int.reduceSub, Int.reduceMul, Int.reduceNeg, Int.reduceLT, Int.reduceLE, Int.reduceToNat, Int.reduceBEq, Int.reduceNe, reduceCtorEq, w64_id, w8_id, w16_id, w32_id, tmod_pos, tdiv_pos, Bool.or_true, Bool.true_or, Bool.or_false, Bool.false_or, Bool.and_false, Bool.false_and, condK_decide, fr0, i1, g5, l1, sc]
      refine ⟨(k + 1, fun j => if j = fr.toNat then true else gm j), rfl, ⟨by simp only; omega, s6.drop1, fun F hF => ?_⟩, by simp only; omega⟩
      try simp only
      rw [hsucc, ← hg F hF]
      by_cases e : F = fr.toNat
      · rw [if_pos e]
        exact ⟨fun _ => .inr ⟨a1, a2, by omega⟩, fun _ => rfl⟩
      · rw [if_neg e]
        exact ⟨.inl, fun x => x.elim id fun ⟨_, _, y⟩ => absurd y (by omega)⟩
    · refine ⟨(k + 1, gm), rfl, ⟨by simp only; omega, s5.tail, fun F hF => ?_⟩, by simp only; omega⟩
      try simp only
      rw [hsucc, ← hg F hF]
      refine ⟨.inl, fun x => x.elim id fun ⟨y1, y2, y3⟩ => ?_⟩
      exfalso
      simp only [Bool.and_eq_false_iff, decide_eq_false_iff_not] at q1
      rcases q1 with (y | y) | y
      · exact y y1
      · exact y y2
      · exact y (by omega)
  obtain rfl : k = 1024 := by omega
  have out : R (.bool true) h3 := hR _ _ ⟨rfl, (s.front 7).ext⟩
  by_cases c0 : se < 0
  · simp (maxSteps := 2000000) (disch := first | (simp only [go_sem, Nat.reduceBEq, Nat.reduceAdd, Nat.reduceMul, Nat.reduceSub, Nat.reduceEqDiff, Nat.reduceLeDiff, Nat.reduceLT, Int.reduceEq, Int.reduceAdd, Int.reduceSub, Int.reduceMul, Int.reduceNeg, Int.reduceLT, Int.reduceLE, Int.reduceToNat, Int.reduceBEq, Int.reduceNe, reduceCtorEq, q, gx, c0] <;> omega) | omega) only [go_sem, Nat.reduceBEq, Nat.reduceAdd, Nat.reduceMul, Nat.reduceSub, Nat.reduceEqDiff, Nat.reduceLeDiff, Nat.reduceLT, Int.reduceEq, Int.reduceAdd, Int.reduceSub, Int.reduceMul, Int.reduceNeg, Int.reduceLT, Int.reduceLE, Int.reduceToNat, Int.reduceBEq, Int.reduceNe, reduceCtorEq, w64_id, w8_id, w16_id, w32_id, tmod_pos, tdiv_pos, Bool.or_true, Bool.true_or, Bool.or_false, Bool.false_or, Bool.and_false, Bool.false_and, condK_decide, q, gx, c0]
    repeat (first | exact out | refine rdK_any fun _ => ?_)
  by_cases c1 : 15 < se
  · simp (maxSteps := 2000000) (disch := first | (simp only [go_sem, Nat.reduceBEq, Nat.reduceAdd, Nat.reduceMul, Nat.reduceSub, Nat.reduceEqDiff, Nat.reduceLeDiff, Nat.reduceLT, Int.reduceEq, Int.reduceAdd, Int.reduceSub, Int.reduceMul, Int.reduceNeg, Int.reduceLT, Int.reduceLE, Int.reduceToNat, Int.reduceBEq, Int.reduceNe, reduceCtorEq, q, gx, c0, c1] <;> omega) | omega) only [go_sem, Nat.reduceBEq, Nat.reduceAdd, Nat.reduceMul, Nat.reduceSub, Nat.reduceEqDiff, Nat.reduceLeDiff, Nat.reduceLT, Int.reduceEq, Int.reduceAdd, Int.reduceSub, Int.reduceMul, Int.reduceNeg, Int.reduceLT, Int.reduceLE, Int.reduceToNat, Int.reduceBEq, Int.reduceNe, reduceCtorEq, w64_id, w8_id, w16_id, w32_id, tmod_pos, tdiv_pos, Bool.or_true, Bool.true_or, Bool.or_false, Bool.false_or, Bool.and_false, Bool.false_and, condK_decide, q, gx, c0, c1]
    repeat (first | exact out | refine rdK_any fun _ => ?_)
  have i0 : 0 ≤ se := by omega
  have i1 : se < 16 := by omega
  have nm : nthL (boolL 16 gm) se.toNat = some (.bool (gm se.toNat)) := by rw [nthL_eq]; exact boolL_get (by omega)
  cases hgs : gm se.toNat with
  | true =>
    rw [hgs] at nm
    simp (maxSteps := 2000000) (disch := first | (simp only [go_sem, Nat.reduceBEq, Nat.reduceAdd, Nat.reduceMul, Nat.reduceSub, Nat.reduceEqDiff, Nat.reduceLeDiff, Nat.reduceLT, Int.reduceEq, Int.reduceAdd, Int.reduceSub, Int.reduceMul, Int.reduceNeg, Int.reduceLT, Int.reduceLE, Int.reduceToNat, Int.reduceBEq, Int.reduceNe, reduceCtorEq, q, gx, c0, c1, i0, i1, gmay, nm] <;> omega) | omega) only [go_sem, Nat.reduceBEq, Nat.reduceAdd, Nat.reduceMul, Nat.reduceSub, Nat.reduceEqDiff, Nat.reduceLeDiff, Nat.reduceLT, Int.reduceEq, Int.reduceAdd, Int.reduceSub, Int.reduceMul, Int.reduceNeg, Int.reduceLT, Int.reduceLE, Int.reduceToNat, Int.reduceBEq, Int.reduceNe, reduceCtorEq, w64_id, w8_id, w16_id, w32_id, tmod_pos, tdiv_pos, Bool.or_true, Bool.true_or, Bool.or_false, Bool.false_or, Bool.and_false, Bool.false_and, condK_decide, q, gx, c0, c1, i0, i1, gmay, nm]
    exact out
  | false =>
  rw [hgs] at nm
  simp (maxSteps := 2000000) (disch := first | (simp only [go_sem, Nat.reduceBEq, Nat.reduceAdd, Nat.reduceMul, Nat.reduceSub, Nat.reduceEqDiff, Nat.reduceLeDiff, Nat.reduceLT, Int.reduceEq, Int.reduceAdd, Int.reduceSub, Int.reduceMul, Int.reduceNeg, Int.reduceLT, Int.reduceLE, Int.reduceToNat, Int.reduceBEq, Int.reduceNe, reduceCtorEq, q, gx, c0, c1, i0, i1, gmay, nm] <;> omega) | omega) only [go_sem, Nat.reduceBEq, Nat.reduceAdd, Nat.reduceMul, Nat.reduceSub, Nat.reduceEqDiff, Nat.reduceLeDiff, Nat.reduceLT, Int.reduceEq, Int.reduceAdd, Int.reduceSub, Int.reduceMul, Int.reduceNeg, Int.reduceLT, Int.reduceLE, Int.reduceToNat, Int.reduceBEq, Int.reduceNe, reduceCtorEq, w64_id, w8_id, w16_id, w32_id, tmod_pos, tdiv_pos, Bool.or_true, Bool.true_or, Bool.or_false, Bool.false_or, Bool.and_false, Bool.false_and, condK_decide, q, gx, c0, c1, i0, i1, gmay, nm]
  refine loopH.intro (fun i : Nat => (.cons 2 (.int .i64 steps) true (.cons 3 (.pointer (some ⟨h.size, 0, none⟩)) true (.cons 4 (.pointer (some ⟨h.size + 1, 0, none⟩)) true (.cons 7 (.bool true) true (.cons 8 (.pointer (some ⟨h2.size, 0, none⟩)) true (.cons 10 (.pointer (some ⟨h2.size + 1, 0, none⟩)) true (.cons 15 (.int .i64 i) true .nil))))))))
    (fun i h' => i ≤ 32 ∧ Sat h' [cellAt (h2.size + 1) (.cells (boolL 16 gm).toArray 65 (0, 0)), cellAt h2.size (.cells #[.pointer (some ⟨rb, 0, none⟩), .pointer (some ⟨tb, 0, none⟩), .pointer pv, .pointer (some ⟨rrb, 0, none⟩), .pointer (some ⟨rtb, 0, none⟩), .pointer y3] 43 (0, 0)), mchS 16 rb tb (.pointer pv) ⟨mem, noT, V⟩, refRamS rrb 16 mem,
      cellAt rtb (.cells (List.replicate 42 (Value.int .i64 0)).toArray 101 (0, 0)), cellAt (h.size + 1) (.cells c.cells.toArray 30 (0, 0)), cellAt h.size (.cells #[v1, v2, .bool g, .int .i64 vm, .int .i64 se] 25 (0, 0)), oldS h] ∧
      ∀ j : Int, 0 ≤ j → j < i → ¬ ((getE 16 mem se j).2 = 0 ∧ (getE 16 mem se j).1.V = true ∧ (getE 16 mem se j).1.L = false ∧ (getE 16 mem se j).1.F < 16 ∧ gm (getE 16 mem se j).1.F.toNat = true)) (fun i _ => 33 - i) 0 ?_ ⟨by omega, s, fun j a b => absurd b (by omega)⟩ ?_
  · rfl
  clear s gb gx gmay out
  rintro i h5 ⟨hi, s, hj⟩
  have gb := (s.front 1).get
  have gx := (s.front 6).get
  by_cases q2 : (i : Int) < 32
  · simp (maxSteps := 2000000) (disch := first | (simp only [go_sem, Nat.reduceBEq, Nat.reduceAdd, Nat.reduceMul, Nat.reduceSub, Nat.reduceEqDiff, Nat.reduceLeDiff, Nat.reduceLT, Int.reduceEq, Int.reduceAdd, Int.reduceSub, Int.reduceMul, Int.reduceNeg, Int.reduceLT, Int.reduceLE, Int.reduceToNat, Int.reduceBEq, Int.reduceNe, reduceCtorEq, q2, gb, gx] <;> omega) | omega) only [go_sem, Nat.reduceBEq, Nat.reduceAdd, Nat.reduceMul, Nat.reduceSub, Nat.reduceEqDiff, Nat.reduceLeDiff, Nat.reduceLT, Int.reduceEq, Int.reduceAdd, Int.reduceSub, Int.reduceMul, Int.reduceNeg, Int.reduceLT, Int.reduceLE, Int.reduceToNat, Int.reduceBEq, Int.reduceNe, reduceCtorEq, w64_id, w8_id, w16_id, w32_id, tmod_pos, tdiv_pos, Bool.or_true, Bool.true_or, Bool.or_false, Bool.false_or, Bool.and_false, Bool.false_and, condK_decide, q2, gb, gx]
    refine (rptGet_S (s.front 3) se i).mono ?_
    rintro v h6 ⟨rfl, x6⟩
    obtain ⟨b0, b1, b2, b3⟩ := getE_bd 16 mem se i
    have hlast : ∀ j : Int, 0 ≤ j → j < (i + 1 : Nat) → j ≠ i → ¬ ((getE 16 mem se j).2 = 0 ∧ (getE 16 mem se j).1.V = true ∧ (getE 16 mem se j).1.L = false ∧ (getE 16 mem se j).1.F < 16 ∧ gm (getE 16 mem se j).1.F.toNat = true) := fun j a b c => hj j a (by omega)
    have hnew : ¬ ((getE 16 mem se i).2 = 0 ∧ (getE 16 mem se i).1.V = true ∧ (getE 16 mem se i).1.L = false ∧ (getE 16 mem se i).1.F < 16 ∧ gm (getE 16 mem se i).1.F.toNat = true) → ∀ j : Int, 0 ≤ j → j < (i + 1 : Nat) → ¬ ((getE 16 mem se j).2 = 0 ∧ (getE 16 mem se j).1.V = true ∧ (getE 16 mem se j).1.L = false ∧ (getE 16 mem se j).1.F < 16 ∧ gm (getE 16 mem se j).1.F.toNat = true) := fun z j a b => by
      by_cases e : j = i
      · subst e; exact z
      · exact hlast j a b e
    clear hlast hj
    generalize getE 16 mem se i = G at *
    obtain ⟨⟨gV, gL, gR, gF⟩, ge⟩ := G
    simp only at b0 b1 hnew
    have s7 := (s.grow x6).push (.cells #[.bool gV, .bool gL, .int .i64 gR, .int .i64 gF] 51 (0, 0))
    have out : R (.bool true) (h6.push (.cells #[.bool gV, .bool gL, .int .i64 gR, .int .i64 gF] 51 (0, 0))) := hR _ _ ⟨rfl, (s7.front 8).ext⟩
    have next : ¬ (ge = 0 ∧ gV = true ∧ gL = false ∧ gF < 16 ∧ gm gF.toNat = true) → Again (fun i : Nat => (.cons 2 (.int .i64 steps) true (.cons 3 (.pointer (some ⟨h.size, 0, none⟩)) true (.cons 4 (.pointer (some ⟨h.size + 1, 0, none⟩)) true (.cons 7 (.bool true) true (.cons 8 (.pointer (some ⟨h2.size, 0, none⟩)) true (.cons 10 (.pointer (some ⟨h2.size + 1, 0, none⟩)) true (.cons 15 (.int .i64 i) true .nil)))))))) (fun i h' => i ≤ 32 ∧ Sat h' [cellAt (h2.size + 1) (.cells (boolL 16 gm).toArray 65 (0, 0)), cellAt h2.size (.cells #[.pointer (some ⟨rb, 0, none⟩), .pointer (some ⟨tb, 0, none⟩), .pointer pv, .pointer (some ⟨rrb, 0, none⟩), .pointer (some ⟨rtb, 0, none⟩), .pointer y3] 43 (0, 0)), mchS 16 rb tb (.pointer pv) ⟨mem, noT, V⟩, refRamS rrb 16 mem,
      cellAt rtb (.cells (List.replicate 42 (Value.int .i64 0)).toArray 101 (0, 0)), cellAt (h.size + 1) (.cells c.cells.toArray 30 (0, 0)), cellAt h.size (.cells #[v1, v2, .bool g, .int .i64 vm, .int .i64 se] 25 (0, 0)), oldS h] ∧
      ∀ j : Int, 0 ≤ j → j < i → ¬ ((getE 16 mem se j).2 = 0 ∧ (getE 16 mem se j).1.V = true ∧ (getE 16 mem se j).1.L = false ∧ (getE 16 mem se j).1.F < 16 ∧ gm (getE 16 mem se j).1.F.toNat = true)) (fun i _ => 33 - i) (33 - i) ((.cons 2 (.int .i64 steps) true (.cons 3 (.pointer (some ⟨h.size, 0, none⟩)) true (.cons 4 (.pointer (some ⟨h.size + 1, 0, none⟩)) true (.cons 7 (.bool true) true (.cons 8 (.pointer (some ⟨h2.size, 0, none⟩)) true (.cons 10 (.pointer (some ⟨h2.size + 1, 0, none⟩)) true (.cons 15 (.int .i64 ((i : Int) + 1)) true .nil)))))))) (h6.push (.cells #[.bool gV, .bool gL, .int .i64 gR, .int .i64 gF] 51 (0, 0))) :=
      fun z => ⟨i + 1, rfl, ⟨by omega, s7.tail, hnew z⟩, by simp only; omega⟩
    by_cases k0 : ge = 0
    · by_cases k1 : gF < 16
      · have nF : nthL (boolL 16 gm) gF.toNat = some (.bool (gm gF.toNat)) := by rw [nthL_eq]; exact boolL_get (by omega)
        have gmay := (s7.front 1).get
        cases hgF : gm gF.toNat
        all_goals
          rw [hgF] at nF next
          cases gV <;> cases gL
        all_goals simp (maxSteps := 2000000) (disch := first | (simp only [go_sem, Nat.reduceBEq, Nat.reduceAdd, Nat.reduceMul, Nat.reduceSub, Nat.reduceEqDiff, Nat.reduceLeDiff, Nat.reduceLT, Int.reduceEq, Int.reduceAdd, Int.reduceSub, Int.reduceMul, Int.reduceNeg, Int.reduceLT, Int.reduceLE, Int.reduceToNat, Int.reduceBEq, Int.reduceNe, reduceCtorEq, s7.get, k0, k1, b0, gmay, nF] <;> omega) | omega) only [go_sem, Nat.reduceBEq, Nat.reduceAdd, Nat.reduceMul, Nat.reduceSub, Nat.reduceEqDiff, Nat.reduceLeDiff, Nat.reduceLT, Int.reduceEq, Int.reduceAdd, Int.reduceSub, Int.reduceMul, Int.reduceNeg, Int.reduceLT, Int.reduceLE, Int.reduceToNat, Int.reduceBEq, Int.reduceNe, reduceCtorEq, w64_id, w8_id, w16_id, w32_id, tmod_pos, tdiv_pos, Bool.or_true, Bool.true_or, Bool.or_false, Bool.false_or, Bool.and_false, Bool.false_and, condK_decide, s7.get, k0, k1, b0, gmay, nF]
        all_goals first
          | exact next (by simp)
          | exact out
      · cases gV <;> cases gL
        all_goals simp (maxSteps := 2000000) (disch := first | (simp only [go_sem, Nat.reduceBEq, Nat.reduceAdd, Nat.reduceMul, Nat.reduceSub, Nat.reduceEqDiff, Nat.reduceLeDiff, Nat.reduceLT, Int.reduceEq, Int.reduceAdd, Int.reduceSub, Int.reduceMul, Int.reduceNeg, Int.reduceLT, Int.reduceLE, Int.reduceToNat, Int.reduceBEq, Int.reduceNe, reduceCtorEq, s7.get, k0, k1] <;> omega) | omega) only [go_sem, Nat.reduceBEq, Nat.reduceAdd, Nat.reduceMul, Nat.reduceSub, Nat.reduceEqDiff, Nat.reduceLeDiff, Nat.reduceLT, Int.reduceEq, Int.reduceAdd, Int.reduceSub, Int.reduceMul, Int.reduceNeg, Int.reduceLT, Int.reduceLE, Int.reduceToNat, Int.reduceBEq, Int.reduceNe, reduceCtorEq, w64_id, w8_id, w16_id, w32_id, tmod_pos, tdiv_pos, Bool.or_true, Bool.true_or, Bool.or_false, Bool.false_or, Bool.and_false, Bool.false_and, condK_decide, s7.get, k0, k1]
        all_goals
          have nx := next (fun z => k1 z.2.2.2.1)
          repeat (first | exact nx | refine rdK_any fun _ => ?_)
    · simp (maxSteps := 2000000) (disch := first | (simp only [go_sem, Nat.reduceBEq, Nat.reduceAdd, Nat.reduceMul, Nat.reduceSub, Nat.reduceEqDiff, Nat.reduceLeDiff, Nat.reduceLT, Int.reduceEq, Int.reduceAdd, Int.reduceSub, Int.reduceMul, Int.reduceNeg, Int.reduceLT, Int.reduceLE, Int.reduceToNat, Int.reduceBEq, Int.reduceNe, reduceCtorEq, s7.get, k0] <;> omega) | omega) only [go_sem, Nat.reduceBEq, Nat.reduceAdd, Nat.reduceMul, Nat.reduceSub, Nat.reduceEqDiff, Nat.reduceLeDiff, Nat.reduceLT, Int.reduceEq, Int.reduceAdd, Int.reduceSub, Int.reduceMul, Int.reduceNeg, Int.reduceLT, Int.reduceLE, Int.reduceToNat, Int.reduceBEq, Int.reduceNe, reduceCtorEq, w64_id, w8_id, w16_id, w32_id, tmod_pos, tdiv_pos, Bool.or_true, Bool.true_or, Bool.or_false, Bool.false_or, Bool.and_false, Bool.false_and, condK_decide, s7.get, k0]
      have nx := next (fun z => k0 z.1)
      repeat (first | exact nx | refine rdK_any fun _ => ?_)
  obtain rfl : i = 32 := by omega
  have hmay : ∀ F : Int, 0 ≤ F → F < 16 → (gm F.toNat = true ↔ mayF 16 mem se F) := fun F a b => by
    have := hg F.toNat (by omega)
    rwa [Int.toNat_of_nonneg a, seenF_all] at this
  have hshut : shutT 16 mem se := by
    refine shutT_of ?_ ?_
    · intro m
      rw [(hmay se i0 i1).2 m] at hgs
      cases hgs
    · intro j a b e v l hF m
      have hb0 := (getE_bd 16 mem se j).1
      exact hj j a (by omega) ⟨e, v, l, by omega, (hmay _ hb0 (by omega)).2 m⟩
  have hkeep : keepM 16 mem se mem noT := ⟨fun F _ _ => frameEq.rfl, fun l hl hw => by
    rw [noT_zero' l hl] at hw
    exact absurd (by rfl) hw⟩
  simp (maxSteps := 2000000) (disch := first | (simp only [go_sem, Nat.reduceBEq, Nat.reduceAdd, Nat.reduceMul, Nat.reduceSub, Nat.reduceEqDiff, Nat.reduceLeDiff, Nat.reduceLT, Int.reduceEq, Int.reduceAdd, Int.reduceSub, Int.reduceMul, Int.reduceNeg, Int.reduceLT, Int.reduceLE, Int.reduceToNat, Int.reduceBEq, Int.reduceNe, reduceCtorEq, q2] <;> omega) | omega) only [go_sem, Nat.reduceBEq, Nat.reduceAdd, Nat.reduceMul, Nat.reduceSub, Nat.reduceEqDiff, Nat.reduceLeDiff, Nat.reduceLT, Int.reduceEq, Int.reduceAdd, Int.reduceSub, Int.reduceMul, Int.reduceNeg, Int.reduceLT, Int.reduceLE, Int.reduceToNat, Int.reduceBEq, Int.reduceNe, reduceCtorEq, w64_id, w8_id, w16_id, w32_id, tmod_pos, tdiv_pos, Bool.or_true, Bool.true_or, Bool.or_false, Bool.false_or, Bool.and_false, Bool.false_and, condK_decide, q2]
  have s9 := s.push (.cells (List.replicate 16 (Value.slice none 0 0)).toArray 67 (0, 0))
  refine loopH.intro (fun t : Nat × List Value => (.cons 2 (.int .i64 steps) true (.cons 3 (.pointer (some ⟨h.size, 0, none⟩)) true (.cons 4 (.pointer (some ⟨h.size + 1, 0, none⟩)) true (.cons 7 (.bool true) true (.cons 8 (.pointer (some ⟨h2.size, 0, none⟩)) true (.cons 10 (.pointer (some ⟨h2.size + 1, 0, none⟩)) true (.cons 18 (.pointer (some ⟨h5.size, 0, none⟩)) true (.cons 19 (.int .i64 t.1) true .nil)))))))))
    (fun t h' => t.1 ≤ 16 ∧ t.2.length = t.1 ∧ Sat h' [slsS 64 (fun j => memL 64 fun x => mem (64 * j + x)) t.2, cellAt h5.size (.cells (t.2 ++ List.replicate (16 - t.1) (Value.slice none 0 0)).toArray 67 (0, 0)), cellAt (h2.size + 1) (.cells (boolL 16 gm).toArray 65 (0, 0)), cellAt h2.size (.cells #[.pointer (some ⟨rb, 0, none⟩), .pointer (some ⟨tb, 0, none⟩), .pointer pv, .pointer (some ⟨rrb, 0, none⟩), .pointer (some ⟨rtb, 0, none⟩), .pointer y3] 43 (0, 0)), mchS 16 rb tb (.pointer pv) ⟨mem, noT, V⟩, refRamS rrb 16 mem,
      cellAt rtb (.cells (List.replicate 42 (Value.int .i64 0)).toArray 101 (0, 0)), cellAt (h.size + 1) (.cells c.cells.toArray 30 (0, 0)), cellAt h.size (.cells #[v1, v2, .bool g, .int .i64 vm, .int .i64 se] 25 (0, 0)), oldS h]) (fun t _ => 17 - t.1) (0, []) ?_ ⟨by simp, rfl, sls_nil s9⟩ ?_
  · rfl
  clear s9 s gb gx hj
  rintro ⟨i, W⟩ h6 ⟨hi, hW, s⟩
  simp only at hi hW s
  have gb := (s.front 3).get
  by_cases q3 : (i : Int) < 16
  · simp (maxSteps := 2000000) (disch := first | (simp only [go_sem, Nat.reduceBEq, Nat.reduceAdd, Nat.reduceMul, Nat.reduceSub, Nat.reduceEqDiff, Nat.reduceLeDiff, Nat.reduceLT, Int.reduceEq, Int.reduceAdd, Int.reduceSub, Int.reduceMul, Int.reduceNeg, Int.reduceLT, Int.reduceLE, Int.reduceToNat, Int.reduceBEq, Int.reduceNe, reduceCtorEq, q3, gb] <;> omega) | omega) only [go_sem, Nat.reduceBEq, Nat.reduceAdd, Nat.reduceMul, Nat.reduceSub, Nat.reduceEqDiff, Nat.reduceLeDiff, Nat.reduceLT, Int.reduceEq, Int.reduceAdd, Int.reduceSub, Int.reduceMul, Int.reduceNeg, Int.reduceLT, Int.reduceLE, Int.reduceToNat, Int.reduceBEq, Int.reduceNe, reduceCtorEq, w64_id, w8_id, w16_id, w32_id, tmod_pos, tdiv_pos, Bool.or_true, Bool.true_or, Bool.or_false, Bool.false_or, Bool.and_false, Bool.false_and, condK_decide, q3, gb]
    refine (frame_S (Sat.star.1 (s.front 4)) i).mono ?_
    rintro v h7 (⟨-, -, w, rfl, s4⟩ | ⟨z, -⟩)
    · rw [Int.toNat_natCast] at s4
      obtain ⟨sl, cap, rfl, -⟩ := s4.elems
      have l1 : i < (W ++ List.replicate (16 - i) (Value.slice none 0 0)).length := by rw [List.length_append, List.length_replicate]; omega
      have sc : (W ++ List.replicate (16 - i) (Value.slice none 0 0)).set i (.slice sl 64 cap) = (W ++ [Value.slice sl 64 cap]) ++ List.replicate (16 - (i + 1)) (Value.slice none 0 0) := by
        rw [List.set_append_right _ _ (by omega), hW, Nat.sub_self, show 16 - i = (16 - (i + 1)) + 1 by omega, List.replicate_succ, List.set_cons_zero, List.append_assoc]
        rfl
      have j0 : (0 : Int) ≤ i := by omega
      have gbe := (s4.front 5).get
      have s5 := (s4.front 5).set (.cells ((W ++ [Value.slice sl 64 cap]) ++ List.replicate (16 - (i + 1)) (Value.slice none 0 0)).toArray 67 (0, 0))
      simp (maxSteps := 2000000) (disch := first | (simp only [go_sem, Nat.reduceBEq, Nat.reduceAdd, Nat.reduceMul, Nat.reduceSub, Nat.reduceEqDiff, Nat.reduceLeDiff, Nat.reduceLT, Int.reduceEq, Int.reduceAdd, Int.reduceSub, Int.reduceMul, Int.reduceNeg, Int.reduceLT, Int.reduceLE, Int.reduceToNat, Int.reduceBEq, Int.reduceNe, reduceCtorEq, q3, j0, gbe, l1, sc] <;> omega) | omega) only [go_sem, Nat.reduceBEq, Nat.reduceAdd, Nat.reduceMul, Nat.reduceSub, Nat.reduceEqDiff, Nat.reduceLeDiff, Nat.reduceLT, Int.reduceEq, Int.reduceAdd, Int.reduceSub, Int.reduceMul, Int.reduceNeg, Int.reduceLT, Int.reduceLE, Int.reduceToNat, Int.reduceBEq, Int.reduceNe, reduceCtorEq, w64_id, w8_id, w16_id, w32_id, tmod_pos, tdiv_pos, Bool.or_true, Bool.true_or, Bool.or_false, Bool.false_or, Bool.and_false, Bool.false_and, condK_decide, q3, j0, gbe, l1, sc]
      have s6 := sls_add (k := i) hW.symm (s5.re [5, 1, 0, 6, 7, 2, 3, 4, 8, 9, 10, 11, 12])
      have s7 : Sat _ (mchS 16 rb tb (.pointer pv) ⟨mem, noT, V⟩ :: _) := Sat.star.2 (s6.re [4, 5, 6, 0, 1, 2, 3, 7, 8, 9, 10, 11])
      exact ⟨(i + 1, W ++ [Value.slice sl 64 cap]), rfl, ⟨by simp only; omega, by simp [hW], s7.back 4⟩, by simp only; omega⟩
    · omega
  obtain rfl : i = 16 := by omega
  have gc := (s.front 7).get
  have gx := (s.front 8).get
  simp (maxSteps := 2000000) (disch := first | (simp only [go_sem, Nat.reduceBEq, Nat.reduceAdd, Nat.reduceMul, Nat.reduceSub, Nat.reduceEqDiff, Nat.reduceLeDiff, Nat.reduceLT, Int.reduceEq, Int.reduceAdd, Int.reduceSub, Int.reduceMul, Int.reduceNeg, Int.reduceLT, Int.reduceLE, Int.reduceToNat, Int.reduceBEq, Int.reduceNe, reduceCtorEq, q3, gb, gc, gx, tk] <;> omega) | omega) only [go_sem, Nat.reduceBEq, Nat.reduceAdd, Nat.reduceMul, Nat.reduceSub, Nat.reduceEqDiff, Nat.reduceLeDiff, Nat.reduceLT, Int.reduceEq, Int.reduceAdd, Int.reduceSub, Int.reduceMul, Int.reduceNeg, Int.reduceLT, Int.reduceLE, Int.reduceToNat, Int.reduceBEq, Int.reduceNe, reduceCtorEq, w64_id, w8_id, w16_id, w32_id, tmod_pos, tdiv_pos, Bool.or_true, Bool.true_or, Bool.or_false, Bool.false_or, Bool.and_false, Bool.false_and, condK_decide, q3, gb, gc, gx, tk]
  refine (run_S f (s.front 4) vm se (min steps 200)).mono ?_
  rintro v h7 ⟨rfl, fr, t1⟩
  have hk := runP_k (n := 16) (vm := vm) (se := se) (min (min steps 200) 1000).toNat ⟨mem, noT, V⟩ c 0
  have hK := runP_keep hshut vm (min (min steps 200) 1000).toNat (M := ⟨mem, noT, V⟩) c 0 hkeep
  generalize runP 16 vm se (min (min steps 200) 1000).toNat ⟨mem, noT, V⟩ c 0 = r at *
  obtain ⟨M, cr, tr, kr⟩ := r
  simp only at fr t1 hk hK ⊢
  simp (maxSteps := 2000000) (disch := first | (simp only [go_sem, Nat.reduceBEq, Nat.reduceAdd, Nat.reduceMul, Nat.reduceSub, Nat.reduceEqDiff, Nat.reduceLeDiff, Nat.reduceLT, Int.reduceEq, Int.reduceAdd, Int.reduceSub, Int.reduceMul, Int.reduceNeg, Int.reduceLT, Int.reduceLE, Int.reduceToNat, Int.reduceBEq, Int.reduceNe, reduceCtorEq] <;> omega) | omega) only [go_sem, Nat.reduceBEq, Nat.reduceAdd, Nat.reduceMul, Nat.reduceSub, Nat.reduceEqDiff, Nat.reduceLeDiff, Nat.reduceLT, Int.reduceEq, Int.reduceAdd, Int.reduceSub, Int.reduceMul, Int.reduceNeg, Int.reduceLT, Int.reduceLE, Int.reduceToNat, Int.reduceBEq, Int.reduceNe, reduceCtorEq, w64_id, w8_id, w16_id, w32_id, tmod_pos, tdiv_pos, Bool.or_true, Bool.true_or, Bool.or_false, Bool.false_or, Bool.and_false, Bool.false_and, condK_decide]
  have u0 := (t1.push (.cells (tzeroD Tryz.prog 30).cells 30 (0, 0))).push (.cells okT.cells.toArray 56 (0, 0))
  simp only [tzeroD_30, Trp.cells_eq, okT, okF, size_push'] at u0
  refine store_cpu fr (u0.front 1).get (by rfl) ?_
  have u1 := (t1.push (.cells cr.cells.toArray 30 (0, 0))).push (.cells okT.cells.toArray 56 (0, 0))
  have u2 := (t1.push (.cells cr.cells.toArray 30 (0, 0))).push (.cells tr.cells.toArray 56 (0, 0))
  simp only [Trp.cells_eq, okT, okF, size_push'] at u1 u2
  simp (maxSteps := 2000000) (disch := first | (simp only [go_sem, Nat.reduceBEq, Nat.reduceAdd, Nat.reduceMul, Nat.reduceSub, Nat.reduceEqDiff, Nat.reduceLeDiff, Nat.reduceLT, Int.reduceEq, Int.reduceAdd, Int.reduceSub, Int.reduceMul, Int.reduceNeg, Int.reduceLT, Int.reduceLE, Int.reduceToNat, Int.reduceBEq, Int.reduceNe, reduceCtorEq, u1.get] <;> omega) | omega) only [go_sem, Nat.reduceBEq, Nat.reduceAdd, Nat.reduceMul, Nat.reduceSub, Nat.reduceEqDiff, Nat.reduceLeDiff, Nat.reduceLT, Int.reduceEq, Int.reduceAdd, Int.reduceSub, Int.reduceMul, Int.reduceNeg, Int.reduceLT, Int.reduceLE, Int.reduceToNat, Int.reduceBEq, Int.reduceNe, reduceCtorEq, w64_id, w8_id, w16_id, w32_id, tmod_pos, tdiv_pos, Bool.or_true, Bool.true_or, Bool.or_false, Bool.false_or, Bool.and_false, Bool.false_and, condK_decide, u1.get]
  refine loopH.intro (fun i : Nat => (.cons 7 (.bool true) true (.cons 8 (.pointer (some ⟨h2.size, 0, none⟩)) true (.cons 10 (.pointer (some ⟨h2.size + 1, 0, none⟩)) true (.cons 18 (.pointer (some ⟨h5.size, 0, none⟩)) true (.cons 24 (.int .i64 kr) true (.cons 25 (.int .i64 i) true .nil)))))))
    (fun i h' => i ≤ 16 ∧ Sat h' [mchS 16 rb tb (.pointer pv) M, slsS 64 (fun j => memL 64 fun x => mem (64 * j + x)) W, cellAt h5.size (.cells (W ++ List.replicate (16 - 16) (Value.slice none 0 0)).toArray 67 (0, 0)), cellAt (h2.size + 1) (.cells (boolL 16 gm).toArray 65 (0, 0)), cellAt h2.size (.cells #[.pointer (some ⟨rb, 0, none⟩), .pointer (some ⟨tb, 0, none⟩), .pointer pv, .pointer (some ⟨rrb, 0, none⟩), .pointer (some ⟨rtb, 0, none⟩), .pointer y3] 43 (0, 0)), refRamS rrb 16 mem,
      cellAt rtb (.cells (List.replicate 42 (Value.int .i64 0)).toArray 101 (0, 0)), cellAt (h.size + 1) (.cells c.cells.toArray 30 (0, 0)), cellAt h.size (.cells #[v1, v2, .bool g, .int .i64 vm, .int .i64 se] 25 (0, 0)), oldS h]) (fun i _ => 17 - i) 0 ?_ ⟨by omega, u2.tail.tail⟩ ?_
  · rfl
  clear u0 u1 u2 t1 s gb gc gx
  rintro i h8 ⟨hi, s⟩
  have gb := (s.front 4).get
  by_cases q4 : (i : Int) < 16
  · simp (maxSteps := 2000000) (disch := first | (simp only [go_sem, Nat.reduceBEq, Nat.reduceAdd, Nat.reduceMul, Nat.reduceSub, Nat.reduceEqDiff, Nat.reduceLeDiff, Nat.reduceLT, Int.reduceEq, Int.reduceAdd, Int.reduceSub, Int.reduceMul, Int.reduceNeg, Int.reduceLT, Int.reduceLE, Int.reduceToNat, Int.reduceBEq, Int.reduceNe, reduceCtorEq, q4, gb] <;> omega) | omega) only [go_sem, Nat.reduceBEq, Nat.reduceAdd, Nat.reduceMul, Nat.reduceSub, Nat.reduceEqDiff, Nat.reduceLeDiff, Nat.reduceLT, Int.reduceEq, Int.reduceAdd, Int.reduceSub, Int.reduceMul, Int.reduceNeg, Int.reduceLT, Int.reduceLE, Int.reduceToNat, Int.reduceBEq, Int.reduceNe, reduceCtorEq, w64_id, w8_id, w16_id, w32_id, tmod_pos, tdiv_pos, Bool.or_true, Bool.true_or, Bool.or_false, Bool.false_or, Bool.and_false, Bool.false_and, condK_decide, q4, gb]
    refine (frame_S (Sat.star.1 s) i).mono ?_
    rintro v h9 (⟨-, -, w, rfl, s4⟩ | ⟨z, -⟩)
    · rw [Int.toNat_natCast] at s4
      have hiW : i < W.length := by omega
      have gbe := (s4.front 5).get
      have nW : nthL (W ++ List.replicate (16 - 16) (Value.slice none 0 0)) i = some W[i] := by rw [nthL_eq, List.getElem?_append_left hiW, List.getElem?_eq_getElem hiW]
      have j0 : (0 : Int) ≤ i := by omega
      have gmay := (s4.front 6).get
      have nm : nthL (boolL 16 gm) i = some (.bool (gm i)) := by rw [nthL_eq]; exact boolL_get (by omega)
      simp (maxSteps := 2000000) (disch := first | (simp only [go_sem, Nat.reduceBEq, Nat.reduceAdd, Nat.reduceMul, Nat.reduceSub, Nat.reduceEqDiff, Nat.reduceLeDiff, Nat.reduceLT, Int.reduceEq, Int.reduceAdd, Int.reduceSub, Int.reduceMul, Int.reduceNeg, Int.reduceLT, Int.reduceLE, Int.reduceToNat, Int.reduceBEq, Int.reduceNe, reduceCtorEq, q4, j0, gbe, nW] <;> omega) | omega) only [go_sem, Nat.reduceBEq, Nat.reduceAdd, Nat.reduceMul, Nat.reduceSub, Nat.reduceEqDiff, Nat.reduceLeDiff, Nat.reduceLT, Int.reduceEq, Int.reduceAdd, Int.reduceSub, Int.reduceMul, Int.reduceNeg, Int.reduceLT, Int.reduceLE, Int.reduceToNat, Int.reduceBEq, Int.reduceNe, reduceCtorEq, w64_id, w8_id, w16_id, w32_id, tmod_pos, tdiv_pos, Bool.or_true, Bool.true_or, Bool.or_false, Bool.false_or, Bool.and_false, Bool.false_and, condK_decide, q4, j0, gbe, nW]
      obtain ⟨G, sp⟩ := sls_pick2 (s4.front 4) hiW
      refine (same_S sp (by omega) (by omega)).mono ?_
      rintro r h10 ⟨b, rfl, hb2, rfl⟩
      have s5 := s4.tail
      have s6 : Sat h10 (mchS 16 rb tb (.pointer pv) M :: _) := Sat.star.2 s5
      cases hbb : b with
      | true =>
        simp (maxSteps := 2000000) (disch := first | (simp only [go_sem, Nat.reduceBEq, Nat.reduceAdd, Nat.reduceMul, Nat.reduceSub, Nat.reduceEqDiff, Nat.reduceLeDiff, Nat.reduceLT, Int.reduceEq, Int.reduceAdd, Int.reduceSub, Int.reduceMul, Int.reduceNeg, Int.reduceLT, Int.reduceLE, Int.reduceToNat, Int.reduceBEq, Int.reduceNe, reduceCtorEq] <;> omega) | omega) only [go_sem, Nat.reduceBEq, Nat.reduceAdd, Nat.reduceMul, Nat.reduceSub, Nat.reduceEqDiff, Nat.reduceLeDiff, Nat.reduceLT, Int.reduceEq, Int.reduceAdd, Int.reduceSub, Int.reduceMul, Int.reduceNeg, Int.reduceLT, Int.reduceLE, Int.reduceToNat, Int.reduceBEq, Int.reduceNe, reduceCtorEq, w64_id, w8_id, w16_id, w32_id, tmod_pos, tdiv_pos, Bool.or_true, Bool.true_or, Bool.or_false, Bool.false_or, Bool.and_false, Bool.false_and, condK_decide]
        refine rdK_any fun _ => rdK_any fun _ => ?_
        exact ⟨i + 1, rfl, ⟨by omega, s6⟩, by simp only; omega⟩
      | false =>
        have hgi : gm i = true := by
          cases hgi : gm i with
          | true => rfl
          | false =>
            exfalso
            have nomay : ¬ mayF 16 mem se i := fun m => by
              have := (hmay i (by omega) (by omega)).2 m
              rw [Int.toNat_natCast, hgi] at this
              cases this
            have := hK.mem i (by omega) nomay
            have hb3 := hb2.2 ⟨rfl, fun j hj => this j hj⟩
            rw [hbb] at hb3
            cases hb3
        rw [hgi] at nm
        simp (maxSteps := 2000000) (disch := first | (simp only [go_sem, Nat.reduceBEq, Nat.reduceAdd, Nat.reduceMul, Nat.reduceSub, Nat.reduceEqDiff, Nat.reduceLeDiff, Nat.reduceLT, Int.reduceEq, Int.reduceAdd, Int.reduceSub, Int.reduceMul, Int.reduceNeg, Int.reduceLT, Int.reduceLE, Int.reduceToNat, Int.reduceBEq, Int.reduceNe, reduceCtorEq, j0, q4, gmay, nm] <;> omega) | omega) only [go_sem, Nat.reduceBEq, Nat.reduceAdd, Nat.reduceMul, Nat.reduceSub, Nat.reduceEqDiff, Nat.reduceLeDiff, Nat.reduceLT, Int.reduceEq, Int.reduceAdd, Int.reduceSub, Int.reduceMul, Int.reduceNeg, Int.reduceLT, Int.reduceLE, Int.reduceToNat, Int.reduceBEq, Int.reduceNe, reduceCtorEq, w64_id, w8_id, w16_id, w32_id, tmod_pos, tdiv_pos, Bool.or_true, Bool.true_or, Bool.or_false, Bool.false_or, Bool.and_false, Bool.false_and, condK_decide, j0, q4, gmay, nm]
        exact ⟨i + 1, rfl, ⟨by omega, s6⟩, by simp only; omega⟩
    · omega
  · have hk2 : (kr : Int) ≤ 200 := by omega
    simp (maxSteps := 2000000) (disch := first | (simp only [go_sem, Nat.reduceBEq, Nat.reduceAdd, Nat.reduceMul, Nat.reduceSub, Nat.reduceEqDiff, Nat.reduceLeDiff, Nat.reduceLT, Int.reduceEq, Int.reduceAdd, Int.reduceSub, Int.reduceMul, Int.reduceNeg, Int.reduceLT, Int.reduceLE, Int.reduceToNat, Int.reduceBEq, Int.reduceNe, reduceCtorEq, q4, hk2] <;> omega) | omega) only [go_sem, Nat.reduceBEq, Nat.reduceAdd, Nat.reduceMul, Nat.reduceSub, Nat.reduceEqDiff, Nat.reduceLeDiff, Nat.reduceLT, Int.reduceEq, Int.reduceAdd, Int.reduceSub, Int.reduceMul, Int.reduceNeg, Int.reduceLT, Int.reduceLE, Int.reduceToNat, Int.reduceBEq, Int.reduceNe, reduceCtorEq, w64_id, w8_id, w16_id, w32_id, tmod_pos, tdiv_pos, Bool.or_true, Bool.true_or, Bool.or_false, Bool.false_or, Bool.and_false, Bool.false_and, condK_decide, q4, hk2]
    exact hR _ _ ⟨rfl, (s.front 9).ext⟩
end
end Go.Eng
