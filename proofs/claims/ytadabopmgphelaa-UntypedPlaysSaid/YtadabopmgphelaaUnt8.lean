/-
  UntypedFull.
-/
import Derived.Test.YtadabopmgphelaaUnt7
namespace Go.Eng
set_option linter.unusedSimpArgs false
set_option linter.unusedVariables false
set_option maxRecDepth 16000
set_option maxHeartbeats 4000000
open Go Go.Proofs

def one (x : Reg) (n : Int) : Int → Option Reg := fun k => if k = x.F then some { x with M := n } else none
theorem one_at {x : Reg} {n : Int} : one x n x.F = some { x with M := n } := by simp [one]
theorem one_add {x : Reg} (hx : mayAdd x) : addM (fun _ => none) x = (one x x.M, 0) := by
  rw [addM_ok hx rfl]; rfl
theorem one_set {x : Reg} {n k : Int} : setMark (one x n) x.F k = one x k := by
  funext j; unfold setMark one; by_cases h : j = x.F <;> simp [h]

theorem untypedFull_spec (x : Reg) (kind : Int) (h : Heap) : HCalls Try.prog 5 #[.agg x.cells.toArray, .int .i64 kind] h fun v h' => v = .bool true ∧ Ext h h' := by
  refine HCalls.via fun R hR => ?_
  refine HCalls.of_dev T5 Try.func5 rfl mixed (by kernel_rfl) ?_; rw [Try.results5]
  simp (maxSteps := 2000000) only [↓condK_decide, go_sem, Nat.reduceBEq, Nat.reduceAdd, Nat.reduceMul, Nat.reduceSub, Nat.reduceEqDiff, Nat.reduceLeDiff, Nat.reduceLT, Int.reduceEq, Int.reduceAdd, Int.reduceSub, Int.reduceMul, Int.reduceNeg, Int.reduceLT, Int.reduceLE, Int.reduceToNat, Int.reduceBEq, Int.reduceNe]
  refine (awake_spec _).mono ?_
  rintro v h1 ⟨rfl, e1⟩
  have g1 := e1.some (get_push_new (h := h) (o := .cells x.cells.toArray 28 (0, 0)))
  have e0 := (Ext.push h (.cells x.cells.toArray 28 (0, 0))).trans e1
  clear e1
  simp (maxSteps := 2000000) only [↓condK_decide, go_sem, Nat.reduceBEq, Nat.reduceAdd, Nat.reduceMul, Nat.reduceSub, Nat.reduceEqDiff, Nat.reduceLeDiff, Nat.reduceLT, Int.reduceEq, Int.reduceAdd, Int.reduceSub, Int.reduceMul, Int.reduceNeg, Int.reduceLT, Int.reduceLE, Int.reduceToNat, Int.reduceBEq, Int.reduceNe]
  refine (new_spec h1).mono ?_
  rintro v h2 ⟨pb, rfl, n1, p1, e2⟩
  have s2 : PSt h1 h2 pb _ _ := ⟨p1, fun b hb => hb, e2⟩
  simp (maxSteps := 2000000) only [↓condK_decide, go_sem, Nat.reduceBEq, Nat.reduceAdd, Nat.reduceMul, Nat.reduceSub, Nat.reduceEqDiff, Nat.reduceLeDiff, Nat.reduceLT, Int.reduceEq, Int.reduceAdd, Int.reduceSub, Int.reduceMul, Int.reduceNeg, Int.reduceLT, Int.reduceLE, Int.reduceToNat, Int.reduceBEq, Int.reduceNe, s2.ext.some g1]
  refine (add_spec h2 pb _ _ s2.pool x).mono ?_
  rintro v h3 ⟨rfl, p3, d3⟩
  have s3 := s2.grow p3 d3
  by_cases hx : mayAdd x
  · rw [one_add hx] at s3
    simp only [one_add hx]
    simp (maxSteps := 2000000) only [↓condK_decide, go_sem, Nat.reduceBEq, Nat.reduceAdd, Nat.reduceMul, Nat.reduceSub, Nat.reduceEqDiff, Nat.reduceLeDiff, Nat.reduceLT, Int.reduceEq, Int.reduceAdd, Int.reduceSub, Int.reduceMul, Int.reduceNeg, Int.reduceLT, Int.reduceLE, Int.reduceToNat, Int.reduceBEq, Int.reduceNe]
    generalize grow (fun b => Array.size h1 ≤ b ∧ b < Array.size h2) h2 h3 = F at s3
    refine ⟨fun _ => hR _ _ ⟨rfl, e0.trans s3.ext⟩, fun hk => ?_⟩
    simp only [Bool.or_eq_false_iff, decide_eq_false_iff_not] at hk
    have hx' := hx
    unfold mayAdd at hx'
    have hsz : sizeM kind 1 = (1, 0) := by unfold sizeM; rw [if_neg (by omega), if_pos (by omega)]; rfl
    have room : ∀ n : Int, 0 ≤ n → x.M + n ≤ x.N → roomM (one x (x.M + n)) x.F kind 1 1 = if x.D = true ∧ kind ≠ 6 then (0, 141) else if x.M + n = x.N then (0, 140) else (x.F + x.M + n, 0) := by
      intro n h0 h1
      unfold roomM
      rw [one_at]
      simp only [hsz]
      rw [if_neg (show ¬ ((0 : Int) ≠ 0) by omega), if_neg (show ¬ ((1 : Int) < 1 ∨ (8 : Int) < 1) by omega), Int.ediv_one, Int.mul_one]
      have k1 : kind ≠ 1 := by omega
      by_cases c : x.D = true ∧ kind ≠ 6
      · rw [if_pos c, if_pos ⟨c.1, k1, c.2⟩]
      · rw [if_neg c, if_neg (fun q => c ⟨q.1, q.2.2⟩)]
        by_cases d : x.M + n = x.N
        · rw [if_pos d, if_pos (by omega)]
        · rw [if_neg d, if_neg (by omega)]; congr 1; omega
    refine loopH.intro (fun n : Nat => .cons 1 (.int .i64 kind) true (.cons 2 (.pointer (some ⟨h.size, 0, none⟩)) true (.cons 5 (.bool true) true (.cons 6 (.pointer (some ⟨pb, 0, none⟩)) true (.cons 8 (.int .i64 n) true .nil)))))
      (fun n h' => PSt h1 h' pb F (one x (x.M + n)) ∧ x.M + n ≤ x.N ∧ (x.D = true ∧ kind ≠ 6 → n = 0)) (fun n _ => 1025 - n) 0 ?_ ?_ ?_
    · simp (maxSteps := 2000000) only [↓condK_decide, go_sem, Nat.reduceBEq, Nat.reduceAdd, Nat.reduceMul, Nat.reduceSub, Nat.reduceEqDiff, Nat.reduceLeDiff, Nat.reduceLT, Int.reduceEq, Int.reduceAdd, Int.reduceSub, Int.reduceMul, Int.reduceNeg, Int.reduceLT, Int.reduceLE, Int.reduceToNat, Int.reduceBEq, Int.reduceNe]; rfl
    · exact ⟨by simpa using s3, by omega, fun _ => rfl⟩
    · rintro n h' ⟨s, hn, h0⟩
      have c1 : (n : Int) ≤ 1024 := by omega
      have r := room n (by omega) hn
      simp (maxSteps := 2000000) only [↓condK_decide, go_sem, Nat.reduceBEq, Nat.reduceAdd, Nat.reduceMul, Nat.reduceSub, Nat.reduceEqDiff, Nat.reduceLeDiff, Nat.reduceLT, Int.reduceEq, Int.reduceAdd, Int.reduceSub, Int.reduceMul, Int.reduceNeg, Int.reduceLT, Int.reduceLE, Int.reduceToNat, Int.reduceBEq, Int.reduceNe, s.ext.some g1]
      refine ⟨fun _ => ?_, fun q => absurd c1 q⟩
      refine (carve_spec h' pb _ _ s.pool x.F kind 1 1).mono ?_
      rintro v h4 ⟨rfl, p4, d4⟩
      have s4 := s.mod p4 d4
      have cm : carveM (one x (x.M + n)) x.F kind 1 1 = if x.D = true ∧ kind ≠ 6 then (one x (x.M + n), (0, 141)) else if x.M + n = x.N then (one x (x.M + n), (0, 140)) else (one x (x.M + (n + 1 : Nat)), (x.F + x.M + n, 0)) := by
        unfold carveM
        rw [r, hsz]
        by_cases c : x.D = true ∧ kind ≠ 6
        · rw [if_pos c, if_pos c]; rfl
        · rw [if_neg c, if_neg c]
          by_cases d : x.M + n = x.N
          · rw [if_pos d, if_pos d]; rfl
          · rw [if_neg d, if_neg d]
            simp only [if_true, one_set]
            congr 2; omega
      by_cases c : x.D = true ∧ kind ≠ 6
      · rw [if_pos c] at cm
        simp only [cm] at s4 ⊢
        simp (maxSteps := 2000000) only [↓condK_decide, go_sem, Nat.reduceBEq, Nat.reduceAdd, Nat.reduceMul, Nat.reduceSub, Nat.reduceEqDiff, Nat.reduceLeDiff, Nat.reduceLT, Int.reduceEq, Int.reduceAdd, Int.reduceSub, Int.reduceMul, Int.reduceNeg, Int.reduceLT, Int.reduceLE, Int.reduceToNat, Int.reduceBEq, Int.reduceNe, s4.ext.some g1]
        refine ⟨fun _ => ⟨fun _ => hR _ _ ⟨by simp [h0 c], e0.trans s4.ext⟩, fun q => ?_⟩, fun q => absurd trivial q⟩
        exfalso; simp [c.1, c.2] at q
      · rw [if_neg c] at cm
        by_cases d : x.M + n = x.N
        · rw [if_pos d] at cm
          simp only [cm] at s4 ⊢
          simp (maxSteps := 2000000) only [↓condK_decide, go_sem, Nat.reduceBEq, Nat.reduceAdd, Nat.reduceMul, Nat.reduceSub, Nat.reduceEqDiff, Nat.reduceLeDiff, Nat.reduceLT, Int.reduceEq, Int.reduceAdd, Int.reduceSub, Int.reduceMul, Int.reduceNeg, Int.reduceLT, Int.reduceLE, Int.reduceToNat, Int.reduceBEq, Int.reduceNe, s4.ext.some g1]
          have w : IntKind.i64.wrap (x.N - x.M) = n := by rw [w64_id (by omega) (by omega)]; omega
          refine ⟨fun _ => ⟨fun q => ?_, fun q => hR _ _ ⟨by simp [w], e0.trans s4.ext⟩⟩, fun q => absurd trivial q⟩
          exfalso
          simp only [Bool.and_eq_true, decide_eq_true_eq] at q
          exact c q
        · rw [if_neg d] at cm
          simp only [cm] at s4 ⊢
          simp (maxSteps := 2000000) only [↓condK_decide, go_sem, Nat.reduceBEq, Nat.reduceAdd, Nat.reduceMul, Nat.reduceSub, Nat.reduceEqDiff, Nat.reduceLeDiff, Nat.reduceLT, Int.reduceEq, Int.reduceAdd, Int.reduceSub, Int.reduceMul, Int.reduceNeg, Int.reduceLT, Int.reduceLE, Int.reduceToNat, Int.reduceBEq, Int.reduceNe, s4.ext.some g1]
          refine ⟨fun q => absurd trivial q, fun _ => ?_⟩
          exact ⟨n + 1, by rw [w64_id (by omega) (by omega)]; rfl, ⟨s4, by omega, fun q => absurd q c⟩, by simp only; omega⟩
  · simp only [addM_no hx]
    simp (maxSteps := 2000000) only [↓condK_decide, go_sem, Nat.reduceBEq, Nat.reduceAdd, Nat.reduceMul, Nat.reduceSub, Nat.reduceEqDiff, Nat.reduceLeDiff, Nat.reduceLT, Int.reduceEq, Int.reduceAdd, Int.reduceSub, Int.reduceMul, Int.reduceNeg, Int.reduceLT, Int.reduceLE, Int.reduceToNat, Int.reduceBEq, Int.reduceNe]
    exact ⟨fun _ => hR _ _ ⟨rfl, e0.trans s3.ext⟩, fun q => by simp at q⟩
end Go.Eng
