/-
  UntypedApart.
-/
import Derived.Test.YtadabopmgphelaaUnt8
namespace Go.Eng
set_option linter.unusedSimpArgs false
set_option linter.unusedVariables false
set_option maxRecDepth 16000
set_option maxHeartbeats 4000000
open Go Go.Proofs

/-- An act of layer 14. -/
structure Act where
  Do : Int
  First : Int
  X : Reg
  Kind : Int
  Frames : Int
  Count : Int
  Units : Int
def Act.cells (a : Act) : List Value := [.int .i64 a.Do, .int .i64 a.First, .int .i64 a.X.F, .int .i64 a.X.N, .int .i64 a.X.M, .bool a.X.D, .int .i64 a.Kind, .int .i64 a.Frames, .int .i64 a.Count, .int .i64 a.Units]

structure ActFit (a : Act) : Prop where
  count : -9223372036854775808 ≤ a.Count ∧ a.Count ≤ 9223372036854775807
  units : -9223372036854775808 ≤ a.Units ∧ a.Units ≤ 9223372036854775807

/-- A slice of acts. -/
def ActsAt (h : Heap) (sl : Option Addr) (n : Nat) (A : Nat → Act) : Prop :=
  n ≤ 9223372036854775807 ∧ ∀ i, i < n → ActFit (A i) ∧ ∃ b o, sl = some ⟨b, o, none⟩ ∧ ∀ j, j < 10 → hcellO h[b]? (o + (i * 10 + j)) = (A i).cells[j]?

theorem hcellO_lt {h : Heap} {b o : Nat} {v : Value} (e : hcellO h[b]? o = some v) : b < h.size := by
  cases hb : h[b]? with
  | none => rw [hb] at e; cases e
  | some x => exact lt_of_get hb
theorem ActsAt.ext {h h' : Heap} {sl : Option Addr} {n : Nat} {A : Nat → Act} (a : ActsAt h sl n A) (e : Ext h h') : ActsAt h' sl n A := by
  refine ⟨a.1, fun i hi => ?_⟩
  obtain ⟨f, b, o, hs, hc⟩ := a.2 i hi
  refine ⟨f, b, o, hs, fun j hj => ?_⟩
  have h0 := hc 0 (by omega)
  rw [e.get b (hcellO_lt h0)]
  exact hc j hj

set_option maxRecDepth 16000 in
set_option maxHeartbeats 4000000 in
theorem apart_spec (x : Reg) (sl : Option Addr) (n cap : Nat) (A : Nat → Act) (h : Heap) (hA : ActsAt h sl n A) : HCalls Try.prog 4 #[.agg x.cells.toArray, .slice sl n cap] h fun v h' => v = .bool true ∧ Ext h h' := by
  refine HCalls.via fun R hR => ?_
  refine HCalls.of_dev T4 Try.func4 rfl mixed (by kernel_rfl) ?_; rw [Try.results4]
  simp (maxSteps := 2000000) only [↓condK_decide, go_sem, Nat.reduceBEq, Nat.reduceAdd, Nat.reduceMul, Nat.reduceSub, Nat.reduceEqDiff, Nat.reduceLeDiff, Nat.reduceLT, Int.reduceEq, Int.reduceAdd, Int.reduceSub, Int.reduceMul, Int.reduceNeg, Int.reduceLT, Int.reduceLE, Int.reduceToNat, Int.reduceBEq, Int.reduceNe]
  refine (awake_spec _).mono ?_
  rintro v h1 ⟨rfl, e1⟩
  have g1 := e1.some (get_push_new (h := h) (o := .cells x.cells.toArray 28 (0, 0)))
  have e0 := (Ext.push h (.cells x.cells.toArray 28 (0, 0))).trans e1
  replace hA := hA.ext e0
  clear e1
  simp (maxSteps := 2000000) only [↓condK_decide, go_sem, Nat.reduceBEq, Nat.reduceAdd, Nat.reduceMul, Nat.reduceSub, Nat.reduceEqDiff, Nat.reduceLeDiff, Nat.reduceLT, Int.reduceEq, Int.reduceAdd, Int.reduceSub, Int.reduceMul, Int.reduceNeg, Int.reduceLT, Int.reduceLE, Int.reduceToNat, Int.reduceBEq, Int.reduceNe]
  refine (new_spec h1).mono ?_
  rintro v h2 ⟨pb, rfl, n1, p1, e2⟩
  have s2 : PSt h1 h2 pb _ _ := ⟨p1, fun b hb => hb, e2⟩
  simp (maxSteps := 2000000) only [↓condK_decide, go_sem, Nat.reduceBEq, Nat.reduceAdd, Nat.reduceMul, Nat.reduceSub, Nat.reduceEqDiff, Nat.reduceLeDiff, Nat.reduceLT, Int.reduceEq, Int.reduceAdd, Int.reduceSub, Int.reduceMul, Int.reduceNeg, Int.reduceLT, Int.reduceLE, Int.reduceToNat, Int.reduceBEq, Int.reduceNe, s2.ext.some g1]
  refine (add_spec h2 pb _ _ s2.pool x).mono ?_
  rintro v h3 ⟨rfl, p3, d3⟩
  have s3 := s2.grow p3 d3
  by_cases hx : mayAdd x
  · rw [one_add hx] at s3
    simp only [one_add hx]
    simp (maxSteps := 2000000) only [↓condK_decide, go_sem, Nat.reduceBEq, Nat.reduceAdd, Nat.reduceMul, Nat.reduceSub, Nat.reduceEqDiff, Nat.reduceLeDiff, Nat.reduceLT, Int.reduceEq, Int.reduceAdd, Int.reduceSub, Int.reduceMul, Int.reduceNeg, Int.reduceLT, Int.reduceLE, Int.reduceToNat, Int.reduceBEq, Int.reduceNe, s3.ext.some g1]
    generalize grow (fun b => Array.size h1 ≤ b ∧ b < Array.size h2) h2 h3 = F at s3
    refine ⟨fun q => absurd trivial q, fun _ => ?_⟩
    have hx' := hx
    unfold mayAdd at hx'
    refine loopH.intro (fun t : Nat × Int => .cons 1 (.slice sl n cap) true (.cons 2 (.pointer (some ⟨h.size, 0, none⟩)) true (.cons 5 (.bool true) true (.cons 6 (.pointer (some ⟨pb, 0, none⟩)) true (.cons 8 (.int .i64 (x.F + t.2)) true (.cons 9 (.int .i64 t.1) true .nil))))))
      (fun t h' => PSt h1 h' pb F (one x t.2) ∧ x.M ≤ t.2 ∧ t.2 ≤ x.N ∧ t.1 ≤ 100) (fun t _ => 101 - t.1) (0, x.M) ?_ ?_ ?_
    · simp (maxSteps := 2000000) only [↓condK_decide, go_sem, Nat.reduceBEq, Nat.reduceAdd, Nat.reduceMul, Nat.reduceSub, Nat.reduceEqDiff, Nat.reduceLeDiff, Nat.reduceLT, Int.reduceEq, Int.reduceAdd, Int.reduceSub, Int.reduceMul, Int.reduceNeg, Int.reduceLT, Int.reduceLE, Int.reduceToNat, Int.reduceBEq, Int.reduceNe]
      rw [w64_id (by omega) (by omega)]; rfl
    · exact ⟨s3, by simp only; omega, by simp only; omega, by simp only; omega⟩
    · rintro ⟨i, M⟩ h' ⟨s, m1, m2, hi⟩
      simp only at s m1 m2 hi
      have hA' := hA.ext s.ext
      simp (maxSteps := 2000000) only [↓condK_decide, go_sem, Nat.reduceBEq, Nat.reduceAdd, Nat.reduceMul, Nat.reduceSub, Nat.reduceEqDiff, Nat.reduceLeDiff, Nat.reduceLT, Int.reduceEq, Int.reduceAdd, Int.reduceSub, Int.reduceMul, Int.reduceNeg, Int.reduceLT, Int.reduceLE, Int.reduceToNat, Int.reduceBEq, Int.reduceNe, s.ext.some g1]
      refine ⟨fun hc => ?_, fun hc => hR _ _ ⟨rfl, e0.trans s.ext⟩⟩
      simp only [Bool.and_eq_true, decide_eq_true_eq] at hc
      obtain ⟨fit, b, o, rfl, hcell⟩ := hA'.2 i (by omega)
      have c0 : (0 : Int) ≤ i := by omega
      have q6 : ∀ h'', Ext h1 h'' → hcellO h''[b]? (o + i * 10 + 6) = some (.int .i64 (A i).Kind) := fun h'' e => by
        obtain ⟨-, b', o', e1, hcell⟩ := (hA.ext e).2 i (by omega)
        cases e1
        rw [Nat.add_assoc, hcell 6 (by omega)]; rfl
      have q7 : ∀ h'', Ext h1 h'' → hcellO h''[b]? (o + i * 10 + 7) = some (.int .i64 (A i).Frames) := fun h'' e => by
        obtain ⟨-, b', o', e1, hcell⟩ := (hA.ext e).2 i (by omega)
        cases e1
        rw [Nat.add_assoc, hcell 7 (by omega)]; rfl
      have q8 : ∀ h'', Ext h1 h'' → hcellO h''[b]? (o + i * 10 + 8) = some (.int .i64 (A i).Count) := fun h'' e => by
        obtain ⟨-, b', o', e1, hcell⟩ := (hA.ext e).2 i (by omega)
        cases e1
        rw [Nat.add_assoc, hcell 8 (by omega)]; rfl
      simp (maxSteps := 2000000) only [↓condK_decide, go_sem, Nat.reduceBEq, Nat.reduceAdd, Nat.reduceMul, Nat.reduceSub, Nat.reduceEqDiff, Nat.reduceLeDiff, Nat.reduceLT, Int.reduceEq, Int.reduceAdd, Int.reduceSub, Int.reduceMul, Int.reduceNeg, Int.reduceLT, Int.reduceLE, Int.reduceToNat, Int.reduceBEq, Int.reduceNe, c0, hc.1, Int.toNat_natCast, q6 h' s.ext, q7 h' s.ext, q8 h' s.ext]
      refine (carve_spec h' pb _ _ s.pool x.F (A i).Kind (A i).Frames (A i).Count).mono ?_
      rintro v h4 ⟨rfl, p4, d4⟩
      have s4 := s.mod p4 d4
      by_cases he : (roomM (one x M) x.F (A i).Kind (A i).Frames (A i).Count).2 = 0
      · obtain ⟨mb, es, clk, β, p, hF⟩ := s.pool
        obtain ⟨r, hr, hz, k1, k2, k3, k4, k5, -⟩ := roomM_ok p.ok he
        rw [one_at] at hr
        cases hr
        simp only at k3 k4 k5
        obtain ⟨z1, z2⟩ := sizeM_bd hz
        have kk := mul_bd k1 k2 z1 z2
        have cm : carveM (one x M) x.F (A i).Kind (A i).Frames (A i).Count = (one x ((roomM (one x M) x.F (A i).Kind (A i).Frames (A i).Count).1 + (A i).Count * (sizeM (A i).Kind (A i).Frames).1 - x.F), ((roomM (one x M) x.F (A i).Kind (A i).Frames (A i).Count).1, 0)) := by
          unfold carveM; rw [if_pos he, one_set]
        rw [cm] at s4 ⊢
        clear cm
        generalize (roomM (one x M) x.F (A i).Kind (A i).Frames (A i).Count).1 = at_ at *
        have hpair : pairI (sizeM (A i).Kind (A i).Frames) = .tuple #[.int .i64 (sizeM (A i).Kind (A i).Frames).1, .int .i64 0] := by rw [pairI_eq, hz]
        generalize hsz : (sizeM (A i).Kind (A i).Frames).1 = z at *
        have s4' := s4.ext
        simp (maxSteps := 2000000) only [↓condK_decide, go_sem, Nat.reduceBEq, Nat.reduceAdd, Nat.reduceMul, Nat.reduceSub, Nat.reduceEqDiff, Nat.reduceLeDiff, Nat.reduceLT, Int.reduceEq, Int.reduceAdd, Int.reduceSub, Int.reduceMul, Int.reduceNeg, Int.reduceLT, Int.reduceLE, Int.reduceToNat, Int.reduceBEq, Int.reduceNe, c0, hc.1, Int.toNat_natCast, q6 h4 s4.ext, q7 h4 s4.ext]
        refine ⟨fun q => absurd trivial q, fun _ => ?_⟩
        have hsize := Size_spec (A i).Kind (A i).Frames h4
        rw [hpair] at hsize
        refine hsize.mono ?_
        rintro v h5 ⟨rfl, e5⟩
        have s5 : PSt h1 h5 pb F _ := s4.ext' (e5 ▸ Ext.refl h4)
        simp (maxSteps := 2000000) only [↓condK_decide, go_sem, Nat.reduceBEq, Nat.reduceAdd, Nat.reduceMul, Nat.reduceSub, Nat.reduceEqDiff, Nat.reduceLeDiff, Nat.reduceLT, Int.reduceEq, Int.reduceAdd, Int.reduceSub, Int.reduceMul, Int.reduceNeg, Int.reduceLT, Int.reduceLE, Int.reduceToNat, Int.reduceBEq, Int.reduceNe, s5.ext.some g1]
        refine (get_spec h5 pb _ _ s5.pool x.F).mono ?_
        rintro v h6 ⟨rfl, e6⟩
        have s6 := s5.ext' e6
        have hget : getM (one x (at_ + (A i).Count * z - x.F)) x.F = ({ x with M := at_ + (A i).Count * z - x.F }, 0) := by unfold getM; rw [one_at]
        have s7 := s6.ext' (Ext.push h6 (.cells [.int .i64 x.F, .int .i64 x.N, .int .i64 (at_ + (A i).Count * z - x.F), .bool x.D].toArray 28 (0, 0)))
        have zne : z ≠ 0 := by omega
        have w1 : IntKind.i64.wrap ((A i).Count * z) = (A i).Count * z := w64_id (by omega) (by omega)
        have w2 : IntKind.i64.wrap (at_ + (A i).Count * z) = at_ + (A i).Count * z := w64_id (by omega) (by omega)
        have w3 : IntKind.i64.wrap (x.F + x.N) = x.F + x.N := w64_id (by omega) (by omega)
        have w4 : IntKind.i64.wrap (x.F + (at_ + (A i).Count * z - x.F)) = at_ + (A i).Count * z := by rw [w64_id (by omega) (by omega)]; omega
        have md : at_.tmod z = 0 := by rw [k5]; exact Int.mul_tmod_left _ _
        simp (maxSteps := 2000000) only [↓condK_decide, go_sem, Nat.reduceBEq, Nat.reduceAdd, Nat.reduceMul, Nat.reduceSub, Nat.reduceEqDiff, Nat.reduceLeDiff, Nat.reduceLT, Int.reduceEq, Int.reduceAdd, Int.reduceSub, Int.reduceMul, Int.reduceNeg, Int.reduceLT, Int.reduceLE, Int.reduceToNat, Int.reduceBEq, Int.reduceNe, hget]
        simp (maxSteps := 2000000) only [↓condK_decide, go_sem, Nat.reduceBEq, Nat.reduceAdd, Nat.reduceMul, Nat.reduceSub, Nat.reduceEqDiff, Nat.reduceLeDiff, Nat.reduceLT, Int.reduceEq, Int.reduceAdd, Int.reduceSub, Int.reduceMul, Int.reduceNeg, Int.reduceLT, Int.reduceLE, Int.reduceToNat, Int.reduceBEq, Int.reduceNe, c0, hc.1, zne, Int.toNat_natCast, q8 _ s7.ext, s7.ext.some g1, w1, w2, w3, w4, md]
        refine ⟨fun q => ?_, fun _ => ?_⟩
        · exfalso
          simp only [not_true_eq_false, decide_false, Bool.or_eq_true, decide_eq_true_eq, Bool.false_eq_true, or_false, false_or] at q
          omega
        · refine ⟨(i + 1, at_ + (A i).Count * z - x.F), ?_, ⟨s7, by simp only; omega, by simp only; omega, by simp only; omega⟩, by simp only; omega⟩
          have e8 : x.F + (at_ + (A i).Count * z - x.F) = at_ + (A i).Count * z := by omega
          rw [w64_id (a := (i : Int) + 1) (by omega) (by omega)]
          simp only [e8]
          rfl
      · have cm : carveM (one x M) x.F (A i).Kind (A i).Frames (A i).Count = (one x M, (0, (roomM (one x M) x.F (A i).Kind (A i).Frames (A i).Count).2)) := by
          unfold carveM; rw [if_neg he]
        rw [cm] at s4 ⊢
        generalize (roomM (one x M) x.F (A i).Kind (A i).Frames (A i).Count).2 = e at *
        simp (maxSteps := 2000000) only [↓condK_decide, go_sem, Nat.reduceBEq, Nat.reduceAdd, Nat.reduceMul, Nat.reduceSub, Nat.reduceEqDiff, Nat.reduceLeDiff, Nat.reduceLT, Int.reduceEq, Int.reduceAdd, Int.reduceSub, Int.reduceMul, Int.reduceNeg, Int.reduceLT, Int.reduceLE, Int.reduceToNat, Int.reduceBEq, Int.reduceNe]
        refine ⟨fun _ => ?_, fun q => absurd he q⟩
        exact ⟨(i + 1, M), by rw [w64_id (by omega) (by omega)]; rfl, ⟨s4, m1, m2, by simp only; omega⟩, by simp only; omega⟩
  · simp only [addM_no hx]
    simp (maxSteps := 2000000) only [↓condK_decide, go_sem, Nat.reduceBEq, Nat.reduceAdd, Nat.reduceMul, Nat.reduceSub, Nat.reduceEqDiff, Nat.reduceLeDiff, Nat.reduceLT, Int.reduceEq, Int.reduceAdd, Int.reduceSub, Int.reduceMul, Int.reduceNeg, Int.reduceLT, Int.reduceLE, Int.reduceToNat, Int.reduceBEq, Int.reduceNe]
    exact ⟨fun _ => hR _ _ ⟨rfl, e0.trans s3.ext⟩, fun q => absurd trivial q⟩
end Go.Eng
