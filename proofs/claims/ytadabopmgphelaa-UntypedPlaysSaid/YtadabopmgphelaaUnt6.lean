/-
  Sizes by both; the chapter's examples.
-/
import Derived.Test.YtadabopmgphelaaUnt5
namespace Go.Eng
set_option linter.unusedSimpArgs false
set_option linter.unusedVariables false
set_option maxRecDepth 16000
set_option maxHeartbeats 4000000
open Go Go.Proofs

theorem Size_spec (kind frames : Int) (h : Heap) : HCalls Try.prog 10 #[.int .i64 kind, .int .i64 frames] h fun v h' => v = pairI (sizeM kind frames) ∧ h' = h := by
  refine HCalls.of_dev T10 Try.func10 rfl mixed (by kernel_rfl) ?_; rw [Try.results10]
  simp (maxSteps := 2000000) only [↓condK_decide, go_sem, Nat.reduceBEq, Nat.reduceAdd, Nat.reduceMul, Nat.reduceSub, Nat.reduceEqDiff, Nat.reduceLeDiff, Nat.reduceLT, Int.reduceEq, Int.reduceAdd, Int.reduceSub, Int.reduceMul, Int.reduceNeg, Int.reduceLT, Int.reduceLE, Int.reduceToNat, Int.reduceBEq, Int.reduceNe]
  refine (size_spec kind frames h).mono ?_
  rintro v h' ⟨rfl, rfl⟩
  simp (maxSteps := 2000000) only [↓condK_decide, go_sem, Nat.reduceBEq, Nat.reduceAdd, Nat.reduceMul, Nat.reduceSub, Nat.reduceEqDiff, Nat.reduceLeDiff, Nat.reduceLT, Int.reduceEq, Int.reduceAdd, Int.reduceSub, Int.reduceMul, Int.reduceNeg, Int.reduceLT, Int.reduceLE, Int.reduceToNat, Int.reduceBEq, Int.reduceNe]

theorem regI_eq {x : Reg × Int} : regI x = .tuple #[.agg x.1.cells.toArray, .int .i64 x.2] := (rfl)
attribute [go_sem] regI_eq

/-- A pool of the law's own, made behind the heap h0. -/
structure PSt (h0 h : Heap) (pb : Nat) (F : Nat → Prop) (m : Int → Option Reg) : Prop where
  pool : PoolR h pb F m
  foot : ∀ b, F b → h0.size ≤ b ∧ b < h.size
  ext : Ext h0 h
theorem PSt.ext' {h0 h h' : Heap} {pb : Nat} {F : Nat → Prop} {m : Int → Option Reg} (s : PSt h0 h pb F m) (e : Ext h h') : PSt h0 h' pb F m :=
  ⟨s.pool.ext e, fun b hb => ⟨(s.foot b hb).1, Nat.lt_of_lt_of_le (s.foot b hb).2 e.size⟩, s.ext.trans e⟩
theorem PSt.grow {h0 h h' : Heap} {pb : Nat} {F : Nat → Prop} {m m' : Int → Option Reg} (s : PSt h0 h pb F m) (p : PoolR h' pb (Go.Eng.grow F h h') m') (e : Mod F h h') : PSt h0 h' pb (Go.Eng.grow F h h') m' := by
  refine ⟨p, fun b hb => ?_, s.ext.trans' e fun b hb hF => ?_⟩
  · rcases hb with hb | ⟨h1, h2⟩
    · exact ⟨(s.foot b hb).1, Nat.lt_of_lt_of_le (s.foot b hb).2 e.size⟩
    · exact ⟨Nat.le_trans s.ext.size h1, h2⟩
  · have := (s.foot b hF).1; omega
theorem PSt.mod' {h0 h h' : Heap} {pb : Nat} {F K : Nat → Prop} {m m' : Int → Option Reg} (s : PSt h0 h pb F m) (p : PoolR h' pb F m') (e : Mod K h h') (hK : ∀ b, b < h0.size → ¬ K b) : PSt h0 h' pb F m' :=
  ⟨p, fun b hb => ⟨(s.foot b hb).1, Nat.lt_of_lt_of_le (s.foot b hb).2 e.size⟩, s.ext.trans' e hK⟩
theorem PSt.mod {h0 h h' : Heap} {pb : Nat} {F : Nat → Prop} {m m' : Int → Option Reg} (s : PSt h0 h pb F m) (p : PoolR h' pb F m') (e : Mod F h h') : PSt h0 h' pb F m' := by
  refine ⟨p, fun b hb => ⟨(s.foot b hb).1, Nat.lt_of_lt_of_le (s.foot b hb).2 e.size⟩, s.ext.trans' e fun b hb hF => ?_⟩
  have := (s.foot b hF).1; omega

set_option maxRecDepth 8000 in
set_option maxHeartbeats 4000000 in
theorem awake_spec (h : Heap) : HCalls Try.prog 9 #[] h fun v h' => v = .bool true ∧ Ext h h' := by
  refine HCalls.via fun R hR => ?_
  refine HCalls.of_dev T9 Try.func9 rfl mixed (by kernel_rfl) ?_; rw [Try.results9]
  simp (maxSteps := 2000000) only [↓condK_decide, go_sem, Nat.reduceBEq, Nat.reduceAdd, Nat.reduceMul, Nat.reduceSub, Nat.reduceEqDiff, Nat.reduceLeDiff, Nat.reduceLT, Int.reduceEq, Int.reduceAdd, Int.reduceSub, Int.reduceMul, Int.reduceNeg, Int.reduceLT, Int.reduceLE, Int.reduceToNat, Int.reduceBEq, Int.reduceNe]
  refine (new_spec h).mono ?_
  rintro v h1 ⟨pb, rfl, n1, p1, e1⟩
  simp (maxSteps := 2000000) only [↓condK_decide, go_sem, Nat.reduceBEq, Nat.reduceAdd, Nat.reduceMul, Nat.reduceSub, Nat.reduceEqDiff, Nat.reduceLeDiff, Nat.reduceLT, Int.reduceEq, Int.reduceAdd, Int.reduceSub, Int.reduceMul, Int.reduceNeg, Int.reduceLT, Int.reduceLE, Int.reduceToNat, Int.reduceBEq, Int.reduceNe]
  refine (ramNew_spec h1 32 (by omega) (by omega)).mono ?_
  rintro v h2 ⟨rb, rfl, n2, r2, e2⟩
  simp (maxSteps := 2000000) only [↓condK_decide, go_sem, Nat.reduceBEq, Nat.reduceAdd, Nat.reduceMul, Nat.reduceSub, Nat.reduceEqDiff, Nat.reduceLeDiff, Nat.reduceLT, Int.reduceEq, Int.reduceAdd, Int.reduceSub, Int.reduceMul, Int.reduceNeg, Int.reduceLT, Int.reduceLE, Int.reduceToNat, Int.reduceBEq, Int.reduceNe]
  have s2 : PSt h h2 pb _ _ := PSt.ext' ⟨p1, fun b hb => hb, e1⟩ e2
  refine (add_spec h2 pb _ _ s2.pool ⟨8, 8, 0, false⟩).mono ?_
  rintro v h3 ⟨rfl, p3, d3⟩
  have s3 := s2.grow p3 d3
  generalize hA : addM (fun _ => none) ⟨8, 8, 0, false⟩ = A at *
  have vA : A.2 = 0 := by subst hA; rfl
  simp (maxSteps := 2000000) only [↓condK_decide, go_sem, Nat.reduceBEq, Nat.reduceAdd, Nat.reduceMul, Nat.reduceSub, Nat.reduceEqDiff, Nat.reduceLeDiff, Nat.reduceLT, Int.reduceEq, Int.reduceAdd, Int.reduceSub, Int.reduceMul, Int.reduceNeg, Int.reduceLT, Int.reduceLE, Int.reduceToNat, Int.reduceBEq, Int.reduceNe, vA]
  refine (carve_spec h3 pb _ _ s3.pool 8 3 1 1).mono ?_
  rintro v h4 ⟨rfl, p4, d4⟩
  have s4 := s3.mod p4 d4
  generalize hB : carveM A.1 8 3 1 1 = B at *
  have vB : B.2 = (8, 0) := by subst hB hA; rfl
  simp (maxSteps := 2000000) only [↓condK_decide, go_sem, Nat.reduceBEq, Nat.reduceAdd, Nat.reduceMul, Nat.reduceSub, Nat.reduceEqDiff, Nat.reduceLeDiff, Nat.reduceLT, Int.reduceEq, Int.reduceAdd, Int.reduceSub, Int.reduceMul, Int.reduceNeg, Int.reduceLT, Int.reduceLE, Int.reduceToNat, Int.reduceBEq, Int.reduceNe, vB]
  refine (carve_spec h4 pb _ _ s4.pool 8 1 4 1).mono ?_
  rintro v h5 ⟨rfl, p5, d5⟩
  have s5 := s4.mod p5 d5
  generalize hC : carveM B.1 8 1 4 1 = C at *
  have vC : C.2 = (12, 0) := by subst hC hB hA; rfl
  simp (maxSteps := 2000000) only [↓condK_decide, go_sem, Nat.reduceBEq, Nat.reduceAdd, Nat.reduceMul, Nat.reduceSub, Nat.reduceEqDiff, Nat.reduceLeDiff, Nat.reduceLT, Int.reduceEq, Int.reduceAdd, Int.reduceSub, Int.reduceMul, Int.reduceNeg, Int.reduceLT, Int.reduceLE, Int.reduceToNat, Int.reduceBEq, Int.reduceNe, vC]
  refine (carve_spec h5 pb _ _ s5.pool 8 6 1 1).mono ?_
  rintro v h6 ⟨rfl, p6, d6⟩
  have s6 := s5.mod p6 d6
  generalize hD : carveM C.1 8 6 1 1 = D at *
  have vD : D.2 = (0, 140) := by subst hD hC hB hA; rfl
  have vE : D.1 8 = some ⟨8, 8, 8, false⟩ := by subst hD hC hB hA; rfl
  simp (maxSteps := 2000000) only [↓condK_decide, go_sem, Nat.reduceBEq, Nat.reduceAdd, Nat.reduceMul, Nat.reduceSub, Nat.reduceEqDiff, Nat.reduceLeDiff, Nat.reduceLT, Int.reduceEq, Int.reduceAdd, Int.reduceSub, Int.reduceMul, Int.reduceNeg, Int.reduceLT, Int.reduceLE, Int.reduceToNat, Int.reduceBEq, Int.reduceNe, vD]
  have s7 := s6.ext' (Ext.push h6 (.cells [.int .i64 3].toArray 3 (0, 0)))
  have dFG : ∀ b, grow (fun b => Array.size h ≤ b ∧ b < Array.size h1) h2 h3 b → ¬ (Array.size h1 ≤ b ∧ b < Array.size h2) := by
    intro b hb; rcases hb with hb | hb <;> omega
  have r3 := r2.mod d3 fun b _ hb hF => by omega
  have r4 := r3.mod d4 fun b _ hb hF => dFG b hF hb
  have r5 := r4.mod d5 fun b _ hb hF => dFG b hF hb
  have r6 := r5.mod d6 fun b _ hb hF => dFG b hF hb
  have r7 := r6.ext (Ext.push h6 (.cells [.int .i64 3].toArray 3 (0, 0)))
  have z1 := e1.size; have z2 := e2.size; have z3 := d3.size; have z4 := d4.size; have z5 := d5.size; have z6 := d6.size
  refine (reset_spec _ pb rb h6.size 32 _ _ D.1 _ 3 ⟨s7.pool, r7, ⟨_, get_push_new⟩, dFG, ?_, ?_⟩ (by omega) 8 _ vE).mono ?_
  · intro hb; have := (s6.foot _ hb).2; omega
  · intro hb; omega
  rintro v h8 ⟨rfl, ⟨mem', ok, -, -⟩, d8⟩
  have vU : unitsM 8 3 = 3 := by decide
  simp only [vU] at ok
  obtain ⟨tu, hu⟩ := ok.unit
  have s8 := s7.mod' ok.pool d8 (by
    rintro b hb (hF | hG | rfl)
    · have := (s7.foot b hF).1; omega
    · omega
    · omega)
  generalize hE : setMark D.1 8 (8 - 3) = E at *
  have vE' : getM E 8 = (⟨8, 8, 5, false⟩, 0) := by subst hE; unfold getM; rw [setMark_at vE]; rfl
  have vG : (addM E ⟨1023, 2, 0, false⟩).2 = 1 := by rw [addM_no (by decide)]
  simp (maxSteps := 2000000) only [↓condK_decide, go_sem, Nat.reduceBEq, Nat.reduceAdd, Nat.reduceMul, Nat.reduceSub, Nat.reduceEqDiff, Nat.reduceLeDiff, Nat.reduceLT, Int.reduceEq, Int.reduceAdd, Int.reduceSub, Int.reduceMul, Int.reduceNeg, Int.reduceLT, Int.reduceLE, Int.reduceToNat, Int.reduceBEq, Int.reduceNe, vU]
  refine (get_spec h8 pb _ _ s8.pool 8).mono ?_
  rintro v h9 ⟨rfl, e9⟩
  have s9 := s8.ext' e9
  simp (maxSteps := 2000000) only [↓condK_decide, go_sem, Nat.reduceBEq, Nat.reduceAdd, Nat.reduceMul, Nat.reduceSub, Nat.reduceEqDiff, Nat.reduceLeDiff, Nat.reduceLT, Int.reduceEq, Int.reduceAdd, Int.reduceSub, Int.reduceMul, Int.reduceNeg, Int.reduceLT, Int.reduceLE, Int.reduceToNat, Int.reduceBEq, Int.reduceNe, vE']
  refine (Size_spec 1 3 _).mono ?_
  rintro v h10 ⟨rfl, e10⟩
  have vS : sizeM 1 3 = (0, 140) := rfl
  simp (maxSteps := 2000000) only [↓condK_decide, go_sem, Nat.reduceBEq, Nat.reduceAdd, Nat.reduceMul, Nat.reduceSub, Nat.reduceEqDiff, Nat.reduceLeDiff, Nat.reduceLT, Int.reduceEq, Int.reduceAdd, Int.reduceSub, Int.reduceMul, Int.reduceNeg, Int.reduceLT, Int.reduceLE, Int.reduceToNat, Int.reduceBEq, Int.reduceNe, vS]
  have s10 := s9.ext' (Ext.push h9 (.cells [.int .i64 8, .int .i64 8, .int .i64 5, .bool false].toArray 28 (0, 0)))
  rw [← e10] at s10
  refine (add_spec h10 pb _ _ s10.pool ⟨1023, 2, 0, false⟩).mono ?_
  rintro v h11 ⟨rfl, p11, d11⟩
  have s11 := s10.grow p11 d11
  have hu9 := e9.some hu
  have g1 : h10[h9.size]? = some (.cells [.int .i64 8, .int .i64 8, .int .i64 5, .bool false].toArray 28 (0, 0)) := by rw [e10]; exact get_push_new
  have g2 := d11.some g1 fun hb => by have := (s9.foot _ hb).2; omega
  have g3 : h10[h6.size]? = some (.cells [.int .i64 (3 - 3)].toArray tu (0, 0)) := by rw [e10, get_push_lt (lt_of_get hu9)]; exact hu9
  have g4 := d11.some g3 fun hb => by have := (s6.foot _ hb).2; omega
  simp (maxSteps := 2000000) only [↓condK_decide, go_sem, Nat.reduceBEq, Nat.reduceAdd, Nat.reduceMul, Nat.reduceSub, Nat.reduceEqDiff, Nat.reduceLeDiff, Nat.reduceLT, Int.reduceEq, Int.reduceAdd, Int.reduceSub, Int.reduceMul, Int.reduceNeg, Int.reduceLT, Int.reduceLE, Int.reduceToNat, Int.reduceBEq, Int.reduceNe, vG, g2, g4]
  exact hR _ _ ⟨by simp, s11.ext⟩
end Go.Eng
