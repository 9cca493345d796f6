/-
  package vgic: New, SetMask (nothing injected); package cpu: msr; Step.
-/
import Derived.Test.YtpmmbmmopbmopaaGreatDoorZj16
namespace Go.Eng
set_option linter.unusedSimpArgs false
set_option linter.unusedVariables false
set_option maxRecDepth 16000
set_option maxHeartbeats 4000000
open Go Go.Proofs
def vgicL (l m a b c : Int) (pm am : Nat) : List Value := [.int .i64 l, .int .i64 m] ++ List.replicate 64 (.bool false) ++ [.map (some pm), .map (some am), .int .i64 a, .int .i64 b, .int .i64 c]
structure Vx where
  l : Int
  a : Int
  b : Int
  c : Int
  pm : Nat
  am : Nat
  c1 : Nat
  c2 : Nat
  ty : TypeId
/-- What handles a guest's interrupts: none is injected. -/
def vgicS (vb : Nat) (m : Int) : SP := exS fun x : Vx => starL [cellAt vb (.cells (vgicL x.l m x.a x.b x.c x.pm x.am).toArray x.ty (0, 0)), cellAt x.pm (.map #[] x.c1), cellAt x.am (.map #[] x.c2)]
def vS (vv : Value) (V : Option Int) : SP := match V with
  | none => pureS (vv = .pointer none)
  | some m => exS fun vb : Nat => starL [pureS (vv = .pointer (some ⟨vb, 0, none⟩)), vgicS vb m]
theorem vS_some {h : Heap} {F : List SP} {vv : Value} {m : Int} : Sat h (vS vv (some m) :: F) ↔ ∃ (vb : Nat) (x : Vx), vv = .pointer (some ⟨vb, 0, none⟩) ∧ Sat h (cellAt vb (.cells (vgicL x.l m x.a x.b x.c x.pm x.am).toArray x.ty (0, 0)) :: cellAt x.pm (.map #[] x.c1) :: cellAt x.am (.map #[] x.c2) :: F) := by
  unfold vS
  try simp only
  rw [Sat.ex]
  constructor
  · rintro ⟨vb, hx⟩
    obtain ⟨p, q⟩ := Sat.pure.1 (Sat.star.1 hx)
    unfold vgicS at q
    obtain ⟨x, q⟩ := Sat.ex.1 (show Sat h ((exS fun x : Vx => starL [cellAt vb (.cells (vgicL x.l m x.a x.b x.c x.pm x.am).toArray x.ty (0, 0)), cellAt x.pm (.map #[] x.c1), cellAt x.am (.map #[] x.c2)]) :: F) from q)
    exact ⟨vb, x, p, Sat.star.1 q⟩
  · rintro ⟨vb, x, p, q⟩
    refine ⟨vb, Sat.star.2 (Sat.pure.2 ⟨p, ?_⟩)⟩
    unfold vgicS
    exact Sat.ex.2 ⟨x, Sat.star.2 q⟩
theorem vS_none {h : Heap} {F : List SP} {vv : Value} : Sat h (vS vv none :: F) ↔ vv = .pointer none ∧ Sat h F := Sat.pure
theorem bdv {l m : Int} {pm am : Nat} {h : Heap} : runD Tryz.prog (iBuild 125 #[(0, .int .i64 l), (1, .int .i64 m), (3, .map (some pm)), (4, .map (some am))]) h = some (.agg (vgicL l m 0 0 0 pm am).toArray) := by kernel_rfl
section
variable {h : Heap} {F : List SP} {rb n tb xb cb : Nat} {mem : Nat → Int} {T : List Ln} {vr vt vv : Value} {w : Int} {s : Spc} {at_ next : Int} {g : Bool} {ty ty2 : TypeId} {c : Cp} {o : Int} {A B C I : Nat}
theorem vNew_S (hs : Sat h F) : HCalls Tryz.prog 21 #[.int .i64 4] h fun v h' => ∃ vv, v = .tuple #[vv, .int .i64 0] ∧ (∃ a, vv = .pointer (some a)) ∧ Sat h' (vS vv (some 256) :: F) := by
  refine HCalls.via fun R hR => ?_
  have s1 := ((hs.push (.map #[] 0)).push (.map #[] 0)).push (.cells (vgicL 4 256 0 0 0 h.size (h.size + 1)).toArray 125 (0, 0))
  simp only [size_push'] at s1
  refine HCalls.of_dev T21 Tryz.func21 rfl mixed (by kernel_rfl) ?_; rw [Tryz.results21]
  simp (maxSteps := 2000000) (disch := first | (simp only [go_sem, Nat.reduceBEq, Nat.reduceAdd, Nat.reduceMul, Nat.reduceSub, Nat.reduceEqDiff, Nat.reduceLeDiff, Nat.reduceLT, Int.reduceEq, Int.reduceAdd, Int.reduceSub, Int.reduceMul, Int.reduceNeg, Int.reduceLT, Int.reduceLE, Int.reduceToNat, Int.reduceBEq, Int.reduceNe, reduceCtorEq, bdv]; done) | omega | (simp only [go_sem, Nat.reduceBEq, Nat.reduceAdd, Nat.reduceMul, Nat.reduceSub, Nat.reduceEqDiff, Nat.reduceLeDiff, Nat.reduceLT, Int.reduceEq, Int.reduceAdd, Int.reduceSub, Int.reduceMul, Int.reduceNeg, Int.reduceLT, Int.reduceLE, Int.reduceToNat, Int.reduceBEq, Int.reduceNe, reduceCtorEq, bdv]; omega)) only [go_sem, Nat.reduceBEq, Nat.reduceAdd, Nat.reduceMul, Nat.reduceSub, Nat.reduceEqDiff, Nat.reduceLeDiff, Nat.reduceLT, Int.reduceEq, Int.reduceAdd, Int.reduceSub, Int.reduceMul, Int.reduceNeg, Int.reduceLT, Int.reduceLE, Int.reduceToNat, Int.reduceBEq, Int.reduceNe, reduceCtorEq, w64_id, w8_id, w16_id, w32_id, tmod_pos, tdiv_pos, Bool.or_true, Bool.true_or, Bool.or_false, Bool.false_or, Bool.and_false, Bool.false_and, condK_decide, bdv]
  exact hR _ _ ⟨_, rfl, ⟨_, rfl⟩, vS_some.2 ⟨_, ⟨4, 0, 0, 0, h.size, h.size + 1, 0, 0, _⟩, rfl, s1.swap.front 2 |>.front 2⟩⟩
theorem setMask_S {m : Int} (hs : Sat h (vS vv (some m) :: F)) (k : Int) (h0 : 0 ≤ k) (h1 : k ≤ 256) : HCalls Tryz.prog 78 #[vv, .int .i64 k] h fun v h' => v = .int .i64 0 ∧ Sat h' (vS vv (some k) :: F) := by
  refine HCalls.via fun R hR => ?_
  obtain ⟨vb, x, rfl, s⟩ := vS_some.1 hs
  have s1 := s.set (.cells (vgicL x.l k x.a x.b x.c x.pm x.am).toArray x.ty (0, 0))
  have g := s.get
  simp only [vgicL, List.replicate, List.cons_append, List.nil_append] at g
  have k0 : ¬ k < 0 := by omega
  have k1 : ¬ 256 < k := by omega
  refine HCalls.of_dev T78 Tryz.func78 rfl mixed (by kernel_rfl) ?_; rw [Tryz.results78]
  simp (maxSteps := 2000000) (disch := first | (simp only [go_sem, Nat.reduceBEq, Nat.reduceAdd, Nat.reduceMul, Nat.reduceSub, Nat.reduceEqDiff, Nat.reduceLeDiff, Nat.reduceLT, Int.reduceEq, Int.reduceAdd, Int.reduceSub, Int.reduceMul, Int.reduceNeg, Int.reduceLT, Int.reduceLE, Int.reduceToNat, Int.reduceBEq, Int.reduceNe, reduceCtorEq, g, k0, k1]; done) | omega | (simp only [go_sem, Nat.reduceBEq, Nat.reduceAdd, Nat.reduceMul, Nat.reduceSub, Nat.reduceEqDiff, Nat.reduceLeDiff, Nat.reduceLT, Int.reduceEq, Int.reduceAdd, Int.reduceSub, Int.reduceMul, Int.reduceNeg, Int.reduceLT, Int.reduceLE, Int.reduceToNat, Int.reduceBEq, Int.reduceNe, reduceCtorEq, g, k0, k1]; omega)) only [go_sem, Nat.reduceBEq, Nat.reduceAdd, Nat.reduceMul, Nat.reduceSub, Nat.reduceEqDiff, Nat.reduceLeDiff, Nat.reduceLT, Int.reduceEq, Int.reduceAdd, Int.reduceSub, Int.reduceMul, Int.reduceNeg, Int.reduceLT, Int.reduceLE, Int.reduceToNat, Int.reduceBEq, Int.reduceNe, reduceCtorEq, w64_id, w8_id, w16_id, w32_id, tmod_pos, tdiv_pos, Bool.or_true, Bool.true_or, Bool.or_false, Bool.false_or, Bool.and_false, Bool.false_and, condK_decide, g, k0, k1]
  exact hR _ _ ⟨rfl, vS_some.2 ⟨vb, x, rfl, s1⟩⟩
end
end Go.Eng
/-
  package cpu: msr.
-/
namespace Go.Eng
set_option linter.unusedSimpArgs false
set_option linter.unusedVariables false
set_option maxRecDepth 16000
set_option maxHeartbeats 4000000
open Go Go.Proofs
section
variable {h : Heap} {F : List SP} {rb n tb xb cb : Nat} {mem : Nat → Int} {T : List Ln} {vr vt vv : Value} {w : Int} {s : Spc} {at_ next : Int} {g : Bool} {ty ty2 : TypeId} {c : Cp} {o : Int} {A B C I : Nat}
theorem msr_S (f : c.fit) (hB : B < 16) {m : Int} (hs : Sat h (cellAt xb (.cells (turnL vr vt vv cb ⟨o, A, B, C, I⟩ w s at_ next g).toArray ty (0, 0)) :: cellAt cb (.cells c.cells.toArray ty2 (0, 0)) :: vS vv (some m) :: F)) :
    HCalls Tryz.prog 57 #[.pointer (some ⟨xb, 0, none⟩)] h fun v h' =>
      if 6 ≤ I then v = .agg (⟨7, I, c.Pc, okF⟩ : Trp).cells.toArray ∧ Sat h' (cellAt xb (.cells (turnL vr vt vv cb ⟨o, A, B, C, I⟩ w s at_ next g).toArray ty (0, 0)) :: cellAt cb (.cells c.cells.toArray ty2 (0, 0)) :: vS vv (some m) :: F)
      else v = .agg okT.cells.toArray ∧ Sat h' (cellAt xb (.cells (turnL vr vt vv cb ⟨o, A, B, C, I⟩ w s at_ next g).toArray ty (0, 0)) :: cellAt cb (.cells (setS c I (rg c B)).cells.toArray ty2 (0, 0)) :: vS vv (some (if (I : Int) = 2 then min (rg c B) 256 else m)) :: F) := by
  refine HCalls.via fun R hR => ?_
  have s1 := hs.push (.cells okT.cells.toArray 52 (0, 0))
  simp only [Trp.cells_eq, okT, okF] at s1
  have g0 := (s1.front 1).get
  have g1 := (s1.front 2).get
  simp only [turnL] at g0
  have n16 : nthL c.cells 16 = some (.int .i64 c.Pc) := by rw [nthL_eq]; exact Cp.pc f
  refine HCalls.of_dev T57 Tryz.func57 rfl mixed (by kernel_rfl) ?_; rw [Tryz.results57]
  by_cases q : 6 ≤ I
  · simp only [if_pos q] at hR
    have q1 : (6 : Int) ≤ I := by omega
    have s3 := hs.push (.cells (⟨7, I, c.Pc, okF⟩ : Trp).cells.toArray 52 (0, 0))
    simp (maxSteps := 2000000) (disch := first | (simp only [go_sem, Nat.reduceBEq, Nat.reduceAdd, Nat.reduceMul, Nat.reduceSub, Nat.reduceEqDiff, Nat.reduceLeDiff, Nat.reduceLT, Int.reduceEq, Int.reduceAdd, Int.reduceSub, Int.reduceMul, Int.reduceNeg, Int.reduceLT, Int.reduceLE, Int.reduceToNat, Int.reduceBEq, Int.reduceNe, reduceCtorEq, g0, g1, n16, s1.get, q1]; done) | omega | (simp only [go_sem, Nat.reduceBEq, Nat.reduceAdd, Nat.reduceMul, Nat.reduceSub, Nat.reduceEqDiff, Nat.reduceLeDiff, Nat.reduceLT, Int.reduceEq, Int.reduceAdd, Int.reduceSub, Int.reduceMul, Int.reduceNeg, Int.reduceLT, Int.reduceLE, Int.reduceToNat, Int.reduceBEq, Int.reduceNe, reduceCtorEq, g0, g1, n16, s1.get, q1]; omega)) only [go_sem, Nat.reduceBEq, Nat.reduceAdd, Nat.reduceMul, Nat.reduceSub, Nat.reduceEqDiff, Nat.reduceLeDiff, Nat.reduceLT, Int.reduceEq, Int.reduceAdd, Int.reduceSub, Int.reduceMul, Int.reduceNeg, Int.reduceLT, Int.reduceLE, Int.reduceToNat, Int.reduceBEq, Int.reduceNe, reduceCtorEq, w64_id, w8_id, w16_id, w32_id, tmod_pos, tdiv_pos, Bool.or_true, Bool.true_or, Bool.or_false, Bool.false_or, Bool.and_false, Bool.false_and, condK_decide, g0, g1, n16, s1.get, q1]
    exact hR _ _ ⟨rfl, s3.tail⟩
  · simp only [if_neg q] at hR
    have q1 : ¬ (6 : Int) ≤ I := by omega
    have nB : nthL c.cells B = some (.int .u32 (rg c B)) := by rw [nthL_eq]; exact Cp.reg f hB
    have i0 : (0 : Int) ≤ I := by omega
    have i1 : (I : Int) < 8 := by omega
    have b0 : (0 : Int) ≤ B := by omega
    have b1 : (B : Int) < 16 := by omega
    obtain ⟨y0, y1⟩ := rg_bd f (i := B) (by omega) (by omega)
    have l := Cp.len f
    have l1 : 17 + I < c.cells.length := by omega
    have sc := setS_cells f (a := I) (v := rg c B)
    have f2 := setS_fit f (a := I) ⟨y0, y1⟩
    have nB2 : nthL (setS c I (rg c B)).cells B = some (.int .u32 (rg c B)) := by rw [nthL_eq]; exact Cp.reg f2 hB
    have s2 := (s1.front 2).set (.cells (setS c I (rg c B)).cells.toArray ty2 (0, 0))
    have s3 := (s2.front 1).set (.cells okT.cells.toArray 52 (0, 0))
    have g20 := (s2.front 2).get
    have g21 := s2.get
    have g2 := (s2.front 1).get
    have g3 := s3.get
    simp only [Trp.cells_eq, okT, okF, turnL] at g3 g20
    by_cases q2 : (I : Int) = 2
    · simp only [if_pos q2] at hR
      obtain rfl : I = 2 := by omega
      have n2 : ((2 : Nat) : Int) = 2 := rfl
      have l19 : 19 < c.cells.length := l1
      have sc19 : c.cells.set 19 (.int .u32 (rg c B)) = (setS c 2 (rg c B)).cells := sc
      simp only [n2] at nB2 g2 g3 g20 g21 g0
      simp (maxSteps := 2000000) (disch := first | (simp only [go_sem, Nat.reduceBEq, Nat.reduceAdd, Nat.reduceMul, Nat.reduceSub, Nat.reduceEqDiff, Nat.reduceLeDiff, Nat.reduceLT, Int.reduceEq, Int.reduceAdd, Int.reduceSub, Int.reduceMul, Int.reduceNeg, Int.reduceLT, Int.reduceLE, Int.reduceToNat, Int.reduceBEq, Int.reduceNe, reduceCtorEq, g0, g1, nB, n2, b0, b1, l19, sc19, g20, g21, nB2]; done) | omega | (simp only [go_sem, Nat.reduceBEq, Nat.reduceAdd, Nat.reduceMul, Nat.reduceSub, Nat.reduceEqDiff, Nat.reduceLeDiff, Nat.reduceLT, Int.reduceEq, Int.reduceAdd, Int.reduceSub, Int.reduceMul, Int.reduceNeg, Int.reduceLT, Int.reduceLE, Int.reduceToNat, Int.reduceBEq, Int.reduceNe, reduceCtorEq, g0, g1, nB, n2, b0, b1, l19, sc19, g20, g21, nB2]; omega)) only [go_sem, Nat.reduceBEq, Nat.reduceAdd, Nat.reduceMul, Nat.reduceSub, Nat.reduceEqDiff, Nat.reduceLeDiff, Nat.reduceLT, Int.reduceEq, Int.reduceAdd, Int.reduceSub, Int.reduceMul, Int.reduceNeg, Int.reduceLT, Int.reduceLE, Int.reduceToNat, Int.reduceBEq, Int.reduceNe, reduceCtorEq, w64_id, w8_id, w16_id, w32_id, tmod_pos, tdiv_pos, Bool.or_true, Bool.true_or, Bool.or_false, Bool.false_or, Bool.and_false, Bool.false_and, condK_decide, g0, g1, nB, n2, b0, b1, l19, sc19, g20, g21, nB2]
      refine (setMask_S (s2.front 3) (min (rg c B) 256) (by omega) (by omega)).mono ?_
      rintro v h4 ⟨rfl, s4⟩
      have s5 := (s4.front 2).set (.cells okT.cells.toArray 52 (0, 0))
      simp only [Trp.cells_eq, okT, okF] at s5
      simp (maxSteps := 2000000) (disch := first | (simp only [go_sem, Nat.reduceBEq, Nat.reduceAdd, Nat.reduceMul, Nat.reduceSub, Nat.reduceEqDiff, Nat.reduceLeDiff, Nat.reduceLT, Int.reduceEq, Int.reduceAdd, Int.reduceSub, Int.reduceMul, Int.reduceNeg, Int.reduceLT, Int.reduceLE, Int.reduceToNat, Int.reduceBEq, Int.reduceNe, reduceCtorEq, (s4.front 2).get, s5.get]; done) | omega | (simp only [go_sem, Nat.reduceBEq, Nat.reduceAdd, Nat.reduceMul, Nat.reduceSub, Nat.reduceEqDiff, Nat.reduceLeDiff, Nat.reduceLT, Int.reduceEq, Int.reduceAdd, Int.reduceSub, Int.reduceMul, Int.reduceNeg, Int.reduceLT, Int.reduceLE, Int.reduceToNat, Int.reduceBEq, Int.reduceNe, reduceCtorEq, (s4.front 2).get, s5.get]; omega)) only [go_sem, Nat.reduceBEq, Nat.reduceAdd, Nat.reduceMul, Nat.reduceSub, Nat.reduceEqDiff, Nat.reduceLeDiff, Nat.reduceLT, Int.reduceEq, Int.reduceAdd, Int.reduceSub, Int.reduceMul, Int.reduceNeg, Int.reduceLT, Int.reduceLE, Int.reduceToNat, Int.reduceBEq, Int.reduceNe, reduceCtorEq, w64_id, w8_id, w16_id, w32_id, tmod_pos, tdiv_pos, Bool.or_true, Bool.true_or, Bool.or_false, Bool.false_or, Bool.and_false, Bool.false_and, condK_decide, (s4.front 2).get, s5.get]
      exact hR _ _ ⟨rfl, (s5.tail.back 2).swap⟩
    · simp only [if_neg q2] at hR
      simp (maxSteps := 2000000) (disch := first | (simp only [go_sem, Nat.reduceBEq, Nat.reduceAdd, Nat.reduceMul, Nat.reduceSub, Nat.reduceEqDiff, Nat.reduceLeDiff, Nat.reduceLT, Int.reduceEq, Int.reduceAdd, Int.reduceSub, Int.reduceMul, Int.reduceNeg, Int.reduceLT, Int.reduceLE, Int.reduceToNat, Int.reduceBEq, Int.reduceNe, reduceCtorEq, g0, g1, nB, q1, i0, i1, b0, b1, l1, sc, g2, g3, q2, g20, g21]; done) | omega | (simp only [go_sem, Nat.reduceBEq, Nat.reduceAdd, Nat.reduceMul, Nat.reduceSub, Nat.reduceEqDiff, Nat.reduceLeDiff, Nat.reduceLT, Int.reduceEq, Int.reduceAdd, Int.reduceSub, Int.reduceMul, Int.reduceNeg, Int.reduceLT, Int.reduceLE, Int.reduceToNat, Int.reduceBEq, Int.reduceNe, reduceCtorEq, g0, g1, nB, q1, i0, i1, b0, b1, l1, sc, g2, g3, q2, g20, g21]; omega)) only [go_sem, Nat.reduceBEq, Nat.reduceAdd, Nat.reduceMul, Nat.reduceSub, Nat.reduceEqDiff, Nat.reduceLeDiff, Nat.reduceLT, Int.reduceEq, Int.reduceAdd, Int.reduceSub, Int.reduceMul, Int.reduceNeg, Int.reduceLT, Int.reduceLE, Int.reduceToNat, Int.reduceBEq, Int.reduceNe, reduceCtorEq, w64_id, w8_id, w16_id, w32_id, tmod_pos, tdiv_pos, Bool.or_true, Bool.true_or, Bool.or_false, Bool.false_or, Bool.and_false, Bool.false_and, condK_decide, g0, g1, nB, q1, i0, i1, b0, b1, l1, sc, g2, g3, q2, g20, g21]
      exact hR _ _ ⟨rfl, s3.tail.swap⟩
end
end Go.Eng
/-
  package cpu: what is done, by the operation's number.
-/
namespace Go.Eng
set_option linter.unusedSimpArgs false
set_option linter.unusedVariables false
set_option maxRecDepth 16000
set_option maxHeartbeats 4000000
open Go Go.Proofs
theorem drop4 {h : Heap} {A B C D E : SP} {F : List SP} (x : Sat h (A :: B :: C :: D :: E :: F)) : Sat h (A :: B :: C :: D :: F) := (x.front 4).tail
theorem callV_mono {P : Program} {v : Value} {vs : List Value} {h : Heap} {K K' : Value → Heap → Prop} (q : callV P v vs h K) (m : ∀ v h', K v h' → K' v h') : callV P v vs h K' := by
  unfold callV at q ⊢
  split at q
  · exact ⟨q.1, q.2.mono m⟩
  · exact q.elim
theorem ops_get (D : Nat → Value) {op : Nat} (h : op < 26) : (opsL D).toArray.extract (op * 2) (op * 2 + 2) = #[.bool (guestO (op : Nat)), D op] := by
  have := flat_extract (enc := fun k : Nat => [Value.bool (guestO (k : Nat)), D k]) (sz := 2) (fun _ => rfl) (L := List.range 26) (i := op) (by simpa using h)
  rw [List.getElem_range] at this
  exact this
theorem opB_func {h : Heap} {F : List SP} {op : Nat} {dv : Value} (hs : Sat h (opB op dv :: F)) : ∃ f a b, dv = .func f a b := by
  unfold opB at hs
  split at hs
  all_goals first
    | exact ⟨_, _, _, (Sat.pure.1 hs).1⟩
    | (obtain ⟨_, _, e, -⟩ := recB_iff.1 hs; exact ⟨_, _, _, e⟩)
    | (obtain ⟨_, _, _, _, _, _, e, -⟩ := touB_iff.1 hs; exact ⟨_, _, _, e⟩)
/-- What an operation leaves. -/
def opPost (n rb tb xb cb : Nat) (vv : Value) (ty ty2 : TypeId) (M : Mch) (c : Cp) (i : Ins) (w : Int) (s : Spc) (at_ : Int) (F : List SP) (v : Value) (h' : Heap) : Prop :=
  ∃ (tr : Trp) (M' : Mch) (c' : Cp) (nx : Int), v = .agg tr.cells.toArray ∧ c'.fit ∧ 0 ≤ nx ∧ nx < 65536 ∧
    Sat h' (cellAt xb (.cells (turnL (.pointer (some ⟨rb, 0, none⟩)) (.pointer (some ⟨tb, 0, none⟩)) vv cb i w s at_ nx false).toArray ty (0, 0)) :: ramS rb n M'.mem :: tlbS tb M'.T :: cellAt cb (.cells c'.cells.toArray ty2 (0, 0)) :: vS vv M'.V :: F) ∧
    doP n M c i s at_ = if tr.C ≠ 0 then ⟨M', c, tr⟩ else ⟨M', { c' with Pc := nx }, tr⟩
/-- The operations of which it is told so far. -/
def opIn (op : Nat) : Prop := op ≤ 10 ∨ op = 17 ∨ op = 19 ∨ op = 20
theorem touch_eq (n : Nat) (M : Mch) (c : Cp) (i : Ins) (s : Spc) (at_ size want cause : Int) (hc : cause ≠ 0) : touch n M c i s at_ size want cause =
    if (touchP n M.mem M.T c i.A ((rg c i.B + i.I) % 65536) s at_ size want cause).t.C ≠ 0 then ⟨⟨(touchP n M.mem M.T c i.A ((rg c i.B + i.I) % 65536) s at_ size want cause).mem, (touchP n M.mem M.T c i.A ((rg c i.B + i.I) % 65536) s at_ size want cause).T, M.V⟩, c, (touchP n M.mem M.T c i.A ((rg c i.B + i.I) % 65536) s at_ size want cause).t⟩
    else ⟨⟨(touchP n M.mem M.T c i.A ((rg c i.B + i.I) % 65536) s at_ size want cause).mem, (touchP n M.mem M.T c i.A ((rg c i.B + i.I) % 65536) s at_ size want cause).T, M.V⟩, { (touchP n M.mem M.T c i.A ((rg c i.B + i.I) % 65536) s at_ size want cause).c with Pc := (c.Pc + 4) % 65536 }, (touchP n M.mem M.T c i.A ((rg c i.B + i.I) % 65536) s at_ size want cause).t⟩ := by
  unfold touch touchP
  generalize (rg c i.B + i.I) % 65536 = ad
  by_cases q : ad % size ≠ 0
  · simp only [if_pos q]; rfl
  simp only [if_neg q]
  by_cases k : (reachC n M.mem M.T s ad want at_).f.K ≠ 0
  · simp only [if_pos k]
    rw [if_pos hc]
  simp only [if_neg k]
  by_cases w2 : want = 2
  · simp only [if_pos w2]; rfl
  · simp only [if_neg w2]; rfl
theorem touch_fit {n : Nat} {mem : Nat → Int} {T : List Ln} {c : Cp} (f : c.fit) (hb : bytesOk (64 * n) mem) (hn : n ≤ 1024) (hT : ∀ l ∈ T, okL l) (A ad : Int) {s : Spc} {at_ size want cause : Int} (hz : size = 4 ∨ size = 1) (h0 : 0 ≤ ad) : (touchP n mem T c A ad s at_ size want cause).c.fit := by
  unfold touchP
  by_cases q : ad % size ≠ 0
  · rw [if_pos q]; exact f
  rw [if_neg q]
  by_cases k : (reachC n mem T s ad want at_).f.K ≠ 0
  · rw [if_pos k]; exact f
  rw [if_neg k]
  by_cases w2 : want = 2
  · rw [if_pos w2]; exact f
  rw [if_neg w2]
  obtain ⟨b1, b2, b3⟩ := reachC_bd mem hT hn s ad want at_ h0 (by omega)
  refine setR_fit f ?_
  obtain ⟨l1, l2⟩ := loadM_bd hb (reachC n mem T s ad want at_).at_.toNat size.toNat (by rcases hz with rfl | rfl <;> simp <;> omega)
  refine ⟨l1, ?_⟩
  rcases hz with rfl | rfl
  · exact l2
  · have : (256 : Int) ^ (1 : Int).toNat = 256 := rfl
    omega
theorem add_do_bd (x y : Int) : 0 ≤ (x + y) % 4294967296 ∧ (x + y) % 4294967296 < 4294967296 := by omega
theorem sub_do_bd (x y : Int) : 0 ≤ (x - y) % 4294967296 ∧ (x - y) % 4294967296 < 4294967296 := by omega
theorem and_do_bd (x y : Int) : 0 ≤ and32 x y ∧ and32 x y < 4294967296 := by
  unfold and32
  have := (BitVec.ofInt 32 x &&& BitVec.ofInt 32 y).isLt
  omega
theorem xor_do_bd (x y : Int) : 0 ≤ xor32 x y ∧ xor32 x y < 4294967296 := by
  unfold xor32
  have := (BitVec.ofInt 32 x ^^^ BitVec.ofInt 32 y).isLt
  omega
theorem shl_do_bd (x y : Int) : 0 ≤ x * 2 ^ (y % 32).toNat % 4294967296 ∧ x * 2 ^ (y % 32).toNat % 4294967296 < 4294967296 := by
  generalize x * 2 ^ (y % 32).toNat = z
  omega
section
variable {h : Heap} {F : List SP} {rb n tb xb cb : Nat} {vv dv : Value} {w : Int} {s : Spc} {at_ : Int} {ty ty2 : TypeId} {c : Cp} {M : Mch} {op A B C I : Nat}
theorem opDo_S (f : c.fit) (op1 : 1 ≤ op) (op2 : op ≤ 25) (oi : opIn op) (hA : A < 16) (hB : B < 16) (hC : C < 16) (hI : I < 65536) (hg : guestO (op : Nat) = true → ∃ m, M.V = some m)
    (hs : Sat h (opB op dv :: cellAt xb (.cells (turnL (.pointer (some ⟨rb, 0, none⟩)) (.pointer (some ⟨tb, 0, none⟩)) vv cb ⟨op, A, B, C, I⟩ w s at_ ((c.Pc + 4) % 65536) false).toArray ty (0, 0)) :: ramS rb n M.mem :: tlbS tb M.T :: cellAt cb (.cells c.cells.toArray ty2 (0, 0)) :: vS vv M.V :: F)) :
    callV Tryz.prog dv [.pointer (some ⟨xb, 0, none⟩)] h (opPost n rb tb xb cb vv ty ty2 M c ⟨op, A, B, C, I⟩ w s at_ F) := by
  have nx0 : 0 ≤ (c.Pc + 4) % 65536 := by omega
  have nx1 : (c.Pc + 4) % 65536 < 65536 := by omega
  obtain ⟨⟨hb, hn⟩, -⟩ := ramS_iff.1 (hs.front 2)
  obtain ⟨⟨-, hT⟩, -⟩ := tlbS_iff.1 (hs.front 3)
  have y0 := rg_bd f (i := B) (by omega) (by omega)
  have z0 := rg_bd f (i := C) (by omega) (by omega)
  match op, op1, op2, oi with
  | 1, _, _, _ =>
    obtain ⟨rfl, s1⟩ := Sat.pure.1 hs
    refine ⟨by kernel_rfl, ?_⟩
    refine (movi_S f hA hI (s1.front 3).swap).mono ?_
    rintro v h' ⟨rfl, s2⟩
    exact ⟨okT, M, _, _, rfl, setR_fit f ⟨by omega, by omega⟩, nx0, nx1, s2.swap.back 3, rfl⟩
  | 2, _, _, _ =>
    obtain ⟨b, ty3, rfl, s1⟩ := recB_iff.1 hs
    refine ⟨by kernel_rfl, ?_⟩
    refine (reck_S f hA hB hC add_do add_do_bd ((s1.front 4).back 2)).mono ?_
    rintro v h' ⟨rfl, s2⟩
    exact ⟨okT, M, _, _, rfl, setR_fit f (add_do_bd _ _), nx0, nx1, s2.swap.back 3, rfl⟩
  | 3, _, _, _ =>
    obtain ⟨b, ty3, rfl, s1⟩ := recB_iff.1 hs
    refine ⟨by kernel_rfl, ?_⟩
    refine (reck_S f hA hB hC sub_do sub_do_bd ((s1.front 4).back 2)).mono ?_
    rintro v h' ⟨rfl, s2⟩
    exact ⟨okT, M, _, _, rfl, setR_fit f (sub_do_bd _ _), nx0, nx1, s2.swap.back 3, rfl⟩
  | 4, _, _, _ =>
    obtain ⟨b, ty3, rfl, s1⟩ := recB_iff.1 hs
    refine ⟨by kernel_rfl, ?_⟩
    refine (reck_S f hA hB hC and_do and_do_bd ((s1.front 4).back 2)).mono ?_
    rintro v h' ⟨rfl, s2⟩
    exact ⟨okT, M, _, _, rfl, setR_fit f (and_do_bd _ _), nx0, nx1, s2.swap.back 3, rfl⟩
  | 5, _, _, _ =>
    obtain ⟨b, ty3, rfl, s1⟩ := recB_iff.1 hs
    refine ⟨by kernel_rfl, ?_⟩
    refine (reck_S f hA hB hC xor_do xor_do_bd ((s1.front 4).back 2)).mono ?_
    rintro v h' ⟨rfl, s2⟩
    exact ⟨okT, M, _, _, rfl, setR_fit f (xor_do_bd _ _), nx0, nx1, s2.swap.back 3, rfl⟩
  | 6, _, _, _ =>
    obtain ⟨b, ty3, rfl, s1⟩ := recB_iff.1 hs
    refine ⟨by kernel_rfl, ?_⟩
    refine (reck_S f hA hB hC shl_do shl_do_bd ((s1.front 4).back 2)).mono ?_
    rintro v h' ⟨rfl, s2⟩
    exact ⟨okT, M, _, _, rfl, setR_fit f (shl_do_bd _ _), nx0, nx1, s2.swap.back 3, rfl⟩
  | 7, _, _, _ =>
    obtain ⟨b1, b2, b3, t1, t2, t3, rfl, s1⟩ := touB_iff.1 hs
    refine ⟨by kernel_rfl, ?_⟩
    refine (touchC_S f hA hB hC hI (by omega) (by omega) s1).mono ?_
    rintro v h' ⟨rfl, s2⟩
    exact ⟨_, ⟨_, _, M.V⟩, _, _, rfl, touch_fit f hb hn hT _ _ (by omega) (by omega), nx0, nx1, s2, touch_eq _ _ _ _ _ _ _ _ _ (by decide)⟩
  | 8, _, _, _ =>
    obtain ⟨b1, b2, b3, t1, t2, t3, rfl, s1⟩ := touB_iff.1 hs
    refine ⟨by kernel_rfl, ?_⟩
    refine (touchC_S f hA hB hC hI (by omega) (by omega) s1).mono ?_
    rintro v h' ⟨rfl, s2⟩
    exact ⟨_, ⟨_, _, M.V⟩, _, _, rfl, touch_fit f hb hn hT _ _ (by omega) (by omega), nx0, nx1, s2, touch_eq _ _ _ _ _ _ _ _ _ (by decide)⟩
  | 9, _, _, _ =>
    obtain ⟨b1, b2, b3, t1, t2, t3, rfl, s1⟩ := touB_iff.1 hs
    refine ⟨by kernel_rfl, ?_⟩
    refine (touchC_S f hA hB hC hI (by omega) (by omega) s1).mono ?_
    rintro v h' ⟨rfl, s2⟩
    exact ⟨_, ⟨_, _, M.V⟩, _, _, rfl, touch_fit f hb hn hT _ _ (by omega) (by omega), nx0, nx1, s2, touch_eq _ _ _ _ _ _ _ _ _ (by decide)⟩
  | 10, _, _, _ =>
    obtain ⟨b1, b2, b3, t1, t2, t3, rfl, s1⟩ := touB_iff.1 hs
    refine ⟨by kernel_rfl, ?_⟩
    refine (touchC_S f hA hB hC hI (by omega) (by omega) s1).mono ?_
    rintro v h' ⟨rfl, s2⟩
    exact ⟨_, ⟨_, _, M.V⟩, _, _, rfl, touch_fit f hb hn hT _ _ (by omega) (by omega), nx0, nx1, s2, touch_eq _ _ _ _ _ _ _ _ _ (by decide)⟩
  | 17, _, _, _ =>
    obtain ⟨b, ty3, rfl, s1⟩ := recB_iff.1 hs
    refine ⟨by kernel_rfl, ?_⟩
    refine (trapsC_S f ((s1.front 4).back 2)).mono ?_
    rintro v h' ⟨rfl, s2⟩
    exact ⟨_, M, _, _, rfl, f, nx0, nx1, s2.swap.back 3, rfl⟩
  | 19, _, _, _ =>
    obtain ⟨rfl, s1⟩ := Sat.pure.1 hs
    refine ⟨by kernel_rfl, ?_⟩
    refine (mrs_S f hA (s1.front 3).swap).mono ?_
    intro v h'
    by_cases q : 6 < I
    · rw [if_pos q]
      rintro ⟨rfl, s2⟩
      refine ⟨_, M, _, _, rfl, f, nx0, nx1, s2.swap.back 3, ?_⟩
      have q1 : (6 : Int) < I := by omega
      simp [doP, q1]
    · rw [if_neg q]
      rintro ⟨rfl, s2⟩
      refine ⟨okT, M, _, _, rfl, setR_fit f (sy_bd f (by omega) (by omega)), nx0, nx1, s2.swap.back 3, ?_⟩
      have q1 : ¬ (6 : Int) < I := by omega
      simp [doP, q1, go, okT]
  | 20, _, _, _ =>
    obtain ⟨rfl, s1⟩ := Sat.pure.1 hs
    refine ⟨by kernel_rfl, ?_⟩
    obtain ⟨m, hV⟩ := hg (by decide)
    rw [hV] at s1
    refine (msr_S f hB (((s1.front 4).front 4).front 2)).mono ?_
    intro v h'
    by_cases q : 6 ≤ I
    · rw [if_pos q]
      rintro ⟨rfl, s2⟩
      refine ⟨_, M, _, _, rfl, f, nx0, nx1, ?_, ?_⟩
      · rw [hV]; exact ((s2.front 4).front 4).front 2
      have q1 : (6 : Int) ≤ I := by omega
      simp [doP, q1]
    · rw [if_neg q]
      rintro ⟨rfl, s2⟩
      refine ⟨okT, { M with V := some (if (I : Int) = 2 then min (rg c B) 256 else m) }, setS c I (rg c B), _, rfl, setS_fit f (a := I) y0, nx0, nx1, ?_, ?_⟩
      · exact ((s2.front 4).front 4).front 2
      have q1 : ¬ (6 : Int) ≤ I := by omega
      by_cases q2 : (I : Int) = 2
      · simp [doP, q1, go, okT, q2]
      · simp [doP, q1, go, okT, q2, hV]
  | 0, q, _, _ => exact absurd q (by decide)
  | 11, _, _, q => exact absurd q (by unfold opIn; omega)
  | 12, _, _, q => exact absurd q (by unfold opIn; omega)
  | 13, _, _, q => exact absurd q (by unfold opIn; omega)
  | 14, _, _, q => exact absurd q (by unfold opIn; omega)
  | 15, _, _, q => exact absurd q (by unfold opIn; omega)
  | 16, _, _, q => exact absurd q (by unfold opIn; omega)
  | 18, _, _, q => exact absurd q (by unfold opIn; omega)
  | op + 21, _, _, q => exact absurd q (by unfold opIn; omega)
end
end Go.Eng
/-
  A step, by what is fetched: plain.
-/
namespace Go.Eng
set_option linter.unusedSimpArgs false
set_option linter.unusedVariables false
set_option maxRecDepth 16000
set_option maxHeartbeats 4000000
open Go Go.Proofs
theorem stepP_eq (n : Nat) (M : Mch) (c : Cp) (vm se at_ : Int) : stepP n M c vm se at_ =
    if (fetchP n M.mem M.T (spaceP M.V.isSome c vm se) c.Pc at_).t.C ≠ 0 then ⟨{ M with T := (fetchP n M.mem M.T (spaceP M.V.isSome c vm se) c.Pc at_).T }, c, (fetchP n M.mem M.T (spaceP M.V.isSome c vm se) c.Pc at_).t⟩
    else if guestO (decI (fetchP n M.mem M.T (spaceP M.V.isSome c vm se) c.Pc at_).w.toNat).Op = true ∧ M.V = none then ⟨{ M with T := (fetchP n M.mem M.T (spaceP M.V.isSome c vm se) c.Pc at_).T }, c, ⟨8, (fetchP n M.mem M.T (spaceP M.V.isSome c vm se) c.Pc at_).w, c.Pc, okF⟩⟩
    else doP n { M with T := (fetchP n M.mem M.T (spaceP M.V.isSome c vm se) c.Pc at_).T } c (decI (fetchP n M.mem M.T (spaceP M.V.isSome c vm se) c.Pc at_).w.toNat) (spaceP M.V.isSome c vm se) at_ := by
  unfold stepP
  generalize spaceP M.V.isSome c vm se = s
  unfold fetchP stepF
  by_cases q : c.Pc % 4 ≠ 0 ∨ c.Pc < 0 ∨ 65536 ≤ c.Pc
  · simp only [if_pos q]; rfl
  simp only [if_neg q]
  by_cases k : (reachC n M.mem M.T s c.Pc 4 at_).f.K ≠ 0
  · simp only [if_pos k]; rfl
  simp only [if_neg k]
  generalize loadM M.mem (reachC n M.mem M.T s c.Pc 4 at_).at_.toNat 4 = w
  cases r : rightI (decI w.toNat) with
  | false => simp [okT]
  | true => simp [okT]
end Go.Eng
