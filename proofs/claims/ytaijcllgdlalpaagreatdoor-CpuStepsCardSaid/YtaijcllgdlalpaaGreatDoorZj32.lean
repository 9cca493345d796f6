/-
  viceroyref04: with, guest, Nested.
-/
import Derived.Test.YtaijcllgdlalpaaGreatDoorZj31
import Derived.Test.YtaijcllgdlalpaaGreatDoorZj13
import Derived.Test.YtaijcllgdlalpaaGreatDoorZj29
import Derived.Test.YtaijcllgdlalpaaGreatDoorZj14
set_option linter.unusedSimpArgs false
set_option linter.unusedVariables false
set_option maxRecDepth 16000
set_option maxHeartbeats 4000000
namespace Go.Eng
open Go Go.Proofs
theorem sgW_ok {n : Nat} {mem : Nat → Int} {root page : Int} (h : (sgW n mem root page).f.K = 0) : (sgW n mem root page).f = okF := by
  unfold sgW at h ⊢
  by_cases k : page < 0 ∨ 1024 ≤ page
  · rw [if_pos k] at h; cases h
  rw [if_neg k] at h ⊢
  by_cases k1 : (stepE n mem root page 0).2 ≠ 0
  · rw [if_pos k1] at h; exact absurd h k1
  rw [if_neg k1] at h ⊢
  by_cases k2 : (stepE n mem (stepE n mem root page 0).1.F page 1).2 ≠ 0
  · rw [if_pos k2] at h; exact absurd h k2
  rw [if_neg k2]
theorem seW_ok' {n : Nat} {mem : Nat → Int} {root page a : Int} (h : (seW n mem root page a).f.K = 0) : (seW n mem root page a).f = okF := by
  unfold seW at h ⊢
  by_cases k : (sgW n mem root page).f.K ≠ 0
  · rw [if_pos k] at h; exact absurd h k
  rw [if_neg k] at h ⊢
  by_cases k2 : andI (sgW n mem root page).Ri a = 0
  · rw [if_pos k2] at h; cases h
  rw [if_neg k2]
section
variable {h : Heap} {F : List SP} {rb n : Nat} {mem : Nat → Int}
theorem rwith_S (hs : Sat h (refRamS rb n mem :: F)) (root p w : Int) : HCalls Tryz.prog 149 #[.pointer (some ⟨rb, 0, none⟩), .int .i64 root, .int .i64 p, .int .i64 w] h fun v h' => v = (seW n mem root p w).val ∧ Ext h h' := by
  refine HCalls.via fun R hR => ?_
  have s1 := (hs.push (.cells okF.cells.toArray 47 (0, 0))).swap
  have e1 := (Sat.init h).push (.cells okF.cells.toArray 47 (0, 0))
  simp only [Flt.cells_eq, okF] at s1 e1
  refine HCalls.of_dev T149 Tryz.func149 rfl mixed (by kernel_rfl) ?_; rw [Tryz.results149]
  simp (maxSteps := 2000000) (disch := first | (simp only [go_sem, simprocAttr] <;> omega) | omega) only [go_sem, simprocAttr]
  refine (rsingle_S s1 root p).mono ?_
  rintro v h2 ⟨rfl, x2⟩
  unfold seW Wlk.val at hR
  have hok := sgW_ok (n := n) (mem := mem) (root := root) (page := p)
  generalize sgW n mem root p = s at *
  obtain ⟨fr, ri, f⟩ := s
  have e2 := (e1.grow x2).push (.cells f.cells.toArray 47 (0, 0))
  simp only [Flt.cells_eq] at e2
  simp only [Wlk.val] at hR hok ⊢
  have g0 := (e2.front 1).get
  by_cases q : f.K = 0
  · have := hok q
    subst this
    rw [if_neg (by simp [okF])] at hR
    simp only [okF] at e2 g0 ⊢
    have e3 := (e2.front 1).set (.cells (⟨2, 2, 1, false, p⟩ : Flt).cells.toArray 47 (0, 0))
    have e4 := (e2.front 1).set (.cells okF.cells.toArray 47 (0, 0))
    simp only [Flt.cells_eq, okF] at e3 e4
    simp (maxSteps := 2000000) (disch := first | (simp only [go_sem, simprocAttr, e2.get, g0, e3.get, e4.get] <;> omega) | omega) only [go_sem, simprocAttr, e2.get, g0, e3.get, e4.get]
    refine ⟨fun q2 => ?_, fun q2 => ?_⟩
    · rw [if_pos (show andI ri w = 0 from q2)] at hR
      exact hR _ _ ⟨rfl, (e3.front 2).ext⟩
    · rw [if_neg (show ¬ andI ri w = 0 from q2)] at hR
      exact hR _ _ ⟨rfl, (e4.front 2).ext⟩
  · rw [if_pos q] at hR
    have e3 := (e2.front 1).set (.cells f.cells.toArray 47 (0, 0))
    simp only [Flt.cells_eq] at e3
    simp (maxSteps := 2000000) (disch := first | (simp only [go_sem, simprocAttr, e2.get, g0, q, e3.get] <;> omega) | omega) only [go_sem, simprocAttr, e2.get, g0, q, e3.get]
    exact hR _ _ ⟨rfl, (e3.front 2).ext⟩
theorem rguest_S (hs : Sat h (refRamS rb n mem :: F)) (s : Spc) (g p l : Int) (hl : l = 0 ∨ l = 1) : HCalls Tryz.prog 150 #[.pointer (some ⟨rb, 0, none⟩), .agg s.cells.toArray, .int .i64 g, .int .i64 p, .int .i64 l] h fun v h' => v = .tuple #[.agg (ownE n mem s g p l).1.cells.toArray, .agg (ownE n mem s g p l).2.cells.toArray] ∧ Ext h h' := by
  refine HCalls.via fun R hR => ?_
  have hown := ownE_eq n mem s g p l
  have s1 := ((hs.push (.cells s.cells.toArray 78 (0, 0))).push (.cells zeroE.cells.toArray 51 (0, 0))).push (.cells okF.cells.toArray 47 (0, 0))
  have e1 := (((Sat.init h).push (.cells s.cells.toArray 78 (0, 0))).push (.cells zeroE.cells.toArray 51 (0, 0))).push (.cells okF.cells.toArray 47 (0, 0))
  simp only [Flt.cells_eq, okF, Spc.cells_eq, Ent.cells_eq, zeroE, size_push'] at s1 e1
  refine HCalls.of_dev T150 Tryz.func150 rfl mixed (by kernel_rfl) ?_; rw [Tryz.results150]
  simp (maxSteps := 2000000) (disch := first | (simp only [go_sem, simprocAttr] <;> omega) | omega) only [go_sem, simprocAttr]
  refine (rwith_S (s1.front 3) s.Second g 1).mono ?_
  rintro v h2 ⟨rfl, x2⟩
  have e2 := e1.grow x2
  have s2 := s1.grow x2
  have hwok : (seW n mem s.Second g 1).f.K = 0 → (seW n mem s.Second g 1).f = okF := fun q => (seW_ok' q)
  generalize seW n mem s.Second g 1 = W at *
  obtain ⟨fr, ri, f⟩ := W
  simp only [Wlk.val] at hown hwok ⊢
  have e3 := e2.push (.cells f.cells.toArray 47 (0, 0))
  have s3 := s2.push (.cells f.cells.toArray 47 (0, 0))
  simp only [Flt.cells_eq] at e3 s3
  have g1 := e3.get
  by_cases q : f.K = 0
  · rw [if_neg (by simpa using q)] at hown
    have := hwok q
    subst this
    simp only [okF] at e3 s3 g1
    have x0 : okF = ⟨0, 0, 0, false, 0⟩ := rfl
    simp (maxSteps := 2000000) (disch := first | (simp only [go_sem, simprocAttr, g1, x0] <;> omega) | omega) only [go_sem, simprocAttr, g1, x0]
    refine (rentry_S (s3.front 4) fr p l hl).mono ?_
    rintro v h3 ⟨rfl, x3⟩
    generalize stepE n mem fr p l = X at *
    obtain ⟨⟨xV, xL, xR, xF⟩, xe⟩ := X
    simp only at hown
    have e4 := (e3.grow x3).push (.cells #[.bool xV, .bool xL, .int .i64 xR, .int .i64 xF] 51 (0, 0))
    have g4 := e4.get
    by_cases q2 : xe = 0
    · rw [if_neg (by simpa using q2)] at hown
      rw [hown] at hR
      have e5 := (e4.front 3).set (.cells #[.bool xV, .bool xL, .int .i64 xR, .int .i64 xF] 51 (0, 0))
      have e6 := (e5.front 3).set (.cells okF.cells.toArray 47 (0, 0))
      simp only [Flt.cells_eq, okF] at e6
      simp (maxSteps := 2000000) (disch := first | (simp only [go_sem, simprocAttr, g4, q2, (e4.front 3).get, (e5.front 3).get, e6.get, (e6.front 1).get, (e5.front 1).get] <;> omega) | omega) only [go_sem, simprocAttr, g4, q2, (e4.front 3).get, (e5.front 3).get, e6.get, (e6.front 1).get, (e5.front 1).get]
      exact hR _ _ ⟨rfl, (e6.front 5).ext⟩
    · rw [if_pos q2] at hown
      rw [hown] at hR
      have e5 := (e4.front 3).set (.cells #[.bool false, .bool false, .int .i64 0, .int .i64 0] 51 (0, 0))
      have e6 := (e5.front 3).set (.cells (⟨xe, 1, l, false, p⟩ : Flt).cells.toArray 47 (0, 0))
      simp only [Flt.cells_eq] at e6
      simp (maxSteps := 2000000) (disch := first | (simp only [go_sem, simprocAttr, g4, q2, (e4.front 3).get, (e5.front 3).get, e6.get, (e6.front 1).get] <;> omega) | omega) only [go_sem, simprocAttr, g4, q2, (e4.front 3).get, (e5.front 3).get, e6.get, (e6.front 1).get]
      exact hR _ _ ⟨rfl, (e6.front 5).ext⟩
  · rw [if_pos q] at hown
    rw [hown] at hR
    have e4 := e2.push (.cells ({ f with W := true } : Flt).cells.toArray 47 (0, 0))
    simp only [Flt.cells_eq] at e4
    have e5 := (e4.front 2).set (.cells #[.bool false, .bool false, .int .i64 0, .int .i64 0] 51 (0, 0))
    have e6 := (e5.front 2).set (.cells ({ f with W := true } : Flt).cells.toArray 47 (0, 0))
    simp only [Flt.cells_eq] at e6
    simp (maxSteps := 2000000) (disch := first | (simp only [go_sem, simprocAttr, g1, q, (e4.front 2).get, (e5.front 1).get, (e5.front 2).get, e6.get, (e6.front 1).get] <;> omega) | omega) only [go_sem, simprocAttr, g1, q, (e4.front 2).get, (e5.front 1).get, (e5.front 2).get, e6.get, (e6.front 1).get]
    exact hR _ _ ⟨rfl, (e6.front 4).ext⟩
end
end Go.Eng
/-
  viceroyref04: Nested, Reach.
-/
namespace Go.Eng
open Go Go.Proofs
theorem ownE_ok {n : Nat} {mem : Nat → Int} {s : Spc} {g p l : Int} (h : (ownE n mem s g p l).2.K = 0) : (ownE n mem s g p l).2 = okF := by
  rw [ownE_eq] at h ⊢
  by_cases k : (seW n mem s.Second g 1).f.K ≠ 0
  · rw [if_pos k] at h; exact absurd h k
  rw [if_neg k] at h ⊢
  by_cases k2 : (stepE n mem (seW n mem s.Second g 1).Fr p l).2 ≠ 0
  · rw [if_pos k2] at h; exact absurd h k2
  rw [if_neg k2]
section
variable {h : Heap} {F : List SP} {rb n tb : Nat} {mem : Nat → Int} {T : List Ln}
theorem rnested_S (hs : Sat h (refRamS rb n mem :: F)) (s : Spc) (p w : Int) (hw : w = 1 ∨ w = 2 ∨ w = 4) : HCalls Tryz.prog 134 #[.pointer (some ⟨rb, 0, none⟩), .agg s.cells.toArray, .int .i64 p, .int .i64 w] h fun v h' => v = (neW n mem s p w).val ∧ Ext h h' := by
  refine HCalls.via fun R hR => ?_
  have s1 := (hs.push (.cells s.cells.toArray 78 (0, 0))).push (.cells okF.cells.toArray 47 (0, 0))
  have e1 := ((Sat.init h).push (.cells s.cells.toArray 78 (0, 0))).push (.cells okF.cells.toArray 47 (0, 0))
  simp only [Flt.cells_eq, okF, Spc.cells_eq, size_push'] at s1 e1
  have gs := (e1.front 1).get
  unfold neW at hR
  refine HCalls.of_dev T134 Tryz.func134 rfl mixed (by kernel_rfl) ?_; rw [Tryz.results134]
  by_cases c : p < 0 ∨ 1024 ≤ p
  · rw [if_pos c] at hR
    have e9 := ((Sat.init h).push (.cells s.cells.toArray 78 (0, 0))).push (.cells (⟨3, 0, 0, false, 0⟩ : Flt).cells.toArray 47 (0, 0))
    simp only [Flt.cells_eq, Spc.cells_eq] at e9
    by_cases c1 : p < 0
    · simp (maxSteps := 2000000) (disch := first | (simp only [go_sem, Nat.reduceBEq, Nat.reduceAdd, Nat.reduceMul, Nat.reduceSub, Nat.reduceEqDiff, Nat.reduceLeDiff, Nat.reduceLT, Int.reduceEq, Int.reduceAdd, Int.reduceSub, Int.reduceMul, Int.reduceNeg, Int.reduceLT, Int.reduceLE, Int.reduceToNat, Int.reduceBEq, Int.reduceNe, reduceCtorEq, c1, e1.get, e9.get] <;> omega) | omega) only [go_sem, Nat.reduceBEq, Nat.reduceAdd, Nat.reduceMul, Nat.reduceSub, Nat.reduceEqDiff, Nat.reduceLeDiff, Nat.reduceLT, Int.reduceEq, Int.reduceAdd, Int.reduceSub, Int.reduceMul, Int.reduceNeg, Int.reduceLT, Int.reduceLE, Int.reduceToNat, Int.reduceBEq, Int.reduceNe, reduceCtorEq, w64_id, w8_id, w16_id, w32_id, tmod_pos, tdiv_pos, Bool.or_true, Bool.true_or, Bool.or_false, Bool.false_or, Bool.and_false, Bool.false_and, condK_decide, c1, e1.get, e9.get]
      repeat (first | exact hR _ _ ⟨rfl, (e9.front 2).ext⟩ | refine rdK_any fun _ => ?_)
    · have c2 : 1023 < p := by omega
      simp (maxSteps := 2000000) (disch := first | (simp only [go_sem, Nat.reduceBEq, Nat.reduceAdd, Nat.reduceMul, Nat.reduceSub, Nat.reduceEqDiff, Nat.reduceLeDiff, Nat.reduceLT, Int.reduceEq, Int.reduceAdd, Int.reduceSub, Int.reduceMul, Int.reduceNeg, Int.reduceLT, Int.reduceLE, Int.reduceToNat, Int.reduceBEq, Int.reduceNe, reduceCtorEq, c1, c2, e1.get, e9.get] <;> omega) | omega) only [go_sem, Nat.reduceBEq, Nat.reduceAdd, Nat.reduceMul, Nat.reduceSub, Nat.reduceEqDiff, Nat.reduceLeDiff, Nat.reduceLT, Int.reduceEq, Int.reduceAdd, Int.reduceSub, Int.reduceMul, Int.reduceNeg, Int.reduceLT, Int.reduceLE, Int.reduceToNat, Int.reduceBEq, Int.reduceNe, reduceCtorEq, w64_id, w8_id, w16_id, w32_id, tmod_pos, tdiv_pos, Bool.or_true, Bool.true_or, Bool.or_false, Bool.false_or, Bool.and_false, Bool.false_and, condK_decide, c1, c2, e1.get, e9.get]
      repeat (first | exact hR _ _ ⟨rfl, (e9.front 2).ext⟩ | refine rdK_any fun _ => ?_)
  have c1 : ¬ p < 0 := by omega
  have c2 : ¬ 1023 < p := by omega
  rw [if_neg c] at hR
  by_cases c3 : s.First < 0
  · rw [if_pos c3] at hR
    rcases hw with rfl | rfl | rfl
    all_goals
      simp (maxSteps := 2000000) (disch := first | (simp only [go_sem, Nat.reduceBEq, Nat.reduceAdd, Nat.reduceMul, Nat.reduceSub, Nat.reduceEqDiff, Nat.reduceLeDiff, Nat.reduceLT, Int.reduceEq, Int.reduceAdd, Int.reduceSub, Int.reduceMul, Int.reduceNeg, Int.reduceLT, Int.reduceLE, Int.reduceToNat, Int.reduceBEq, Int.reduceNe, reduceCtorEq, c1, c2, c3, gs] <;> omega) | omega) only [go_sem, Nat.reduceBEq, Nat.reduceAdd, Nat.reduceMul, Nat.reduceSub, Nat.reduceEqDiff, Nat.reduceLeDiff, Nat.reduceLT, Int.reduceEq, Int.reduceAdd, Int.reduceSub, Int.reduceMul, Int.reduceNeg, Int.reduceLT, Int.reduceLE, Int.reduceToNat, Int.reduceBEq, Int.reduceNe, reduceCtorEq, w64_id, w8_id, w16_id, w32_id, tmod_pos, tdiv_pos, Bool.or_true, Bool.true_or, Bool.or_false, Bool.false_or, Bool.and_false, Bool.false_and, condK_decide, c1, c2, c3, gs]
      refine (rwith_S (s1.front 2) s.Second p _).mono ?_
      rintro v h2 ⟨rfl, x2⟩
      generalize seW n mem s.Second p _ = W at *
      obtain ⟨fr, ri, f⟩ := W
      have e2 := e1.grow x2
      have e3 := e2.set (.cells f.cells.toArray 47 (0, 0))
      simp only [Flt.cells_eq] at e3
      unfold Wlk.val at hR ⊢
      simp (maxSteps := 2000000) (disch := first | (simp only [go_sem, Nat.reduceBEq, Nat.reduceAdd, Nat.reduceMul, Nat.reduceSub, Nat.reduceEqDiff, Nat.reduceLeDiff, Nat.reduceLT, Int.reduceEq, Int.reduceAdd, Int.reduceSub, Int.reduceMul, Int.reduceNeg, Int.reduceLT, Int.reduceLE, Int.reduceToNat, Int.reduceBEq, Int.reduceNe, reduceCtorEq, e2.get, e3.get] <;> omega) | omega) only [go_sem, Nat.reduceBEq, Nat.reduceAdd, Nat.reduceMul, Nat.reduceSub, Nat.reduceEqDiff, Nat.reduceLeDiff, Nat.reduceLT, Int.reduceEq, Int.reduceAdd, Int.reduceSub, Int.reduceMul, Int.reduceNeg, Int.reduceLT, Int.reduceLE, Int.reduceToNat, Int.reduceBEq, Int.reduceNe, reduceCtorEq, w64_id, w8_id, w16_id, w32_id, tmod_pos, tdiv_pos, Bool.or_true, Bool.true_or, Bool.or_false, Bool.false_or, Bool.and_false, Bool.false_and, condK_decide, e2.get, e3.get]
      exact hR _ _ ⟨rfl, (e3.front 2).ext⟩
  · rw [if_neg c3] at hR
    unfold own2 at hR
    rcases hw with rfl | rfl | rfl
    all_goals
      simp (maxSteps := 2000000) (disch := first | (simp only [go_sem, Nat.reduceBEq, Nat.reduceAdd, Nat.reduceMul, Nat.reduceSub, Nat.reduceEqDiff, Nat.reduceLeDiff, Nat.reduceLT, Int.reduceEq, Int.reduceAdd, Int.reduceSub, Int.reduceMul, Int.reduceNeg, Int.reduceLT, Int.reduceLE, Int.reduceToNat, Int.reduceBEq, Int.reduceNe, reduceCtorEq, c1, c2, c3, gs] <;> omega) | omega) only [go_sem, Nat.reduceBEq, Nat.reduceAdd, Nat.reduceMul, Nat.reduceSub, Nat.reduceEqDiff, Nat.reduceLeDiff, Nat.reduceLT, Int.reduceEq, Int.reduceAdd, Int.reduceSub, Int.reduceMul, Int.reduceNeg, Int.reduceLT, Int.reduceLE, Int.reduceToNat, Int.reduceBEq, Int.reduceNe, reduceCtorEq, w64_id, w8_id, w16_id, w32_id, tmod_pos, tdiv_pos, Bool.or_true, Bool.true_or, Bool.or_false, Bool.false_or, Bool.and_false, Bool.false_and, condK_decide, c1, c2, c3, gs]
      refine (rguest_S (s1.front 2) s s.First p 0 (.inl rfl)).mono ?_
      rintro v h2 ⟨rfl, x2⟩
      have hok := ownE_ok (n := n) (mem := mem) (s := s) (g := s.First) (p := p) (l := 0)
      generalize ownE n mem s s.First p 0 = O at *
      obtain ⟨⟨xV, xL, xR, xF⟩, f⟩ := O
      simp only at hR hok
      have e2 := ((e1.grow x2).push (.cells #[.bool xV, .bool xL, .int .i64 xR, .int .i64 xF] 51 (0, 0))).push (.cells f.cells.toArray 47 (0, 0))
      have s2 := ((s1.grow x2).push (.cells #[.bool xV, .bool xL, .int .i64 xR, .int .i64 xF] 51 (0, 0))).push (.cells f.cells.toArray 47 (0, 0))
      simp only [Flt.cells_eq, size_push'] at e2 s2
      have gf := e2.get
      have gx := (e2.front 1).get
      have gr := (e2.front 2).get
      have gs2 := (e2.front 3).get
      by_cases k : f.K = 0
      · have := hok k
        subst this
        have x0 : okF = ⟨0, 0, 0, false, 0⟩ := rfl
        rw [show (if okF.K ≠ 0 then ((⟨xV, xL, xR, xF⟩ : Ent), okF) else ownE n mem s xF p 1) = ownE n mem s xF p 1 from if_neg (by decide)] at hR
        simp only [okF] at e2 s2 gf gx gr gs2
        simp (maxSteps := 2000000) (disch := first | (simp only [go_sem, Nat.reduceBEq, Nat.reduceAdd, Nat.reduceMul, Nat.reduceSub, Nat.reduceEqDiff, Nat.reduceLeDiff, Nat.reduceLT, Int.reduceEq, Int.reduceAdd, Int.reduceSub, Int.reduceMul, Int.reduceNeg, Int.reduceLT, Int.reduceLE, Int.reduceToNat, Int.reduceBEq, Int.reduceNe, reduceCtorEq, gf, gx, gs2, x0] <;> omega) | omega) only [go_sem, Nat.reduceBEq, Nat.reduceAdd, Nat.reduceMul, Nat.reduceSub, Nat.reduceEqDiff, Nat.reduceLeDiff, Nat.reduceLT, Int.reduceEq, Int.reduceAdd, Int.reduceSub, Int.reduceMul, Int.reduceNeg, Int.reduceLT, Int.reduceLE, Int.reduceToNat, Int.reduceBEq, Int.reduceNe, reduceCtorEq, w64_id, w8_id, w16_id, w32_id, tmod_pos, tdiv_pos, Bool.or_true, Bool.true_or, Bool.or_false, Bool.false_or, Bool.and_false, Bool.false_and, condK_decide, gf, gx, gs2, x0]
        refine (rguest_S (s2.front 4) s xF p 1 (.inr rfl)).mono ?_
        rintro v h3 ⟨rfl, x3⟩
        have hok2 := ownE_ok (n := n) (mem := mem) (s := s) (g := xF) (p := p) (l := 1)
        generalize ownE n mem s xF p 1 = O2 at *
        obtain ⟨⟨kV, kL, kR, kF⟩, f2⟩ := O2
        simp only at hR hok2
        have e3 := ((e2.grow x3).push (.cells #[.bool kV, .bool kL, .int .i64 kR, .int .i64 kF] 51 (0, 0))).push (.cells f2.cells.toArray 47 (0, 0))
        have s3 := ((s2.grow x3).push (.cells #[.bool kV, .bool kL, .int .i64 kR, .int .i64 kF] 51 (0, 0))).push (.cells f2.cells.toArray 47 (0, 0))
        simp only [Flt.cells_eq, size_push'] at e3 s3
        have gf2 := e3.get
        have gx2 := (e3.front 1).get
        have gr2 := (e3.front 4).get
        have gs3 := (e3.front 5).get
        by_cases k2 : f2.K = 0
        · have := hok2 k2
          subst this
          rw [if_neg (by decide)] at hR
          simp only [okF] at e3 s3 gf2 gx2 gr2 gs3
          have e4 := (e3.front 4).set (.cells (⟨2, 1, 1, false, p⟩ : Flt).cells.toArray 47 (0, 0))
          simp only [Flt.cells_eq] at e4
          simp (maxSteps := 2000000) (disch := first | (simp only [go_sem, Nat.reduceBEq, Nat.reduceAdd, Nat.reduceMul, Nat.reduceSub, Nat.reduceEqDiff, Nat.reduceLeDiff, Nat.reduceLT, Int.reduceEq, Int.reduceAdd, Int.reduceSub, Int.reduceMul, Int.reduceNeg, Int.reduceLT, Int.reduceLE, Int.reduceToNat, Int.reduceBEq, Int.reduceNe, reduceCtorEq, gf2, gx2, gs3, gr2, e4.get, x0] <;> omega) | omega) only [go_sem, Nat.reduceBEq, Nat.reduceAdd, Nat.reduceMul, Nat.reduceSub, Nat.reduceEqDiff, Nat.reduceLeDiff, Nat.reduceLT, Int.reduceEq, Int.reduceAdd, Int.reduceSub, Int.reduceMul, Int.reduceNeg, Int.reduceLT, Int.reduceLE, Int.reduceToNat, Int.reduceBEq, Int.reduceNe, reduceCtorEq, w64_id, w8_id, w16_id, w32_id, tmod_pos, tdiv_pos, Bool.or_true, Bool.true_or, Bool.or_false, Bool.false_or, Bool.and_false, Bool.false_and, condK_decide, gf2, gx2, gs3, gr2, e4.get, x0]
          refine ⟨fun q2 => ?_, fun q2 => ?_⟩
          · rw [if_pos (show andI kR _ = 0 from q2)] at hR
            exact hR _ _ ⟨rfl, (e4.front 6).ext⟩
          · rw [if_neg (show ¬ andI kR _ = 0 from q2)] at hR
            refine (rwith_S (s3.front 6) s.Second kF _).mono ?_
            rintro v h4 ⟨rfl, x4⟩
            generalize seW n mem s.Second kF _ = W at *
            obtain ⟨fr, ri, f3⟩ := W
            simp only [Wlk.val] at hR ⊢
            have e5 := (e3.grow x4).push (.cells f3.cells.toArray 47 (0, 0))
            have e6 := (e5.front 5).set (.cells f3.cells.toArray 47 (0, 0))
            simp only [Flt.cells_eq] at e5 e6
            simp (maxSteps := 2000000) (disch := first | (simp only [go_sem, Nat.reduceBEq, Nat.reduceAdd, Nat.reduceMul, Nat.reduceSub, Nat.reduceEqDiff, Nat.reduceLeDiff, Nat.reduceLT, Int.reduceEq, Int.reduceAdd, Int.reduceSub, Int.reduceMul, Int.reduceNeg, Int.reduceLT, Int.reduceLE, Int.reduceToNat, Int.reduceBEq, Int.reduceNe, reduceCtorEq, e5.get, (e5.front 2).get, (e5.front 5).get, e6.get] <;> omega) | omega) only [go_sem, Nat.reduceBEq, Nat.reduceAdd, Nat.reduceMul, Nat.reduceSub, Nat.reduceEqDiff, Nat.reduceLeDiff, Nat.reduceLT, Int.reduceEq, Int.reduceAdd, Int.reduceSub, Int.reduceMul, Int.reduceNeg, Int.reduceLT, Int.reduceLE, Int.reduceToNat, Int.reduceBEq, Int.reduceNe, reduceCtorEq, w64_id, w8_id, w16_id, w32_id, tmod_pos, tdiv_pos, Bool.or_true, Bool.true_or, Bool.or_false, Bool.false_or, Bool.and_false, Bool.false_and, condK_decide, e5.get, (e5.front 2).get, (e5.front 5).get, e6.get]
            exact hR _ _ ⟨rfl, (e6.front 7).ext⟩
        · rw [if_pos k2] at hR
          have e4 := (e3.front 4).set (.cells f2.cells.toArray 47 (0, 0))
          simp only [Flt.cells_eq] at e4
          unfold Wlk.val at hR
          simp (maxSteps := 2000000) (disch := first | (simp only [go_sem, Nat.reduceBEq, Nat.reduceAdd, Nat.reduceMul, Nat.reduceSub, Nat.reduceEqDiff, Nat.reduceLeDiff, Nat.reduceLT, Int.reduceEq, Int.reduceAdd, Int.reduceSub, Int.reduceMul, Int.reduceNeg, Int.reduceLT, Int.reduceLE, Int.reduceToNat, Int.reduceBEq, Int.reduceNe, reduceCtorEq, gf2, k2, gr2, e4.get] <;> omega) | omega) only [go_sem, Nat.reduceBEq, Nat.reduceAdd, Nat.reduceMul, Nat.reduceSub, Nat.reduceEqDiff, Nat.reduceLeDiff, Nat.reduceLT, Int.reduceEq, Int.reduceAdd, Int.reduceSub, Int.reduceMul, Int.reduceNeg, Int.reduceLT, Int.reduceLE, Int.reduceToNat, Int.reduceBEq, Int.reduceNe, reduceCtorEq, w64_id, w8_id, w16_id, w32_id, tmod_pos, tdiv_pos, Bool.or_true, Bool.true_or, Bool.or_false, Bool.false_or, Bool.and_false, Bool.false_and, condK_decide, gf2, k2, gr2, e4.get]
          exact hR _ _ ⟨rfl, (e4.front 6).ext⟩
      · rw [if_pos k, if_pos k] at hR
        simp only [if_pos k] at hR
        have e3 := (e2.front 2).set (.cells f.cells.toArray 47 (0, 0))
        simp only [Flt.cells_eq] at e3
        unfold Wlk.val at hR
        simp (maxSteps := 2000000) (disch := first | (simp only [go_sem, Nat.reduceBEq, Nat.reduceAdd, Nat.reduceMul, Nat.reduceSub, Nat.reduceEqDiff, Nat.reduceLeDiff, Nat.reduceLT, Int.reduceEq, Int.reduceAdd, Int.reduceSub, Int.reduceMul, Int.reduceNeg, Int.reduceLT, Int.reduceLE, Int.reduceToNat, Int.reduceBEq, Int.reduceNe, reduceCtorEq, gf, k, gr, e3.get] <;> omega) | omega) only [go_sem, Nat.reduceBEq, Nat.reduceAdd, Nat.reduceMul, Nat.reduceSub, Nat.reduceEqDiff, Nat.reduceLeDiff, Nat.reduceLT, Int.reduceEq, Int.reduceAdd, Int.reduceSub, Int.reduceMul, Int.reduceNeg, Int.reduceLT, Int.reduceLE, Int.reduceToNat, Int.reduceBEq, Int.reduceNe, reduceCtorEq, w64_id, w8_id, w16_id, w32_id, tmod_pos, tdiv_pos, Bool.or_true, Bool.true_or, Bool.or_false, Bool.false_or, Bool.and_false, Bool.false_and, condK_decide, gf, k, gr, e3.get]
        exact hR _ _ ⟨rfl, (e3.front 4).ext⟩
end
end Go.Eng
