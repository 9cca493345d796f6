/-
  package walk: own, Nested, Reach.
-/
import Derived.Test.YtaijcllgdlalpaaGreatDoorZj11
import Derived.Test.YtaijcllgdlalpaaGreatDoorZj12
set_option linter.unusedSimpArgs false
set_option linter.unusedVariables false
set_option maxRecDepth 16000
set_option maxHeartbeats 4000000
namespace Go.Eng
open Go Go.Proofs
section
variable {h : Heap} {F : List SP} {rb n tb : Nat} {mem : Nat → Int} {T : List Ln}
theorem ownE_eq (n : Nat) (mem : Nat → Int) (s : Spc) (g p l : Int) : ownE n mem s g p l = if (seW n mem s.Second g 1).f.K ≠ 0 then (zeroE, { (seW n mem s.Second g 1).f with W := true })
  else if (stepE n mem (seW n mem s.Second g 1).Fr p l).2 ≠ 0 then (zeroE, ⟨(stepE n mem (seW n mem s.Second g 1).Fr p l).2, 1, l, false, p⟩)
  else ((stepE n mem (seW n mem s.Second g 1).Fr p l).1, okF) := rfl
theorem own_S (hs : Sat h (ramS rb n mem :: F)) (s : Spc) (p : Int) : HCalls Tryz.prog 156 #[.pointer (some ⟨rb, 0, none⟩), .agg s.cells.toArray, .int .i64 p] h fun v h' => v = .tuple #[.agg (own2 n mem s p).1.cells.toArray, .agg (own2 n mem s p).2.cells.toArray] ∧ Ext h h' := by
  refine HCalls.via fun R hR => ?_
  have e0 := ((((Sat.init h).push (.cells s.cells.toArray 78 (0, 0))).push (.cells zeroE.cells.toArray 51 (0, 0))).push (.cells okF.cells.toArray 47 (0, 0))).push (.cells zeroE.cells.toArray 51 (0, 0))
  simp only [Flt.cells_eq, Spc.cells_eq, Ent.cells_eq, zeroE, okF, size_push'] at e0
  unfold own2 at hR
  refine HCalls.of_dev T156 Tryz.func156 rfl mixed (by kernel_rfl) ?_; rw [Tryz.results156]
  simp (maxSteps := 2000000) (disch := first | (simp only [go_sem, simprocAttr] <;> omega) | omega) only [go_sem, simprocAttr]
  refine loopH.intro (fun k : Nat × Int => (.cons 0 (.pointer (some ⟨rb, 0, none⟩)) true (.cons 2 (.int .i64 p) true (.cons 4 (.pointer (some ⟨h.size, 0, none⟩)) true (.cons 6 (.pointer (some ⟨h.size + 1, 0, none⟩)) true (.cons 7 (.pointer (some ⟨h.size + 1 + 1, 0, none⟩)) true (.cons 8 (.int .i64 k.2) true (.cons 9 (.pointer (some ⟨h.size + 1 + 1 + 1, 0, none⟩)) true (.cons 17 (.int .i64 k.1) true .nil)))))))))
    (fun k h' => ∃ x : Ent, (k = (0, s.First) ∨ (k = (1, (ownE n mem s s.First p 0).1.F) ∧ (ownE n mem s s.First p 0).2.K = 0) ∨ (k.1 = 2 ∧ (ownE n mem s s.First p 0).2.K = 0 ∧ ownE n mem s (ownE n mem s s.First p 0).1.F p 1 = (x, okF))) ∧ Sat h' [cellAt (h.size + 1 + 1 + 1) (.cells x.cells.toArray 51 (0, 0)), cellAt (h.size + 1 + 1) (.cells okF.cells.toArray 47 (0, 0)), cellAt (h.size + 1) (.cells zeroE.cells.toArray 51 (0, 0)), cellAt h.size (.cells s.cells.toArray 78 (0, 0)), oldS h])
    (fun k _ => 3 - k.1) (0, s.First) ?_ ⟨zeroE, .inl rfl, e0⟩ ?_
  · simp (maxSteps := 2000000) (disch := first | (simp only [go_sem, simprocAttr] <;> omega) | omega) only [go_sem, simprocAttr]; try rfl
  rintro k h' ⟨x, hk, e2⟩
  have n0 : ((0 : Nat) : Int) = 0 := rfl
  have n1 : ((1 : Nat) : Int) = 1 := rfl
  have n2 : ((2 : Nat) : Int) = 2 := rfl
  rcases hk with rfl | ⟨rfl, hk⟩ | ⟨k2, hk, hx⟩
  · simp only
    simp (maxSteps := 2000000) (disch := first | (simp only [go_sem, simprocAttr, n0, (e2.front 3).get] <;> omega) | omega) only [go_sem, simprocAttr, n0, (e2.front 3).get]
    refine (second_S (hs.grow (e2.front 4).ext) s.Second s.First 1 (.inl rfl)).mono ?_
    rintro v h2 ⟨rfl, x2⟩
    have e3 := e2.grow x2
    have hown := ownE_eq n mem s s.First p 0
    generalize seW n mem s.Second s.First 1 = w1 at *
    obtain ⟨fr, ri, f⟩ := w1
    simp only [Wlk.val] at hown ⊢
    by_cases q : f.K = 0
    · rw [if_neg (by omega)] at hown
      have e4 := e3.push (.cells f.cells.toArray 47 (0, 0))
      simp only [Flt.cells_eq] at e4
      rw [q] at e4
      simp (maxSteps := 2000000) (disch := first | (simp only [go_sem, simprocAttr, n0, q, e4.get] <;> omega) | omega) only [go_sem, simprocAttr, n0, q, e4.get]
      refine (step_S (hs.grow (e4.front 5).ext) fr p 0).mono ?_
      rintro v h3 ⟨rfl, x3⟩
      have e5 := (e4.grow x3).front 1
      generalize stepE n mem fr p 0 = st at *
      obtain ⟨x1, ke⟩ := st
      simp only at hown ⊢
      have e6 := e5.set (.cells x1.cells.toArray 51 (0, 0))
      simp only [Ent.cells_eq] at e5 e6
      by_cases q2 : ke = 0
      · rw [if_neg (by omega)] at hown
        simp (maxSteps := 2000000) (disch := first | (simp only [go_sem, simprocAttr, n0, e5.get, e6.get, q2] <;> omega) | omega) only [go_sem, simprocAttr, n0, e5.get, e6.get, q2]
        exact ⟨(1, x1.F), rfl, ⟨x1, by rw [hown]; exact .inr (.inl ⟨rfl, rfl⟩), e6.drop1⟩, by simp only; omega⟩
      · rw [if_pos q2] at hown
        have e7 := (e6.front 3).set (.cells zeroE.cells.toArray 51 (0, 0))
        have e8 := (e7.front 3).set (.cells (⟨ke, 1, 0, false, p⟩ : Flt).cells.toArray 47 (0, 0))
        simp only [Ent.cells_eq, Flt.cells_eq, zeroE] at e7 e8
        rw [hown, if_pos q2] at hR
        simp (maxSteps := 2000000) (disch := first | (simp only [go_sem, simprocAttr, n0, e5.get, e6.get, q2, (e6.front 3).get, (e7.front 3).get, e8.get, (e8.front 1).get] <;> omega) | omega) only [go_sem, simprocAttr, n0, e5.get, e6.get, q2, (e6.front 3).get, (e7.front 3).get, e8.get, (e8.front 1).get]
        exact hR _ _ ⟨rfl, (e8.front 5).ext⟩
    · rw [if_pos q] at hown
      have e4 := e3.push (.cells f.cells.toArray 47 (0, 0))
      have e4b := e3.push (.cells ({ f with W := true } : Flt).cells.toArray 47 (0, 0))
      have e5 := (e4b.front 3).set (.cells zeroE.cells.toArray 51 (0, 0))
      have e6 := (e5.front 3).set (.cells ({ f with W := true } : Flt).cells.toArray 47 (0, 0))
      simp only [Flt.cells_eq, Ent.cells_eq, zeroE] at e4 e4b e5 e6
      rw [hown, if_pos q] at hR
      simp (maxSteps := 2000000) (disch := first | (simp only [go_sem, simprocAttr, n0, q, e4.get, (e4b.front 3).get, (e5.front 1).get, (e5.front 3).get, e6.get, (e6.front 1).get] <;> omega) | omega) only [go_sem, simprocAttr, n0, q, e4.get, (e4b.front 3).get, (e5.front 1).get, (e5.front 3).get, e6.get, (e6.front 1).get]
      exact hR _ _ ⟨rfl, (e6.front 5).ext⟩
  · simp only
    generalize (ownE n mem s s.First p 0).1.F = g1 at *
    simp (maxSteps := 2000000) (disch := first | (simp only [go_sem, simprocAttr, n1, (e2.front 3).get] <;> omega) | omega) only [go_sem, simprocAttr, n1, (e2.front 3).get]
    refine (second_S (hs.grow (e2.front 4).ext) s.Second g1 1 (.inl rfl)).mono ?_
    rintro v h2 ⟨rfl, x2⟩
    have e3 := e2.grow x2
    have hown := ownE_eq n mem s g1 p 1
    generalize seW n mem s.Second g1 1 = w1 at *
    obtain ⟨fr, ri, f⟩ := w1
    simp only [Wlk.val] at hown ⊢
    by_cases q : f.K = 0
    · rw [if_neg (by omega)] at hown
      have e4 := e3.push (.cells f.cells.toArray 47 (0, 0))
      simp only [Flt.cells_eq] at e4
      rw [q] at e4
      simp (maxSteps := 2000000) (disch := first | (simp only [go_sem, simprocAttr, n1, q, e4.get] <;> omega) | omega) only [go_sem, simprocAttr, n1, q, e4.get]
      refine (step_S (hs.grow (e4.front 5).ext) fr p 1).mono ?_
      rintro v h3 ⟨rfl, x3⟩
      have e5 := (e4.grow x3).front 1
      generalize stepE n mem fr p 1 = st at *
      obtain ⟨x1, ke⟩ := st
      simp only at hown ⊢
      have e6 := e5.set (.cells x1.cells.toArray 51 (0, 0))
      simp only [Ent.cells_eq] at e5 e6
      by_cases q2 : ke = 0
      · rw [if_neg (by omega)] at hown
        simp (maxSteps := 2000000) (disch := first | (simp only [go_sem, simprocAttr, n1, e5.get, e6.get, q2] <;> omega) | omega) only [go_sem, simprocAttr, n1, e5.get, e6.get, q2]
        exact ⟨(2, x1.F), rfl, ⟨x1, .inr (.inr ⟨rfl, hk, hown⟩), e6.drop1⟩, by simp only; omega⟩
      · rw [if_pos q2] at hown
        have e7 := (e6.front 3).set (.cells zeroE.cells.toArray 51 (0, 0))
        have e8 := (e7.front 3).set (.cells (⟨ke, 1, 1, false, p⟩ : Flt).cells.toArray 47 (0, 0))
        simp only [Ent.cells_eq, Flt.cells_eq, zeroE] at e7 e8
        rw [if_neg (by omega), hown] at hR
        simp (maxSteps := 2000000) (disch := first | (simp only [go_sem, simprocAttr, n1, e5.get, e6.get, q2, (e6.front 3).get, (e7.front 3).get, e8.get, (e8.front 1).get] <;> omega) | omega) only [go_sem, simprocAttr, n1, e5.get, e6.get, q2, (e6.front 3).get, (e7.front 3).get, e8.get, (e8.front 1).get]
        exact hR _ _ ⟨rfl, (e8.front 5).ext⟩
    · rw [if_pos q] at hown
      have e4 := e3.push (.cells f.cells.toArray 47 (0, 0))
      have e4b := e3.push (.cells ({ f with W := true } : Flt).cells.toArray 47 (0, 0))
      have e5 := (e4b.front 3).set (.cells zeroE.cells.toArray 51 (0, 0))
      have e6 := (e5.front 3).set (.cells ({ f with W := true } : Flt).cells.toArray 47 (0, 0))
      simp only [Flt.cells_eq, Ent.cells_eq, zeroE] at e4 e4b e5 e6
      rw [if_neg (by omega), hown] at hR
      simp (maxSteps := 2000000) (disch := first | (simp only [go_sem, simprocAttr, n1, q, e4.get, (e4b.front 3).get, (e5.front 1).get, (e5.front 3).get, e6.get, (e6.front 1).get] <;> omega) | omega) only [go_sem, simprocAttr, n1, q, e4.get, (e4b.front 3).get, (e5.front 1).get, (e5.front 3).get, e6.get, (e6.front 1).get]
      exact hR _ _ ⟨rfl, (e6.front 5).ext⟩
  · obtain ⟨k1, g⟩ := k
    simp only at k2
    subst k2
    rw [if_neg (by omega), hx] at hR
    have e7 := (e2.front 2).set (.cells x.cells.toArray 51 (0, 0))
    have e8 := (e7.front 2).set (.cells okF.cells.toArray 47 (0, 0))
    simp only [Ent.cells_eq, Flt.cells_eq, okF] at e7 e8
    simp (maxSteps := 2000000) (disch := first | (simp only [go_sem, simprocAttr, n2, e2.get, (e2.front 2).get, (e7.front 2).get, (e7.front 1).get, e8.get, (e8.front 1).get, (e8.front 2).get] <;> omega) | omega) only [go_sem, simprocAttr, n2, e2.get, (e2.front 2).get, (e7.front 2).get, (e7.front 1).get, e8.get, (e8.front 1).get, (e8.front 2).get]
    exact hR _ _ ⟨rfl, (e8.front 4).ext⟩
theorem nested_S (hs : Sat h (ramS rb n mem :: F)) (s : Spc) (p w : Int) (hw : w = 1 ∨ w = 2 ∨ w = 4) : HCalls Tryz.prog 143 #[.pointer (some ⟨rb, 0, none⟩), .agg s.cells.toArray, .int .i64 p, .int .i64 w] h fun v h' => v = (neW n mem s p w).val ∧ Ext h h' := by
  refine HCalls.via fun R hR => ?_
  unfold neW at hR
  have e0 := ((Sat.init h).push (.cells s.cells.toArray 78 (0, 0))).push (.cells okF.cells.toArray 47 (0, 0))
  simp only [Flt.cells_eq, Spc.cells_eq, okF, size_push'] at e0
  refine HCalls.of_dev T143 Tryz.func143 rfl mixed (by kernel_rfl) ?_; rw [Tryz.results143]
  simp (maxSteps := 2000000) (disch := first | (simp only [go_sem, simprocAttr] <;> omega) | omega) only [go_sem, simprocAttr]
  refine (isPage_S p).mono ?_
  rintro v h' ⟨rfl, rfl⟩
  by_cases c : p < 0 ∨ 1024 ≤ p
  · have cd : decide (¬ (p < 0 ∨ 1024 ≤ p)) = false := decide_eq_false (not_not_intro c)
    rw [if_pos c] at hR
    rw [cd]
    have e1 := e0.set (.cells (⟨3, 0, 0, false, 0⟩ : Flt).cells.toArray 47 (0, 0))
    simp only [Flt.cells_eq] at e1
    simp (maxSteps := 2000000) (disch := first | (simp only [go_sem, simprocAttr, e0.get, e1.get] <;> omega) | omega) only [go_sem, simprocAttr, e0.get, e1.get]
    exact rdK_any fun _ => hR _ _ ⟨rfl, (((Sat.init h).push (.cells s.cells.toArray 78 (0, 0))).push (.cells (⟨3, 0, 0, false, 0⟩ : Flt).cells.toArray 47 (0, 0)) |>.front 2).ext⟩
  have cd : decide (¬ (p < 0 ∨ 1024 ≤ p)) = true := decide_eq_true c
  rw [if_neg c] at hR
  rw [cd]
  simp (maxSteps := 2000000) (disch := first | (simp only [go_sem, simprocAttr] <;> omega) | omega) only [go_sem, simprocAttr]
  refine (isRight_S w hw).mono ?_
  rintro v h' ⟨rfl, rfl⟩
  by_cases c2 : s.First < 0
  · rw [if_pos c2] at hR
    simp (maxSteps := 2000000) (disch := first | (simp only [go_sem, simprocAttr, (e0.front 1).get, c2] <;> omega) | omega) only [go_sem, simprocAttr, (e0.front 1).get, c2]
    refine (second_S (hs.grow (e0.front 2).ext) s.Second p w hw).mono ?_
    rintro v h2 ⟨rfl, x2⟩
    have e1 := e0.grow x2
    generalize seW n mem s.Second p w = r at *
    obtain ⟨fr, ri, f⟩ := r
    simp only [Wlk.val] at hR ⊢
    have e2 := e1.set (.cells f.cells.toArray 47 (0, 0))
    simp only [Flt.cells_eq] at e2
    simp (maxSteps := 2000000) (disch := first | (simp only [go_sem, simprocAttr, e1.get, e2.get] <;> omega) | omega) only [go_sem, simprocAttr, e1.get, e2.get]
    exact hR _ _ ⟨rfl, (e2.front 2).ext⟩
  rw [if_neg c2] at hR
  simp (maxSteps := 2000000) (disch := first | (simp only [go_sem, simprocAttr, (e0.front 1).get, c2] <;> omega) | omega) only [go_sem, simprocAttr, (e0.front 1).get, c2]
  refine (own_S (hs.grow (e0.front 2).ext) s p).mono ?_
  rintro v h2 ⟨rfl, x2⟩
  generalize own2 n mem s p = o at *
  obtain ⟨x, f⟩ := o
  simp only at hR
  have e1 := (e0.grow x2).push (.cells x.cells.toArray 51 (0, 0))
  have e2 := e1.swap.set (.cells f.cells.toArray 47 (0, 0))
  simp only [Flt.cells_eq, Ent.cells_eq] at e1 e2
  by_cases q : f.K = 0
  · rw [if_neg (by omega)] at hR
    rw [q] at e2
    by_cases q2 : andI x.R w = 0
    · rw [if_pos q2] at hR
      have q3 : IntKind.i64.wrap ((BitVec.ofInt IntKind.i64.bits x.R &&& BitVec.ofInt IntKind.i64.bits w).toNat : Int) = 0 := q2
      have e3 := e2.set (.cells (⟨2, 1, 1, false, p⟩ : Flt).cells.toArray 47 (0, 0))
      simp only [Flt.cells_eq] at e3
      simp (maxSteps := 2000000) (disch := first | (simp only [go_sem, simprocAttr, e1.swap.get, e2.get, (e2.front 1).get, (e2.front 2).get, q, ↓q3, e3.get] <;> omega) | omega) only [go_sem, simprocAttr, e1.swap.get, e2.get, (e2.front 1).get, (e2.front 2).get, q, ↓q3, e3.get]
      exact hR _ _ ⟨rfl, (e3.front 3).ext⟩
    · rw [if_neg q2] at hR
      have q3 : ¬ IntKind.i64.wrap ((BitVec.ofInt IntKind.i64.bits x.R &&& BitVec.ofInt IntKind.i64.bits w).toNat : Int) = 0 := q2
      simp (maxSteps := 2000000) (disch := first | (simp only [go_sem, simprocAttr, e1.swap.get, e2.get, (e2.front 1).get, (e2.front 2).get, q] <;> omega) | omega) only [go_sem, simprocAttr, e1.swap.get, e2.get, (e2.front 1).get, (e2.front 2).get, q]
      refine ⟨fun z => absurd z q2, fun _ => ?_⟩
      refine (second_S (hs.grow (e2.front 3).ext) s.Second x.F w hw).mono ?_
      rintro v h3 ⟨rfl, x3⟩
      have e3 := e2.grow x3
      generalize seW n mem s.Second x.F w = r at *
      obtain ⟨fr, ri, f2⟩ := r
      simp only [Wlk.val] at hR ⊢
      have e4 := e3.set (.cells f2.cells.toArray 47 (0, 0))
      have e5 := e4.set (.cells f2.cells.toArray 47 (0, 0))
      simp only [Flt.cells_eq] at e4 e5
      unfold andI at hR
      simp (maxSteps := 2000000) (disch := first | (simp only [go_sem, simprocAttr, e3.get, e4.get, (e4.front 1).get, e5.get] <;> omega) | omega) only [go_sem, simprocAttr, e3.get, e4.get, (e4.front 1).get, e5.get]
      exact hR _ _ ⟨rfl, (e5.front 3).ext⟩
  · rw [if_pos q] at hR
    have e3 := e2.set (.cells f.cells.toArray 47 (0, 0))
    simp only [Flt.cells_eq] at e3
    simp (maxSteps := 2000000) (disch := first | (simp only [go_sem, simprocAttr, e1.swap.get, e2.get, q, e3.get] <;> omega) | omega) only [go_sem, simprocAttr, e1.swap.get, e2.get, q, e3.get]
    exact hR _ _ ⟨rfl, (e3.front 3).ext⟩
end
end Go.Eng
