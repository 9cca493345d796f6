/-
  viceroyref09: jumped.
-/
import Derived.Test.YtaijcllgdlalpaaGreatDoorZj35
set_option linter.unusedSimpArgs false
set_option linter.unusedVariables false
set_option maxRecDepth 16000
set_option maxHeartbeats 4000000
namespace Go.Eng
open Go Go.Proofs
section
variable {h : Heap} {c : Cp} {op A B C I : Nat}
theorem rjumped_S (f : c.fit) (hpc : 0 ≤ c.Pc ∧ c.Pc < 65536) (hA : A < 16) (hB : B < 16) (hI : I < 65536) (ho1 : 11 ≤ op) (ho2 : op ≤ 16) :
    HCalls Tryz.prog 54 #[.agg c.cells.toArray, .agg (⟨op, A, B, C, I⟩ : Ins).cells.toArray] h fun v h' => ∃ c' : Cp, v = .agg c'.cells.toArray ∧ c'.fit ∧ (∀ n M s at_, doP n M c ⟨op, A, B, C, I⟩ s at_ = ⟨M, c', okT⟩) ∧ Ext h h' := by
  refine HCalls.via fun R hR => ?_
  have tk := take_cpu f
  obtain ⟨x0, x1⟩ := rg_bd f (i := A) (by omega) (by omega)
  obtain ⟨y0, y1⟩ := rg_bd f (i := B) (by omega) (by omega)
  have nA : nthL c.cells A = some (.int .u32 (rg c A)) := by rw [nthL_eq]; exact Cp.reg f hA
  have nB : nthL c.cells B = some (.int .u32 (rg c B)) := by rw [nthL_eq]; exact Cp.reg f hB
  have n16 : nthL c.cells 16 = some (.int .i64 c.Pc) := by rw [nthL_eq]; exact Cp.pc f
  have a0 : (0 : Int) ≤ A := by omega
  have a1 : (A : Int) < 16 := by omega
  have b0 : (0 : Int) ≤ B := by omega
  have b1 : (B : Int) < 16 := by omega
  have zc := (Sat.init h).push (.cells c.cells.toArray 30 (0, 0))
  have key : ∀ (d : Cp) (pc : Int) (h' : Heap), d.fit → 0 ≤ pc → (∀ n M s at_, doP n M c ⟨op, A, B, C, I⟩ s at_ = ⟨M, { d with Pc := pc % 65536 }, okT⟩) →
      HCalls Tryz.prog 52 #[.agg d.cells.toArray, .int .i64 pc] h' fun v h'' => ∃ c' : Cp, v = .agg c'.cells.toArray ∧ c'.fit ∧ (∀ n M s at_, doP n M c ⟨op, A, B, C, I⟩ s at_ = ⟨M, c', okT⟩) ∧ Ext h' h'' := by
    intro d pc h' fd p0 hd
    refine (rgoes_S fd pc).mono ?_
    rintro v h'' ⟨rfl, e2⟩
    rw [Int.tmod_eq_emod_of_nonneg p0]
    exact ⟨_, rfl, setPc_fit fd (by omega) (by omega), hd, e2⟩
  refine HCalls.of_dev T54 Tryz.func54 rfl mixed (by kernel_rfl) ?_; rw [Tryz.results54]
  have hop : op = 11 ∨ op = 12 ∨ op = 13 ∨ op = 14 ∨ op = 15 ∨ op = 16 := by omega
  rcases hop with rfl | rfl | rfl | rfl | rfl | rfl
  · have n0 : ((11 : Nat) : Int) = 11 := rfl
    have s1 := zc.push (.cells (⟨11, A, B, C, I⟩ : Ins).cells.toArray 84 (0, 0))
    simp only [Ins.cells_eq, size_push', n0] at s1
    have s2 := s1.push (.cells (tzeroD Tryz.prog 30).cells 30 (0, 0))
    simp only [tzeroD_30, Value.cells, size_push'] at s2
    by_cases q : rg c A = rg c B
    · simp (maxSteps := 2000000) (disch := first | (simp only [go_sem, simprocAttr, n0, s1.get, (s1.front 1).get, s2.get, (s2.front 1).get, (s2.front 2).get, nA, nB, a0, a1, b0, b1, tk, n16, eq_true q] <;> omega) | omega) only [go_sem, simprocAttr, n0, s1.get, (s1.front 1).get, s2.get, (s2.front 1).get, (s2.front 2).get, nA, nB, a0, a1, b0, b1, tk, n16, eq_true q]
      refine (key c ((I : Int)) _ f (by omega) (fun n M s at_ => by simp [doP, go, q])).mono ?_
      rintro v h3 ⟨c', rfl, f', hd, e3⟩
      have s4 := s2.grow e3
      have s5 := s4.set (.cells c'.cells.toArray 30 (0, 0))
      simp (maxSteps := 2000000) (disch := first | (simp only [go_sem, simprocAttr] <;> omega) | omega) only [go_sem, simprocAttr]
      refine store_cpu f' s4.get (by rfl) ?_
      simp (maxSteps := 2000000) (disch := first | (simp only [go_sem, simprocAttr, s5.get, take_cpu f'] <;> omega) | omega) only [go_sem, simprocAttr, s5.get, take_cpu f']
      exact hR _ _ ⟨c', rfl, f', hd, (s5.front 3).ext⟩
    · simp (maxSteps := 2000000) (disch := first | (simp only [go_sem, simprocAttr, n0, s1.get, (s1.front 1).get, s2.get, (s2.front 1).get, (s2.front 2).get, nA, nB, a0, a1, b0, b1, tk, n16, q] <;> omega) | omega) only [go_sem, simprocAttr, n0, s1.get, (s1.front 1).get, s2.get, (s2.front 1).get, (s2.front 2).get, nA, nB, a0, a1, b0, b1, tk, n16, q]
      refine (key c (c.Pc + 4) _ f (by omega) (fun n M s at_ => by simp [doP, go, q])).mono ?_
      rintro v h3 ⟨c', rfl, f', hd, e3⟩
      have s4 := s2.grow e3
      have s5 := s4.set (.cells c'.cells.toArray 30 (0, 0))
      simp (maxSteps := 2000000) (disch := first | (simp only [go_sem, simprocAttr] <;> omega) | omega) only [go_sem, simprocAttr]
      refine store_cpu f' s4.get (by rfl) ?_
      simp (maxSteps := 2000000) (disch := first | (simp only [go_sem, simprocAttr, s5.get, take_cpu f'] <;> omega) | omega) only [go_sem, simprocAttr, s5.get, take_cpu f']
      exact hR _ _ ⟨c', rfl, f', hd, (s5.front 3).ext⟩
  · have n0 : ((12 : Nat) : Int) = 12 := rfl
    have s1 := zc.push (.cells (⟨12, A, B, C, I⟩ : Ins).cells.toArray 84 (0, 0))
    simp only [Ins.cells_eq, size_push', n0] at s1
    have s2 := s1.push (.cells (tzeroD Tryz.prog 30).cells 30 (0, 0))
    simp only [tzeroD_30, Value.cells, size_push'] at s2
    by_cases q : rg c A = rg c B
    · simp (maxSteps := 2000000) (disch := first | (simp only [go_sem, simprocAttr, n0, s1.get, (s1.front 1).get, s2.get, (s2.front 1).get, (s2.front 2).get, nA, nB, a0, a1, b0, b1, tk, n16, eq_true q] <;> omega) | omega) only [go_sem, simprocAttr, n0, s1.get, (s1.front 1).get, s2.get, (s2.front 1).get, (s2.front 2).get, nA, nB, a0, a1, b0, b1, tk, n16, eq_true q]
      refine (key c (c.Pc + 4) _ f (by omega) (fun n M s at_ => by simp [doP, go, q])).mono ?_
      rintro v h3 ⟨c', rfl, f', hd, e3⟩
      have s4 := s2.grow e3
      have s5 := s4.set (.cells c'.cells.toArray 30 (0, 0))
      simp (maxSteps := 2000000) (disch := first | (simp only [go_sem, simprocAttr] <;> omega) | omega) only [go_sem, simprocAttr]
      refine store_cpu f' s4.get (by rfl) ?_
      simp (maxSteps := 2000000) (disch := first | (simp only [go_sem, simprocAttr, s5.get, take_cpu f'] <;> omega) | omega) only [go_sem, simprocAttr, s5.get, take_cpu f']
      exact hR _ _ ⟨c', rfl, f', hd, (s5.front 3).ext⟩
    · simp (maxSteps := 2000000) (disch := first | (simp only [go_sem, simprocAttr, n0, s1.get, (s1.front 1).get, s2.get, (s2.front 1).get, (s2.front 2).get, nA, nB, a0, a1, b0, b1, tk, n16, q] <;> omega) | omega) only [go_sem, simprocAttr, n0, s1.get, (s1.front 1).get, s2.get, (s2.front 1).get, (s2.front 2).get, nA, nB, a0, a1, b0, b1, tk, n16, q]
      refine (key c ((I : Int)) _ f (by omega) (fun n M s at_ => by simp [doP, go, q])).mono ?_
      rintro v h3 ⟨c', rfl, f', hd, e3⟩
      have s4 := s2.grow e3
      have s5 := s4.set (.cells c'.cells.toArray 30 (0, 0))
      simp (maxSteps := 2000000) (disch := first | (simp only [go_sem, simprocAttr] <;> omega) | omega) only [go_sem, simprocAttr]
      refine store_cpu f' s4.get (by rfl) ?_
      simp (maxSteps := 2000000) (disch := first | (simp only [go_sem, simprocAttr, s5.get, take_cpu f'] <;> omega) | omega) only [go_sem, simprocAttr, s5.get, take_cpu f']
      exact hR _ _ ⟨c', rfl, f', hd, (s5.front 3).ext⟩
  · have n0 : ((13 : Nat) : Int) = 13 := rfl
    have s1 := zc.push (.cells (⟨13, A, B, C, I⟩ : Ins).cells.toArray 84 (0, 0))
    simp only [Ins.cells_eq, size_push', n0] at s1
    have s2 := s1.push (.cells (tzeroD Tryz.prog 30).cells 30 (0, 0))
    simp only [tzeroD_30, Value.cells, size_push'] at s2
    by_cases q : rg c A < rg c B
    · simp (maxSteps := 2000000) (disch := first | (simp only [go_sem, simprocAttr, n0, s1.get, (s1.front 1).get, s2.get, (s2.front 1).get, (s2.front 2).get, nA, nB, a0, a1, b0, b1, tk, n16, q] <;> omega) | omega) only [go_sem, simprocAttr, n0, s1.get, (s1.front 1).get, s2.get, (s2.front 1).get, (s2.front 2).get, nA, nB, a0, a1, b0, b1, tk, n16, q]
      refine (key c ((I : Int)) _ f (by omega) (fun n M s at_ => by simp [doP, go, q])).mono ?_
      rintro v h3 ⟨c', rfl, f', hd, e3⟩
      have s4 := s2.grow e3
      have s5 := s4.set (.cells c'.cells.toArray 30 (0, 0))
      simp (maxSteps := 2000000) (disch := first | (simp only [go_sem, simprocAttr] <;> omega) | omega) only [go_sem, simprocAttr]
      refine store_cpu f' s4.get (by rfl) ?_
      simp (maxSteps := 2000000) (disch := first | (simp only [go_sem, simprocAttr, s5.get, take_cpu f'] <;> omega) | omega) only [go_sem, simprocAttr, s5.get, take_cpu f']
      exact hR _ _ ⟨c', rfl, f', hd, (s5.front 3).ext⟩
    · simp (maxSteps := 2000000) (disch := first | (simp only [go_sem, simprocAttr, n0, s1.get, (s1.front 1).get, s2.get, (s2.front 1).get, (s2.front 2).get, nA, nB, a0, a1, b0, b1, tk, n16, q] <;> omega) | omega) only [go_sem, simprocAttr, n0, s1.get, (s1.front 1).get, s2.get, (s2.front 1).get, (s2.front 2).get, nA, nB, a0, a1, b0, b1, tk, n16, q]
      refine (key c (c.Pc + 4) _ f (by omega) (fun n M s at_ => by simp [doP, go, q])).mono ?_
      rintro v h3 ⟨c', rfl, f', hd, e3⟩
      have s4 := s2.grow e3
      have s5 := s4.set (.cells c'.cells.toArray 30 (0, 0))
      simp (maxSteps := 2000000) (disch := first | (simp only [go_sem, simprocAttr] <;> omega) | omega) only [go_sem, simprocAttr]
      refine store_cpu f' s4.get (by rfl) ?_
      simp (maxSteps := 2000000) (disch := first | (simp only [go_sem, simprocAttr, s5.get, take_cpu f'] <;> omega) | omega) only [go_sem, simprocAttr, s5.get, take_cpu f']
      exact hR _ _ ⟨c', rfl, f', hd, (s5.front 3).ext⟩
  · have n0 : ((14 : Nat) : Int) = 14 := rfl
    have s1 := zc.push (.cells (⟨14, A, B, C, I⟩ : Ins).cells.toArray 84 (0, 0))
    simp only [Ins.cells_eq, size_push', n0] at s1
    have s2 := s1.push (.cells (tzeroD Tryz.prog 30).cells 30 (0, 0))
    simp only [tzeroD_30, Value.cells, size_push'] at s2
    simp (maxSteps := 2000000) (disch := first | (simp only [go_sem, simprocAttr, n0, s1.get, (s1.front 1).get, s2.get, (s2.front 1).get, (s2.front 2).get, nA, nB, a0, a1, b0, b1, tk, n16] <;> omega) | omega) only [go_sem, simprocAttr, n0, s1.get, (s1.front 1).get, s2.get, (s2.front 1).get, (s2.front 2).get, nA, nB, a0, a1, b0, b1, tk, n16]
    refine (key c I _ f (by omega) (fun n M s at_ => by simp [doP, go])).mono ?_
    rintro v h3 ⟨c', rfl, f', hd, e3⟩
    have s4 := s2.grow e3
    have s5 := s4.set (.cells c'.cells.toArray 30 (0, 0))
    simp (maxSteps := 2000000) (disch := first | (simp only [go_sem, simprocAttr] <;> omega) | omega) only [go_sem, simprocAttr]
    refine store_cpu f' s4.get (by rfl) ?_
    simp (maxSteps := 2000000) (disch := first | (simp only [go_sem, simprocAttr, s5.get, take_cpu f'] <;> omega) | omega) only [go_sem, simprocAttr, s5.get, take_cpu f']
    exact hR _ _ ⟨c', rfl, f', hd, (s5.front 3).ext⟩
  · have n0 : ((15 : Nat) : Int) = 15 := rfl
    have s1 := zc.push (.cells (⟨15, A, B, C, I⟩ : Ins).cells.toArray 84 (0, 0))
    simp only [Ins.cells_eq, size_push', n0] at s1
    have s2 := s1.push (.cells (tzeroD Tryz.prog 30).cells 30 (0, 0))
    simp only [tzeroD_30, Value.cells, size_push'] at s2
    have l := Cp.len f
    have lA : A < c.cells.length := by omega
    have ep : (c.Pc + 4).tmod 65536 = (c.Pc + 4) % 65536 := Int.tmod_eq_emod_of_nonneg (by omega)
    have sc := setR_cells f hA (v := (c.Pc + 4) % 65536)
    have fR := setR_fit f (a := A) (v := (c.Pc + 4) % 65536) ⟨by omega, by omega⟩
    have tkR := take_cpu fR
    replace s2 := (((Sat.init h).push (.cells (setR c A ((c.Pc + 4) % 65536)).cells.toArray 30 (0, 0))).push (.cells (⟨15, A, B, C, I⟩ : Ins).cells.toArray 84 (0, 0))).push (.cells (tzeroD Tryz.prog 30).cells 30 (0, 0))
    simp only [tzeroD_30, Value.cells, size_push', Ins.cells_eq, n0] at s2
    simp (maxSteps := 2000000) (disch := first | (simp only [go_sem, simprocAttr, n0, s1.get, (s1.front 1).get, nA, nB, a0, a1, b0, b1, tk, n16, ep, lA, sc, tkR] <;> omega) | omega) only [go_sem, simprocAttr, n0, s1.get, (s1.front 1).get, nA, nB, a0, a1, b0, b1, tk, n16, ep, lA, sc, tkR]
    refine (key (setR c A ((c.Pc + 4) % 65536)) I _ fR (by omega) (fun n M s at_ => by simp [doP, go])).mono ?_
    rintro v h3 ⟨c', rfl, f', hd, e3⟩
    have s4 := s2.grow e3
    have s5 := s4.set (.cells c'.cells.toArray 30 (0, 0))
    simp (maxSteps := 2000000) (disch := first | (simp only [go_sem, simprocAttr] <;> omega) | omega) only [go_sem, simprocAttr]
    refine store_cpu f' s4.get (by rfl) ?_
    simp (maxSteps := 2000000) (disch := first | (simp only [go_sem, simprocAttr, s5.get, take_cpu f'] <;> omega) | omega) only [go_sem, simprocAttr, s5.get, take_cpu f']
    exact hR _ _ ⟨c', rfl, f', hd, (s5.front 3).ext⟩
  · have n0 : ((16 : Nat) : Int) = 16 := rfl
    have s1 := zc.push (.cells (⟨16, A, B, C, I⟩ : Ins).cells.toArray 84 (0, 0))
    simp only [Ins.cells_eq, size_push', n0] at s1
    have s2 := s1.push (.cells (tzeroD Tryz.prog 30).cells 30 (0, 0))
    simp only [tzeroD_30, Value.cells, size_push'] at s2
    simp (maxSteps := 2000000) (disch := first | (simp only [go_sem, simprocAttr, n0, s1.get, (s1.front 1).get, s2.get, (s2.front 1).get, (s2.front 2).get, nA, nB, a0, a1, b0, b1, tk, n16] <;> omega) | omega) only [go_sem, simprocAttr, n0, s1.get, (s1.front 1).get, s2.get, (s2.front 1).get, (s2.front 2).get, nA, nB, a0, a1, b0, b1, tk, n16]
    refine (key c (rg c B % 65536) _ f (by omega) (fun n M s at_ => by simp [doP, go])).mono ?_
    rintro v h3 ⟨c', rfl, f', hd, e3⟩
    have s4 := s2.grow e3
    have s5 := s4.set (.cells c'.cells.toArray 30 (0, 0))
    simp (maxSteps := 2000000) (disch := first | (simp only [go_sem, simprocAttr] <;> omega) | omega) only [go_sem, simprocAttr]
    refine store_cpu f' s4.get (by rfl) ?_
    simp (maxSteps := 2000000) (disch := first | (simp only [go_sem, simprocAttr, s5.get, take_cpu f'] <;> omega) | omega) only [go_sem, simprocAttr, s5.get, take_cpu f']
    exact hR _ _ ⟨c', rfl, f', hd, (s5.front 3).ext⟩
end
end Go.Eng
