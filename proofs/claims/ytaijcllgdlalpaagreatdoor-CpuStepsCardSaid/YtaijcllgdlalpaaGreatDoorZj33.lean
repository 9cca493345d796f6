/-
  A buffer that agrees with the tables is not seen: plain.
-/
import Derived.Test.YtaijcllgdlalpaaGreatDoorZj22
import Derived.Test.YtaijcllgdlalpaaGreatDoorZj32
set_option linter.unusedSimpArgs false
set_option linter.unusedVariables false
set_option maxRecDepth 16000
set_option maxHeartbeats 4000000
namespace Go.Eng
open Go Go.Proofs
theorem seW_ok {n : Nat} {mem : Nat → Int} {root page a : Int} (h : (seW n mem root page a).f.K = 0) : (seW n mem root page a).f = okF ∧ andI (seW n mem root page a).Ri a ≠ 0 := by
  unfold seW at h ⊢
  by_cases k : (sgW n mem root page).f.K ≠ 0
  · rw [if_pos k] at h; exact absurd h k
  rw [if_neg k] at h ⊢
  by_cases k2 : andI (sgW n mem root page).Ri a = 0
  · rw [if_pos k2] at h; cases h
  rw [if_neg k2]
  exact ⟨rfl, k2⟩
theorem neW_ok {n : Nat} {mem : Nat → Int} {s : Spc} {page a : Int} (h : (neW n mem s page a).f.K = 0) : (neW n mem s page a).f = okF := by
  unfold neW at h ⊢
  by_cases k : page < 0 ∨ 1024 ≤ page
  · rw [if_pos k] at h; cases h
  rw [if_neg k] at h ⊢
  by_cases k1 : s.First < 0
  · rw [if_pos k1] at h ⊢
    exact (seW_ok h).1
  rw [if_neg k1] at h ⊢
  by_cases k2 : (own2 n mem s page).2.K ≠ 0
  · rw [if_pos k2] at h; exact absurd h k2
  rw [if_neg k2] at h ⊢
  by_cases k3 : andI (own2 n mem s page).1.R a = 0
  · rw [if_pos k3] at h; cases h
  rw [if_neg k3] at h ⊢
  exact (seW_ok h).1
/-- The buffer agrees with the tables, for a space. -/
def conT (n : Nat) (mem : Nat → Int) (s : Spc) (T : List Ln) : Prop := ∀ l ∈ T, ∀ page, keyL s.Vmid s.Asid page l = true → ∀ want, andI l.Rights want ≠ 0 → neW n mem s page want = ⟨l.Frame, l.Rights, okF⟩
end Go.Eng
/-
  viceroyref04: Reach.
-/
namespace Go.Eng
open Go Go.Proofs
section
variable {h : Heap} {F : List SP} {rb n tb : Nat} {mem : Nat → Int} {T : List Ln}
theorem rreach_S (hs : Sat h (refRamS rb n mem :: tlbS tb T :: F)) (u : uniqT T) (s : Spc) (p w at_ : Int) (hw : w = 1 ∨ w = 2 ∨ w = 4) : HCalls Tryz.prog 104 #[.pointer (some ⟨rb, 0, none⟩), .pointer (some ⟨tb, 0, none⟩), .agg s.cells.toArray, .int .i64 p, .int .i64 w, .int .i64 at_] h fun v h' =>
    v = .tuple #[.int .i64 (reach n mem T s p w at_).Fr, .agg (reach n mem T s p w at_).f.cells.toArray] ∧ Sat h' (refRamS rb n mem :: tlbS tb (reach n mem T s p w at_).T :: F) := by
  refine HCalls.via fun R hR => ?_
  have s1 := (hs.push (.cells s.cells.toArray 78 (0, 0))).push (.cells okF.cells.toArray 47 (0, 0))
  simp only [Flt.cells_eq, okF, Spc.cells_eq, size_push'] at s1
  have gs := (s1.front 1).get
  unfold reach at hR
  refine HCalls.of_dev T104 Tryz.func104 rfl mixed (by kernel_rfl) ?_; rw [Tryz.results104]
  simp (maxSteps := 2000000) (disch := first | (simp only [go_sem, simprocAttr, gs] <;> omega) | omega) only [go_sem, simprocAttr, gs]
  refine (rfind_S (s1.front 3) s.Vmid s.Asid p).mono ?_
  rintro v h2 ⟨rfl, s2⟩
  cases hf : findT T s.Vmid s.Asid p with
  | some l =>
    rw [hf] at hR
    simp only at hR ⊢
    have gr := (s2.front 1).get
    have s3 := (s2.front 1).set (.cells okF.cells.toArray 47 (0, 0))
    simp only [Flt.cells_eq, okF] at s3
    rcases hw with rfl | rfl | rfl
    · simp (maxSteps := 2000000) (disch := first | (simp only [go_sem, simprocAttr, gr, s3.get] <;> omega) | omega) only [go_sem, simprocAttr, gr, s3.get]
      refine ⟨fun q => ?_, fun q => ?_⟩
      · rw [if_pos (show andI l.Rights 1 ≠ 0 from q)] at hR
        exact hR _ _ ⟨rfl, (Sat.drop2 (s3.tail.front 2))⟩
      · rw [if_neg (show ¬ andI l.Rights 1 ≠ 0 from q)] at hR
        have gs2 := (s2.front 2).get
        simp (maxSteps := 2000000) (disch := first | (simp only [go_sem, simprocAttr, gs2] <;> omega) | omega) only [go_sem, simprocAttr, gs2]
        refine (rnested_S (s2.front 3) s p _ (by omega)).mono ?_
        rintro v h3 ⟨rfl, x3⟩
        unfold reachW at hR
        have hok := fun z => neW_ok (n := n) (mem := mem) (s := s) (page := p) (a := 1) z
        generalize neW n mem s p 1 = W at *
        obtain ⟨fr, ri, f⟩ := W
        simp only [Wlk.val] at hR hok ⊢
        have s4 := (s2.grow x3).push (.cells f.cells.toArray 47 (0, 0))
        simp only [Flt.cells_eq] at s4
        have g4 := s4.get
        have g5 := (s4.front 2).get
        have g6 := (s4.front 3).get
        by_cases k : f.K = 0
        · have := hok k
          subst this
          have x0 : okF = ⟨0, 0, 0, false, 0⟩ := rfl
          rw [if_neg (by decide)] at hR
          simp only [okF] at s4 g4 g5 g6
          simp (maxSteps := 2000000) (disch := first | (simp only [go_sem, simprocAttr, g4, g6, x0] <;> omega) | omega) only [go_sem, simprocAttr, g4, g6, x0]
          refine (rfill_S (s4.front 1) u at_ ⟨s.Vmid, s.Asid, p, fr, ri⟩).mono ?_
          rintro v h5 ⟨⟨e, rfl⟩, s5⟩
          have s6 := (s5.front 2).set (.cells okF.cells.toArray 47 (0, 0))
          simp only [Flt.cells_eq, okF] at s6
          simp (maxSteps := 2000000) (disch := first | (simp only [go_sem, simprocAttr, (s5.front 1).get, (s5.front 2).get, s6.get] <;> omega) | omega) only [go_sem, simprocAttr, (s5.front 1).get, (s5.front 2).get, s6.get]
          exact hR _ _ ⟨rfl, (Sat.drop2 (Sat.drop2 (s6.tail.front 3)))⟩
        · rw [if_pos k] at hR
          have s6 := (s4.front 2).set (.cells f.cells.toArray 47 (0, 0))
          simp only [Flt.cells_eq] at s6
          simp (maxSteps := 2000000) (disch := first | (simp only [go_sem, simprocAttr, g4, k, g5, s6.get] <;> omega) | omega) only [go_sem, simprocAttr, g4, k, g5, s6.get]
          exact hR _ _ ⟨rfl, (Sat.drop2 (s6.tail.tail.front 2))⟩
    · simp (maxSteps := 2000000) (disch := first | (simp only [go_sem, simprocAttr, gr, s3.get] <;> omega) | omega) only [go_sem, simprocAttr, gr, s3.get]
      refine ⟨fun q => ?_, fun q => ?_⟩
      · rw [if_pos (show andI l.Rights 2 ≠ 0 from q)] at hR
        exact hR _ _ ⟨rfl, (Sat.drop2 (s3.tail.front 2))⟩
      · rw [if_neg (show ¬ andI l.Rights 2 ≠ 0 from q)] at hR
        have gs2 := (s2.front 2).get
        simp (maxSteps := 2000000) (disch := first | (simp only [go_sem, simprocAttr, gs2] <;> omega) | omega) only [go_sem, simprocAttr, gs2]
        refine (rnested_S (s2.front 3) s p _ (by omega)).mono ?_
        rintro v h3 ⟨rfl, x3⟩
        unfold reachW at hR
        have hok := fun z => neW_ok (n := n) (mem := mem) (s := s) (page := p) (a := 2) z
        generalize neW n mem s p 2 = W at *
        obtain ⟨fr, ri, f⟩ := W
        simp only [Wlk.val] at hR hok ⊢
        have s4 := (s2.grow x3).push (.cells f.cells.toArray 47 (0, 0))
        simp only [Flt.cells_eq] at s4
        have g4 := s4.get
        have g5 := (s4.front 2).get
        have g6 := (s4.front 3).get
        by_cases k : f.K = 0
        · have := hok k
          subst this
          have x0 : okF = ⟨0, 0, 0, false, 0⟩ := rfl
          rw [if_neg (by decide)] at hR
          simp only [okF] at s4 g4 g5 g6
          simp (maxSteps := 2000000) (disch := first | (simp only [go_sem, simprocAttr, g4, g6, x0] <;> omega) | omega) only [go_sem, simprocAttr, g4, g6, x0]
          refine (rfill_S (s4.front 1) u at_ ⟨s.Vmid, s.Asid, p, fr, ri⟩).mono ?_
          rintro v h5 ⟨⟨e, rfl⟩, s5⟩
          have s6 := (s5.front 2).set (.cells okF.cells.toArray 47 (0, 0))
          simp only [Flt.cells_eq, okF] at s6
          simp (maxSteps := 2000000) (disch := first | (simp only [go_sem, simprocAttr, (s5.front 1).get, (s5.front 2).get, s6.get] <;> omega) | omega) only [go_sem, simprocAttr, (s5.front 1).get, (s5.front 2).get, s6.get]
          exact hR _ _ ⟨rfl, (Sat.drop2 (Sat.drop2 (s6.tail.front 3)))⟩
        · rw [if_pos k] at hR
          have s6 := (s4.front 2).set (.cells f.cells.toArray 47 (0, 0))
          simp only [Flt.cells_eq] at s6
          simp (maxSteps := 2000000) (disch := first | (simp only [go_sem, simprocAttr, g4, k, g5, s6.get] <;> omega) | omega) only [go_sem, simprocAttr, g4, k, g5, s6.get]
          exact hR _ _ ⟨rfl, (Sat.drop2 (s6.tail.tail.front 2))⟩
    · simp (maxSteps := 2000000) (disch := first | (simp only [go_sem, simprocAttr, gr, s3.get] <;> omega) | omega) only [go_sem, simprocAttr, gr, s3.get]
      refine ⟨fun q => ?_, fun q => ?_⟩
      · rw [if_pos (show andI l.Rights 4 ≠ 0 from q)] at hR
        exact hR _ _ ⟨rfl, (Sat.drop2 (s3.tail.front 2))⟩
      · rw [if_neg (show ¬ andI l.Rights 4 ≠ 0 from q)] at hR
        have gs2 := (s2.front 2).get
        simp (maxSteps := 2000000) (disch := first | (simp only [go_sem, simprocAttr, gs2] <;> omega) | omega) only [go_sem, simprocAttr, gs2]
        refine (rnested_S (s2.front 3) s p _ (by omega)).mono ?_
        rintro v h3 ⟨rfl, x3⟩
        unfold reachW at hR
        have hok := fun z => neW_ok (n := n) (mem := mem) (s := s) (page := p) (a := 4) z
        generalize neW n mem s p 4 = W at *
        obtain ⟨fr, ri, f⟩ := W
        simp only [Wlk.val] at hR hok ⊢
        have s4 := (s2.grow x3).push (.cells f.cells.toArray 47 (0, 0))
        simp only [Flt.cells_eq] at s4
        have g4 := s4.get
        have g5 := (s4.front 2).get
        have g6 := (s4.front 3).get
        by_cases k : f.K = 0
        · have := hok k
          subst this
          have x0 : okF = ⟨0, 0, 0, false, 0⟩ := rfl
          rw [if_neg (by decide)] at hR
          simp only [okF] at s4 g4 g5 g6
          simp (maxSteps := 2000000) (disch := first | (simp only [go_sem, simprocAttr, g4, g6, x0] <;> omega) | omega) only [go_sem, simprocAttr, g4, g6, x0]
          refine (rfill_S (s4.front 1) u at_ ⟨s.Vmid, s.Asid, p, fr, ri⟩).mono ?_
          rintro v h5 ⟨⟨e, rfl⟩, s5⟩
          have s6 := (s5.front 2).set (.cells okF.cells.toArray 47 (0, 0))
          simp only [Flt.cells_eq, okF] at s6
          simp (maxSteps := 2000000) (disch := first | (simp only [go_sem, simprocAttr, (s5.front 1).get, (s5.front 2).get, s6.get] <;> omega) | omega) only [go_sem, simprocAttr, (s5.front 1).get, (s5.front 2).get, s6.get]
          exact hR _ _ ⟨rfl, (Sat.drop2 (Sat.drop2 (s6.tail.front 3)))⟩
        · rw [if_pos k] at hR
          have s6 := (s4.front 2).set (.cells f.cells.toArray 47 (0, 0))
          simp only [Flt.cells_eq] at s6
          simp (maxSteps := 2000000) (disch := first | (simp only [go_sem, simprocAttr, g4, k, g5, s6.get] <;> omega) | omega) only [go_sem, simprocAttr, g4, k, g5, s6.get]
          exact hR _ _ ⟨rfl, (Sat.drop2 (s6.tail.tail.front 2))⟩
  | none =>
    rw [hf] at hR
    simp only at hR ⊢
    have gs2 := (s2.front 2).get
    simp (maxSteps := 2000000) (disch := first | (simp only [go_sem, simprocAttr, gs2] <;> omega) | omega) only [go_sem, simprocAttr, gs2]
    refine (rnested_S (s2.front 3) s p _ hw).mono ?_
    rintro v h3 ⟨rfl, x3⟩
    unfold reachW at hR
    have hok := fun z => neW_ok (n := n) (mem := mem) (s := s) (page := p) (a := w) z
    generalize neW n mem s p w = W at *
    obtain ⟨fr, ri, f⟩ := W
    simp only [Wlk.val] at hR hok ⊢
    have s4 := (s2.grow x3).push (.cells f.cells.toArray 47 (0, 0))
    simp only [Flt.cells_eq] at s4
    have g4 := s4.get
    have g5 := (s4.front 2).get
    have g6 := (s4.front 3).get
    by_cases k : f.K = 0
    · have := hok k
      subst this
      have x0 : okF = ⟨0, 0, 0, false, 0⟩ := rfl
      rw [if_neg (by decide)] at hR
      simp only [okF] at s4 g4 g5 g6
      simp (maxSteps := 2000000) (disch := first | (simp only [go_sem, simprocAttr, g4, g6, x0] <;> omega) | omega) only [go_sem, simprocAttr, g4, g6, x0]
      refine (rfill_S (s4.front 1) u at_ ⟨s.Vmid, s.Asid, p, fr, ri⟩).mono ?_
      rintro v h5 ⟨⟨e, rfl⟩, s5⟩
      have s6 := (s5.front 2).set (.cells okF.cells.toArray 47 (0, 0))
      simp only [Flt.cells_eq, okF] at s6
      simp (maxSteps := 2000000) (disch := first | (simp only [go_sem, simprocAttr, (s5.front 1).get, (s5.front 2).get, s6.get] <;> omega) | omega) only [go_sem, simprocAttr, (s5.front 1).get, (s5.front 2).get, s6.get]
      exact hR _ _ ⟨rfl, (Sat.drop2 (Sat.drop2 (s6.tail.front 3)))⟩
    · rw [if_pos k] at hR
      have s6 := (s4.front 2).set (.cells f.cells.toArray 47 (0, 0))
      simp only [Flt.cells_eq] at s6
      simp (maxSteps := 2000000) (disch := first | (simp only [go_sem, simprocAttr, g4, k, g5, s6.get] <;> omega) | omega) only [go_sem, simprocAttr, g4, k, g5, s6.get]
      exact hR _ _ ⟨rfl, (Sat.drop2 (s6.tail.tail.front 2))⟩
end
end Go.Eng
