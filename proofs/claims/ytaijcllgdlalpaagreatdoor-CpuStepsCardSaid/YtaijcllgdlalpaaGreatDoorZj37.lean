/-
  viceroyref09: other.
-/
import Derived.Test.YtaijcllgdlalpaaGreatDoorZj36
import Derived.Test.YtaijcllgdlalpaaGreatDoorZj25
set_option linter.unusedSimpArgs false
set_option linter.unusedVariables false
set_option maxRecDepth 16000
set_option maxHeartbeats 4000000
namespace Go.Eng
open Go Go.Proofs
section
variable {h : Heap} {F : List SP} {rb n tb : Nat} {wv : Value} {s : Spc} {at_ : Int} {c : Cp} {M : Mch} {op A B C I : Nat}
def othP (n rb tb : Nat) (wv : Value) (M : Mch) (c : Cp) (i : Ins) (s : Spc) (at_ : Int) (F : List SP) (v : Value) (h' : Heap) : Prop :=
  ∃ (c' : Cp) (t' : Trp) (M' : Mch), v = .tuple #[.agg c'.cells.toArray, .agg t'.cells.toArray] ∧ c'.fit ∧ doP n M c i s at_ = ⟨M', c', t'⟩ ∧ Sat h' (refRamS rb n M'.mem :: tlbS tb M'.T :: rvS wv M'.V :: F)
theorem rother_S (f : c.fit) (hpc : 0 ≤ c.Pc ∧ c.Pc < 65536) (hA : A < 16) (hB : B < 16) (hI : I < 65536) (ho1 : 17 ≤ op) (ho2 : op ≤ 25) (hg : guestO (op : Nat) = true → ∃ m, M.V = some m) (ha : 0 ≤ s.Asid) (hv : s.Vmid < 0 → ∀ l ∈ M.T, l = zeroL)
    (hs : Sat h (refRamS rb n M.mem :: tlbS tb M.T :: rvS wv M.V :: F)) :
    HCalls Tryz.prog 55 #[.agg #[.pointer (some ⟨rb, 0, none⟩), .pointer (some ⟨tb, 0, none⟩), wv], .agg c.cells.toArray, .agg (⟨op, A, B, C, I⟩ : Ins).cells.toArray, .agg s.cells.toArray] h (othP n rb tb wv M c ⟨op, A, B, C, I⟩ s at_ F) := by
  refine HCalls.via fun R hR => ?_
  have tk := take_cpu f
  obtain ⟨y0, y1⟩ := rg_bd f (i := B) (by omega) (by omega)
  have nB : nthL c.cells B = some (.int .u32 (rg c B)) := by rw [nthL_eq]; exact Cp.reg f hB
  have n16 : nthL c.cells 16 = some (.int .i64 c.Pc) := by rw [nthL_eq]; exact Cp.pc f
  have a0 : (0 : Int) ≤ A := by omega
  have a1 : (A : Int) < 16 := by omega
  have b0 : (0 : Int) ≤ B := by omega
  have b1 : (B : Int) < 16 := by omega
  obtain ⟨d, hd⟩ : ∃ d : Cp, d = { c with Pc := (c.Pc + 4) % 65536 } := ⟨_, rfl⟩
  have fd : d.fit := by rw [hd]; exact setPc_fit f (by omega) (by omega)
  have tkd := take_cpu fd
  have z1 := ((((hs.push (.cells #[.pointer (some ⟨rb, 0, none⟩), .pointer (some ⟨tb, 0, none⟩), wv] 41 (0, 0))).push (.cells c.cells.toArray 30 (0, 0))).push (.cells (⟨op, A, B, C, I⟩ : Ins).cells.toArray 84 (0, 0))).push (.cells s.cells.toArray 78 (0, 0)))
  have z2 := (z1.push (.cells (tzeroD Tryz.prog 30).cells 30 (0, 0))).push (.cells okT.cells.toArray 56 (0, 0))
  simp only [tzeroD_30, Value.cells, Trp.cells_eq, okT, okF, Spc.cells_eq, Ins.cells_eq, size_push'] at z1 z2
  refine HCalls.of_dev T55 Tryz.func55 rfl mixed (by kernel_rfl) ?_; rw [Tryz.results55]
  simp (maxSteps := 2000000) (disch := first | (simp only [go_sem, simprocAttr, n16, tk] <;> omega) | omega) only [go_sem, simprocAttr, n16, tk]
  refine (rgoes_S f _).mono ?_
  rintro v h2 ⟨rfl, e2⟩
  rw [show ({ c with Pc := (c.Pc + 4).tmod 65536 } : Cp) = d by rw [hd, Int.tmod_eq_emod_of_nonneg (by omega)]]
  have z3 := (z2.grow e2).push (.cells (tzeroD Tryz.prog 30).cells 30 (0, 0))
  simp only [tzeroD_30, Value.cells, size_push'] at z3
  simp (maxSteps := 2000000) (disch := first | (simp only [go_sem, simprocAttr] <;> omega) | omega) only [go_sem, simprocAttr]
  refine store_cpu fd z3.get (by rfl) ?_
  have zb := z2.grow e2
  have S := zb.push (.cells d.cells.toArray 30 (0, 0))
  clear z3 z1 z2
  have ld := Cp.len fd
  have hop : op = 17 ∨ op = 18 ∨ op = 19 ∨ op = 20 ∨ op = 21 ∨ op = 22 ∨ op = 23 ∨ op = 24 ∨ op = 25 := by omega
  rcases hop with rfl | rfl | rfl | rfl | rfl | rfl | rfl | rfl | rfl
  · have n0 : ((17 : Nat) : Int) = 17 := rfl
    simp only [n0] at S zb
    have w1 := (S.front 2).set (.cells c.cells.toArray 30 (0, 0))
    have w2 := (w1.front 2).set (.cells ((⟨5, I, c.Pc, okF⟩ : Trp) : Trp).cells.toArray 56 (0, 0))
    simp only [Trp.cells_eq, okT, okF] at w2
    simp (maxSteps := 2000000) (disch := first | (simp only [go_sem, simprocAttr, n0, (S.front 3).get, (S.front 4).get, (S.front 5).get, (S.front 6).get, tk, n16, nB, a0, a1, b0, b1] <;> omega) | omega) only [go_sem, simprocAttr, n0, (S.front 3).get, (S.front 4).get, (S.front 5).get, (S.front 6).get, tk, n16, nB, a0, a1, b0, b1]
    refine store_cpu f (S.front 2).get (by rfl) ?_
    simp (maxSteps := 2000000) (disch := first | (simp only [go_sem, simprocAttr, (w1.front 2).get, (w1.front 4).get, (w1.front 5).get, n16, nB, b0, b1, w2.get, (w2.front 1).get, tk] <;> omega) | omega) only [go_sem, simprocAttr, (w1.front 2).get, (w1.front 4).get, (w1.front 5).get, n16, nB, b0, b1, w2.get, (w2.front 1).get, tk]
    exact hR _ _ ⟨c, (⟨5, I, c.Pc, okF⟩ : Trp), M, rfl, f, by simp [doP], w2.tail.tail.tail.tail.tail.tail.tail⟩
  · have n0 : ((18 : Nat) : Int) = 18 := rfl
    simp only [n0] at S zb
    have w1 := (S.front 2).set (.cells c.cells.toArray 30 (0, 0))
    have w2 := (w1.front 2).set (.cells ((⟨6, I, c.Pc, okF⟩ : Trp) : Trp).cells.toArray 56 (0, 0))
    simp only [Trp.cells_eq, okT, okF] at w2
    simp (maxSteps := 2000000) (disch := first | (simp only [go_sem, simprocAttr, n0, (S.front 3).get, (S.front 4).get, (S.front 5).get, (S.front 6).get, tk, n16, nB, a0, a1, b0, b1] <;> omega) | omega) only [go_sem, simprocAttr, n0, (S.front 3).get, (S.front 4).get, (S.front 5).get, (S.front 6).get, tk, n16, nB, a0, a1, b0, b1]
    refine store_cpu f (S.front 2).get (by rfl) ?_
    simp (maxSteps := 2000000) (disch := first | (simp only [go_sem, simprocAttr, (w1.front 2).get, (w1.front 4).get, (w1.front 5).get, n16, nB, b0, b1, w2.get, (w2.front 1).get, tk] <;> omega) | omega) only [go_sem, simprocAttr, (w1.front 2).get, (w1.front 4).get, (w1.front 5).get, n16, nB, b0, b1, w2.get, (w2.front 1).get, tk]
    exact hR _ _ ⟨c, (⟨6, I, c.Pc, okF⟩ : Trp), M, rfl, f, by simp [doP], w2.tail.tail.tail.tail.tail.tail.tail⟩
  · have n0 : ((19 : Nat) : Int) = 19 := rfl
    simp only [n0] at S zb
    by_cases q : 6 < I
    · have q1 : (6 : Int) < I := by omega
      have w1 := (S.front 2).set (.cells c.cells.toArray 30 (0, 0))
      have w2 := (w1.front 2).set (.cells ((⟨7, I, c.Pc, okF⟩ : Trp) : Trp).cells.toArray 56 (0, 0))
      simp only [Trp.cells_eq, okT, okF] at w2
      simp (maxSteps := 2000000) (disch := first | (simp only [go_sem, simprocAttr, n0, (S.front 3).get, (S.front 4).get, (S.front 5).get, (S.front 6).get, tk, n16, nB, a0, a1, b0, b1, q1] <;> omega) | omega) only [go_sem, simprocAttr, n0, (S.front 3).get, (S.front 4).get, (S.front 5).get, (S.front 6).get, tk, n16, nB, a0, a1, b0, b1, q1]
      refine store_cpu f (S.front 2).get (by rfl) ?_
      simp (maxSteps := 2000000) (disch := first | (simp only [go_sem, simprocAttr, (w1.front 2).get, (w1.front 4).get, (w1.front 5).get, n16, nB, b0, b1, w2.get, (w2.front 1).get, tk] <;> omega) | omega) only [go_sem, simprocAttr, (w1.front 2).get, (w1.front 4).get, (w1.front 5).get, n16, nB, b0, b1, w2.get, (w2.front 1).get, tk]
      exact hR _ _ ⟨c, (⟨7, I, c.Pc, okF⟩ : Trp), M, rfl, f, by simp [doP, q1], w2.tail.tail.tail.tail.tail.tail.tail⟩
    · have q1 : ¬ (6 : Int) < I := by omega
      have i0 : (0 : Int) ≤ I := by omega
      have i1 : (I : Int) < 8 := by omega
      obtain ⟨v0, v1⟩ := sy_bd f (i := I) (by omega) (by omega)
      have nS : nthL c.cells (17 + I) = some (.int .u32 (sy c I)) := by rw [nthL_eq]; exact Cp.sys f (i := I) (by omega)
      have lA : A < d.cells.length := by omega
      have sc := setR_cells fd hA (v := sy c I)
      have fR := setR_fit fd (a := A) (v := sy c I) ⟨v0, v1⟩
      have tkR := take_cpu fR
      have S2 := zb.push (.cells (setR d A (sy c I)).cells.toArray 30 (0, 0))
      have w1 := (S2.front 2).set (.cells (setR d A (sy c I)).cells.toArray 30 (0, 0))
      have w2 := (w1.front 2).set (.cells (okT : Trp).cells.toArray 56 (0, 0))
      simp only [Trp.cells_eq, okT, okF] at w2
      simp (maxSteps := 2000000) (disch := first | (simp only [go_sem, simprocAttr, n0, (S.front 3).get, (S.front 4).get, (S.front 5).get, (S.front 6).get, tk, n16, nB, a0, a1, b0, b1, q1, i0, i1, nS, lA, sc, S.get, S2.get, tkR] <;> omega) | omega) only [go_sem, simprocAttr, n0, (S.front 3).get, (S.front 4).get, (S.front 5).get, (S.front 6).get, tk, n16, nB, a0, a1, b0, b1, q1, i0, i1, nS, lA, sc, S.get, S2.get, tkR]
      refine store_cpu fR (S2.front 2).get (by rfl) ?_
      simp (maxSteps := 2000000) (disch := first | (simp only [go_sem, simprocAttr, (w1.front 2).get, (w1.front 4).get, (w1.front 5).get, n16, nB, b0, b1, w2.get, (w2.front 1).get, tkR] <;> omega) | omega) only [go_sem, simprocAttr, (w1.front 2).get, (w1.front 4).get, (w1.front 5).get, n16, nB, b0, b1, w2.get, (w2.front 1).get, tkR]
      exact hR _ _ ⟨(setR d A (sy c I)), okT, M, rfl, fR, by simp [doP, q1, go, hd, setR, okT], w2.tail.tail.tail.tail.tail.tail.tail⟩
  · have n0 : ((20 : Nat) : Int) = 20 := rfl
    simp only [n0] at S zb
    by_cases q : 5 < I
    · have q1 : (5 : Int) < I := by omega
      have q2 : (6 : Int) ≤ I := by omega
      have w1 := (S.front 2).set (.cells c.cells.toArray 30 (0, 0))
      have w2 := (w1.front 2).set (.cells ((⟨7, I, c.Pc, okF⟩ : Trp) : Trp).cells.toArray 56 (0, 0))
      simp only [Trp.cells_eq, okT, okF] at w2
      simp (maxSteps := 2000000) (disch := first | (simp only [go_sem, simprocAttr, n0, (S.front 3).get, (S.front 4).get, (S.front 5).get, (S.front 6).get, tk, n16, nB, a0, a1, b0, b1, q1] <;> omega) | omega) only [go_sem, simprocAttr, n0, (S.front 3).get, (S.front 4).get, (S.front 5).get, (S.front 6).get, tk, n16, nB, a0, a1, b0, b1, q1]
      refine store_cpu f (S.front 2).get (by rfl) ?_
      simp (maxSteps := 2000000) (disch := first | (simp only [go_sem, simprocAttr, (w1.front 2).get, (w1.front 4).get, (w1.front 5).get, n16, nB, b0, b1, w2.get, (w2.front 1).get, tk] <;> omega) | omega) only [go_sem, simprocAttr, (w1.front 2).get, (w1.front 4).get, (w1.front 5).get, n16, nB, b0, b1, w2.get, (w2.front 1).get, tk]
      exact hR _ _ ⟨c, (⟨7, I, c.Pc, okF⟩ : Trp), M, rfl, f, by simp [doP, q2], w2.tail.tail.tail.tail.tail.tail.tail⟩
    · have q1 : ¬ (5 : Int) < I := by omega
      have q2 : ¬ (6 : Int) ≤ I := by omega
      have i0 : (0 : Int) ≤ I := by omega
      have i1 : (I : Int) < 8 := by omega
      have lS : 17 + I < d.cells.length := by omega
      have sc := setS_cells fd (a := I) (v := rg c B)
      have fR := setS_fit fd (a := I) ⟨y0, y1⟩
      have tkR := take_cpu fR
      obtain ⟨m, hV⟩ := hg (by decide)
      have S2 := zb.push (.cells (setS d I (rg c B)).cells.toArray 30 (0, 0))
      by_cases q3 : I = 2
      · subst q3
        have n2 : ((2 : Nat) : Int) = 2 := rfl
        rw [hV] at S2
        simp only [n2] at S S2 tkR fR
        have lS19 : 19 < d.cells.length := lS
        have sc19 : d.cells.set 19 (.int .u32 (rg c B)) = (setS d 2 (rg c B)).cells := sc
        simp (maxSteps := 2000000) (disch := first | (simp only [go_sem, simprocAttr, n0, n2, (S.front 3).get, (S.front 4).get, (S.front 5).get, (S.front 6).get, tk, n16, nB, a0, a1, b0, b1, lS19, sc19, S.get, S2.get, (S2.front 3).get, (S2.front 4).get, (S2.front 5).get, (S2.front 6).get] <;> omega) | omega) only [go_sem, simprocAttr, n0, n2, (S.front 3).get, (S.front 4).get, (S.front 5).get, (S.front 6).get, tk, n16, nB, a0, a1, b0, b1, lS19, sc19, S.get, S2.get, (S2.front 3).get, (S2.front 4).get, (S2.front 5).get, (S2.front 6).get]
        refine (rsetMask_S (S2.front 9) (min (rg c B) 256) (by omega) (by omega)).mono ?_
        rintro v h3 ⟨rfl, s3⟩
        replace s3 := s3.back 9
        have w1 := (s3.front 2).set (.cells (setS d 2 (rg c B)).cells.toArray 30 (0, 0))
        have w2 := (w1.front 2).set (.cells (okT : Trp).cells.toArray 56 (0, 0))
        simp only [Trp.cells_eq, okT, okF] at w2
        simp (maxSteps := 2000000) (disch := first | (simp only [go_sem, simprocAttr, n0, (s3.front 3).get, (s3.front 4).get, (s3.front 5).get, (s3.front 6).get, s3.get, tkR] <;> omega) | omega) only [go_sem, simprocAttr, n0, (s3.front 3).get, (s3.front 4).get, (s3.front 5).get, (s3.front 6).get, s3.get, tkR]
        refine store_cpu fR (s3.front 2).get (by rfl) ?_
        simp (maxSteps := 2000000) (disch := first | (simp only [go_sem, simprocAttr, (w1.front 2).get, (w1.front 4).get, (w1.front 5).get, n16, nB, b0, b1, w2.get, (w2.front 1).get, tkR] <;> omega) | omega) only [go_sem, simprocAttr, (w1.front 2).get, (w1.front 4).get, (w1.front 5).get, n16, nB, b0, b1, w2.get, (w2.front 1).get, tkR]
        exact hR _ _ ⟨(setS d 2 (rg c B)), okT, { M with V := some { m with mask := min (rg c B) 256 } }, rfl, fR, by simp [doP, go, hd, setS, okT, hV], w2.tail.tail.tail.tail.tail.tail.tail⟩
      · have q4 : ¬ (I : Int) = 2 := by omega
        have w1 := (S2.front 2).set (.cells (setS d I (rg c B)).cells.toArray 30 (0, 0))
        have w2 := (w1.front 2).set (.cells (okT : Trp).cells.toArray 56 (0, 0))
        simp only [Trp.cells_eq, okT, okF] at w2
        simp (maxSteps := 2000000) (disch := first | (simp only [go_sem, simprocAttr, n0, (S.front 3).get, (S.front 4).get, (S.front 5).get, (S.front 6).get, tk, n16, nB, a0, a1, b0, b1, q1, i0, i1, lS, sc, S.get, S2.get, (S2.front 3).get, (S2.front 4).get, (S2.front 5).get, (S2.front 6).get, tkR, q4] <;> omega) | omega) only [go_sem, simprocAttr, n0, (S.front 3).get, (S.front 4).get, (S.front 5).get, (S.front 6).get, tk, n16, nB, a0, a1, b0, b1, q1, i0, i1, lS, sc, S.get, S2.get, (S2.front 3).get, (S2.front 4).get, (S2.front 5).get, (S2.front 6).get, tkR, q4]
        refine store_cpu fR (S2.front 2).get (by rfl) ?_
        simp (maxSteps := 2000000) (disch := first | (simp only [go_sem, simprocAttr, (w1.front 2).get, (w1.front 4).get, (w1.front 5).get, n16, nB, b0, b1, w2.get, (w2.front 1).get, tkR] <;> omega) | omega) only [go_sem, simprocAttr, (w1.front 2).get, (w1.front 4).get, (w1.front 5).get, n16, nB, b0, b1, w2.get, (w2.front 1).get, tkR]
        exact hR _ _ ⟨(setS d I (rg c B)), okT, M, rfl, fR, by simp [doP, q2, go, hd, setS, q4, okT], w2.tail.tail.tail.tail.tail.tail.tail⟩
  · have n0 : ((21 : Nat) : Int) = 21 := rfl
    simp only [n0] at S zb
    cases hV : M.V with
    | none =>
      have hwv : wv = .pointer none := by
        have := S.front 9
        rw [hV] at this
        exact (rvS_none.1 this).1
      subst hwv
      have w1 := (S.front 2).set (.cells c.cells.toArray 30 (0, 0))
      have w2 := (w1.front 2).set (.cells ((⟨9, 0, c.Pc, okF⟩ : Trp) : Trp).cells.toArray 56 (0, 0))
      simp only [Trp.cells_eq, okT, okF] at w2
      simp (maxSteps := 2000000) (disch := first | (simp only [go_sem, simprocAttr, n0, (S.front 3).get, (S.front 4).get, (S.front 5).get, (S.front 6).get, tk, n16, nB, a0, a1, b0, b1] <;> omega) | omega) only [go_sem, simprocAttr, n0, (S.front 3).get, (S.front 4).get, (S.front 5).get, (S.front 6).get, tk, n16, nB, a0, a1, b0, b1]
      refine store_cpu f (S.front 2).get (by rfl) ?_
      simp (maxSteps := 2000000) (disch := first | (simp only [go_sem, simprocAttr, (w1.front 2).get, (w1.front 4).get, (w1.front 5).get, n16, nB, b0, b1, w2.get, (w2.front 1).get, tk] <;> omega) | omega) only [go_sem, simprocAttr, (w1.front 2).get, (w1.front 4).get, (w1.front 5).get, n16, nB, b0, b1, w2.get, (w2.front 1).get, tk]
      exact hR _ _ ⟨c, (⟨9, 0, c.Pc, okF⟩ : Trp), M, rfl, f, by simp [doP, hV], w2.tail.tail.tail.tail.tail.tail.tail⟩
    | some m =>
      rw [hV] at S
      obtain ⟨wb, x, hwv, -, -⟩ := rvS_some.1 (S.front 9)
      subst hwv
      simp (maxSteps := 2000000) (disch := first | (simp only [go_sem, simprocAttr, n0, (S.front 3).get, (S.front 4).get, (S.front 5).get, (S.front 6).get, tk, n16, nB, a0, a1, b0, b1] <;> omega) | omega) only [go_sem, simprocAttr, n0, (S.front 3).get, (S.front 4).get, (S.front 5).get, (S.front 6).get, tk, n16, nB, a0, a1, b0, b1]
      refine (rnext_S (S.front 9)).mono ?_
      rintro v h3 ⟨rfl, s3⟩
      replace s3 := s3.back 9
      cases q : (nextV m).isSome with
      | true =>
        have w1 := (s3.front 2).set (.cells d.cells.toArray 30 (0, 0))
        have w2 := (w1.front 2).set (.cells (okT : Trp).cells.toArray 56 (0, 0))
        simp only [Trp.cells_eq, okT, okF] at w2
        simp (maxSteps := 2000000) (disch := first | (simp only [go_sem, simprocAttr, n0, (s3.front 3).get, (s3.front 4).get, (s3.front 5).get, (s3.front 6).get, s3.get, tkd] <;> omega) | omega) only [go_sem, simprocAttr, n0, (s3.front 3).get, (s3.front 4).get, (s3.front 5).get, (s3.front 6).get, s3.get, tkd]
        refine store_cpu fd (s3.front 2).get (by rfl) ?_
        simp (maxSteps := 2000000) (disch := first | (simp only [go_sem, simprocAttr, (w1.front 2).get, (w1.front 4).get, (w1.front 5).get, n16, nB, b0, b1, w2.get, (w2.front 1).get, tkd] <;> omega) | omega) only [go_sem, simprocAttr, (w1.front 2).get, (w1.front 4).get, (w1.front 5).get, n16, nB, b0, b1, w2.get, (w2.front 1).get, tkd]
        exact hR _ _ ⟨d, okT, M, rfl, fd, by simp [doP, go, hd, okT, hV, q], by rw [hV]; exact w2.tail.tail.tail.tail.tail.tail.tail⟩
      | false =>
        have w1 := (s3.front 2).set (.cells c.cells.toArray 30 (0, 0))
        have w2 := (w1.front 2).set (.cells ((⟨9, 0, c.Pc, okF⟩ : Trp) : Trp).cells.toArray 56 (0, 0))
        simp only [Trp.cells_eq, okT, okF] at w2
        simp (maxSteps := 2000000) (disch := first | (simp only [go_sem, simprocAttr, n0, (s3.front 3).get, (s3.front 4).get, (s3.front 5).get, (s3.front 6).get, s3.get, tk, n16] <;> omega) | omega) only [go_sem, simprocAttr, n0, (s3.front 3).get, (s3.front 4).get, (s3.front 5).get, (s3.front 6).get, s3.get, tk, n16]
        refine store_cpu f (s3.front 2).get (by rfl) ?_
        simp (maxSteps := 2000000) (disch := first | (simp only [go_sem, simprocAttr, (w1.front 2).get, (w1.front 4).get, (w1.front 5).get, n16, nB, b0, b1, w2.get, (w2.front 1).get, tk] <;> omega) | omega) only [go_sem, simprocAttr, (w1.front 2).get, (w1.front 4).get, (w1.front 5).get, n16, nB, b0, b1, w2.get, (w2.front 1).get, tk]
        exact hR _ _ ⟨c, (⟨9, 0, c.Pc, okF⟩ : Trp), M, rfl, f, by simp [doP, hV, q], by rw [hV]; exact w2.tail.tail.tail.tail.tail.tail.tail⟩
  · have n0 : ((22 : Nat) : Int) = 22 := rfl
    simp only [n0] at S zb
    obtain ⟨m, hV⟩ := hg (by decide)
    rw [hV] at S
    obtain ⟨wb, x, hwv, rel, -⟩ := rvS_some.1 (S.front 9)
    subst hwv
    obtain ⟨v0, v1⟩ := ackV_bd rel.ok
    simp (maxSteps := 2000000) (disch := first | (simp only [go_sem, simprocAttr, n0, (S.front 3).get, (S.front 4).get, (S.front 5).get, (S.front 6).get, tk, n16, nB, a0, a1, b0, b1] <;> omega) | omega) only [go_sem, simprocAttr, n0, (S.front 3).get, (S.front 4).get, (S.front 5).get, (S.front 6).get, tk, n16, nB, a0, a1, b0, b1]
    refine (rack_S (S.front 9)).mono ?_
    rintro v h3 ⟨rfl, s3⟩
    replace s3 := s3.back 9
    have lA : A < d.cells.length := by omega
    have sc := setR_cells fd hA (v := (ackV m).2)
    have fR := setR_fit fd (a := A) (v := (ackV m).2) ⟨v0, v1⟩
    have tkR := take_cpu fR
    have s4 := s3.set (.cells (setR d A (ackV m).2).cells.toArray 30 (0, 0))
    have w1 := (s4.front 2).set (.cells (setR d A (ackV m).2).cells.toArray 30 (0, 0))
    have w2 := (w1.front 2).set (.cells (okT : Trp).cells.toArray 56 (0, 0))
    simp only [Trp.cells_eq, okT, okF] at w2
    simp (maxSteps := 2000000) (disch := first | (simp only [go_sem, simprocAttr, n0, a0, a1, lA, sc, s3.get, s4.get, (s3.front 3).get, (s3.front 4).get, (s3.front 5).get, (s3.front 6).get, (s4.front 3).get, (s4.front 4).get, (s4.front 5).get, (s4.front 6).get, tkR] <;> omega) | omega) only [go_sem, simprocAttr, n0, a0, a1, lA, sc, s3.get, s4.get, (s3.front 3).get, (s3.front 4).get, (s3.front 5).get, (s3.front 6).get, (s4.front 3).get, (s4.front 4).get, (s4.front 5).get, (s4.front 6).get, tkR]
    refine store_cpu fR (s4.front 2).get (by rfl) ?_
    simp (maxSteps := 2000000) (disch := first | (simp only [go_sem, simprocAttr, (w1.front 2).get, (w1.front 4).get, (w1.front 5).get, n16, nB, b0, b1, w2.get, (w2.front 1).get, tkR] <;> omega) | omega) only [go_sem, simprocAttr, (w1.front 2).get, (w1.front 4).get, (w1.front 5).get, n16, nB, b0, b1, w2.get, (w2.front 1).get, tkR]
    exact hR _ _ ⟨(setR d A (ackV m).2), okT, { M with V := some (ackV m).1 }, rfl, fR, by simp [doP, go, hd, setR, okT, hV], w2.tail.tail.tail.tail.tail.tail.tail⟩
  · have n0 : ((23 : Nat) : Int) = 23 := rfl
    simp only [n0] at S zb
    obtain ⟨m, hV⟩ := hg (by decide)
    rw [hV] at S
    obtain ⟨wb, x, hwv, -, -⟩ := rvS_some.1 (S.front 9)
    subst hwv
    simp (maxSteps := 2000000) (disch := first | (simp only [go_sem, simprocAttr, n0, (S.front 3).get, (S.front 4).get, (S.front 5).get, (S.front 6).get, tk, n16, nB, a0, a1, b0, b1] <;> omega) | omega) only [go_sem, simprocAttr, n0, (S.front 3).get, (S.front 4).get, (S.front 5).get, (S.front 6).get, tk, n16, nB, a0, a1, b0, b1]
    refine (rend_S (S.front 9) (min (rg c B) 64)).mono ?_
    rintro v h3 ⟨⟨e, rfl⟩, s3⟩
    replace s3 := s3.back 9
    cases q : (endV m (min (rg c B) 64)).2 with
    | true =>
      have w1 := (s3.front 2).set (.cells d.cells.toArray 30 (0, 0))
      have w2 := (w1.front 2).set (.cells ((⟨10, rg c B, c.Pc, okF⟩ : Trp) : Trp).cells.toArray 56 (0, 0))
      simp only [Trp.cells_eq, okT, okF] at w2
      simp (maxSteps := 2000000) (disch := first | (simp only [go_sem, simprocAttr, n0, (s3.front 3).get, (s3.front 4).get, (s3.front 5).get, (s3.front 6).get, s3.get, tkd, b0, b1, nB, n16] <;> omega) | omega) only [go_sem, simprocAttr, n0, (s3.front 3).get, (s3.front 4).get, (s3.front 5).get, (s3.front 6).get, s3.get, tkd, b0, b1, nB, n16]
      refine store_cpu fd (s3.front 2).get (by rfl) ?_
      simp (maxSteps := 2000000) (disch := first | (simp only [go_sem, simprocAttr, (w1.front 2).get, (w1.front 4).get, (w1.front 5).get, n16, nB, b0, b1, w2.get, (w2.front 1).get, tkd] <;> omega) | omega) only [go_sem, simprocAttr, (w1.front 2).get, (w1.front 4).get, (w1.front 5).get, n16, nB, b0, b1, w2.get, (w2.front 1).get, tkd]
      exact hR _ _ ⟨d, (⟨10, rg c B, c.Pc, okF⟩ : Trp), { M with V := some (endV m (min (rg c B) 64)).1 }, rfl, fd, by simp [doP, hd, hV, q], w2.tail.tail.tail.tail.tail.tail.tail⟩
    | false =>
      have w1 := (s3.front 2).set (.cells d.cells.toArray 30 (0, 0))
      have w2 := (w1.front 2).set (.cells (okT : Trp).cells.toArray 56 (0, 0))
      simp only [Trp.cells_eq, okT, okF] at w2
      simp (maxSteps := 2000000) (disch := first | (simp only [go_sem, simprocAttr, n0, (s3.front 3).get, (s3.front 4).get, (s3.front 5).get, (s3.front 6).get, s3.get, tkd] <;> omega) | omega) only [go_sem, simprocAttr, n0, (s3.front 3).get, (s3.front 4).get, (s3.front 5).get, (s3.front 6).get, s3.get, tkd]
      refine store_cpu fd (s3.front 2).get (by rfl) ?_
      simp (maxSteps := 2000000) (disch := first | (simp only [go_sem, simprocAttr, (w1.front 2).get, (w1.front 4).get, (w1.front 5).get, n16, nB, b0, b1, w2.get, (w2.front 1).get, tkd] <;> omega) | omega) only [go_sem, simprocAttr, (w1.front 2).get, (w1.front 4).get, (w1.front 5).get, n16, nB, b0, b1, w2.get, (w2.front 1).get, tkd]
      exact hR _ _ ⟨d, okT, { M with V := some (endV m (min (rg c B) 64)).1 }, rfl, fd, by simp [doP, hd, hV, q, okT], w2.tail.tail.tail.tail.tail.tail.tail⟩
  · have n0 : ((24 : Nat) : Int) = 24 := rfl
    simp only [n0] at S zb
    simp (maxSteps := 2000000) (disch := first | (simp only [go_sem, simprocAttr, n0, (S.front 3).get, (S.front 4).get, (S.front 5).get, (S.front 6).get, tk, n16, nB, a0, a1, b0, b1] <;> omega) | omega) only [go_sem, simprocAttr, n0, (S.front 3).get, (S.front 4).get, (S.front 5).get, (S.front 6).get, tk, n16, nB, a0, a1, b0, b1]
    refine (rflush_S (S.front 8) s.Vmid s.Asid ha hv).mono ?_
    rintro v h3 ⟨⟨e, rfl⟩, s3⟩
    replace s3 := s3.back 8
    have w1 := (s3.front 2).set (.cells d.cells.toArray 30 (0, 0))
    have w2 := (w1.front 2).set (.cells (okT : Trp).cells.toArray 56 (0, 0))
    simp only [Trp.cells_eq, okT, okF] at w2
    simp (maxSteps := 2000000) (disch := first | (simp only [go_sem, simprocAttr, n0, (s3.front 3).get, (s3.front 4).get, (s3.front 5).get, (s3.front 6).get, s3.get, tkd] <;> omega) | omega) only [go_sem, simprocAttr, n0, (s3.front 3).get, (s3.front 4).get, (s3.front 5).get, (s3.front 6).get, s3.get, tkd]
    refine store_cpu fd (s3.front 2).get (by rfl) ?_
    simp (maxSteps := 2000000) (disch := first | (simp only [go_sem, simprocAttr, (w1.front 2).get, (w1.front 4).get, (w1.front 5).get, n16, nB, b0, b1, w2.get, (w2.front 1).get, tkd] <;> omega) | omega) only [go_sem, simprocAttr, (w1.front 2).get, (w1.front 4).get, (w1.front 5).get, n16, nB, b0, b1, w2.get, (w2.front 1).get, tkd]
    exact hR _ _ ⟨d, okT, { M with T := flushT M.T fun l => decide (l.Vmid = s.Vmid) && decide (l.Asid = s.Asid) }, rfl, fd, by simp [doP, go, hd, okT], w2.tail.tail.tail.tail.tail.tail.tail⟩
  · have n0 : ((25 : Nat) : Int) = 25 := rfl
    simp only [n0] at S zb
    have w1 := (S.front 2).set (.cells d.cells.toArray 30 (0, 0))
    have w2 := (w1.front 2).set (.cells (okT : Trp).cells.toArray 56 (0, 0))
    simp only [Trp.cells_eq, okT, okF] at w2
    simp (maxSteps := 2000000) (disch := first | (simp only [go_sem, simprocAttr, n0, (S.front 3).get, (S.front 4).get, (S.front 5).get, (S.front 6).get, tk, n16, nB, a0, a1, b0, b1, S.get, tkd] <;> omega) | omega) only [go_sem, simprocAttr, n0, (S.front 3).get, (S.front 4).get, (S.front 5).get, (S.front 6).get, tk, n16, nB, a0, a1, b0, b1, S.get, tkd]
    refine store_cpu fd (S.front 2).get (by rfl) ?_
    simp (maxSteps := 2000000) (disch := first | (simp only [go_sem, simprocAttr, (w1.front 2).get, (w1.front 4).get, (w1.front 5).get, n16, nB, b0, b1, w2.get, (w2.front 1).get, tkd] <;> omega) | omega) only [go_sem, simprocAttr, (w1.front 2).get, (w1.front 4).get, (w1.front 5).get, n16, nB, b0, b1, w2.get, (w2.front 1).get, tkd]
    exact hR _ _ ⟨d, okT, M, rfl, fd, by simp [doP, go, hd, okT], w2.tail.tail.tail.tail.tail.tail.tail⟩
end
end Go.Eng
