/-
  viceroyref01: Load; viceroyref02: Decode, Index, Get; viceroyref04: entry, Single.
-/
import Derived.Test.YtaijcllgdlalpaaGreatDoorZj10
import Derived.Test.YtaijcllgdlalpaaGreatDoorZj11
set_option linter.unusedSimpArgs false
set_option linter.unusedVariables false
set_option maxRecDepth 16000
set_option maxHeartbeats 4000000
namespace Go.Eng
open Go Go.Proofs
theorem wrap32 (a : Int) : IntKind.u32.wrap a = a % 4294967296 := by simp [IntKind.wrap, IntKind.bits, IntKind.signed]
section
variable {h : Heap} {F : List SP} {rb n : Nat} {mem : Nat → Int}
theorem refLoad_S (hs : Sat h (refRamS rb n mem :: F)) (addr size : Int) : HCalls Tryz.prog 38 #[.pointer (some ⟨rb, 0, none⟩), .int .i64 addr, .int .i64 size] h fun v h' =>
    h' = h ∧ v = (if accM n addr size = 0 then .tuple #[.int .u32 (loadM mem addr.toNat size.toNat), .int .i64 0] else .tuple #[.int .u32 0, .int .i64 (accM n addr size)]) := by
  refine HCalls.via fun R hR => ?_
  refine HCalls.of_dev T38 Tryz.func38 rfl mixed (by kernel_rfl) ?_; rw [Tryz.results38]
  simp (maxSteps := 2000000) (disch := first | (simp only [go_sem, simprocAttr] <;> omega) | omega) only [go_sem, simprocAttr]
  refine (wrong_S hs addr size).mono ?_
  rintro v h1 ⟨rfl, rfl⟩
  obtain ⟨⟨hb, hn⟩, v, ty, s⟩ := refRamS_iff.1 hs
  obtain ⟨sl, cap, rfl, -, -, el⟩ := (s.front 1).elems
  by_cases q : accM n addr size = 0
  · rw [q, if_pos rfl] at hR
    obtain ⟨hz, -, a0, a1, a2, -⟩ := accM_ok q
    rcases el with e0 | ⟨lb, rfl, g, -⟩
    · omega
    simp (maxSteps := 2000000) (disch := first | (simp only [go_sem, simprocAttr, q] <;> omega) | omega) only [go_sem, simprocAttr, q]
    refine loopH.intro (fun k : Nat => (.cons 0 (.pointer (some ⟨rb, 0, none⟩)) true (.cons 1 (.int .i64 addr) true (.cons 2 (.int .i64 size) true (.cons 9 (.int .u32 (loadM mem addr.toNat k)) true (.cons 10 (.int .u32 (256 ^ k % 4294967296)) true (.cons 11 (.int .i64 k) true .nil)))))))
      (fun k h' => (k : Int) ≤ size ∧ h' = h1) (fun k _ => (size - k).toNat + 1) 0 ?_ ⟨by omega, rfl⟩ ?_
    · rfl
    rintro k h' ⟨hk, rfl⟩
    by_cases hlt : (k : Int) < size
    · have i0 : 0 ≤ addr + k := by omega
      have i1 : addr + (k : Int) < ((64 * n : Nat) : Int) := by omega
      have hk3 : k ≤ 3 := by omega
      have l1 : (addr + (k : Int)).toNat = addr.toNat + k := by omega
      have gk := g (addr.toNat + k) (by omega)
      rw [memL_get (by omega)] at gk
      obtain ⟨m0, m1⟩ := hb (addr.toNat + k) (by omega)
      simp (maxSteps := 2000000) (disch := first | (simp only [go_sem, simprocAttr, hlt, s.get, i0, i1, l1, gk] <;> omega) | omega) only [go_sem, simprocAttr, hlt, s.get, i0, i1, l1, gk]
      have ek : (256 : Int) ^ k = 1 ∨ (256 : Int) ^ k = 256 ∨ (256 : Int) ^ k = 65536 ∨ (256 : Int) ^ k = 16777216 := by
        have : k = 0 ∨ k = 1 ∨ k = 2 ∨ k = 3 := by omega
        rcases this with rfl | rfl | rfl | rfl <;> simp
      obtain ⟨b0, b1⟩ := loadM_bd hb addr.toNat (k + 1) (by omega)
      have el : loadM mem addr.toNat (k + 1) = loadM mem addr.toNat k + 256 ^ k * mem (addr.toNat + k) := rfl
      rw [Int.pow_succ] at b1
      have e1 : IntKind.u32.wrap (256 ^ k % 4294967296 * mem (addr.toNat + k)) = 256 ^ k * mem (addr.toNat + k) := by
        rw [wrap32]
        rcases ek with e | e | e | e <;> rw [e] <;> omega
      have e2 : IntKind.u32.wrap (loadM mem addr.toNat k + 256 ^ k * mem (addr.toNat + k)) = loadM mem addr.toNat (k + 1) := by
        rw [wrap32, ← el]
        rcases ek with e | e | e | e <;> rw [e] at b1 <;> omega
      have e3 : IntKind.u32.wrap (256 ^ k % 4294967296 * 256) = 256 ^ (k + 1) % 4294967296 := by
        rw [wrap32, Int.pow_succ]
        rcases ek with e | e | e | e <;> rw [e] <;> rfl
      rw [e1, e2, e3]
      exact ⟨k + 1, rfl, ⟨by omega, rfl⟩, by simp only; omega⟩
    · simp (maxSteps := 2000000) (disch := first | (simp only [go_sem, simprocAttr, hlt] <;> omega) | omega) only [go_sem, simprocAttr, hlt]
      have e : size = k := by omega
      subst e
      rw [Int.toNat_natCast] at hR
      exact hR _ _ ⟨rfl, rfl⟩
  · rw [if_neg q] at hR
    simp (maxSteps := 2000000) (disch := first | (simp only [go_sem, simprocAttr, q] <;> omega) | omega) only [go_sem, simprocAttr, q]
    exact hR _ _ ⟨rfl, rfl⟩
theorem rptDecode_S (w : Nat) (hw : w < 65536) : HCalls Tryz.prog 39 #[.int .u16 w] h fun v h' => v = .tuple #[.agg (decE w).1.cells.toArray, .int .i64 (decE w).2] ∧ Ext h h' := by
  refine HCalls.via fun R hR => ?_
  refine HCalls.of_dev T39 Tryz.func39 rfl mixed (by kernel_rfl) ?_; rw [Tryz.results39]
  have hd : decE (w : Int) = if decide ((w : Int) / 32 % 2 = 1) || !rightE (decE0 (w : Int)) then (zeroE, 20) else (decE0 w, 0) := rfl
  have hw0 : wordE (decE0 (w : Int)) = (w : Int) - 32 * ((w : Int) / 32 % 2) := by
    unfold wordE decE0 bitI
    simp only [decide_eq_true_eq]
    split <;> split <;> omega
  have re := fun h => rptEncode_S (h := h) (decE0 (w : Int))
  have hc : (decE0 (w : Int)).cells = [.bool (decide ((w : Int) % 2 = 1)), .bool (decide ((w : Int) / 2 % 2 = 1)), .int .i64 ((w : Int) / 4 % 8), .int .i64 ((w : Int) / 64)] := rfl
  have s1 := ((Sat.init h).push (.cells zeroE.cells.toArray 51 (0, 0))).push (.cells #[.bool (decide ((w : Int) % 2 = 1)), .bool (decide ((w : Int) / 2 % 2 = 1)), .int .i64 ((w : Int) / 4 % 8), .int .i64 ((w : Int) / 64)] 51 (0, 0))
  simp only [Ent.cells_eq, zeroE, size_push'] at s1
  simp (maxSteps := 2000000) (disch := first | (simp only [go_sem, simprocAttr] <;> omega) | omega) only [go_sem, simprocAttr]
  rw [← hc]
  refine (re _).mono ?_
  rintro v h2 ⟨rfl, x2⟩
  have s2 := s1.grow x2
  have g1 := s2.get
  have g2 := (s2.front 1).get
  have s3 := (s2.front 1).set (.cells (decE0 (w : Int)).cells.toArray 51 (0, 0))
  rw [hc] at s3
  cases r : rightE (decE0 (w : Int)) with
  | false =>
    rw [hd, r] at hR
    simp only [Bool.not_false, Bool.or_true, if_true, Bool.false_eq_true, if_false] at hR ⊢
    have s4 := (s2.front 1).set (.cells zeroE.cells.toArray 51 (0, 0))
    simp only [Ent.cells_eq, zeroE] at s4
    simp (maxSteps := 2000000) (disch := first | (simp only [go_sem, simprocAttr, g1, g2, s4.get] <;> omega) | omega) only [go_sem, simprocAttr, g1, g2, s4.get]
    exact hR _ _ ⟨rfl, (s4.front 2).ext⟩
  | true =>
    rw [hd, r] at hR
    rw [hw0]
    simp only [Bool.not_true, Bool.or_false, if_true] at hR ⊢
    by_cases q : (w : Int) / 32 % 2 = 1
    · have e : ¬ (w : Int) - 32 * ((w : Int) / 32 % 2) = w := by omega
      rw [if_pos (by simpa using q)] at hR
      have s4 := (s2.front 1).set (.cells zeroE.cells.toArray 51 (0, 0))
      simp only [Ent.cells_eq, zeroE] at s4
      simp (maxSteps := 2000000) (disch := first | (simp only [go_sem, simprocAttr, g1, g2, e, s4.get] <;> omega) | omega) only [go_sem, simprocAttr, g1, g2, e, s4.get]
      exact hR _ _ ⟨rfl, (s4.front 2).ext⟩
    · have e : (w : Int) - 32 * ((w : Int) / 32 % 2) = w := by omega
      rw [if_neg (by simpa using q)] at hR
      simp (maxSteps := 2000000) (disch := first | (simp only [go_sem, simprocAttr, g1, g2, e, s3.get] <;> omega) | omega) only [go_sem, simprocAttr, g1, g2, e, s3.get]
      exact hR _ _ ⟨rfl, (s3.front 2).ext⟩
theorem rptIndex_S (p l : Int) : HCalls Tryz.prog 71 #[.int .i64 p, .int .i64 l] h fun v h' => v = .int .i64 (idxE p l) ∧ h' = h := by
  refine HCalls.via fun R hR => ?_
  have out : ∀ x, x = idxE p l → R (.int .i64 x) h := fun x e => hR _ _ ⟨by rw [e], rfl⟩
  unfold idxE at out
  refine HCalls.of_dev T71 Tryz.func71 rfl mixed (by kernel_rfl) ?_; rw [Tryz.results71]
  by_cases c0 : p < 0
  · simp (maxSteps := 2000000) (disch := first | (simp only [go_sem, simprocAttr, c0] <;> omega) | omega) only [go_sem, simprocAttr, c0]
    exact out _ (by rw [if_pos (.inl c0)])
  by_cases c1 : 1023 < p
  · simp (maxSteps := 2000000) (disch := first | (simp only [go_sem, simprocAttr, c0, c1] <;> omega) | omega) only [go_sem, simprocAttr, c0, c1]
    exact out _ (by rw [if_pos (.inr (by omega))])
  by_cases c2 : l = 0
  · simp (maxSteps := 2000000) (disch := first | (simp only [go_sem, simprocAttr, c0, c1, c2] <;> omega) | omega) only [go_sem, simprocAttr, c0, c1, c2]
    exact out _ (by rw [if_neg (by omega), if_pos c2])
  by_cases c3 : l = 1
  · simp (maxSteps := 2000000) (disch := first | (simp only [go_sem, simprocAttr, c0, c1, c2, c3] <;> omega) | omega) only [go_sem, simprocAttr, c0, c1, c2, c3]
    exact out _ (by rw [if_neg (by omega), if_neg c2, if_pos c3])
  · simp (maxSteps := 2000000) (disch := first | (simp only [go_sem, simprocAttr, c0, c1, c2, c3] <;> omega) | omega) only [go_sem, simprocAttr, c0, c1, c2, c3]
    exact out _ (by rw [if_neg (by omega), if_neg c2, if_neg c3])
theorem rptGet_S (hs : Sat h (refRamS rb n mem :: F)) (t i : Int) : HCalls Tryz.prog 10 #[.pointer (some ⟨rb, 0, none⟩), .int .i64 t, .int .i64 i] h fun v h' => v = .tuple #[.agg (getE n mem t i).1.cells.toArray, .int .i64 (getE n mem t i).2] ∧ Ext h h' := by
  refine HCalls.via fun R hR => ?_
  obtain ⟨⟨hb, hn⟩, -⟩ := refRamS_iff.1 hs
  have s0 := (Sat.init h).push (.cells zeroE.cells.toArray 51 (0, 0))
  have s1 := (hs.push (.cells zeroE.cells.toArray 51 (0, 0))).swap
  simp only [Ent.cells_eq, zeroE] at s0 s1
  refine HCalls.of_dev T10 Tryz.func10 rfl mixed (by kernel_rfl) ?_; rw [Tryz.results10]
  simp (maxSteps := 2000000) (disch := first | (simp only [go_sem, simprocAttr] <;> omega) | omega) only [go_sem, simprocAttr]
  refine (rptWrong_S s1 t i).mono ?_
  rintro v h' ⟨rfl, rfl⟩
  by_cases q : plE n t i = 0
  · obtain ⟨i0, i1, t0, t1⟩ := plE_ok q
    have hg : getE n mem t i = decE (loadM mem (t * 64 + 2 * i).toNat 2) := by unfold getE; rw [if_neg (by omega)]
    rw [hg] at hR
    have ec : 64 * t + 2 * i = t * 64 + 2 * i := by omega
    have ha : accM n (t * 64 + 2 * i) 2 = 0 := by
      unfold accM
      rw [if_neg (by omega), if_neg (by rw [Int.tmod_eq_emod_of_nonneg (by omega)]; omega), if_neg (by omega)]
    simp (maxSteps := 2000000) (disch := first | (simp only [go_sem, simprocAttr, q, ec] <;> omega) | omega) only [go_sem, simprocAttr, q, ec]
    refine (refLoad_S s1 (t * 64 + 2 * i) 2).mono ?_
    rintro v h2 ⟨rfl, rfl⟩
    rw [ha, if_pos rfl]
    obtain ⟨l0, l1⟩ := loadM_bd hb (t * 64 + 2 * i).toNat 2 (by omega)
    rw [show (2 : Int).toNat = 2 from rfl]
    obtain ⟨w, hw⟩ := Int.eq_ofNat_of_zero_le l0
    rw [hw] at l1 hR ⊢
    have lw : w < 65536 := by have : (256 : Int) ^ 2 = 65536 := rfl; omega
    simp (maxSteps := 2000000) (disch := first | (simp only [go_sem, simprocAttr] <;> omega) | omega) only [go_sem, simprocAttr]
    refine (rptDecode_S w lw).mono ?_
    rintro v h3 ⟨rfl, x3⟩
    have s2 := s0.grow x3
    have s3 := s2.set (.cells (decE w).1.cells.toArray 51 (0, 0))
    simp only [Ent.cells_eq] at s3
    simp (maxSteps := 2000000) (disch := first | (simp only [go_sem, simprocAttr, s2.get, s3.get] <;> omega) | omega) only [go_sem, simprocAttr, s2.get, s3.get]
    exact hR _ _ ⟨rfl, (s3.front 1).ext⟩
  · have hg : getE n mem t i = (zeroE, plE n t i) := by unfold getE; rw [if_pos q]
    rw [hg] at hR
    simp (maxSteps := 2000000) (disch := first | (simp only [go_sem, simprocAttr, q] <;> omega) | omega) only [go_sem, simprocAttr, q]
    exact hR _ _ ⟨rfl, (s0.front 1).ext⟩
end
end Go.Eng
/-
  viceroyref04: entry, Single.
-/
namespace Go.Eng
open Go Go.Proofs
theorem refFrames_S {h : Heap} {F : List SP} {rb n : Nat} {mem : Nat → Int} (hs : Sat h (refRamS rb n mem :: F)) : HCalls Tryz.prog 70 #[.pointer (some ⟨rb, 0, none⟩)] h fun v h' => v = .int .i64 n ∧ h' = h := by
  obtain ⟨⟨hb, hn⟩, v, ty, s⟩ := refRamS_iff.1 hs
  obtain ⟨_, _, rfl, -⟩ := (s.front 1).elems
  refine HCalls.via fun R hR => ?_
  refine HCalls.of_dev T70 Tryz.func70 rfl mixed (by kernel_rfl) ?_; rw [Tryz.results70]
  simp (maxSteps := 2000000) (disch := first | (simp only [go_sem, simprocAttr, s.get] <;> omega) | omega) only [go_sem, simprocAttr, s.get]
  rw [show ((64 * n : Nat) : Int) / 64 = n by omega]
  exact hR _ _ ⟨rfl, rfl⟩
section
variable {h : Heap} {F : List SP} {rb n : Nat} {mem : Nat → Int}
theorem rentry_S (hs : Sat h (refRamS rb n mem :: F)) (t p l : Int) (hl : l = 0 ∨ l = 1) : HCalls Tryz.prog 36 #[.pointer (some ⟨rb, 0, none⟩), .int .i64 t, .int .i64 p, .int .i64 l] h fun v h' => v = .tuple #[.agg (stepE n mem t p l).1.cells.toArray, .int .i64 (stepE n mem t p l).2] ∧ Ext h h' := by
  refine HCalls.via fun R hR => ?_
  have s1 := (hs.push (.cells zeroE.cells.toArray 51 (0, 0))).swap
  have e1 := (Sat.init h).push (.cells zeroE.cells.toArray 51 (0, 0))
  simp only [Ent.cells_eq, zeroE] at s1 e1
  refine HCalls.of_dev T36 Tryz.func36 rfl mixed (by kernel_rfl) ?_; rw [Tryz.results36]
  by_cases c1 : t < 0
  · have he : stepE n mem t p l = (zeroE, 3) := by unfold stepE; rw [if_pos (.inl c1)]
    rw [he] at hR
    simp (maxSteps := 2000000) (disch := first | (simp only [go_sem, simprocAttr, c1] <;> omega) | omega) only [go_sem, simprocAttr, c1]
    exact rdK_any fun _ => hR _ _ ⟨rfl, (e1.front 1).ext⟩
  simp (maxSteps := 2000000) (disch := first | (simp only [go_sem, simprocAttr, c1] <;> omega) | omega) only [go_sem, simprocAttr, c1]
  refine (refFrames_S s1).mono ?_
  rintro v h' ⟨rfl, rfl⟩
  by_cases c2 : (n : Int) ≤ t
  · have he : stepE n mem t p l = (zeroE, 3) := by unfold stepE; rw [if_pos (.inr c2)]
    rw [he] at hR
    simp (maxSteps := 2000000) (disch := first | (simp only [go_sem, simprocAttr, c2] <;> omega) | omega) only [go_sem, simprocAttr, c2]
    exact hR _ _ ⟨rfl, (e1.front 1).ext⟩
  simp (maxSteps := 2000000) (disch := first | (simp only [go_sem, simprocAttr, c2] <;> omega) | omega) only [go_sem, simprocAttr, c2]
  refine (rptIndex_S p l).mono ?_
  rintro v h' ⟨rfl, rfl⟩
  simp (maxSteps := 2000000) (disch := first | (simp only [go_sem, simprocAttr] <;> omega) | omega) only [go_sem, simprocAttr]
  refine (rptGet_S s1 t (idxE p l)).mono ?_
  rintro v h2 ⟨rfl, x2⟩
  have hst : ∀ g, g = getE n mem t (idxE p l) → (g.2 = 0 → g.1.V = true → g.1.L = decide (l = 1) → stepE n mem t p l = (g.1, 0)) ∧ (¬ (g.2 = 0 ∧ g.1.V = true ∧ g.1.L = decide (l = 1)) → stepE n mem t p l = (zeroE, 1)) := by
    rintro g rfl
    unfold stepE
    rw [if_neg (by omega)]
    exact ⟨fun a b c => if_pos ⟨a, b, c⟩, fun a => if_neg a⟩
  have hst2 := hst _ rfl
  clear hst
  generalize getE n mem t (idxE p l) = g at *
  obtain ⟨⟨gV, gL, gR, gF⟩, ge⟩ := g
  simp only at hst2
  generalize stepE n mem t p l = st at *
  have s5 := (e1.grow x2).push (.cells #[.bool gV, .bool gL, .int .i64 gR, .int .i64 gF] 51 (0, 0))
  have s6 := (s5.front 1).set (.cells #[.bool gV, .bool gL, .int .i64 gR, .int .i64 gF] 51 (0, 0))
  have s7 := (s5.front 1).set (.cells #[.bool false, .bool false, .int .i64 0, .int .i64 0] 51 (0, 0))
  have g5 := (s5.front 1).get
  by_cases k : ge = 0
  · subst k
    rcases hl with rfl | rfl
    all_goals cases gV <;> cases gL
    all_goals simp (maxSteps := 2000000) (disch := first | (simp only [go_sem, simprocAttr, s5.get, s6.get, s7.get, g5] <;> omega) | omega) only [go_sem, simprocAttr, s5.get, s6.get, s7.get, g5]
    all_goals first
      | (have he := hst2.1 rfl rfl rfl
         subst he
         exact hR _ _ ⟨rfl, (s6.front 2).ext⟩)
      | (have he := hst2.2 (by simp)
         subst he
         exact hR _ _ ⟨rfl, (s7.front 2).ext⟩)
  · simp (maxSteps := 2000000) (disch := first | (simp only [go_sem, simprocAttr, s5.get, k, g5, s7.get] <;> omega) | omega) only [go_sem, simprocAttr, s5.get, k, g5, s7.get]
    have he := hst2.2 (fun z => k z.1)
    subst he
    repeat (first | exact hR _ _ ⟨rfl, (s7.front 2).ext⟩ | refine rdK_any fun _ => ?_)
theorem rsingle_S (hs : Sat h (refRamS rb n mem :: F)) (root p : Int) : HCalls Tryz.prog 9 #[.pointer (some ⟨rb, 0, none⟩), .int .i64 root, .int .i64 p] h fun v h' => v = (sgW n mem root p).val ∧ Ext h h' := by
  refine HCalls.via fun R hR => ?_
  have s1 := (hs.push (.cells okF.cells.toArray 47 (0, 0))).swap
  have e1 := (Sat.init h).push (.cells okF.cells.toArray 47 (0, 0))
  have e9 := (Sat.init h).push (.cells (⟨3, 0, 0, false, 0⟩ : Flt).cells.toArray 47 (0, 0))
  simp only [Flt.cells_eq, okF] at s1 e1 e9
  unfold sgW Wlk.val at hR
  refine HCalls.of_dev T9 Tryz.func9 rfl mixed (by kernel_rfl) ?_; rw [Tryz.results9]
  by_cases c : p < 0 ∨ 1024 ≤ p
  · rw [if_pos c] at hR
    by_cases c1 : p < 0
    · simp (maxSteps := 2000000) (disch := first | (simp only [go_sem, simprocAttr, c1, e1.get, e9.get] <;> omega) | omega) only [go_sem, simprocAttr, c1, e1.get, e9.get]
      exact hR _ _ ⟨rfl, (e9.front 1).ext⟩
    · have c2 : 1023 < p := by omega
      simp (maxSteps := 2000000) (disch := first | (simp only [go_sem, simprocAttr, c1, c2, e1.get, e9.get] <;> omega) | omega) only [go_sem, simprocAttr, c1, c2, e1.get, e9.get]
      exact hR _ _ ⟨rfl, (e9.front 1).ext⟩
  have c1 : ¬ p < 0 := by omega
  have c2 : ¬ 1023 < p := by omega
  rw [if_neg c] at hR
  simp (maxSteps := 2000000) (disch := first | (simp only [go_sem, simprocAttr, c1, c2] <;> omega) | omega) only [go_sem, simprocAttr, c1, c2]
  refine (rentry_S s1 root p 0 (.inl rfl)).mono ?_
  rintro v h2 ⟨rfl, x2⟩
  generalize hst : stepE n mem root p 0 = st at *
  obtain ⟨⟨gV, gL, gR, gF⟩, ge⟩ := st
  have s5 := (s1.grow x2).push (.cells #[.bool gV, .bool gL, .int .i64 gR, .int .i64 gF] 51 (0, 0))
  have e5 := (e1.grow x2).push (.cells #[.bool gV, .bool gL, .int .i64 gR, .int .i64 gF] 51 (0, 0))
  by_cases k : ge = 0
  · rw [if_neg (by simpa using k)] at hR
    simp (maxSteps := 2000000) (disch := first | (simp only [go_sem, simprocAttr, s5.get, k] <;> omega) | omega) only [go_sem, simprocAttr, s5.get, k]
    refine (rentry_S (s5.front 1) gF p 1 (.inr rfl)).mono ?_
    rintro v h3 ⟨rfl, x3⟩
    simp only at hR
    generalize hst2 : stepE n mem gF p 1 = st2 at *
    obtain ⟨⟨kV, kL, kR, kF⟩, ke⟩ := st2
    have e6 := (e5.grow x3).push (.cells #[.bool kV, .bool kL, .int .i64 kR, .int .i64 kF] 51 (0, 0))
    have g6 := (e6.front 2).get
    by_cases k2 : ke = 0
    · rw [if_neg (by simpa using k2)] at hR
      have e7 := (e6.front 2).set (.cells okF.cells.toArray 47 (0, 0))
      simp only [Flt.cells_eq, okF] at e7
      simp (maxSteps := 2000000) (disch := first | (simp only [go_sem, simprocAttr, e6.get, k2, g6, e7.get] <;> omega) | omega) only [go_sem, simprocAttr, e6.get, k2, g6, e7.get]
      exact hR _ _ ⟨rfl, (e7.front 3).ext⟩
    · rw [if_pos k2] at hR
      have e7 := (e6.front 2).set (.cells (⟨ke, 2, 1, false, p⟩ : Flt).cells.toArray 47 (0, 0))
      simp only [Flt.cells_eq] at e7
      simp (maxSteps := 2000000) (disch := first | (simp only [go_sem, simprocAttr, e6.get, k2, g6, e7.get] <;> omega) | omega) only [go_sem, simprocAttr, e6.get, k2, g6, e7.get]
      exact hR _ _ ⟨rfl, (e7.front 3).ext⟩
  · rw [if_pos k] at hR
    have g6 := (e5.front 1).get
    have e7 := (e5.front 1).set (.cells (⟨ge, 2, 0, false, p⟩ : Flt).cells.toArray 47 (0, 0))
    simp only [Flt.cells_eq] at e7
    simp (maxSteps := 2000000) (disch := first | (simp only [go_sem, simprocAttr, s5.get, k, g6, e7.get] <;> omega) | omega) only [go_sem, simprocAttr, s5.get, k, g6, e7.get]
    exact hR _ _ ⟨rfl, (e7.front 2).ext⟩
end
end Go.Eng
