/-
  viceroyref09: touched.
-/
import Derived.Test.YtaijcllgdlalpaaGreatDoorZj34
import Derived.Test.YtaijcllgdlalpaaGreatDoorZj10
set_option linter.unusedSimpArgs false
set_option linter.unusedVariables false
set_option maxRecDepth 16000
set_option maxHeartbeats 4000000
namespace Go.Eng
open Go Go.Proofs
section
variable {h : Heap} {F : List SP} {rb n tb : Nat} {mem : Nat → Int} {T : List Ln} {wv : Value} {s : Spc} {at_ : Int} {c : Cp} {op A B C I : Nat}
/-- What touched tells, beside the machine. -/
def tchV (t : Tch) (pc : Int) : Value := .tuple #[.agg (if t.t.C = 0 then ({ t.c with Pc := (pc + 4) % 65536 } : Cp) else t.c).cells.toArray, .agg t.t.cells.toArray]
theorem rtouchL_S (f : c.fit) (hpc : 0 ≤ c.Pc ∧ c.Pc < 65536) (hA : A < 16) (hB : B < 16) (hI : I < 65536) {size : Int} (hop : (op = 7 ∧ size = 4) ∨ (op = 9 ∧ size = 1)) (u : uniqT T) (hs : Sat h (refRamS rb n mem :: tlbS tb T :: F)) :
    HCalls Tryz.prog 53 #[.agg #[.pointer (some ⟨rb, 0, none⟩), .pointer (some ⟨tb, 0, none⟩), wv], .agg c.cells.toArray, .agg (⟨op, A, B, C, I⟩ : Ins).cells.toArray, .agg s.cells.toArray, .int .i64 at_] h fun v h' =>
      v = tchV (touchP n mem T c A ((rg c B + I) % 65536) s at_ size 1 2) c.Pc ∧ Sat h' (refRamS rb n (touchP n mem T c A ((rg c B + I) % 65536) s at_ size 1 2).mem :: tlbS tb (touchP n mem T c A ((rg c B + I) % 65536) s at_ size 1 2).T :: F) := by
  refine HCalls.via fun R hR => ?_
  obtain ⟨x0, x1⟩ := rg_bd f (i := B) (by omega) (by omega)
  obtain ⟨⟨-, hTok⟩, -⟩ := tlbS_iff.1 (hs.front 1)
  obtain ⟨⟨hb, hn⟩, -⟩ := refRamS_iff.1 hs
  have tk := take_cpu f
  have nB : nthL c.cells B = some (.int .u32 (rg c B)) := by rw [nthL_eq]; exact Cp.reg f hB
  have n16 : nthL c.cells 16 = some (.int .i64 c.Pc) := by rw [nthL_eq]; exact Cp.pc f
  have b0 : (0 : Int) ≤ B := by omega
  have b1 : (B : Int) < 16 := by omega
  have fin : ∀ (h' : Heap) (mem' : Nat → Int) (T' : List Ln) (c' : Cp) (t' : Trp), touchP n mem T c A ((rg c B + I) % 65536) s at_ size 1 2 = ⟨t', mem', T', c'⟩ →
      Sat h' (refRamS rb n mem' :: tlbS tb T' :: F) → R (tchV ⟨t', mem', T', c'⟩ c.Pc) h' := fun h' mem' T' c' t' e q => hR _ _ ⟨by rw [e], by rw [e]; exact q⟩
  clear hR
  unfold touchP at fin
  generalize hb1 : rg c (B : Int) = x at *
  obtain ⟨x, rfl⟩ := Int.eq_ofNat_of_zero_le x0
  obtain ⟨ad, had⟩ : ∃ ad : Nat, ((x : Int) + (I : Int)) % 65536 = ad := ⟨(((x : Int) + (I : Int)) % 65536).toNat, by omega⟩
  have had2 : ((x : Int) + (I : Int)) % 4294967296 % 65536 = ad := by omega
  rw [had] at fin
  have adl : ad < 65536 := by omega
  have n7 : ((7 : Nat) : Int) = 7 := rfl
  have n9 : ((9 : Nat) : Int) = 9 := rfl
  have s1 := (((((hs.push (.cells #[.pointer (some ⟨rb, 0, none⟩), .pointer (some ⟨tb, 0, none⟩), wv] 41 (0, 0))).push (.cells c.cells.toArray 30 (0, 0))).push (.cells (⟨op, A, B, C, I⟩ : Ins).cells.toArray 84 (0, 0))).push (.cells s.cells.toArray 78 (0, 0))).push (.cells (tzeroD Tryz.prog 30).cells 30 (0, 0))).push (.cells okT.cells.toArray 56 (0, 0))
  simp only [tzeroD_30, Value.cells, Trp.cells_eq, okT, okF, Spc.cells_eq, Ins.cells_eq, size_push'] at s1
  refine HCalls.of_dev T53 Tryz.func53 rfl mixed (by kernel_rfl) ?_; rw [Tryz.results53]
  have z4 := ((((hs.push (.cells #[.pointer (some ⟨rb, 0, none⟩), .pointer (some ⟨tb, 0, none⟩), wv] 41 (0, 0))).push (.cells c.cells.toArray 30 (0, 0))).push (.cells (⟨op, A, B, C, I⟩ : Ins).cells.toArray 84 (0, 0))).push (.cells s.cells.toArray 78 (0, 0)))
  simp only [Spc.cells_eq, Ins.cells_eq, size_push'] at z4
  rcases hop with ⟨rfl, rfl⟩ | ⟨rfl, rfl⟩
  · simp only [n7, n9] at s1 z4
    have gs := z4.get
    by_cases q : (ad : Int) % 4 = 0
    case neg =>
      rw [if_pos (by omega)] at fin
      have s2 := (s1.front 1).set (.cells c.cells.toArray 30 (0, 0))
      have s3 := (s2.front 1).set (.cells (⟨4, 0, ad, okF⟩ : Trp).cells.toArray 56 (0, 0))
      simp only [Trp.cells_eq, okF] at s3
      simp (maxSteps := 2000000) (disch := first | (simp only [go_sem, Nat.reduceBEq, Nat.reduceAdd, Nat.reduceMul, Nat.reduceSub, Nat.reduceEqDiff, Nat.reduceLeDiff, Nat.reduceLT, Int.reduceEq, Int.reduceAdd, Int.reduceSub, Int.reduceMul, Int.reduceNeg, Int.reduceLT, Int.reduceLE, Int.reduceToNat, Int.reduceBEq, Int.reduceNe, reduceCtorEq, nB, b0, b1, had2, n7, n9, tk, wu32, q] <;> omega) | omega) only [go_sem, Nat.reduceBEq, Nat.reduceAdd, Nat.reduceMul, Nat.reduceSub, Nat.reduceEqDiff, Nat.reduceLeDiff, Nat.reduceLT, Int.reduceEq, Int.reduceAdd, Int.reduceSub, Int.reduceMul, Int.reduceNeg, Int.reduceLT, Int.reduceLE, Int.reduceToNat, Int.reduceBEq, Int.reduceNe, reduceCtorEq, w64_id, w8_id, w16_id, w32_id, tmod_pos, tdiv_pos, Bool.or_true, Bool.true_or, Bool.or_false, Bool.false_or, Bool.and_false, Bool.false_and, condK_decide, nB, b0, b1, had2, n7, n9, tk, wu32, q]
      refine store_cpu f (s1.front 1).get (by rfl) ?_
      simp (maxSteps := 2000000) (disch := first | (simp only [go_sem, Nat.reduceBEq, Nat.reduceAdd, Nat.reduceMul, Nat.reduceSub, Nat.reduceEqDiff, Nat.reduceLeDiff, Nat.reduceLT, Int.reduceEq, Int.reduceAdd, Int.reduceSub, Int.reduceMul, Int.reduceNeg, Int.reduceLT, Int.reduceLE, Int.reduceToNat, Int.reduceBEq, Int.reduceNe, reduceCtorEq, (s2.front 1).get, (s3.front 1).get, s3.get, tk] <;> omega) | omega) only [go_sem, Nat.reduceBEq, Nat.reduceAdd, Nat.reduceMul, Nat.reduceSub, Nat.reduceEqDiff, Nat.reduceLeDiff, Nat.reduceLT, Int.reduceEq, Int.reduceAdd, Int.reduceSub, Int.reduceMul, Int.reduceNeg, Int.reduceLT, Int.reduceLE, Int.reduceToNat, Int.reduceBEq, Int.reduceNe, reduceCtorEq, w64_id, w8_id, w16_id, w32_id, tmod_pos, tdiv_pos, Bool.or_true, Bool.true_or, Bool.or_false, Bool.false_or, Bool.and_false, Bool.false_and, condK_decide, (s2.front 1).get, (s3.front 1).get, s3.get, tk]
      exact fin _ _ _ _ _ rfl (s3.tail.tail.tail.tail.tail.tail)
    rw [if_neg (by omega)] at fin
    simp (maxSteps := 2000000) (disch := first | (simp only [go_sem, Nat.reduceBEq, Nat.reduceAdd, Nat.reduceMul, Nat.reduceSub, Nat.reduceEqDiff, Nat.reduceLeDiff, Nat.reduceLT, Int.reduceEq, Int.reduceAdd, Int.reduceSub, Int.reduceMul, Int.reduceNeg, Int.reduceLT, Int.reduceLE, Int.reduceToNat, Int.reduceBEq, Int.reduceNe, reduceCtorEq, nB, b0, b1, had2, n7, n9, tk, wu32, q, gs] <;> omega) | omega) only [go_sem, Nat.reduceBEq, Nat.reduceAdd, Nat.reduceMul, Nat.reduceSub, Nat.reduceEqDiff, Nat.reduceLeDiff, Nat.reduceLT, Int.reduceEq, Int.reduceAdd, Int.reduceSub, Int.reduceMul, Int.reduceNeg, Int.reduceLT, Int.reduceLE, Int.reduceToNat, Int.reduceBEq, Int.reduceNe, reduceCtorEq, w64_id, w8_id, w16_id, w32_id, tmod_pos, tdiv_pos, Bool.or_true, Bool.true_or, Bool.or_false, Bool.false_or, Bool.and_false, Bool.false_and, condK_decide, nB, b0, b1, had2, n7, n9, tk, wu32, q, gs]
    have bd := reachC_bd mem hTok hn s (ad : Int) 1 at_ (by omega)
    refine (rreachC_S ((s1.front 7).front 7) u s ad 1 at_ (by omega) (by omega) (.inl rfl)).mono ?_
    rintro v h2 ⟨rfl, s2⟩
    generalize reachC n mem T s (ad : Int) 1 at_ = rc at *
    obtain ⟨r, f2, T2⟩ := rc
    simp only at fin bd s2 ⊢
    have s3 := s2.push (.cells f2.cells.toArray 47 (0, 0))
    simp only [Flt.cells_eq] at s3
    by_cases k : f2.K = 0
    · rw [if_neg (by omega), if_neg (by decide)] at fin
      obtain ⟨r0, r1, r2⟩ := bd k
      have hacc : accM n r 4 = 0 := by
        unfold accM
        rw [if_neg (by omega), if_neg, if_neg (by omega)]
        rw [Int.tmod_eq_emod_of_nonneg (by omega)]
        omega
      rw [if_pos k]
      obtain ⟨l1, l2⟩ := loadM_bd hb r.toNat (4 : Int).toNat (by simp; omega)
      have s3' := s3
      rw [k] at s3'
      simp (maxSteps := 2000000) (disch := first | (simp only [go_sem, Nat.reduceBEq, Nat.reduceAdd, Nat.reduceMul, Nat.reduceSub, Nat.reduceEqDiff, Nat.reduceLeDiff, Nat.reduceLT, Int.reduceEq, Int.reduceAdd, Int.reduceSub, Int.reduceMul, Int.reduceNeg, Int.reduceLT, Int.reduceLE, Int.reduceToNat, Int.reduceBEq, Int.reduceNe, reduceCtorEq, s3.get, k, (s3'.front 8).get] <;> omega) | omega) only [go_sem, Nat.reduceBEq, Nat.reduceAdd, Nat.reduceMul, Nat.reduceSub, Nat.reduceEqDiff, Nat.reduceLeDiff, Nat.reduceLT, Int.reduceEq, Int.reduceAdd, Int.reduceSub, Int.reduceMul, Int.reduceNeg, Int.reduceLT, Int.reduceLE, Int.reduceToNat, Int.reduceBEq, Int.reduceNe, reduceCtorEq, w64_id, w8_id, w16_id, w32_id, tmod_pos, tdiv_pos, Bool.or_true, Bool.true_or, Bool.or_false, Bool.false_or, Bool.and_false, Bool.false_and, condK_decide, s3.get, k, (s3'.front 8).get]
      refine (refLoad_S (s3'.front 1) r 4).mono ?_
      rintro v h4 ⟨rfl, rfl⟩
      rw [hacc, if_pos rfl]
      generalize loadM mem r.toNat (4 : Int).toNat = ld at *
      have l := Cp.len f
      have lA : A < c.cells.length := by omega
      have sc := setR_cells f hA (v := ld)
      have fR := setR_fit f (a := A) (v := ld) ⟨l1, by have : (256 : Int) ^ (4 : Int).toNat ≤ 4294967296 := by decide
                                                       omega⟩
      have tkR := take_cpu fR
      have a0 : (0 : Int) ≤ A := by omega
      have a1 : (A : Int) < 16 := by omega
      have nR : nthL (setR c A ld).cells 16 = some (.int .i64 c.Pc) := by rw [nthL_eq]; exact Cp.pc fR
      have s4 := (s3'.front 7).set (.cells (setR c A ld).cells.toArray 30 (0, 0))
      simp (maxSteps := 2000000) (disch := first | (simp only [go_sem, Nat.reduceBEq, Nat.reduceAdd, Nat.reduceMul, Nat.reduceSub, Nat.reduceEqDiff, Nat.reduceLeDiff, Nat.reduceLT, Int.reduceEq, Int.reduceAdd, Int.reduceSub, Int.reduceMul, Int.reduceNeg, Int.reduceLT, Int.reduceLE, Int.reduceToNat, Int.reduceBEq, Int.reduceNe, reduceCtorEq, (s3'.front 7).get, (s3'.front 6).get, lA, sc, a0, a1, s4.get, tkR, nR] <;> omega) | omega) only [go_sem, Nat.reduceBEq, Nat.reduceAdd, Nat.reduceMul, Nat.reduceSub, Nat.reduceEqDiff, Nat.reduceLeDiff, Nat.reduceLT, Int.reduceEq, Int.reduceAdd, Int.reduceSub, Int.reduceMul, Int.reduceNeg, Int.reduceLT, Int.reduceLE, Int.reduceToNat, Int.reduceBEq, Int.reduceNe, reduceCtorEq, w64_id, w8_id, w16_id, w32_id, tmod_pos, tdiv_pos, Bool.or_true, Bool.true_or, Bool.or_false, Bool.false_or, Bool.and_false, Bool.false_and, condK_decide, (s3'.front 7).get, (s3'.front 6).get, lA, sc, a0, a1, s4.get, tkR, nR]
      refine (rgoes_S fR _).mono ?_
      rintro v h5 ⟨rfl, x5⟩
      have ep : (c.Pc + 4).tmod 65536 = (c.Pc + 4) % 65536 := Int.tmod_eq_emod_of_nonneg (by omega)
      rw [ep]
      have fP := setPc_fit fR (v := (c.Pc + 4) % 65536) (by omega) (by omega)
      have tkP := take_cpu fP
      have s5 := s4.grow x5
      have s6 := (s5.front 5).set (.cells ({ setR c A ld with Pc := (c.Pc + 4) % 65536 } : Cp).cells.toArray 30 (0, 0))
      have s7 := (s6.front 5).set (.cells okT.cells.toArray 56 (0, 0))
      simp only [Trp.cells_eq, okT, okF] at s7
      simp (maxSteps := 2000000) (disch := first | (simp only [go_sem, Nat.reduceBEq, Nat.reduceAdd, Nat.reduceMul, Nat.reduceSub, Nat.reduceEqDiff, Nat.reduceLeDiff, Nat.reduceLT, Int.reduceEq, Int.reduceAdd, Int.reduceSub, Int.reduceMul, Int.reduceNeg, Int.reduceLT, Int.reduceLE, Int.reduceToNat, Int.reduceBEq, Int.reduceNe, reduceCtorEq] <;> omega) | omega) only [go_sem, Nat.reduceBEq, Nat.reduceAdd, Nat.reduceMul, Nat.reduceSub, Nat.reduceEqDiff, Nat.reduceLeDiff, Nat.reduceLT, Int.reduceEq, Int.reduceAdd, Int.reduceSub, Int.reduceMul, Int.reduceNeg, Int.reduceLT, Int.reduceLE, Int.reduceToNat, Int.reduceBEq, Int.reduceNe, reduceCtorEq, w64_id, w8_id, w16_id, w32_id, tmod_pos, tdiv_pos, Bool.or_true, Bool.true_or, Bool.or_false, Bool.false_or, Bool.and_false, Bool.false_and, condK_decide]
      refine store_cpu fP (s5.front 5).get (by rfl) ?_
      simp (maxSteps := 2000000) (disch := first | (simp only [go_sem, Nat.reduceBEq, Nat.reduceAdd, Nat.reduceMul, Nat.reduceSub, Nat.reduceEqDiff, Nat.reduceLeDiff, Nat.reduceLT, Int.reduceEq, Int.reduceAdd, Int.reduceSub, Int.reduceMul, Int.reduceNeg, Int.reduceLT, Int.reduceLE, Int.reduceToNat, Int.reduceBEq, Int.reduceNe, reduceCtorEq, (s6.front 5).get, s7.get, (s7.front 1).get, tkP] <;> omega) | omega) only [go_sem, Nat.reduceBEq, Nat.reduceAdd, Nat.reduceMul, Nat.reduceSub, Nat.reduceEqDiff, Nat.reduceLeDiff, Nat.reduceLT, Int.reduceEq, Int.reduceAdd, Int.reduceSub, Int.reduceMul, Int.reduceNeg, Int.reduceLT, Int.reduceLE, Int.reduceToNat, Int.reduceBEq, Int.reduceNe, reduceCtorEq, w64_id, w8_id, w16_id, w32_id, tmod_pos, tdiv_pos, Bool.or_true, Bool.true_or, Bool.or_false, Bool.false_or, Bool.and_false, Bool.false_and, condK_decide, (s6.front 5).get, s7.get, (s7.front 1).get, tkP]
      exact fin _ _ _ _ _ rfl (Sat.drop2 (Sat.drop2 (Sat.drop2 (s7.tail.tail.tail.tail))))
    · rw [if_pos k] at fin
      rw [if_neg k]
      have s4 := (s3.front 4).set (.cells c.cells.toArray 30 (0, 0))
      have s5 := (s4.front 4).set (.cells (⟨2, 0, ad, f2⟩ : Trp).cells.toArray 56 (0, 0))
      simp only [Trp.cells_eq] at s5
      simp (maxSteps := 2000000) (disch := first | (simp only [go_sem, Nat.reduceBEq, Nat.reduceAdd, Nat.reduceMul, Nat.reduceSub, Nat.reduceEqDiff, Nat.reduceLeDiff, Nat.reduceLT, Int.reduceEq, Int.reduceAdd, Int.reduceSub, Int.reduceMul, Int.reduceNeg, Int.reduceLT, Int.reduceLE, Int.reduceToNat, Int.reduceBEq, Int.reduceNe, reduceCtorEq, s3.get, k, (s3.front 7).get, tk] <;> omega) | omega) only [go_sem, Nat.reduceBEq, Nat.reduceAdd, Nat.reduceMul, Nat.reduceSub, Nat.reduceEqDiff, Nat.reduceLeDiff, Nat.reduceLT, Int.reduceEq, Int.reduceAdd, Int.reduceSub, Int.reduceMul, Int.reduceNeg, Int.reduceLT, Int.reduceLE, Int.reduceToNat, Int.reduceBEq, Int.reduceNe, reduceCtorEq, w64_id, w8_id, w16_id, w32_id, tmod_pos, tdiv_pos, Bool.or_true, Bool.true_or, Bool.or_false, Bool.false_or, Bool.and_false, Bool.false_and, condK_decide, s3.get, k, (s3.front 7).get, tk]
      refine store_cpu f (s3.front 4).get (by rfl) ?_
      simp (maxSteps := 2000000) (disch := first | (simp only [go_sem, Nat.reduceBEq, Nat.reduceAdd, Nat.reduceMul, Nat.reduceSub, Nat.reduceEqDiff, Nat.reduceLeDiff, Nat.reduceLT, Int.reduceEq, Int.reduceAdd, Int.reduceSub, Int.reduceMul, Int.reduceNeg, Int.reduceLT, Int.reduceLE, Int.reduceToNat, Int.reduceBEq, Int.reduceNe, reduceCtorEq, (s4.front 1).get, (s4.front 4).get, s5.get, (s5.front 1).get, tk] <;> omega) | omega) only [go_sem, Nat.reduceBEq, Nat.reduceAdd, Nat.reduceMul, Nat.reduceSub, Nat.reduceEqDiff, Nat.reduceLeDiff, Nat.reduceLT, Int.reduceEq, Int.reduceAdd, Int.reduceSub, Int.reduceMul, Int.reduceNeg, Int.reduceLT, Int.reduceLE, Int.reduceToNat, Int.reduceBEq, Int.reduceNe, reduceCtorEq, w64_id, w8_id, w16_id, w32_id, tmod_pos, tdiv_pos, Bool.or_true, Bool.true_or, Bool.or_false, Bool.false_or, Bool.and_false, Bool.false_and, condK_decide, (s4.front 1).get, (s4.front 4).get, s5.get, (s5.front 1).get, tk]
      refine fin _ _ _ _ _ rfl (Sat.drop2 (Sat.drop2 (Sat.drop2 (Sat.drop2 (s5.tail.tail.tail)))))
  · simp only [n7, n9] at s1 z4
    have gs := z4.get
    by_cases q : (ad : Int) % 1 = 0
    case neg =>
      omega
    rw [if_neg (by omega)] at fin
    simp (maxSteps := 2000000) (disch := first | (simp only [go_sem, Nat.reduceBEq, Nat.reduceAdd, Nat.reduceMul, Nat.reduceSub, Nat.reduceEqDiff, Nat.reduceLeDiff, Nat.reduceLT, Int.reduceEq, Int.reduceAdd, Int.reduceSub, Int.reduceMul, Int.reduceNeg, Int.reduceLT, Int.reduceLE, Int.reduceToNat, Int.reduceBEq, Int.reduceNe, reduceCtorEq, nB, b0, b1, had2, n7, n9, tk, wu32, q, gs] <;> omega) | omega) only [go_sem, Nat.reduceBEq, Nat.reduceAdd, Nat.reduceMul, Nat.reduceSub, Nat.reduceEqDiff, Nat.reduceLeDiff, Nat.reduceLT, Int.reduceEq, Int.reduceAdd, Int.reduceSub, Int.reduceMul, Int.reduceNeg, Int.reduceLT, Int.reduceLE, Int.reduceToNat, Int.reduceBEq, Int.reduceNe, reduceCtorEq, w64_id, w8_id, w16_id, w32_id, tmod_pos, tdiv_pos, Bool.or_true, Bool.true_or, Bool.or_false, Bool.false_or, Bool.and_false, Bool.false_and, condK_decide, nB, b0, b1, had2, n7, n9, tk, wu32, q, gs]
    have bd := reachC_bd mem hTok hn s (ad : Int) 1 at_ (by omega)
    refine (rreachC_S ((s1.front 7).front 7) u s ad 1 at_ (by omega) (by omega) (.inl rfl)).mono ?_
    rintro v h2 ⟨rfl, s2⟩
    generalize reachC n mem T s (ad : Int) 1 at_ = rc at *
    obtain ⟨r, f2, T2⟩ := rc
    simp only at fin bd s2 ⊢
    have s3 := s2.push (.cells f2.cells.toArray 47 (0, 0))
    simp only [Flt.cells_eq] at s3
    by_cases k : f2.K = 0
    · rw [if_neg (by omega), if_neg (by decide)] at fin
      obtain ⟨r0, r1, r2⟩ := bd k
      have hacc : accM n r 1 = 0 := by
        unfold accM
        rw [if_neg (by omega), if_neg, if_neg (by omega)]
        rw [Int.tmod_eq_emod_of_nonneg (by omega)]
        omega
      rw [if_pos k]
      obtain ⟨l1, l2⟩ := loadM_bd hb r.toNat (1 : Int).toNat (by simp; omega)
      have s3' := s3
      rw [k] at s3'
      simp (maxSteps := 2000000) (disch := first | (simp only [go_sem, Nat.reduceBEq, Nat.reduceAdd, Nat.reduceMul, Nat.reduceSub, Nat.reduceEqDiff, Nat.reduceLeDiff, Nat.reduceLT, Int.reduceEq, Int.reduceAdd, Int.reduceSub, Int.reduceMul, Int.reduceNeg, Int.reduceLT, Int.reduceLE, Int.reduceToNat, Int.reduceBEq, Int.reduceNe, reduceCtorEq, s3.get, k, (s3'.front 8).get] <;> omega) | omega) only [go_sem, Nat.reduceBEq, Nat.reduceAdd, Nat.reduceMul, Nat.reduceSub, Nat.reduceEqDiff, Nat.reduceLeDiff, Nat.reduceLT, Int.reduceEq, Int.reduceAdd, Int.reduceSub, Int.reduceMul, Int.reduceNeg, Int.reduceLT, Int.reduceLE, Int.reduceToNat, Int.reduceBEq, Int.reduceNe, reduceCtorEq, w64_id, w8_id, w16_id, w32_id, tmod_pos, tdiv_pos, Bool.or_true, Bool.true_or, Bool.or_false, Bool.false_or, Bool.and_false, Bool.false_and, condK_decide, s3.get, k, (s3'.front 8).get]
      refine (refLoad_S (s3'.front 1) r 1).mono ?_
      rintro v h4 ⟨rfl, rfl⟩
      rw [hacc, if_pos rfl]
      generalize loadM mem r.toNat (1 : Int).toNat = ld at *
      have l := Cp.len f
      have lA : A < c.cells.length := by omega
      have sc := setR_cells f hA (v := ld)
      have fR := setR_fit f (a := A) (v := ld) ⟨l1, by have : (256 : Int) ^ (1 : Int).toNat ≤ 4294967296 := by decide
                                                       omega⟩
      have tkR := take_cpu fR
      have a0 : (0 : Int) ≤ A := by omega
      have a1 : (A : Int) < 16 := by omega
      have nR : nthL (setR c A ld).cells 16 = some (.int .i64 c.Pc) := by rw [nthL_eq]; exact Cp.pc fR
      have s4 := (s3'.front 7).set (.cells (setR c A ld).cells.toArray 30 (0, 0))
      simp (maxSteps := 2000000) (disch := first | (simp only [go_sem, Nat.reduceBEq, Nat.reduceAdd, Nat.reduceMul, Nat.reduceSub, Nat.reduceEqDiff, Nat.reduceLeDiff, Nat.reduceLT, Int.reduceEq, Int.reduceAdd, Int.reduceSub, Int.reduceMul, Int.reduceNeg, Int.reduceLT, Int.reduceLE, Int.reduceToNat, Int.reduceBEq, Int.reduceNe, reduceCtorEq, (s3'.front 7).get, (s3'.front 6).get, lA, sc, a0, a1, s4.get, tkR, nR] <;> omega) | omega) only [go_sem, Nat.reduceBEq, Nat.reduceAdd, Nat.reduceMul, Nat.reduceSub, Nat.reduceEqDiff, Nat.reduceLeDiff, Nat.reduceLT, Int.reduceEq, Int.reduceAdd, Int.reduceSub, Int.reduceMul, Int.reduceNeg, Int.reduceLT, Int.reduceLE, Int.reduceToNat, Int.reduceBEq, Int.reduceNe, reduceCtorEq, w64_id, w8_id, w16_id, w32_id, tmod_pos, tdiv_pos, Bool.or_true, Bool.true_or, Bool.or_false, Bool.false_or, Bool.and_false, Bool.false_and, condK_decide, (s3'.front 7).get, (s3'.front 6).get, lA, sc, a0, a1, s4.get, tkR, nR]
      refine (rgoes_S fR _).mono ?_
      rintro v h5 ⟨rfl, x5⟩
      have ep : (c.Pc + 4).tmod 65536 = (c.Pc + 4) % 65536 := Int.tmod_eq_emod_of_nonneg (by omega)
      rw [ep]
      have fP := setPc_fit fR (v := (c.Pc + 4) % 65536) (by omega) (by omega)
      have tkP := take_cpu fP
      have s5 := s4.grow x5
      have s6 := (s5.front 5).set (.cells ({ setR c A ld with Pc := (c.Pc + 4) % 65536 } : Cp).cells.toArray 30 (0, 0))
      have s7 := (s6.front 5).set (.cells okT.cells.toArray 56 (0, 0))
      simp only [Trp.cells_eq, okT, okF] at s7
      simp (maxSteps := 2000000) (disch := first | (simp only [go_sem, Nat.reduceBEq, Nat.reduceAdd, Nat.reduceMul, Nat.reduceSub, Nat.reduceEqDiff, Nat.reduceLeDiff, Nat.reduceLT, Int.reduceEq, Int.reduceAdd, Int.reduceSub, Int.reduceMul, Int.reduceNeg, Int.reduceLT, Int.reduceLE, Int.reduceToNat, Int.reduceBEq, Int.reduceNe, reduceCtorEq] <;> omega) | omega) only [go_sem, Nat.reduceBEq, Nat.reduceAdd, Nat.reduceMul, Nat.reduceSub, Nat.reduceEqDiff, Nat.reduceLeDiff, Nat.reduceLT, Int.reduceEq, Int.reduceAdd, Int.reduceSub, Int.reduceMul, Int.reduceNeg, Int.reduceLT, Int.reduceLE, Int.reduceToNat, Int.reduceBEq, Int.reduceNe, reduceCtorEq, w64_id, w8_id, w16_id, w32_id, tmod_pos, tdiv_pos, Bool.or_true, Bool.true_or, Bool.or_false, Bool.false_or, Bool.and_false, Bool.false_and, condK_decide]
      refine store_cpu fP (s5.front 5).get (by rfl) ?_
      simp (maxSteps := 2000000) (disch := first | (simp only [go_sem, Nat.reduceBEq, Nat.reduceAdd, Nat.reduceMul, Nat.reduceSub, Nat.reduceEqDiff, Nat.reduceLeDiff, Nat.reduceLT, Int.reduceEq, Int.reduceAdd, Int.reduceSub, Int.reduceMul, Int.reduceNeg, Int.reduceLT, Int.reduceLE, Int.reduceToNat, Int.reduceBEq, Int.reduceNe, reduceCtorEq, (s6.front 5).get, s7.get, (s7.front 1).get, tkP] <;> omega) | omega) only [go_sem, Nat.reduceBEq, Nat.reduceAdd, Nat.reduceMul, Nat.reduceSub, Nat.reduceEqDiff, Nat.reduceLeDiff, Nat.reduceLT, Int.reduceEq, Int.reduceAdd, Int.reduceSub, Int.reduceMul, Int.reduceNeg, Int.reduceLT, Int.reduceLE, Int.reduceToNat, Int.reduceBEq, Int.reduceNe, reduceCtorEq, w64_id, w8_id, w16_id, w32_id, tmod_pos, tdiv_pos, Bool.or_true, Bool.true_or, Bool.or_false, Bool.false_or, Bool.and_false, Bool.false_and, condK_decide, (s6.front 5).get, s7.get, (s7.front 1).get, tkP]
      exact fin _ _ _ _ _ rfl (Sat.drop2 (Sat.drop2 (Sat.drop2 (s7.tail.tail.tail.tail))))
    · rw [if_pos k] at fin
      rw [if_neg k]
      have s4 := (s3.front 4).set (.cells c.cells.toArray 30 (0, 0))
      have s5 := (s4.front 4).set (.cells (⟨2, 0, ad, f2⟩ : Trp).cells.toArray 56 (0, 0))
      simp only [Trp.cells_eq] at s5
      simp (maxSteps := 2000000) (disch := first | (simp only [go_sem, Nat.reduceBEq, Nat.reduceAdd, Nat.reduceMul, Nat.reduceSub, Nat.reduceEqDiff, Nat.reduceLeDiff, Nat.reduceLT, Int.reduceEq, Int.reduceAdd, Int.reduceSub, Int.reduceMul, Int.reduceNeg, Int.reduceLT, Int.reduceLE, Int.reduceToNat, Int.reduceBEq, Int.reduceNe, reduceCtorEq, s3.get, k, (s3.front 7).get, tk] <;> omega) | omega) only [go_sem, Nat.reduceBEq, Nat.reduceAdd, Nat.reduceMul, Nat.reduceSub, Nat.reduceEqDiff, Nat.reduceLeDiff, Nat.reduceLT, Int.reduceEq, Int.reduceAdd, Int.reduceSub, Int.reduceMul, Int.reduceNeg, Int.reduceLT, Int.reduceLE, Int.reduceToNat, Int.reduceBEq, Int.reduceNe, reduceCtorEq, w64_id, w8_id, w16_id, w32_id, tmod_pos, tdiv_pos, Bool.or_true, Bool.true_or, Bool.or_false, Bool.false_or, Bool.and_false, Bool.false_and, condK_decide, s3.get, k, (s3.front 7).get, tk]
      refine store_cpu f (s3.front 4).get (by rfl) ?_
      simp (maxSteps := 2000000) (disch := first | (simp only [go_sem, Nat.reduceBEq, Nat.reduceAdd, Nat.reduceMul, Nat.reduceSub, Nat.reduceEqDiff, Nat.reduceLeDiff, Nat.reduceLT, Int.reduceEq, Int.reduceAdd, Int.reduceSub, Int.reduceMul, Int.reduceNeg, Int.reduceLT, Int.reduceLE, Int.reduceToNat, Int.reduceBEq, Int.reduceNe, reduceCtorEq, (s4.front 1).get, (s4.front 4).get, s5.get, (s5.front 1).get, tk] <;> omega) | omega) only [go_sem, Nat.reduceBEq, Nat.reduceAdd, Nat.reduceMul, Nat.reduceSub, Nat.reduceEqDiff, Nat.reduceLeDiff, Nat.reduceLT, Int.reduceEq, Int.reduceAdd, Int.reduceSub, Int.reduceMul, Int.reduceNeg, Int.reduceLT, Int.reduceLE, Int.reduceToNat, Int.reduceBEq, Int.reduceNe, reduceCtorEq, w64_id, w8_id, w16_id, w32_id, tmod_pos, tdiv_pos, Bool.or_true, Bool.true_or, Bool.or_false, Bool.false_or, Bool.and_false, Bool.false_and, condK_decide, (s4.front 1).get, (s4.front 4).get, s5.get, (s5.front 1).get, tk]
      refine fin _ _ _ _ _ rfl (Sat.drop2 (Sat.drop2 (Sat.drop2 (Sat.drop2 (s5.tail.tail.tail)))))
theorem rtouchS_S (f : c.fit) (hpc : 0 ≤ c.Pc ∧ c.Pc < 65536) (hA : A < 16) (hB : B < 16) (hI : I < 65536) {size : Int} (hop : (op = 8 ∧ size = 4) ∨ (op = 10 ∧ size = 1)) (u : uniqT T) (hs : Sat h (refRamS rb n mem :: tlbS tb T :: F)) :
    HCalls Tryz.prog 53 #[.agg #[.pointer (some ⟨rb, 0, none⟩), .pointer (some ⟨tb, 0, none⟩), wv], .agg c.cells.toArray, .agg (⟨op, A, B, C, I⟩ : Ins).cells.toArray, .agg s.cells.toArray, .int .i64 at_] h fun v h' =>
      v = tchV (touchP n mem T c A ((rg c B + I) % 65536) s at_ size 2 3) c.Pc ∧ Sat h' (refRamS rb n (touchP n mem T c A ((rg c B + I) % 65536) s at_ size 2 3).mem :: tlbS tb (touchP n mem T c A ((rg c B + I) % 65536) s at_ size 2 3).T :: F) := by
  refine HCalls.via fun R hR => ?_
  obtain ⟨x0, x1⟩ := rg_bd f (i := B) (by omega) (by omega)
  obtain ⟨⟨-, hTok⟩, -⟩ := tlbS_iff.1 (hs.front 1)
  obtain ⟨⟨hb, hn⟩, -⟩ := refRamS_iff.1 hs
  have tk := take_cpu f
  have nB : nthL c.cells B = some (.int .u32 (rg c B)) := by rw [nthL_eq]; exact Cp.reg f hB
  have n16 : nthL c.cells 16 = some (.int .i64 c.Pc) := by rw [nthL_eq]; exact Cp.pc f
  have b0 : (0 : Int) ≤ B := by omega
  have b1 : (B : Int) < 16 := by omega
  have fin : ∀ (h' : Heap) (mem' : Nat → Int) (T' : List Ln) (c' : Cp) (t' : Trp), touchP n mem T c A ((rg c B + I) % 65536) s at_ size 2 3 = ⟨t', mem', T', c'⟩ →
      Sat h' (refRamS rb n mem' :: tlbS tb T' :: F) → R (tchV ⟨t', mem', T', c'⟩ c.Pc) h' := fun h' mem' T' c' t' e q => hR _ _ ⟨by rw [e], by rw [e]; exact q⟩
  clear hR
  unfold touchP at fin
  generalize hb1 : rg c (B : Int) = x at *
  obtain ⟨x, rfl⟩ := Int.eq_ofNat_of_zero_le x0
  obtain ⟨ad, had⟩ : ∃ ad : Nat, ((x : Int) + (I : Int)) % 65536 = ad := ⟨(((x : Int) + (I : Int)) % 65536).toNat, by omega⟩
  have had2 : ((x : Int) + (I : Int)) % 4294967296 % 65536 = ad := by omega
  rw [had] at fin
  have adl : ad < 65536 := by omega
  have n7 : ((8 : Nat) : Int) = 8 := rfl
  have n9 : ((10 : Nat) : Int) = 10 := rfl
  have s1 := (((((hs.push (.cells #[.pointer (some ⟨rb, 0, none⟩), .pointer (some ⟨tb, 0, none⟩), wv] 41 (0, 0))).push (.cells c.cells.toArray 30 (0, 0))).push (.cells (⟨op, A, B, C, I⟩ : Ins).cells.toArray 84 (0, 0))).push (.cells s.cells.toArray 78 (0, 0))).push (.cells (tzeroD Tryz.prog 30).cells 30 (0, 0))).push (.cells okT.cells.toArray 56 (0, 0))
  simp only [tzeroD_30, Value.cells, Trp.cells_eq, okT, okF, Spc.cells_eq, Ins.cells_eq, size_push'] at s1
  refine HCalls.of_dev T53 Tryz.func53 rfl mixed (by kernel_rfl) ?_; rw [Tryz.results53]
  have z4 := ((((hs.push (.cells #[.pointer (some ⟨rb, 0, none⟩), .pointer (some ⟨tb, 0, none⟩), wv] 41 (0, 0))).push (.cells c.cells.toArray 30 (0, 0))).push (.cells (⟨op, A, B, C, I⟩ : Ins).cells.toArray 84 (0, 0))).push (.cells s.cells.toArray 78 (0, 0)))
  simp only [Spc.cells_eq, Ins.cells_eq, size_push'] at z4
  rcases hop with ⟨rfl, rfl⟩ | ⟨rfl, rfl⟩
  · simp only [n7, n9] at s1 z4
    have gs := z4.get
    by_cases q : (ad : Int) % 4 = 0
    case neg =>
      rw [if_pos (by omega)] at fin
      have s2 := (s1.front 1).set (.cells c.cells.toArray 30 (0, 0))
      have s3 := (s2.front 1).set (.cells (⟨4, 0, ad, okF⟩ : Trp).cells.toArray 56 (0, 0))
      simp only [Trp.cells_eq, okF] at s3
      simp (maxSteps := 2000000) (disch := first | (simp only [go_sem, Nat.reduceBEq, Nat.reduceAdd, Nat.reduceMul, Nat.reduceSub, Nat.reduceEqDiff, Nat.reduceLeDiff, Nat.reduceLT, Int.reduceEq, Int.reduceAdd, Int.reduceSub, Int.reduceMul, Int.reduceNeg, Int.reduceLT, Int.reduceLE, Int.reduceToNat, Int.reduceBEq, Int.reduceNe, reduceCtorEq, nB, b0, b1, had2, n7, n9, tk, wu32, q] <;> omega) | omega) only [go_sem, Nat.reduceBEq, Nat.reduceAdd, Nat.reduceMul, Nat.reduceSub, Nat.reduceEqDiff, Nat.reduceLeDiff, Nat.reduceLT, Int.reduceEq, Int.reduceAdd, Int.reduceSub, Int.reduceMul, Int.reduceNeg, Int.reduceLT, Int.reduceLE, Int.reduceToNat, Int.reduceBEq, Int.reduceNe, reduceCtorEq, w64_id, w8_id, w16_id, w32_id, tmod_pos, tdiv_pos, Bool.or_true, Bool.true_or, Bool.or_false, Bool.false_or, Bool.and_false, Bool.false_and, condK_decide, nB, b0, b1, had2, n7, n9, tk, wu32, q]
      refine store_cpu f (s1.front 1).get (by rfl) ?_
      simp (maxSteps := 2000000) (disch := first | (simp only [go_sem, Nat.reduceBEq, Nat.reduceAdd, Nat.reduceMul, Nat.reduceSub, Nat.reduceEqDiff, Nat.reduceLeDiff, Nat.reduceLT, Int.reduceEq, Int.reduceAdd, Int.reduceSub, Int.reduceMul, Int.reduceNeg, Int.reduceLT, Int.reduceLE, Int.reduceToNat, Int.reduceBEq, Int.reduceNe, reduceCtorEq, (s2.front 1).get, (s3.front 1).get, s3.get, tk] <;> omega) | omega) only [go_sem, Nat.reduceBEq, Nat.reduceAdd, Nat.reduceMul, Nat.reduceSub, Nat.reduceEqDiff, Nat.reduceLeDiff, Nat.reduceLT, Int.reduceEq, Int.reduceAdd, Int.reduceSub, Int.reduceMul, Int.reduceNeg, Int.reduceLT, Int.reduceLE, Int.reduceToNat, Int.reduceBEq, Int.reduceNe, reduceCtorEq, w64_id, w8_id, w16_id, w32_id, tmod_pos, tdiv_pos, Bool.or_true, Bool.true_or, Bool.or_false, Bool.false_or, Bool.and_false, Bool.false_and, condK_decide, (s2.front 1).get, (s3.front 1).get, s3.get, tk]
      exact fin _ _ _ _ _ rfl (s3.tail.tail.tail.tail.tail.tail)
    rw [if_neg (by omega)] at fin
    simp (maxSteps := 2000000) (disch := first | (simp only [go_sem, Nat.reduceBEq, Nat.reduceAdd, Nat.reduceMul, Nat.reduceSub, Nat.reduceEqDiff, Nat.reduceLeDiff, Nat.reduceLT, Int.reduceEq, Int.reduceAdd, Int.reduceSub, Int.reduceMul, Int.reduceNeg, Int.reduceLT, Int.reduceLE, Int.reduceToNat, Int.reduceBEq, Int.reduceNe, reduceCtorEq, nB, b0, b1, had2, n7, n9, tk, wu32, q, gs] <;> omega) | omega) only [go_sem, Nat.reduceBEq, Nat.reduceAdd, Nat.reduceMul, Nat.reduceSub, Nat.reduceEqDiff, Nat.reduceLeDiff, Nat.reduceLT, Int.reduceEq, Int.reduceAdd, Int.reduceSub, Int.reduceMul, Int.reduceNeg, Int.reduceLT, Int.reduceLE, Int.reduceToNat, Int.reduceBEq, Int.reduceNe, reduceCtorEq, w64_id, w8_id, w16_id, w32_id, tmod_pos, tdiv_pos, Bool.or_true, Bool.true_or, Bool.or_false, Bool.false_or, Bool.and_false, Bool.false_and, condK_decide, nB, b0, b1, had2, n7, n9, tk, wu32, q, gs]
    have bd := reachC_bd mem hTok hn s (ad : Int) 2 at_ (by omega)
    refine (rreachC_S ((s1.front 7).front 7) u s ad 2 at_ (by omega) (by omega) (.inr (.inl rfl))).mono ?_
    rintro v h2 ⟨rfl, s2⟩
    generalize reachC n mem T s (ad : Int) 2 at_ = rc at *
    obtain ⟨r, f2, T2⟩ := rc
    simp only at fin bd s2 ⊢
    have s3 := s2.push (.cells f2.cells.toArray 47 (0, 0))
    simp only [Flt.cells_eq] at s3
    by_cases k : f2.K = 0
    · rw [if_neg (by omega), if_pos trivial] at fin
      obtain ⟨r0, r1, r2⟩ := bd k
      have hacc : accM n r 4 = 0 := by
        unfold accM
        rw [if_neg (by omega), if_neg, if_neg (by omega)]
        rw [Int.tmod_eq_emod_of_nonneg (by omega)]
        omega
      rw [if_pos k]
      have s3' := s3
      rw [k] at s3'
      obtain ⟨y0, y1⟩ := rg_bd f (i := A) (by omega) (by omega)
      have nA : nthL c.cells A = some (.int .u32 (rg c A)) := by rw [nthL_eq]; exact Cp.reg f hA
      have a0 : (0 : Int) ≤ A := by omega
      have a1 : (A : Int) < 16 := by omega
      simp (maxSteps := 2000000) (disch := first | (simp only [go_sem, Nat.reduceBEq, Nat.reduceAdd, Nat.reduceMul, Nat.reduceSub, Nat.reduceEqDiff, Nat.reduceLeDiff, Nat.reduceLT, Int.reduceEq, Int.reduceAdd, Int.reduceSub, Int.reduceMul, Int.reduceNeg, Int.reduceLT, Int.reduceLE, Int.reduceToNat, Int.reduceBEq, Int.reduceNe, reduceCtorEq, s3.get, k, (s3'.front 8).get, (s3'.front 7).get, (s3'.front 6).get, a0, a1, nA] <;> omega) | omega) only [go_sem, Nat.reduceBEq, Nat.reduceAdd, Nat.reduceMul, Nat.reduceSub, Nat.reduceEqDiff, Nat.reduceLeDiff, Nat.reduceLT, Int.reduceEq, Int.reduceAdd, Int.reduceSub, Int.reduceMul, Int.reduceNeg, Int.reduceLT, Int.reduceLE, Int.reduceToNat, Int.reduceBEq, Int.reduceNe, reduceCtorEq, w64_id, w8_id, w16_id, w32_id, tmod_pos, tdiv_pos, Bool.or_true, Bool.true_or, Bool.or_false, Bool.false_or, Bool.and_false, Bool.false_and, condK_decide, s3.get, k, (s3'.front 8).get, (s3'.front 7).get, (s3'.front 6).get, a0, a1, nA]
      refine (refStore_S (s3'.front 1) r 4 (rg c A) ⟨y0, y1⟩).mono ?_
      rintro v h4 ⟨rfl, s4⟩
      rw [hacc, if_pos rfl] at s4
      simp (maxSteps := 2000000) (disch := first | (simp only [go_sem, Nat.reduceBEq, Nat.reduceAdd, Nat.reduceMul, Nat.reduceSub, Nat.reduceEqDiff, Nat.reduceLeDiff, Nat.reduceLT, Int.reduceEq, Int.reduceAdd, Int.reduceSub, Int.reduceMul, Int.reduceNeg, Int.reduceLT, Int.reduceLE, Int.reduceToNat, Int.reduceBEq, Int.reduceNe, reduceCtorEq, (s4.front 7).get, tk, n16] <;> omega) | omega) only [go_sem, Nat.reduceBEq, Nat.reduceAdd, Nat.reduceMul, Nat.reduceSub, Nat.reduceEqDiff, Nat.reduceLeDiff, Nat.reduceLT, Int.reduceEq, Int.reduceAdd, Int.reduceSub, Int.reduceMul, Int.reduceNeg, Int.reduceLT, Int.reduceLE, Int.reduceToNat, Int.reduceBEq, Int.reduceNe, reduceCtorEq, w64_id, w8_id, w16_id, w32_id, tmod_pos, tdiv_pos, Bool.or_true, Bool.true_or, Bool.or_false, Bool.false_or, Bool.and_false, Bool.false_and, condK_decide, (s4.front 7).get, tk, n16]
      refine (rgoes_S f _).mono ?_
      rintro v h5 ⟨rfl, x5⟩
      have ep : (c.Pc + 4).tmod 65536 = (c.Pc + 4) % 65536 := Int.tmod_eq_emod_of_nonneg (by omega)
      rw [ep]
      have fP := setPc_fit f (v := (c.Pc + 4) % 65536) (by omega) (by omega)
      have tkP := take_cpu fP
      have s5 := s4.grow x5
      have s6 := (s5.front 4).set (.cells ({ c with Pc := (c.Pc + 4) % 65536 } : Cp).cells.toArray 30 (0, 0))
      have s7 := (s6.front 4).set (.cells okT.cells.toArray 56 (0, 0))
      simp only [Trp.cells_eq, okT, okF] at s7
      simp (maxSteps := 2000000) (disch := first | (simp only [go_sem, Nat.reduceBEq, Nat.reduceAdd, Nat.reduceMul, Nat.reduceSub, Nat.reduceEqDiff, Nat.reduceLeDiff, Nat.reduceLT, Int.reduceEq, Int.reduceAdd, Int.reduceSub, Int.reduceMul, Int.reduceNeg, Int.reduceLT, Int.reduceLE, Int.reduceToNat, Int.reduceBEq, Int.reduceNe, reduceCtorEq] <;> omega) | omega) only [go_sem, Nat.reduceBEq, Nat.reduceAdd, Nat.reduceMul, Nat.reduceSub, Nat.reduceEqDiff, Nat.reduceLeDiff, Nat.reduceLT, Int.reduceEq, Int.reduceAdd, Int.reduceSub, Int.reduceMul, Int.reduceNeg, Int.reduceLT, Int.reduceLE, Int.reduceToNat, Int.reduceBEq, Int.reduceNe, reduceCtorEq, w64_id, w8_id, w16_id, w32_id, tmod_pos, tdiv_pos, Bool.or_true, Bool.true_or, Bool.or_false, Bool.false_or, Bool.and_false, Bool.false_and, condK_decide]
      refine store_cpu fP (s5.front 4).get (by rfl) ?_
      simp (maxSteps := 2000000) (disch := first | (simp only [go_sem, Nat.reduceBEq, Nat.reduceAdd, Nat.reduceMul, Nat.reduceSub, Nat.reduceEqDiff, Nat.reduceLeDiff, Nat.reduceLT, Int.reduceEq, Int.reduceAdd, Int.reduceSub, Int.reduceMul, Int.reduceNeg, Int.reduceLT, Int.reduceLE, Int.reduceToNat, Int.reduceBEq, Int.reduceNe, reduceCtorEq, (s6.front 4).get, s7.get, (s7.front 1).get, tkP] <;> omega) | omega) only [go_sem, Nat.reduceBEq, Nat.reduceAdd, Nat.reduceMul, Nat.reduceSub, Nat.reduceEqDiff, Nat.reduceLeDiff, Nat.reduceLT, Int.reduceEq, Int.reduceAdd, Int.reduceSub, Int.reduceMul, Int.reduceNeg, Int.reduceLT, Int.reduceLE, Int.reduceToNat, Int.reduceBEq, Int.reduceNe, reduceCtorEq, w64_id, w8_id, w16_id, w32_id, tmod_pos, tdiv_pos, Bool.or_true, Bool.true_or, Bool.or_false, Bool.false_or, Bool.and_false, Bool.false_and, condK_decide, (s6.front 4).get, s7.get, (s7.front 1).get, tkP]
      exact fin _ _ _ _ _ rfl (Sat.drop2 (Sat.drop2 (Sat.drop2 (Sat.drop2 (s7.tail.tail.drop1)))))
    · rw [if_pos k] at fin
      rw [if_neg k]
      have s4 := (s3.front 4).set (.cells c.cells.toArray 30 (0, 0))
      have s5 := (s4.front 4).set (.cells (⟨3, 0, ad, f2⟩ : Trp).cells.toArray 56 (0, 0))
      simp only [Trp.cells_eq] at s5
      simp (maxSteps := 2000000) (disch := first | (simp only [go_sem, Nat.reduceBEq, Nat.reduceAdd, Nat.reduceMul, Nat.reduceSub, Nat.reduceEqDiff, Nat.reduceLeDiff, Nat.reduceLT, Int.reduceEq, Int.reduceAdd, Int.reduceSub, Int.reduceMul, Int.reduceNeg, Int.reduceLT, Int.reduceLE, Int.reduceToNat, Int.reduceBEq, Int.reduceNe, reduceCtorEq, s3.get, k, (s3.front 7).get, tk] <;> omega) | omega) only [go_sem, Nat.reduceBEq, Nat.reduceAdd, Nat.reduceMul, Nat.reduceSub, Nat.reduceEqDiff, Nat.reduceLeDiff, Nat.reduceLT, Int.reduceEq, Int.reduceAdd, Int.reduceSub, Int.reduceMul, Int.reduceNeg, Int.reduceLT, Int.reduceLE, Int.reduceToNat, Int.reduceBEq, Int.reduceNe, reduceCtorEq, w64_id, w8_id, w16_id, w32_id, tmod_pos, tdiv_pos, Bool.or_true, Bool.true_or, Bool.or_false, Bool.false_or, Bool.and_false, Bool.false_and, condK_decide, s3.get, k, (s3.front 7).get, tk]
      refine store_cpu f (s3.front 4).get (by rfl) ?_
      simp (maxSteps := 2000000) (disch := first | (simp only [go_sem, Nat.reduceBEq, Nat.reduceAdd, Nat.reduceMul, Nat.reduceSub, Nat.reduceEqDiff, Nat.reduceLeDiff, Nat.reduceLT, Int.reduceEq, Int.reduceAdd, Int.reduceSub, Int.reduceMul, Int.reduceNeg, Int.reduceLT, Int.reduceLE, Int.reduceToNat, Int.reduceBEq, Int.reduceNe, reduceCtorEq, (s4.front 1).get, (s4.front 4).get, s5.get, (s5.front 1).get, tk] <;> omega) | omega) only [go_sem, Nat.reduceBEq, Nat.reduceAdd, Nat.reduceMul, Nat.reduceSub, Nat.reduceEqDiff, Nat.reduceLeDiff, Nat.reduceLT, Int.reduceEq, Int.reduceAdd, Int.reduceSub, Int.reduceMul, Int.reduceNeg, Int.reduceLT, Int.reduceLE, Int.reduceToNat, Int.reduceBEq, Int.reduceNe, reduceCtorEq, w64_id, w8_id, w16_id, w32_id, tmod_pos, tdiv_pos, Bool.or_true, Bool.true_or, Bool.or_false, Bool.false_or, Bool.and_false, Bool.false_and, condK_decide, (s4.front 1).get, (s4.front 4).get, s5.get, (s5.front 1).get, tk]
      refine fin _ _ _ _ _ rfl (Sat.drop2 (Sat.drop2 (Sat.drop2 (Sat.drop2 (s5.tail.tail.tail)))))
  · simp only [n7, n9] at s1 z4
    have gs := z4.get
    by_cases q : (ad : Int) % 1 = 0
    case neg =>
      omega
    rw [if_neg (by omega)] at fin
    simp (maxSteps := 2000000) (disch := first | (simp only [go_sem, Nat.reduceBEq, Nat.reduceAdd, Nat.reduceMul, Nat.reduceSub, Nat.reduceEqDiff, Nat.reduceLeDiff, Nat.reduceLT, Int.reduceEq, Int.reduceAdd, Int.reduceSub, Int.reduceMul, Int.reduceNeg, Int.reduceLT, Int.reduceLE, Int.reduceToNat, Int.reduceBEq, Int.reduceNe, reduceCtorEq, nB, b0, b1, had2, n7, n9, tk, wu32, q, gs] <;> omega) | omega) only [go_sem, Nat.reduceBEq, Nat.reduceAdd, Nat.reduceMul, Nat.reduceSub, Nat.reduceEqDiff, Nat.reduceLeDiff, Nat.reduceLT, Int.reduceEq, Int.reduceAdd, Int.reduceSub, Int.reduceMul, Int.reduceNeg, Int.reduceLT, Int.reduceLE, Int.reduceToNat, Int.reduceBEq, Int.reduceNe, reduceCtorEq, w64_id, w8_id, w16_id, w32_id, tmod_pos, tdiv_pos, Bool.or_true, Bool.true_or, Bool.or_false, Bool.false_or, Bool.and_false, Bool.false_and, condK_decide, nB, b0, b1, had2, n7, n9, tk, wu32, q, gs]
    have bd := reachC_bd mem hTok hn s (ad : Int) 2 at_ (by omega)
    refine (rreachC_S ((s1.front 7).front 7) u s ad 2 at_ (by omega) (by omega) (.inr (.inl rfl))).mono ?_
    rintro v h2 ⟨rfl, s2⟩
    generalize reachC n mem T s (ad : Int) 2 at_ = rc at *
    obtain ⟨r, f2, T2⟩ := rc
    simp only at fin bd s2 ⊢
    have s3 := s2.push (.cells f2.cells.toArray 47 (0, 0))
    simp only [Flt.cells_eq] at s3
    by_cases k : f2.K = 0
    · rw [if_neg (by omega), if_pos trivial] at fin
      obtain ⟨r0, r1, r2⟩ := bd k
      have hacc : accM n r 1 = 0 := by
        unfold accM
        rw [if_neg (by omega), if_neg, if_neg (by omega)]
        rw [Int.tmod_eq_emod_of_nonneg (by omega)]
        omega
      rw [if_pos k]
      have s3' := s3
      rw [k] at s3'
      obtain ⟨y0, y1⟩ := rg_bd f (i := A) (by omega) (by omega)
      have nA : nthL c.cells A = some (.int .u32 (rg c A)) := by rw [nthL_eq]; exact Cp.reg f hA
      have a0 : (0 : Int) ≤ A := by omega
      have a1 : (A : Int) < 16 := by omega
      simp (maxSteps := 2000000) (disch := first | (simp only [go_sem, Nat.reduceBEq, Nat.reduceAdd, Nat.reduceMul, Nat.reduceSub, Nat.reduceEqDiff, Nat.reduceLeDiff, Nat.reduceLT, Int.reduceEq, Int.reduceAdd, Int.reduceSub, Int.reduceMul, Int.reduceNeg, Int.reduceLT, Int.reduceLE, Int.reduceToNat, Int.reduceBEq, Int.reduceNe, reduceCtorEq, s3.get, k, (s3'.front 8).get, (s3'.front 7).get, (s3'.front 6).get, a0, a1, nA] <;> omega) | omega) only [go_sem, Nat.reduceBEq, Nat.reduceAdd, Nat.reduceMul, Nat.reduceSub, Nat.reduceEqDiff, Nat.reduceLeDiff, Nat.reduceLT, Int.reduceEq, Int.reduceAdd, Int.reduceSub, Int.reduceMul, Int.reduceNeg, Int.reduceLT, Int.reduceLE, Int.reduceToNat, Int.reduceBEq, Int.reduceNe, reduceCtorEq, w64_id, w8_id, w16_id, w32_id, tmod_pos, tdiv_pos, Bool.or_true, Bool.true_or, Bool.or_false, Bool.false_or, Bool.and_false, Bool.false_and, condK_decide, s3.get, k, (s3'.front 8).get, (s3'.front 7).get, (s3'.front 6).get, a0, a1, nA]
      refine (refStore_S (s3'.front 1) r 1 (rg c A) ⟨y0, y1⟩).mono ?_
      rintro v h4 ⟨rfl, s4⟩
      rw [hacc, if_pos rfl] at s4
      simp (maxSteps := 2000000) (disch := first | (simp only [go_sem, Nat.reduceBEq, Nat.reduceAdd, Nat.reduceMul, Nat.reduceSub, Nat.reduceEqDiff, Nat.reduceLeDiff, Nat.reduceLT, Int.reduceEq, Int.reduceAdd, Int.reduceSub, Int.reduceMul, Int.reduceNeg, Int.reduceLT, Int.reduceLE, Int.reduceToNat, Int.reduceBEq, Int.reduceNe, reduceCtorEq, (s4.front 7).get, tk, n16] <;> omega) | omega) only [go_sem, Nat.reduceBEq, Nat.reduceAdd, Nat.reduceMul, Nat.reduceSub, Nat.reduceEqDiff, Nat.reduceLeDiff, Nat.reduceLT, Int.reduceEq, Int.reduceAdd, Int.reduceSub, Int.reduceMul, Int.reduceNeg, Int.reduceLT, Int.reduceLE, Int.reduceToNat, Int.reduceBEq, Int.reduceNe, reduceCtorEq, w64_id, w8_id, w16_id, w32_id, tmod_pos, tdiv_pos, Bool.or_true, Bool.true_or, Bool.or_false, Bool.false_or, Bool.and_false, Bool.false_and, condK_decide, (s4.front 7).get, tk, n16]
      refine (rgoes_S f _).mono ?_
      rintro v h5 ⟨rfl, x5⟩
      have ep : (c.Pc + 4).tmod 65536 = (c.Pc + 4) % 65536 := Int.tmod_eq_emod_of_nonneg (by omega)
      rw [ep]
      have fP := setPc_fit f (v := (c.Pc + 4) % 65536) (by omega) (by omega)
      have tkP := take_cpu fP
      have s5 := s4.grow x5
      have s6 := (s5.front 4).set (.cells ({ c with Pc := (c.Pc + 4) % 65536 } : Cp).cells.toArray 30 (0, 0))
      have s7 := (s6.front 4).set (.cells okT.cells.toArray 56 (0, 0))
      simp only [Trp.cells_eq, okT, okF] at s7
      simp (maxSteps := 2000000) (disch := first | (simp only [go_sem, Nat.reduceBEq, Nat.reduceAdd, Nat.reduceMul, Nat.reduceSub, Nat.reduceEqDiff, Nat.reduceLeDiff, Nat.reduceLT, Int.reduceEq, Int.reduceAdd, Int.reduceSub, Int.reduceMul, Int.reduceNeg, Int.reduceLT, Int.reduceLE, Int.reduceToNat, Int.reduceBEq, Int.reduceNe, reduceCtorEq] <;> omega) | omega) only [go_sem, Nat.reduceBEq, Nat.reduceAdd, Nat.reduceMul, Nat.reduceSub, Nat.reduceEqDiff, Nat.reduceLeDiff, Nat.reduceLT, Int.reduceEq, Int.reduceAdd, Int.reduceSub, Int.reduceMul, Int.reduceNeg, Int.reduceLT, Int.reduceLE, Int.reduceToNat, Int.reduceBEq, Int.reduceNe, reduceCtorEq, w64_id, w8_id, w16_id, w32_id, tmod_pos, tdiv_pos, Bool.or_true, Bool.true_or, Bool.or_false, Bool.false_or, Bool.and_false, Bool.false_and, condK_decide]
      refine store_cpu fP (s5.front 4).get (by rfl) ?_
      simp (maxSteps := 2000000) (disch := first | (simp only [go_sem, Nat.reduceBEq, Nat.reduceAdd, Nat.reduceMul, Nat.reduceSub, Nat.reduceEqDiff, Nat.reduceLeDiff, Nat.reduceLT, Int.reduceEq, Int.reduceAdd, Int.reduceSub, Int.reduceMul, Int.reduceNeg, Int.reduceLT, Int.reduceLE, Int.reduceToNat, Int.reduceBEq, Int.reduceNe, reduceCtorEq, (s6.front 4).get, s7.get, (s7.front 1).get, tkP] <;> omega) | omega) only [go_sem, Nat.reduceBEq, Nat.reduceAdd, Nat.reduceMul, Nat.reduceSub, Nat.reduceEqDiff, Nat.reduceLeDiff, Nat.reduceLT, Int.reduceEq, Int.reduceAdd, Int.reduceSub, Int.reduceMul, Int.reduceNeg, Int.reduceLT, Int.reduceLE, Int.reduceToNat, Int.reduceBEq, Int.reduceNe, reduceCtorEq, w64_id, w8_id, w16_id, w32_id, tmod_pos, tdiv_pos, Bool.or_true, Bool.true_or, Bool.or_false, Bool.false_or, Bool.and_false, Bool.false_and, condK_decide, (s6.front 4).get, s7.get, (s7.front 1).get, tkP]
      exact fin _ _ _ _ _ rfl (Sat.drop2 (Sat.drop2 (Sat.drop2 (Sat.drop2 (s7.tail.tail.drop1)))))
    · rw [if_pos k] at fin
      rw [if_neg k]
      have s4 := (s3.front 4).set (.cells c.cells.toArray 30 (0, 0))
      have s5 := (s4.front 4).set (.cells (⟨3, 0, ad, f2⟩ : Trp).cells.toArray 56 (0, 0))
      simp only [Trp.cells_eq] at s5
      simp (maxSteps := 2000000) (disch := first | (simp only [go_sem, Nat.reduceBEq, Nat.reduceAdd, Nat.reduceMul, Nat.reduceSub, Nat.reduceEqDiff, Nat.reduceLeDiff, Nat.reduceLT, Int.reduceEq, Int.reduceAdd, Int.reduceSub, Int.reduceMul, Int.reduceNeg, Int.reduceLT, Int.reduceLE, Int.reduceToNat, Int.reduceBEq, Int.reduceNe, reduceCtorEq, s3.get, k, (s3.front 7).get, tk] <;> omega) | omega) only [go_sem, Nat.reduceBEq, Nat.reduceAdd, Nat.reduceMul, Nat.reduceSub, Nat.reduceEqDiff, Nat.reduceLeDiff, Nat.reduceLT, Int.reduceEq, Int.reduceAdd, Int.reduceSub, Int.reduceMul, Int.reduceNeg, Int.reduceLT, Int.reduceLE, Int.reduceToNat, Int.reduceBEq, Int.reduceNe, reduceCtorEq, w64_id, w8_id, w16_id, w32_id, tmod_pos, tdiv_pos, Bool.or_true, Bool.true_or, Bool.or_false, Bool.false_or, Bool.and_false, Bool.false_and, condK_decide, s3.get, k, (s3.front 7).get, tk]
      refine store_cpu f (s3.front 4).get (by rfl) ?_
      simp (maxSteps := 2000000) (disch := first | (simp only [go_sem, Nat.reduceBEq, Nat.reduceAdd, Nat.reduceMul, Nat.reduceSub, Nat.reduceEqDiff, Nat.reduceLeDiff, Nat.reduceLT, Int.reduceEq, Int.reduceAdd, Int.reduceSub, Int.reduceMul, Int.reduceNeg, Int.reduceLT, Int.reduceLE, Int.reduceToNat, Int.reduceBEq, Int.reduceNe, reduceCtorEq, (s4.front 1).get, (s4.front 4).get, s5.get, (s5.front 1).get, tk] <;> omega) | omega) only [go_sem, Nat.reduceBEq, Nat.reduceAdd, Nat.reduceMul, Nat.reduceSub, Nat.reduceEqDiff, Nat.reduceLeDiff, Nat.reduceLT, Int.reduceEq, Int.reduceAdd, Int.reduceSub, Int.reduceMul, Int.reduceNeg, Int.reduceLT, Int.reduceLE, Int.reduceToNat, Int.reduceBEq, Int.reduceNe, reduceCtorEq, w64_id, w8_id, w16_id, w32_id, tmod_pos, tdiv_pos, Bool.or_true, Bool.true_or, Bool.or_false, Bool.false_or, Bool.and_false, Bool.false_and, condK_decide, (s4.front 1).get, (s4.front 4).get, s5.get, (s5.front 1).get, tk]
      refine fin _ _ _ _ _ rfl (Sat.drop2 (Sat.drop2 (Sat.drop2 (Sat.drop2 (s5.tail.tail.tail)))))
end
end Go.Eng
