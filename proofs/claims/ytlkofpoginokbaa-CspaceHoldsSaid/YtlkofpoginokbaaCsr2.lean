/-
  viceroyref12: Radix, Get, bits.
-/
import Derived.Test.YtlkofpoginokbaaCsr1
namespace Go.Eng
set_option linter.unusedSimpArgs false
set_option linter.unusedVariables false
set_option maxRecDepth 16000
set_option maxHeartbeats 4000000
open Go Go.Proofs
theorem atZ_cases (Z : List (Nd × Nat)) (id : Int) : (atN (Z.map (·.1)) id = -1 ∧ findN (Z.map (·.1)) id = none) ∨ ∃ k z, atN (Z.map (·.1)) id = ((k : Nat) : Int) ∧ Z[k]? = some z ∧ z.1.I = id ∧ findN (Z.map (·.1)) id = some z.1 ∧ k < Z.length ∧ findZ Z id = some z := by
  have ea : atN (Z.map (·.1)) id = match Z.findIdx? (fun z => z.1.I == id) with | some k => (k : Int) | none => -1 := by
    unfold atN; rw [List.findIdx?_map]; rfl
  rw [ea, ← findZ_fst]
  cases hf : Z.findIdx? (fun z => z.1.I == id) with
  | none =>
    left
    refine ⟨rfl, ?_⟩
    rw [List.findIdx?_eq_none_iff] at hf
    have : findZ Z id = none := by
      unfold findZ
      rw [List.find?_eq_none]
      intro r hr
      simpa using hf r hr
    rw [this]; rfl
  | some k =>
    right
    obtain ⟨hk, h1, h2⟩ := List.findIdx?_eq_some_iff_getElem.1 hf
    have : findZ Z id = some Z[k] := by
      unfold findZ
      rw [List.find?_eq_some_iff_getElem]
      exact ⟨by simpa using h1, k, hk, rfl, fun j hj => by simpa using h2 j hj⟩
    exact ⟨k, Z[k], rfl, List.getElem?_eq_getElem hk, by simpa using h1, by rw [this]; rfl, hk, this⟩
theorem nodeC_at {h : Heap} {F : List SP} {Z : List (Nd × Nat)} {z : Nd × Nat} {A B : SP} (hs : Sat h (A :: B :: (Z.map nodeC ++ F))) (hz : z ∈ Z) : h[z.2]? = some (.cells (capsL z.1.S).toArray 24 (0, 0)) := by
  obtain ⟨X, Y, rfl⟩ := List.append_of_mem hz
  have : Sat h (nodeC z :: A :: B :: ((X ++ Y).map nodeC ++ F)) := hs.perm (by
    simp only [List.map_append, List.map_cons, List.append_assoc, List.cons_append]
    exact (List.Perm.cons _ (List.Perm.cons _ List.perm_middle)).trans ((List.Perm.cons _ (List.Perm.swap _ _ _)).trans (List.Perm.swap _ _ _)))
  exact this.get
section
variable {h : Heap} {F : List SP} {qb : Nat} {L : List Nd}
theorem radix12_S (hs : Sat h (refSpS qb L :: F)) (hL : L.length ≤ 100000) (id : Int) : HCalls Try.prog 23 #[.pointer (some ⟨qb, 0, none⟩), .int .i64 id] h fun v h' => v = .int .i64 (radixN L id) ∧ h' = h := by
  refine HCalls.via fun R hR => ?_
  refine HCalls.of_dev T23 Try.func23 rfl mixed (by kernel_rfl) ?_; rw [Try.results23]
  simp (maxSteps := 2000000) (disch := first | (simp only [go_sem, Nat.reduceBEq, Nat.reduceAdd, Nat.reduceMul, Nat.reduceSub, Nat.reduceEqDiff, Nat.reduceLeDiff, Nat.reduceLT, Int.reduceEq, Int.reduceAdd, Int.reduceSub, Int.reduceMul, Int.reduceNeg, Int.reduceLT, Int.reduceLE, Int.reduceToNat, Int.reduceBEq, Int.reduceNe, reduceCtorEq]; done) | omega | (simp only [go_sem, Nat.reduceBEq, Nat.reduceAdd, Nat.reduceMul, Nat.reduceSub, Nat.reduceEqDiff, Nat.reduceLeDiff, Nat.reduceLT, Int.reduceEq, Int.reduceAdd, Int.reduceSub, Int.reduceMul, Int.reduceNeg, Int.reduceLT, Int.reduceLE, Int.reduceToNat, Int.reduceBEq, Int.reduceNe, reduceCtorEq]; omega)) only [go_sem, Nat.reduceBEq, Nat.reduceAdd, Nat.reduceMul, Nat.reduceSub, Nat.reduceEqDiff, Nat.reduceLeDiff, Nat.reduceLT, Int.reduceEq, Int.reduceAdd, Int.reduceSub, Int.reduceMul, Int.reduceNeg, Int.reduceLT, Int.reduceLE, Int.reduceToNat, Int.reduceBEq, Int.reduceNe, reduceCtorEq, w64_id, w8_id, w16_id, w32_id, tmod_pos, tdiv_pos, Bool.or_true, Bool.true_or, Bool.or_false, Bool.false_or, Bool.and_false, Bool.false_and, condK_decide]
  refine (at12_S hs hL id).mono ?_
  rintro v h' ⟨rfl, rfl⟩
  obtain ⟨v, ty, Z, rfl, s⟩ := refSp_iff.1 hs
  obtain ⟨sl, cap, rfl, hcap, hel⟩ := nodes_elems s.tail
  have hq := s.get
  unfold radixN at hR
  rcases atZ_cases Z id with ⟨e, e2⟩ | ⟨k, z, e, e1, e2, e3, e4⟩
  · rw [e2] at hR
    simp (maxSteps := 2000000) (disch := first | (simp only [go_sem, Nat.reduceBEq, Nat.reduceAdd, Nat.reduceMul, Nat.reduceSub, Nat.reduceEqDiff, Nat.reduceLeDiff, Nat.reduceLT, Int.reduceEq, Int.reduceAdd, Int.reduceSub, Int.reduceMul, Int.reduceNeg, Int.reduceLT, Int.reduceLE, Int.reduceToNat, Int.reduceBEq, Int.reduceNe, reduceCtorEq, e]; done) | omega | (simp only [go_sem, Nat.reduceBEq, Nat.reduceAdd, Nat.reduceMul, Nat.reduceSub, Nat.reduceEqDiff, Nat.reduceLeDiff, Nat.reduceLT, Int.reduceEq, Int.reduceAdd, Int.reduceSub, Int.reduceMul, Int.reduceNeg, Int.reduceLT, Int.reduceLE, Int.reduceToNat, Int.reduceBEq, Int.reduceNe, reduceCtorEq, e]; omega)) only [go_sem, Nat.reduceBEq, Nat.reduceAdd, Nat.reduceMul, Nat.reduceSub, Nat.reduceEqDiff, Nat.reduceLeDiff, Nat.reduceLT, Int.reduceEq, Int.reduceAdd, Int.reduceSub, Int.reduceMul, Int.reduceNeg, Int.reduceLT, Int.reduceLE, Int.reduceToNat, Int.reduceBEq, Int.reduceNe, reduceCtorEq, w64_id, w8_id, w16_id, w32_id, tmod_pos, tdiv_pos, Bool.or_true, Bool.true_or, Bool.or_false, Bool.false_or, Bool.and_false, Bool.false_and, condK_decide, e]
    exact hR _ _ ⟨rfl, rfl⟩
  · rw [e3] at hR
    obtain ⟨lb, rfl, -, c1, -, -⟩ := hel k z e1
    simp (maxSteps := 2000000) (disch := first | (simp only [go_sem, Nat.reduceBEq, Nat.reduceAdd, Nat.reduceMul, Nat.reduceSub, Nat.reduceEqDiff, Nat.reduceLeDiff, Nat.reduceLT, Int.reduceEq, Int.reduceAdd, Int.reduceSub, Int.reduceMul, Int.reduceNeg, Int.reduceLT, Int.reduceLE, Int.reduceToNat, Int.reduceBEq, Int.reduceNe, reduceCtorEq, e, hq, c1]; done) | omega | (simp only [go_sem, Nat.reduceBEq, Nat.reduceAdd, Nat.reduceMul, Nat.reduceSub, Nat.reduceEqDiff, Nat.reduceLeDiff, Nat.reduceLT, Int.reduceEq, Int.reduceAdd, Int.reduceSub, Int.reduceMul, Int.reduceNeg, Int.reduceLT, Int.reduceLE, Int.reduceToNat, Int.reduceBEq, Int.reduceNe, reduceCtorEq, e, hq, c1]; omega)) only [go_sem, Nat.reduceBEq, Nat.reduceAdd, Nat.reduceMul, Nat.reduceSub, Nat.reduceEqDiff, Nat.reduceLeDiff, Nat.reduceLT, Int.reduceEq, Int.reduceAdd, Int.reduceSub, Int.reduceMul, Int.reduceNeg, Int.reduceLT, Int.reduceLE, Int.reduceToNat, Int.reduceBEq, Int.reduceNe, reduceCtorEq, w64_id, w8_id, w16_id, w32_id, tmod_pos, tdiv_pos, Bool.or_true, Bool.true_or, Bool.or_false, Bool.false_or, Bool.and_false, Bool.false_and, condK_decide, e, hq, c1]
    exact ⟨fun q => absurd q (by omega), fun _ => hR _ _ ⟨rfl, rfl⟩⟩
theorem get12_S (hs : Sat h (refSpS qb L :: F)) (hL : L.length ≤ 100000) (hw : wfL L) (node index : Int) : HCalls Try.prog 24 #[.pointer (some ⟨qb, 0, none⟩), .agg #[.int .i64 node, .int .i64 index]] h fun v h' => v = capI (getN L node index) ∧ Ext h h' := by
  refine HCalls.via fun R hR => ?_
  refine HCalls.of_dev T24 Try.func24 rfl mixed (by kernel_rfl) ?_; rw [Try.results24]
  simp (maxSteps := 2000000) (disch := first | (simp only [go_sem, Nat.reduceBEq, Nat.reduceAdd, Nat.reduceMul, Nat.reduceSub, Nat.reduceEqDiff, Nat.reduceLeDiff, Nat.reduceLT, Int.reduceEq, Int.reduceAdd, Int.reduceSub, Int.reduceMul, Int.reduceNeg, Int.reduceLT, Int.reduceLE, Int.reduceToNat, Int.reduceBEq, Int.reduceNe, reduceCtorEq]; done) | omega | (simp only [go_sem, Nat.reduceBEq, Nat.reduceAdd, Nat.reduceMul, Nat.reduceSub, Nat.reduceEqDiff, Nat.reduceLeDiff, Nat.reduceLT, Int.reduceEq, Int.reduceAdd, Int.reduceSub, Int.reduceMul, Int.reduceNeg, Int.reduceLT, Int.reduceLE, Int.reduceToNat, Int.reduceBEq, Int.reduceNe, reduceCtorEq]; omega)) only [go_sem, Nat.reduceBEq, Nat.reduceAdd, Nat.reduceMul, Nat.reduceSub, Nat.reduceEqDiff, Nat.reduceLeDiff, Nat.reduceLT, Int.reduceEq, Int.reduceAdd, Int.reduceSub, Int.reduceMul, Int.reduceNeg, Int.reduceLT, Int.reduceLE, Int.reduceToNat, Int.reduceBEq, Int.reduceNe, reduceCtorEq, w64_id, w8_id, w16_id, w32_id, tmod_pos, tdiv_pos, Bool.or_true, Bool.true_or, Bool.or_false, Bool.false_or, Bool.and_false, Bool.false_and, condK_decide]
  have x1 : Ext h ((h.push (.cells [.int .i64 node, .int .i64 index].toArray 27 (0, 0))).push (.cells Cap.zero.cells.toArray 24 (0, 0))) := (Ext.push _ _).trans (Ext.push _ _)
  simp only [Cap.cells_eq, Cap.zero] at x1
  have hs1 := hs.grow x1
  refine (at12_S hs1 hL node).mono ?_
  rintro v h' ⟨rfl, rfl⟩
  obtain ⟨v, ty, Z, rfl, s⟩ := refSp_iff.1 hs1
  obtain ⟨sl, cap, rfl, hcap, hel⟩ := nodes_elems s.tail
  have hq := s.get
  unfold getN at hR
  rcases atZ_cases Z node with ⟨e, e2⟩ | ⟨k, z, e, e1, e2, e3, e4⟩
  · rw [e2] at hR
    simp (maxSteps := 2000000) (disch := first | (simp only [go_sem, Nat.reduceBEq, Nat.reduceAdd, Nat.reduceMul, Nat.reduceSub, Nat.reduceEqDiff, Nat.reduceLeDiff, Nat.reduceLT, Int.reduceEq, Int.reduceAdd, Int.reduceSub, Int.reduceMul, Int.reduceNeg, Int.reduceLT, Int.reduceLE, Int.reduceToNat, Int.reduceBEq, Int.reduceNe, reduceCtorEq, e]; done) | omega | (simp only [go_sem, Nat.reduceBEq, Nat.reduceAdd, Nat.reduceMul, Nat.reduceSub, Nat.reduceEqDiff, Nat.reduceLeDiff, Nat.reduceLT, Int.reduceEq, Int.reduceAdd, Int.reduceSub, Int.reduceMul, Int.reduceNeg, Int.reduceLT, Int.reduceLE, Int.reduceToNat, Int.reduceBEq, Int.reduceNe, reduceCtorEq, e]; omega)) only [go_sem, Nat.reduceBEq, Nat.reduceAdd, Nat.reduceMul, Nat.reduceSub, Nat.reduceEqDiff, Nat.reduceLeDiff, Nat.reduceLT, Int.reduceEq, Int.reduceAdd, Int.reduceSub, Int.reduceMul, Int.reduceNeg, Int.reduceLT, Int.reduceLE, Int.reduceToNat, Int.reduceBEq, Int.reduceNe, reduceCtorEq, w64_id, w8_id, w16_id, w32_id, tmod_pos, tdiv_pos, Bool.or_true, Bool.true_or, Bool.or_false, Bool.false_or, Bool.and_false, Bool.false_and, condK_decide, e]
    exact hR _ _ ⟨rfl, x1⟩
  · rw [e3] at hR
    obtain ⟨lb, rfl, -, -, c1, -⟩ := hel k z e1
    have c2 := nodeC_at s (List.mem_of_getElem? e1)
    unfold nodeV at c1
    have wz := (hw.1 z.1 (List.mem_map.2 ⟨z, List.mem_of_getElem? e1, rfl⟩)).len16
    have k0 : ¬ (k : Int) < 0 := by omega
    by_cases g1 : index < 0
    · simp (maxSteps := 2000000) (disch := first | (simp only [go_sem, Nat.reduceBEq, Nat.reduceAdd, Nat.reduceMul, Nat.reduceSub, Nat.reduceEqDiff, Nat.reduceLeDiff, Nat.reduceLT, Int.reduceEq, Int.reduceAdd, Int.reduceSub, Int.reduceMul, Int.reduceNeg, Int.reduceLT, Int.reduceLE, Int.reduceToNat, Int.reduceBEq, Int.reduceNe, reduceCtorEq, e, hq, c1, k0, g1]; done) | omega | (simp only [go_sem, Nat.reduceBEq, Nat.reduceAdd, Nat.reduceMul, Nat.reduceSub, Nat.reduceEqDiff, Nat.reduceLeDiff, Nat.reduceLT, Int.reduceEq, Int.reduceAdd, Int.reduceSub, Int.reduceMul, Int.reduceNeg, Int.reduceLT, Int.reduceLE, Int.reduceToNat, Int.reduceBEq, Int.reduceNe, reduceCtorEq, e, hq, c1, k0, g1]; omega)) only [go_sem, Nat.reduceBEq, Nat.reduceAdd, Nat.reduceMul, Nat.reduceSub, Nat.reduceEqDiff, Nat.reduceLeDiff, Nat.reduceLT, Int.reduceEq, Int.reduceAdd, Int.reduceSub, Int.reduceMul, Int.reduceNeg, Int.reduceLT, Int.reduceLE, Int.reduceToNat, Int.reduceBEq, Int.reduceNe, reduceCtorEq, w64_id, w8_id, w16_id, w32_id, tmod_pos, tdiv_pos, Bool.or_true, Bool.true_or, Bool.or_false, Bool.false_or, Bool.and_false, Bool.false_and, condK_decide, e, hq, c1, k0, g1]
      refine hR _ _ ⟨?_, x1⟩
      simp only
      rw [if_neg (by omega)]; rfl
    · by_cases g2 : (z.1.S.length : Int) ≤ index
      · simp (maxSteps := 2000000) (disch := first | (simp only [go_sem, Nat.reduceBEq, Nat.reduceAdd, Nat.reduceMul, Nat.reduceSub, Nat.reduceEqDiff, Nat.reduceLeDiff, Nat.reduceLT, Int.reduceEq, Int.reduceAdd, Int.reduceSub, Int.reduceMul, Int.reduceNeg, Int.reduceLT, Int.reduceLE, Int.reduceToNat, Int.reduceBEq, Int.reduceNe, reduceCtorEq, e, hq, c1, k0, g1, g2]; done) | omega | (simp only [go_sem, Nat.reduceBEq, Nat.reduceAdd, Nat.reduceMul, Nat.reduceSub, Nat.reduceEqDiff, Nat.reduceLeDiff, Nat.reduceLT, Int.reduceEq, Int.reduceAdd, Int.reduceSub, Int.reduceMul, Int.reduceNeg, Int.reduceLT, Int.reduceLE, Int.reduceToNat, Int.reduceBEq, Int.reduceNe, reduceCtorEq, e, hq, c1, k0, g1, g2]; omega)) only [go_sem, Nat.reduceBEq, Nat.reduceAdd, Nat.reduceMul, Nat.reduceSub, Nat.reduceEqDiff, Nat.reduceLeDiff, Nat.reduceLT, Int.reduceEq, Int.reduceAdd, Int.reduceSub, Int.reduceMul, Int.reduceNeg, Int.reduceLT, Int.reduceLE, Int.reduceToNat, Int.reduceBEq, Int.reduceNe, reduceCtorEq, w64_id, w8_id, w16_id, w32_id, tmod_pos, tdiv_pos, Bool.or_true, Bool.true_or, Bool.or_false, Bool.false_or, Bool.and_false, Bool.false_and, condK_decide, e, hq, c1, k0, g1, g2]
        refine hR _ _ ⟨?_, x1⟩
        simp only
        rw [if_pos (by omega), List.getElem?_eq_none (by omega)]; rfl
      · obtain ⟨i, rfl⟩ := Int.eq_ofNat_of_zero_le (show 0 ≤ index by omega)
        have hlt : i < z.1.S.length := by omega
        have cc := caps_cut (List.getElem?_eq_getElem hlt)
        simp (maxSteps := 2000000) (disch := first | (simp only [go_sem, Nat.reduceBEq, Nat.reduceAdd, Nat.reduceMul, Nat.reduceSub, Nat.reduceEqDiff, Nat.reduceLeDiff, Nat.reduceLT, Int.reduceEq, Int.reduceAdd, Int.reduceSub, Int.reduceMul, Int.reduceNeg, Int.reduceLT, Int.reduceLE, Int.reduceToNat, Int.reduceBEq, Int.reduceNe, reduceCtorEq, e, hq, c1, k0, g1, g2, c2, cc]; done) | omega | (simp only [go_sem, Nat.reduceBEq, Nat.reduceAdd, Nat.reduceMul, Nat.reduceSub, Nat.reduceEqDiff, Nat.reduceLeDiff, Nat.reduceLT, Int.reduceEq, Int.reduceAdd, Int.reduceSub, Int.reduceMul, Int.reduceNeg, Int.reduceLT, Int.reduceLE, Int.reduceToNat, Int.reduceBEq, Int.reduceNe, reduceCtorEq, e, hq, c1, k0, g1, g2, c2, cc]; omega)) only [go_sem, Nat.reduceBEq, Nat.reduceAdd, Nat.reduceMul, Nat.reduceSub, Nat.reduceEqDiff, Nat.reduceLeDiff, Nat.reduceLT, Int.reduceEq, Int.reduceAdd, Int.reduceSub, Int.reduceMul, Int.reduceNeg, Int.reduceLT, Int.reduceLE, Int.reduceToNat, Int.reduceBEq, Int.reduceNe, reduceCtorEq, w64_id, w8_id, w16_id, w32_id, tmod_pos, tdiv_pos, Bool.or_true, Bool.true_or, Bool.or_false, Bool.false_or, Bool.and_false, Bool.false_and, condK_decide, e, hq, c1, k0, g1, g2, c2, cc]
        refine hR _ _ ⟨?_, (Ext.push _ _).trans (Ext.push _ _)⟩
        simp only [Int.toNat_natCast]
        rw [if_pos (by omega), List.getElem?_eq_getElem hlt]; rfl
theorem bit_law {w a : Nat} (hw : w ≤ 4294967295) (ha : a ≤ 32) : ((BitVec.ofInt 32 ((w : Int).fdiv (2 ^ min (a : Int).toNat 32)) &&& BitVec.ofInt 32 1).toNat : Int) = ((w / 2 ^ a % 2 : Nat) : Int) := by
  simp only [Int.toNat_natCast]
  rw [Nat.min_eq_left ha, Int.fdiv_eq_ediv_of_nonneg _ (Int.pow_nonneg (by decide))]
  have e1 : (w : Int) / 2 ^ a = ((w / 2 ^ a : Nat) : Int) := by simp
  rw [e1, BitVec.ofInt_natCast, show (1 : Int) = ((1 : Nat) : Int) from rfl, BitVec.ofInt_natCast, BitVec.toNat_and, BitVec.toNat_ofNat, BitVec.toNat_ofNat]
  rw [Nat.mod_eq_of_lt (show w / 2 ^ a < 2 ^ 32 from Nat.lt_of_le_of_lt (Nat.div_le_self _ _) (by omega)), Nat.mod_eq_of_lt (show 1 < 2 ^ 32 by decide), Nat.and_one_is_mod]
theorem bits_S (w low n : Int) (hw : 0 ≤ w ∧ w ≤ 4294967295) (hl : 0 ≤ low ∧ low ≤ 16) (hn : 0 ≤ n ∧ n ≤ 16) : HCalls Try.prog 45 #[.int .u32 w, .int .i64 low, .int .i64 n] h fun v h' => v = .int .i64 (takeV w (low + n) n) ∧ h' = h := by
  refine HCalls.via fun R hR => ?_
  refine HCalls.of_dev T45 Try.func45 rfl mixed (by kernel_rfl) ?_; rw [Try.results45]
  simp (maxSteps := 2000000) (disch := first | (simp only [go_sem, Nat.reduceBEq, Nat.reduceAdd, Nat.reduceMul, Nat.reduceSub, Nat.reduceEqDiff, Nat.reduceLeDiff, Nat.reduceLT, Int.reduceEq, Int.reduceAdd, Int.reduceSub, Int.reduceMul, Int.reduceNeg, Int.reduceLT, Int.reduceLE, Int.reduceToNat, Int.reduceBEq, Int.reduceNe, reduceCtorEq]; done) | omega | (simp only [go_sem, Nat.reduceBEq, Nat.reduceAdd, Nat.reduceMul, Nat.reduceSub, Nat.reduceEqDiff, Nat.reduceLeDiff, Nat.reduceLT, Int.reduceEq, Int.reduceAdd, Int.reduceSub, Int.reduceMul, Int.reduceNeg, Int.reduceLT, Int.reduceLE, Int.reduceToNat, Int.reduceBEq, Int.reduceNe, reduceCtorEq]; omega)) only [go_sem, Nat.reduceBEq, Nat.reduceAdd, Nat.reduceMul, Nat.reduceSub, Nat.reduceEqDiff, Nat.reduceLeDiff, Nat.reduceLT, Int.reduceEq, Int.reduceAdd, Int.reduceSub, Int.reduceMul, Int.reduceNeg, Int.reduceLT, Int.reduceLE, Int.reduceToNat, Int.reduceBEq, Int.reduceNe, reduceCtorEq, w64_id, w8_id, w16_id, w32_id, tmod_pos, tdiv_pos, Bool.or_true, Bool.true_or, Bool.or_false, Bool.false_or, Bool.and_false, Bool.false_and, condK_decide]
  obtain ⟨w, rfl⟩ := Int.eq_ofNat_of_zero_le hw.1
  obtain ⟨low, rfl⟩ := Int.eq_ofNat_of_zero_le hl.1
  obtain ⟨n, rfl⟩ := Int.eq_ofNat_of_zero_le hn.1
  refine loopH.intro (fun j : Nat => (.cons 0 (.int .u32 w) true (.cons 1 (.int .i64 low) true (.cons 7 (.int .i64 ((w / 2 ^ (low + n - j) % 2 ^ j : Nat) : Int)) true (.cons 8 (.int .i64 ((n : Int) - 1 - j)) true .nil))))) (fun j h' => h' = h ∧ j ≤ n) (fun j _ => n + 1 - j) 0 ?_ ⟨rfl, by omega⟩ ?_
  · simp (maxSteps := 2000000) (disch := first | (simp only [go_sem, Nat.reduceBEq, Nat.reduceAdd, Nat.reduceMul, Nat.reduceSub, Nat.reduceEqDiff, Nat.reduceLeDiff, Nat.reduceLT, Int.reduceEq, Int.reduceAdd, Int.reduceSub, Int.reduceMul, Int.reduceNeg, Int.reduceLT, Int.reduceLE, Int.reduceToNat, Int.reduceBEq, Int.reduceNe, reduceCtorEq]; done) | omega | (simp only [go_sem, Nat.reduceBEq, Nat.reduceAdd, Nat.reduceMul, Nat.reduceSub, Nat.reduceEqDiff, Nat.reduceLeDiff, Nat.reduceLT, Int.reduceEq, Int.reduceAdd, Int.reduceSub, Int.reduceMul, Int.reduceNeg, Int.reduceLT, Int.reduceLE, Int.reduceToNat, Int.reduceBEq, Int.reduceNe, reduceCtorEq]; omega)) only [go_sem, Nat.reduceBEq, Nat.reduceAdd, Nat.reduceMul, Nat.reduceSub, Nat.reduceEqDiff, Nat.reduceLeDiff, Nat.reduceLT, Int.reduceEq, Int.reduceAdd, Int.reduceSub, Int.reduceMul, Int.reduceNeg, Int.reduceLT, Int.reduceLE, Int.reduceToNat, Int.reduceBEq, Int.reduceNe, reduceCtorEq, w64_id, w8_id, w16_id, w32_id, tmod_pos, tdiv_pos, Bool.or_true, Bool.true_or, Bool.or_false, Bool.false_or, Bool.and_false, Bool.false_and, condK_decide]
    simp [Nat.mod_one]
  rintro j h' ⟨rfl, hj⟩
  by_cases q : j < n
  · have q2 : ¬ (n : Int) - 1 - j < 0 := by omega
    have q3 : 0 ≤ (n : Int) - 1 - j := by omega
    simp (maxSteps := 2000000) (disch := first | (simp only [go_sem, Nat.reduceBEq, Nat.reduceAdd, Nat.reduceMul, Nat.reduceSub, Nat.reduceEqDiff, Nat.reduceLeDiff, Nat.reduceLT, Int.reduceEq, Int.reduceAdd, Int.reduceSub, Int.reduceMul, Int.reduceNeg, Int.reduceLT, Int.reduceLE, Int.reduceToNat, Int.reduceBEq, Int.reduceNe, reduceCtorEq, q2, q3]; done) | omega | (simp only [go_sem, Nat.reduceBEq, Nat.reduceAdd, Nat.reduceMul, Nat.reduceSub, Nat.reduceEqDiff, Nat.reduceLeDiff, Nat.reduceLT, Int.reduceEq, Int.reduceAdd, Int.reduceSub, Int.reduceMul, Int.reduceNeg, Int.reduceLT, Int.reduceLE, Int.reduceToNat, Int.reduceBEq, Int.reduceNe, reduceCtorEq, q2, q3]; omega)) only [go_sem, Nat.reduceBEq, Nat.reduceAdd, Nat.reduceMul, Nat.reduceSub, Nat.reduceEqDiff, Nat.reduceLeDiff, Nat.reduceLT, Int.reduceEq, Int.reduceAdd, Int.reduceSub, Int.reduceMul, Int.reduceNeg, Int.reduceLT, Int.reduceLE, Int.reduceToNat, Int.reduceBEq, Int.reduceNe, reduceCtorEq, w64_id, w8_id, w16_id, w32_id, tmod_pos, tdiv_pos, Bool.or_true, Bool.true_or, Bool.or_false, Bool.false_or, Bool.and_false, Bool.false_and, condK_decide, q2, q3]
    have e1 : (low : Int) + (n - 1 - j) = ((low + n - 1 - j : Nat) : Int) := by omega
    have hbit := bit_law (w := w) (a := low + n - 1 - j) (by omega) (by omega)
    have e2 : w / 2 ^ (low + n - j) = w / 2 ^ (low + n - 1 - j) / 2 := by
      rw [Nat.div_div_eq_div_mul, ← Nat.pow_succ]
      congr 2
      omega
    have h16 : 2 ^ j ≤ 2 ^ 16 := Nat.pow_le_pow_right (by decide) (by omega)
    have hlt : w / 2 ^ (low + n - j) % 2 ^ j < 2 ^ j := Nat.mod_lt _ (Nat.pow_pos (by decide))
    have e3 : w / 2 ^ (low + n - (j + 1)) % 2 ^ (j + 1) = 2 * (w / 2 ^ (low + n - j) % 2 ^ j) + w / 2 ^ (low + n - 1 - j) % 2 := by
      rw [show low + n - (j + 1) = low + n - 1 - j by omega, Nat.pow_succ, Nat.mul_comm (2 ^ j) 2, Nat.mod_mul, e2]
      omega
    refine ⟨j + 1, ?_, ⟨rfl, by omega⟩, by simp only; omega⟩
    rw [e1]
    erw [hbit]
    have h65 : (2 : Nat) ^ 16 = 65536 := by decide
    rw [w64_id (a := 2 * ((w / 2 ^ (low + n - j) % 2 ^ j : Nat) : Int)) (by omega) (by omega), w64_id (by omega) (by omega)]
    simp only [e3]
    have e4 : (n : Int) - 1 - j - 1 = n - 1 - ((j + 1 : Nat) : Int) := by omega
    rw [e4]
    rfl
  · have q2 : (n : Int) - 1 - j < 0 := by omega
    have q3 : ¬ 0 ≤ (n : Int) - 1 - j := by omega
    simp (maxSteps := 2000000) (disch := first | (simp only [go_sem, Nat.reduceBEq, Nat.reduceAdd, Nat.reduceMul, Nat.reduceSub, Nat.reduceEqDiff, Nat.reduceLeDiff, Nat.reduceLT, Int.reduceEq, Int.reduceAdd, Int.reduceSub, Int.reduceMul, Int.reduceNeg, Int.reduceLT, Int.reduceLE, Int.reduceToNat, Int.reduceBEq, Int.reduceNe, reduceCtorEq, q2, q3]; done) | omega | (simp only [go_sem, Nat.reduceBEq, Nat.reduceAdd, Nat.reduceMul, Nat.reduceSub, Nat.reduceEqDiff, Nat.reduceLeDiff, Nat.reduceLT, Int.reduceEq, Int.reduceAdd, Int.reduceSub, Int.reduceMul, Int.reduceNeg, Int.reduceLT, Int.reduceLE, Int.reduceToNat, Int.reduceBEq, Int.reduceNe, reduceCtorEq, q2, q3]; omega)) only [go_sem, Nat.reduceBEq, Nat.reduceAdd, Nat.reduceMul, Nat.reduceSub, Nat.reduceEqDiff, Nat.reduceLeDiff, Nat.reduceLT, Int.reduceEq, Int.reduceAdd, Int.reduceSub, Int.reduceMul, Int.reduceNeg, Int.reduceLT, Int.reduceLE, Int.reduceToNat, Int.reduceBEq, Int.reduceNe, reduceCtorEq, w64_id, w8_id, w16_id, w32_id, tmod_pos, tdiv_pos, Bool.or_true, Bool.true_or, Bool.or_false, Bool.false_or, Bool.and_false, Bool.false_and, condK_decide, q2, q3]
    obtain rfl : j = n := by omega
    refine hR _ _ ⟨?_, rfl⟩
    unfold takeV
    simp
end
end Go.Eng
